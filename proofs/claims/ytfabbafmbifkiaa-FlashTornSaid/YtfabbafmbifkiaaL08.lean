/- Package apogeelaw08: 'awake', 'few'; the walk of FlashNil. -/
import Derived.Test.YtfabbafmbifkiaaFlw
import Derived.Test.YtfabbafmbifkiaaSh
namespace Go.Proofs.Ytfabbafmbifkiaa
open Go.RowKit

theorem ext_all (s : ByteArray) : s.extract 0 s.size = s := by
  refine by_ext (by simp) fun i hi => ?_
  simp at hi
  rw [by_extract s 0 s.size i (by omega) (Nat.le_refl _), Nat.zero_add]
theorem over_all (B t : ByteArray) (h : t.size = B.size) : over B 0 t = t := by
  have hz := over_size B 0 t (by omega)
  refine by_ext (by omega) fun i hi => ?_
  rw [over_by B 0 t (by omega) i (by omega), if_neg (by omega), if_pos (by omega), Nat.sub_zero]
theorem over_read (B : ByteArray) (off : Nat) (t : ByteArray) (h : off + t.size ≤ B.size) : (over B off t).extract off (off + t.size) = t := by
  have hz := over_size B off t h
  have hx : ((over B off t).extract off (off + t.size)).size = t.size := by simp; omega
  refine by_ext hx fun i hi => ?_
  rw [hx] at hi
  rw [by_extract _ _ _ _ (by omega) (by omega), over_by B off t h _ (by omega), if_neg (by omega), if_pos (by omega), Nat.add_sub_cancel_left]
theorem over_other (B : ByteArray) (off : Nat) (t : ByteArray) (h : off + t.size ≤ B.size) (x l : Nat) (hx : x + l ≤ off) : (over B off t).extract x (x + l) = B.extract x (x + l) := by
  have hz := over_size B off t h
  have h1 : ((over B off t).extract x (x + l)).size = l := by simp; omega
  have h2 : (B.extract x (x + l)).size = l := by simp; omega
  refine by_ext (h1.trans h2.symm) fun i hi => ?_
  rw [h1] at hi
  rw [by_extract _ _ _ _ (by omega) (by omega), by_extract _ _ _ _ (by omega) (by omega), over_by B off t h _ (by omega), if_pos (by omega)]
theorem over_twice (B : ByteArray) (off : Nat) (t u : ByteArray) (h : off + t.size ≤ B.size) (hu : u.size ≤ t.size) : over (over B off u) off t = over B off t := by
  have hz := over_size B off t h
  have hzu := over_size B off u (by omega)
  have hz2 := over_size (over B off u) off t (by omega)
  refine by_ext (by omega) fun i hi => ?_
  rw [over_by (over B off u) off t (by omega) i (by omega), over_by B off t h i (by omega)]
  split
  · rename_i h1
    rw [over_by B off u (by omega) i (by omega), if_pos h1]
  · rename_i h1
    split
    · rfl
    · rename_i h2
      rw [over_by B off u (by omega) i (by omega), if_neg h1, if_neg (by omega)]

def B8 : ByteArray := over (rep 8) 2 ((ByteArray.mk #[97, 98, 99]).extract 0 1)
theorem B8_read : B8.extract 1 (1 + 4) = ⟨#[255, 97, 255, 255]⟩ := by kernel_rfl
theorem B8_size : B8.size = 8 := by kernel_rfl

set_option maxRecDepth 100000 in
set_option maxHeartbeats 1000000 in
theorem awake08 (W : World) : Calls Try.prog 7 #[] W fun e w' => e = .returned (.bool true) ∧ Chg [] W w' := by
  go_enter Try.func7, Try.ntmps7
  go_wp2_with fail
  have HN := fl_new W 8 (by omega) (by omega)
  rw [show ((8 : Nat) : Int) = 8 from rfl] at HN
  refine HN.mono ?_; clear HN; rintro e w1 ⟨f, r, c, rfl, hf, hr, hc, hF, hX⟩
  go_wp2_with fail
  refine (fl_new_bad _ 0 (by omega)).mono ?_; rintro e w' ⟨rfl, rfl⟩
  go_wp2_with fail
  refine (fl_tear _ f r c _ hF 1).mono ?_; rintro e w2 ⟨rfl, hF2, hX2⟩
  rw [show max (1 : Int) 0 = 1 from rfl] at hF2
  have hXa : Chg [] W w2 := hX.then hX2 (by simp; omega)
  clear hX2 hX hF
  have HW := fl_write_torn w2 f r c _ hF2 rfl rfl 2 ⟨#[97, 98, 99]⟩ (by show (rep 8).size ≤ 4096; rw [rep_size]; omega) (by show 2 + 3 ≤ (rep 8).size; rw [rep_size]; omega) (by decide) (by decide) 1 rfl (by decide)
  rw [show ((2 : Nat) : Int) = 2 from rfl] at HW
  go_wp2_with fail
  refine HW.mono ?_; clear HW; rintro e w3 ⟨rfl, hF3, hX3⟩
  have hXb : Chg [] W w3 := hXa.then hX3 (by simp; omega)
  clear hX3 hXa hF2
  go_wp2_with fail
  refine (fl_read_off _ f r c _ hF3 rfl 0 1).mono ?_; rintro e w' ⟨rfl, rfl⟩
  go_wp2_with fail
  refine (fl_down _ f r c _ hF3).mono ?_; rintro e w' ⟨rfl, rfl⟩
  go_wp2_with fail
  refine (fl_up _ f r c _ hF3).mono ?_; rintro e w4 ⟨rfl, hF4, hX4⟩
  have hXc : Chg [] W w4 := hXb.then hX4 (by simp; omega)
  clear hX4 hXb hF3
  have hB : (FL.mk (over (rep 8) 2 ((ByteArray.mk #[97, 98, 99]).extract 0 1)) false 1 false (0 + 1)).B = B8 := rfl
  have hF5 : FlA w4 f r c ⟨B8, false, 1, false, 1⟩ := hF4
  clear hF4 hB
  have h8 := B8_size
  have HR := fl_read w4 f r c _ hF5 rfl 1 4 (by show B8.size ≤ 4096; omega) (by show 1 + 4 ≤ B8.size; omega)
  rw [show (FL.mk B8 false 1 false 1).B = B8 from rfl, B8_read, show ((1 : Nat) : Int) = 1 from rfl, show ((4 : Nat) : Int) = 4 from rfl] at HR
  go_wp2_with fail
  refine HR.mono ?_; clear HR; rintro e w' ⟨rfl, rfl⟩
  have HB := fl_write_bad w4 f r c _ hF5 rfl 6 ⟨#[97, 98, 99]⟩ (by show B8.size ≤ 4096; omega) (by show 6 ≤ B8.size; omega) (by show B8.size < 6 + 3; omega) (by decide)
  rw [show ((6 : Nat) : Int) = 6 from rfl] at HB
  go_wp2_with fail
  refine HB.mono ?_; clear HB; rintro e w' ⟨rfl, rfl⟩
  have HS := fl_size w4 f r c _ hF5
  rw [show (FL.mk B8 false 1 false 1).B = B8 from rfl, h8] at HS
  have HV := fl_writes w4 f r c _ hF5
  rw [show (FL.mk B8 false 1 false 1).wr = 1 from rfl] at HV
  go_wp2_with (first
    | (go_at_call 14; (with_reducible refine HS.mono ?_); rintro e w' ⟨rfl, rfl⟩)
    | (go_at_call 15; (with_reducible refine HV.mono ?_); rintro e w' ⟨rfl, rfl⟩))
  go_returns
  exact ⟨rfl, hXc⟩

theorem few_one (w : World) (g : Nat) (k a n : Int) (s : ByteArray) (hs : s.size ≤ 9223372036854775807) (hA : At w g #[.int .i64 k, .int .i64 a, .int .i64 n, .string s]) : Calls Try.prog 16 #[.slice (some ⟨g, 0, none⟩) 1 1] w fun e w' => e = .returned (.bool (decide (s.size ≤ 200))) ∧ Chg [] w w' := by
  have c0 := hA.cell 0
  have c1 := hA.cell 1
  have c2 := hA.cell 2
  have c3 := hA.cell 3
  have hB := At.new w #[.int .i64 k, .int .i64 a, .int .i64 n, .string s] 36
  have d3 := hB.cell 3
  have hX : Chg [] w (w.alloc (.cells #[.int .i64 k, .int .i64 a, .int .i64 n, .string s] 36)) := (Chg.refl _ _).alloc _
  go_enter Try.func16, Try.ntmps16
  go_wp2_with fail
  refine wp_loop_rounds 2 ?_
  rw [rounds_succ]
  by_cases h2 : s.size ≤ 200
  · go_wp2_with fail
    rw [rounds_succ]
    go_wp2
    go_returns
    exact ⟨ret_bool (by simpa using h2), hX⟩
  · go_wp2
    go_returns
    exact ⟨ret_bool (by simpa using h2), hX⟩
end Go.Proofs.Ytfabbafmbifkiaa
