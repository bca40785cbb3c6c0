/- Walk of the law FlashTorn. -/
import Derived.Test.YtfabbafmbifkiaaK08
namespace Go.Proofs.Ytfabbafmbifkiaa
open Go.RowKit

set_option maxRecDepth 100000 in
theorem to0 (W : World) (p s : ByteArray) (at_ tear : Int) (_hp : p.size ≤ 9223372036854775807) (_hs : s.size ≤ 9223372036854775807) (h : p.size = 0) :
    Calls Try.prog 3 #[.string p, .string s, .int .i64 at_, .int .i64 tear] W fun e w' => e = .returned (.bool true) ∧ Below W.heap.size W w' := by
  go_enter Try.func3, Try.ntmps3
  go_wp2_with fail
  refine (awake08 _).mono ?_; rintro e w1 ⟨rfl, hX⟩
  go_wp2_with fail
  refine (awake08 _).mono ?_; rintro e w2 ⟨rfl, hX2⟩
  go_wp2
  go_returns
  exact ⟨rfl, Chg.to_below (hX.trans hX2)⟩
set_option maxRecDepth 100000 in
theorem to1 (W : World) (p s : ByteArray) (at_ tear : Int) (_hp : p.size ≤ 9223372036854775807) (_hs : s.size ≤ 9223372036854775807) (h : 200 < p.size) :
    Calls Try.prog 3 #[.string p, .string s, .int .i64 at_, .int .i64 tear] W fun e w' => e = .returned (.bool true) ∧ Below W.heap.size W w' := by
  go_enter Try.func3, Try.ntmps3
  go_wp2_with fail
  refine (awake08 _).mono ?_; rintro e w1 ⟨rfl, hX⟩
  go_wp2_with fail
  refine (awake08 _).mono ?_; rintro e w2 ⟨rfl, hX2⟩
  go_wp2
  go_returns
  exact ⟨rfl, Chg.to_below (hX.trans hX2)⟩
set_option maxRecDepth 100000 in
theorem to2 (W : World) (p s : ByteArray) (at_ tear : Int) (_hp : p.size ≤ 9223372036854775807) (_hs : s.size ≤ 9223372036854775807) (h0 : 1 ≤ p.size) (h1 : p.size ≤ 200) (h : p.size < s.size) :
    Calls Try.prog 3 #[.string p, .string s, .int .i64 at_, .int .i64 tear] W fun e w' => e = .returned (.bool true) ∧ Below W.heap.size W w' := by
  go_enter Try.func3, Try.ntmps3
  go_wp2_with fail
  refine (awake08 _).mono ?_; rintro e w1 ⟨rfl, hX⟩
  go_wp2_with fail
  refine (awake08 _).mono ?_; rintro e w2 ⟨rfl, hX2⟩
  go_wp2
  go_returns
  exact ⟨rfl, Chg.to_below (hX.trans hX2)⟩
set_option maxRecDepth 100000 in
set_option maxHeartbeats 400000 in
theorem to_core (W : World) (p s : ByteArray) (at_ tear : Int) (A m : Nat) (B0 B2 : ByteArray) (h0 : 1 ≤ p.size) (h1 : p.size ≤ 200) (h2 : s.size ≤ p.size) (hA1 : A + s.size ≤ p.size)
    (hA : wrap64 ((IntKind.u64.wrap at_).tmod ((p.size : Int) - s.size + 1)) = (A : Int))
    (HN : ∀ w, Calls Try.prog 8 #[.int .i64 p.size] w fun e w' => ∃ f r c, e = .returned (.tuple #[.pointer (some ⟨f, 0, none⟩), .int .i64 0]) ∧ w.heap.size ≤ f ∧ w.heap.size ≤ r ∧ w.heap.size ≤ c ∧ FlA w' f r c ⟨B0, false, 0, false, 0⟩ ∧ Chg [] w w')
    (hz0 : B0.size = p.size) (hB1 : over B0 0 p = p) (hm1 : min (max tear 0) (s.size : Int) = m) (hm2 : m ≤ s.size) (hB2 : over p A (s.extract 0 m) = B2) (hz2 : B2.size = p.size) (hB3 : p.extract 0 A ++ s.extract 0 m ++ p.extract (A + m) p.size = B2) (hBx : B2.extract 0 (0 + p.size) = B2) (hc : tear < 0 ∧ m = 0 ∨ 0 ≤ tear ∧ tear = m ∨ 0 ≤ tear ∧ (s.size : Int) < tear ∧ m = s.size) :
    Calls Try.prog 3 #[.string p, .string s, .int .i64 at_, .int .i64 tear] W fun e w' => e = .returned (.bool true) ∧ Below W.heap.size W w' := by
  go_enter Try.func3, Try.ntmps3
  go_wp2_with fail
  refine (awake08 _).mono ?_; rintro e w1 ⟨rfl, hX⟩
  go_wp2_with fail
  refine (HN _).mono ?_; rintro e w2 ⟨f, r, c, rfl, hf, hr, hc, hF, hX2⟩
  have hfW : W.heap.size ≤ f := by have := hX.size; omega
  have hrW : W.heap.size ≤ r := by have := hX.size; omega
  have hcW : W.heap.size ≤ c := by have := hX.size; omega
  have hXa := hX.trans hX2
  clear hX hX2 hf hr hc
  clear HN
  have HW := fl_write w2 f r c ⟨B0, false, 0, false, 0⟩ hF rfl rfl 0 p (by show B0.size ≤ 4096; omega) (by show 0 + p.size ≤ B0.size; omega) (by show (0 : Int) ≤ 0; decide) (by show (0 : Int) ≤ 1000; decide)
  simp only [hB1] at HW
  rw [show ((0 : Nat) : Int) = 0 from rfl, show (0 : Int) + 1 = 1 from rfl] at HW
  go_wp2_with fail
  refine HW.mono ?_; clear HW hF hB1 hz0; rintro e w4 ⟨rfl, hF, hX1⟩
  have hXc : Chg [] W w4 := hXa.then hX1 (by simp; omega)
  clear hX1 hXa
  have HW := fl_tear w4 f r c ⟨p, false, 0, false, 1⟩ hF tear
  go_wp2_with fail
  refine HW.mono ?_; clear HW hF; rintro e w6 ⟨rfl, hF, hX1⟩
  have hXe : Chg [] W w6 := hXc.then hX1 (by simp; omega)
  clear hX1 hXc
  have HW := fl_write_torn w6 f r c ⟨p, true, max tear 0, false, 1⟩ hF rfl rfl A s (by show p.size ≤ 4096; omega) (by show A + s.size ≤ p.size; omega) (by show (0 : Int) ≤ 1; decide) (by show (1 : Int) ≤ 1000; decide) m hm1 hm2
  simp only [hB2] at HW
  rw [show (1 : Int) + 1 = 2 from rfl] at HW
  go_wp2_with fail
  refine HW.mono ?_; clear HW hF hB2 hm1; rintro e w7 ⟨rfl, hF, hX1⟩
  have hXf : Chg [] W w7 := hXe.then hX1 (by simp; omega)
  clear hX1 hXe
  have HD := fl_down w7 f r c ⟨B2, false, max tear 0, true, 2⟩ hF
  have HO := fl_write_off w7 f r c ⟨B2, false, max tear 0, true, 2⟩ hF rfl 0 ⟨#[120]⟩
  have HU := fl_up w7 f r c ⟨B2, false, max tear 0, true, 2⟩ hF
  simp only at HD
  go_wp2_with fail
  refine HD.mono ?_; rintro e w' ⟨rfl, rfl⟩
  go_wp2_with fail
  refine HO.mono ?_; rintro e w' ⟨rfl, rfl⟩
  go_wp2_with fail
  refine HU.mono ?_; clear HU HD HO hF; rintro e w8 ⟨rfl, hF, hX1⟩
  have hXg : Chg [] W w8 := hXf.then hX1 (by simp; omega)
  clear hX1 hXf
  have HR1 := fl_read w8 f r c ⟨B2, false, max tear 0, false, 2⟩ hF rfl 0 p.size (by show B2.size ≤ 4096; omega) (by show 0 + p.size ≤ B2.size; omega)
  simp only [hBx] at HR1
  rw [show ((0 : Nat) : Int) = 0 from rfl] at HR1
  clear hF hBx
  go_wp2_with fail
  refine HR1.mono ?_; clear HR1; rintro e w' ⟨rfl, rfl⟩
  have z1 : (p.extract 0 A).size = A := by simp; omega
  have z2 : (s.extract 0 m).size = m := by simp; omega
  have z3 : (p.extract 0 A ++ s.extract 0 m).size = A + m := by rw [ByteArray.size_append, z1, z2]
  have z4 : (p.extract (A + m) p.size).size = p.size - (A + m) := by simp
  have S1 := fun w => slice_to w p (j := (A : Int)) (b := A) rfl (by omega)
  have S2 := fun w => slice_to w s (j := (m : Int)) (b := m) rfl (by omega)
  have S3 := fun w => slice_from w p (i := (A : Int) + m) (a := A + m) (by omega) (by omega)
  have w1' : IntKind.i64.wrap ((A : Int) + m) = (A : Int) + m := i64_in _ (by omega) (by omega)
  rcases hc with ⟨hc, rfl⟩ | ⟨hc, rfl⟩ | ⟨hc, hc2, rfl⟩
  · have hBp : B2 = p := by have h := hB3; simp at h; exact h.symm
    go_wp2_with fail
    go_quiet (fail)
    go_wp2
    go_returns
    exact ⟨rfl, (Chg.to_below hXg).drewN _⟩
  · go_wp2_with fail
    go_quiet (fail)
    go_wp2
    go_returns
    exact ⟨rfl, (Chg.to_below hXg).drewN _⟩
  · have hBp : B2 = p.extract 0 A ++ s ++ p.extract (A + s.size) p.size := by have h := hB3; rw [ext_all] at h; exact h.symm
    go_wp2_with fail
    go_quiet (fail)
    go_wp2
    go_returns
    exact ⟨rfl, (Chg.to_below hXg).drewN _⟩

theorem FlashTorn_walk (W : World) (p : ByteArray) (hp : p.size ≤ maxLen) (s : ByteArray) (hs : s.size ≤ maxLen) (at_ : Int) (_wa : (Lit.int .i64 at_).wf = true) (tear : Int) (wt : (Lit.int .i64 tear).wf = true) :
    Calls Try.prog 3 #[.string p, .string s, .int .i64 at_, .int .i64 tear] W fun e w' => e = .returned (.bool true) ∧ Below W.heap.size W w' := by
  have ht := bounds_i64 wt
  unfold maxLen at hp hs
  by_cases h0 : p.size = 0
  · exact to0 W p s at_ tear (by omega) (by omega) h0
  by_cases h1 : 200 < p.size
  · exact to1 W p s at_ tear (by omega) (by omega) h1
  by_cases h2 : p.size < s.size
  · exact to2 W p s at_ tear (by omega) (by omega) (by omega) (by omega) h2
  have hm := umod_bd at_ ((p.size : Int) - s.size + 1) (by omega) (by omega)
  obtain ⟨A, hA, hA1⟩ : ∃ A : Nat, wrap64 ((IntKind.u64.wrap at_).tmod ((p.size : Int) - s.size + 1)) = (A : Int) ∧ A + s.size ≤ p.size := ⟨(wrap64 ((IntKind.u64.wrap at_).tmod ((p.size : Int) - s.size + 1))).toNat, by omega, by omega⟩
  have hz0 := rep_size p.size
  have hB1 := over_all (rep p.size) p hz0.symm
  have HN : ∀ w, Calls Try.prog 8 #[.int .i64 p.size] w fun e w' => ∃ f r c, e = .returned (.tuple #[.pointer (some ⟨f, 0, none⟩), .int .i64 0]) ∧ w.heap.size ≤ f ∧ w.heap.size ≤ r ∧ w.heap.size ≤ c ∧ FlA w' f r c ⟨rep p.size, false, 0, false, 0⟩ ∧ Chg [] w w' := fun w => fl_new w p.size (by omega) (by omega)
  obtain ⟨m, hm1, hm2⟩ : ∃ m : Nat, min (max tear 0) (s.size : Int) = m ∧ m ≤ s.size := ⟨(min (max tear 0) (s.size : Int)).toNat, by omega, by omega⟩
  have hsm : (s.extract 0 m).size = m := by simp; omega
  have hz2 := over_size p A (s.extract 0 m) (by omega)
  have hx : (over p A (s.extract 0 m)).extract 0 (0 + p.size) = over p A (s.extract 0 m) := by
    have := ext_all (over p A (s.extract 0 m))
    rw [hz2] at this
    rw [Nat.zero_add]
    exact this
  have hB3 : p.extract 0 A ++ s.extract 0 m ++ p.extract (A + m) p.size = over p A (s.extract 0 m) := by unfold over; rw [hsm]
  exact to_core W p s at_ tear A m (rep p.size) _ (by omega) (by omega) (by omega) hA1 hA HN hz0 hB1 hm1 hm2 rfl hz2 hB3 hx (by omega)
end Go.Proofs.Ytfabbafmbifkiaa
