/- Walk of the law FlashTwice. -/
import Derived.Test.YtfabbafmbifkiaaK08
namespace Go.Proofs.Ytfabbafmbifkiaa
open Go.RowKit

set_option maxRecDepth 100000 in
theorem tw0 (W : World) (p s : ByteArray) (at_ tear : Int) (_hp : p.size ≤ 9223372036854775807) (_hs : s.size ≤ 9223372036854775807) (h : p.size = 0) :
    Calls Try.prog 6 #[.string p, .string s, .int .i64 at_, .int .i64 tear] W fun e w' => e = .returned (.bool true) ∧ Below W.heap.size W w' := by
  go_enter Try.func6, Try.ntmps6
  go_wp2_with fail
  refine (awake08 _).mono ?_; rintro e w1 ⟨rfl, hX⟩
  go_wp2_with fail
  refine (awake08 _).mono ?_; rintro e w2 ⟨rfl, hX2⟩
  go_wp2
  go_returns
  exact ⟨rfl, Chg.to_below (hX.trans hX2)⟩
set_option maxRecDepth 100000 in
theorem tw1 (W : World) (p s : ByteArray) (at_ tear : Int) (_hp : p.size ≤ 9223372036854775807) (_hs : s.size ≤ 9223372036854775807) (h : 200 < p.size) :
    Calls Try.prog 6 #[.string p, .string s, .int .i64 at_, .int .i64 tear] W fun e w' => e = .returned (.bool true) ∧ Below W.heap.size W w' := by
  go_enter Try.func6, Try.ntmps6
  go_wp2_with fail
  refine (awake08 _).mono ?_; rintro e w1 ⟨rfl, hX⟩
  go_wp2_with fail
  refine (awake08 _).mono ?_; rintro e w2 ⟨rfl, hX2⟩
  go_wp2
  go_returns
  exact ⟨rfl, Chg.to_below (hX.trans hX2)⟩
set_option maxRecDepth 100000 in
theorem tw2 (W : World) (p s : ByteArray) (at_ tear : Int) (_hp : p.size ≤ 9223372036854775807) (_hs : s.size ≤ 9223372036854775807) (h0 : 1 ≤ p.size) (h1 : p.size ≤ 200) (h : p.size < s.size) :
    Calls Try.prog 6 #[.string p, .string s, .int .i64 at_, .int .i64 tear] W fun e w' => e = .returned (.bool true) ∧ Below W.heap.size W w' := by
  go_enter Try.func6, Try.ntmps6
  go_wp2_with fail
  refine (awake08 _).mono ?_; rintro e w1 ⟨rfl, hX⟩
  go_wp2_with fail
  refine (awake08 _).mono ?_; rintro e w2 ⟨rfl, hX2⟩
  go_wp2
  go_returns
  exact ⟨rfl, Chg.to_below (hX.trans hX2)⟩
set_option maxRecDepth 100000 in
set_option maxHeartbeats 400000 in
theorem tw_core (W : World) (p s : ByteArray) (at_ tear : Int) (A m : Nat) (B0 B2 : ByteArray) (h0 : 1 ≤ p.size) (h1 : p.size ≤ 200) (h2 : s.size ≤ p.size) (hA1 : A + s.size ≤ p.size)
    (hA : wrap64 ((IntKind.u64.wrap at_).tmod ((p.size : Int) - s.size + 1)) = (A : Int))
    (HN : ∀ w, Calls Try.prog 8 #[.int .i64 p.size] w fun e w' => ∃ f r c, e = .returned (.tuple #[.pointer (some ⟨f, 0, none⟩), .int .i64 0]) ∧ w.heap.size ≤ f ∧ w.heap.size ≤ r ∧ w.heap.size ≤ c ∧ FlA w' f r c ⟨B0, false, 0, false, 0⟩ ∧ Chg [] w w')
    (hz0 : B0.size = p.size) (hB1 : over B0 0 p = p) (hm1 : min (max tear 0) (s.size : Int) = m) (hm2 : m ≤ s.size) (hB2 : over p A (s.extract 0 m) = B2) (hz2 : B2.size = p.size) (Z : ByteArray) (hZ1 : over B2 A s = Z) (hZ2 : over Z A s = Z) (hZ3 : over p A s = Z) (hzZ : Z.size = p.size) (hZx : Z.extract 0 (0 + p.size) = Z) :
    Calls Try.prog 6 #[.string p, .string s, .int .i64 at_, .int .i64 tear] W fun e w' => e = .returned (.bool true) ∧ Below W.heap.size W w' := by
  go_enter Try.func6, Try.ntmps6
  go_wp2_with fail
  refine (awake08 _).mono ?_; rintro e w1 ⟨rfl, hX⟩
  go_wp2_with fail
  have HN2 := HN
  refine (HN _).mono ?_; rintro e w2 ⟨f, r, c, rfl, hf, hr, hc, hF, hX2⟩
  have hfW : W.heap.size ≤ f := by have := hX.size; omega
  have hrW : W.heap.size ≤ r := by have := hX.size; omega
  have hcW : W.heap.size ≤ c := by have := hX.size; omega
  have hXa := hX.trans hX2
  clear hX hX2 hf hr hc
  go_wp2_with fail
  refine (HN2 _).mono ?_; rintro e w3 ⟨f2, r2, c2, rfl, hf2, hr2, hc2, hG, hX2⟩
  clear HN HN2
  have hfl := hF.at_.lt
  have hrl := hF.row.lt
  have hcl := hF.ctr.lt
  have hF0 := hF.keep hX2 (by simp) (by simp) (by simp)
  have hXb : Chg [] W w3 := hXa.trans hX2
  obtain ⟨K, hK⟩ : ∃ K, w2.heap.size = K := ⟨_, rfl⟩
  rw [hK] at hfl hrl hcl hf2 hr2 hc2
  have hKW : W.heap.size ≤ K := by have := hXa.size; omega
  clear hX2 hXa hF hK
  have HW := fl_write w3 f r c ⟨B0, false, 0, false, 0⟩ hF0 rfl rfl 0 p (by show B0.size ≤ 4096; omega) (by show 0 + p.size ≤ B0.size; omega) (by show (0 : Int) ≤ 0; decide) (by show (0 : Int) ≤ 1000; decide)
  simp only [hB1] at HW
  rw [show ((0 : Nat) : Int) = 0 from rfl, show (0 : Int) + 1 = 1 from rfl] at HW
  go_wp2_with fail
  refine HW.mono ?_; clear HW hF0; rintro e w4 ⟨rfl, hF, hX1⟩
  have hG1 := hG.keep hX1 (by simp; omega) (by simp; omega) (by simp; omega)
  have hXc : Chg [] W w4 := hXb.then hX1 (by simp; omega)
  clear hX1 hXb hG
  have HW := fl_write w4 f2 r2 c2 ⟨B0, false, 0, false, 0⟩ hG1 rfl rfl 0 p (by show B0.size ≤ 4096; omega) (by show 0 + p.size ≤ B0.size; omega) (by show (0 : Int) ≤ 0; decide) (by show (0 : Int) ≤ 1000; decide)
  simp only [hB1] at HW
  rw [show ((0 : Nat) : Int) = 0 from rfl, show (0 : Int) + 1 = 1 from rfl] at HW
  go_wp2_with fail
  refine HW.mono ?_; clear HW hG1 hB1 hz0; rintro e w5 ⟨rfl, hG, hX1⟩
  have hF1 := hF.keep hX1 (by simp; omega) (by simp; omega) (by simp; omega)
  have hXd : Chg [] W w5 := hXc.then hX1 (by simp; omega)
  clear hX1 hXc hF
  have HW := fl_tear w5 f r c ⟨p, false, 0, false, 1⟩ hF1 tear
  go_wp2_with fail
  refine HW.mono ?_; clear HW hF1; rintro e w6 ⟨rfl, hF, hX1⟩
  have hG1 := hG.keep hX1 (by simp; omega) (by simp; omega) (by simp; omega)
  have hXe : Chg [] W w6 := hXd.then hX1 (by simp; omega)
  clear hX1 hXd hG
  have HW := fl_write_torn w6 f r c ⟨p, true, max tear 0, false, 1⟩ hF rfl rfl A s (by show p.size ≤ 4096; omega) (by show A + s.size ≤ p.size; omega) (by show (0 : Int) ≤ 1; decide) (by show (1 : Int) ≤ 1000; decide) m hm1 hm2
  simp only [hB2] at HW
  rw [show (1 : Int) + 1 = 2 from rfl] at HW
  go_wp2_with fail
  refine HW.mono ?_; clear HW hF hB2; rintro e w7 ⟨rfl, hF, hX1⟩
  have hG2 := hG1.keep hX1 (by simp; omega) (by simp; omega) (by simp; omega)
  have hXf : Chg [] W w7 := hXe.then hX1 (by simp; omega)
  clear hX1 hXe hG1
  have HW := fl_up w7 f r c ⟨B2, false, max tear 0, true, 2⟩ hF
  go_wp2_with fail
  refine HW.mono ?_; clear HW hF; rintro e w8 ⟨rfl, hF, hX1⟩
  have hG3 := hG2.keep hX1 (by simp; omega) (by simp; omega) (by simp; omega)
  have hXg : Chg [] W w8 := hXf.then hX1 (by simp; omega)
  clear hX1 hXf hG2
  have HW := fl_write w8 f r c ⟨B2, false, max tear 0, false, 2⟩ hF rfl rfl A s (by show B2.size ≤ 4096; omega) (by show A + s.size ≤ B2.size; omega) (by show (0 : Int) ≤ 2; decide) (by show (2 : Int) ≤ 1000; decide)
  simp only [hZ1] at HW
  rw [show (2 : Int) + 1 = 3 from rfl] at HW
  go_wp2_with fail
  refine HW.mono ?_; clear HW hF hZ1; rintro e w9 ⟨rfl, hF, hX1⟩
  have hG4 := hG3.keep hX1 (by simp; omega) (by simp; omega) (by simp; omega)
  have hXh : Chg [] W w9 := hXg.then hX1 (by simp; omega)
  clear hX1 hXg hG3
  have HW := fl_write w9 f r c ⟨Z, false, max tear 0, false, 3⟩ hF rfl rfl A s (by show Z.size ≤ 4096; omega) (by show A + s.size ≤ Z.size; omega) (by show (0 : Int) ≤ 3; decide) (by show (3 : Int) ≤ 1000; decide)
  simp only [hZ2] at HW
  rw [show (3 : Int) + 1 = 4 from rfl] at HW
  go_wp2_with fail
  refine HW.mono ?_; clear HW hF hZ2; rintro e w10 ⟨rfl, hF, hX1⟩
  have hG5 := hG4.keep hX1 (by simp; omega) (by simp; omega) (by simp; omega)
  have hXi : Chg [] W w10 := hXh.then hX1 (by simp; omega)
  clear hX1 hXh hG4
  have HW := fl_write w10 f2 r2 c2 ⟨p, false, 0, false, 1⟩ hG5 rfl rfl A s (by show p.size ≤ 4096; omega) (by show A + s.size ≤ p.size; omega) (by show (0 : Int) ≤ 1; decide) (by show (1 : Int) ≤ 1000; decide)
  simp only [hZ3] at HW
  rw [show (1 : Int) + 1 = 2 from rfl] at HW
  go_wp2_with fail
  refine HW.mono ?_; clear HW hG5 hZ3; rintro e w11 ⟨rfl, hG, hX1⟩
  have hF1 := hF.keep hX1 (by simp; omega) (by simp; omega) (by simp; omega)
  have hXj : Chg [] W w11 := hXi.then hX1 (by simp; omega)
  clear hX1 hXi hF
  have HR1 := fl_read w11 f r c ⟨Z, false, max tear 0, false, 4⟩ hF1 rfl 0 p.size (by show Z.size ≤ 4096; omega) (by show 0 + p.size ≤ Z.size; omega)
  have HR2 := fl_read w11 f2 r2 c2 ⟨Z, false, 0, false, 2⟩ hG rfl 0 p.size (by show Z.size ≤ 4096; omega) (by show 0 + p.size ≤ Z.size; omega)
  have HV1 := fl_writes w11 f r c ⟨Z, false, max tear 0, false, 4⟩ hF1
  have HV2 := fl_writes w11 f2 r2 c2 ⟨Z, false, 0, false, 2⟩ hG
  simp only [hZx] at HR1 HR2 HV1 HV2
  rw [show ((0 : Nat) : Int) = 0 from rfl] at HR1 HR2
  clear hF1 hG hZx
  go_wp2_with fail
  refine HR1.mono ?_; rintro e w' ⟨rfl, rfl⟩
  go_wp2_with fail
  refine HR2.mono ?_; rintro e w' ⟨rfl, rfl⟩
  go_wp2_with fail
  refine HV1.mono ?_; rintro e w' ⟨rfl, rfl⟩
  go_wp2_with fail
  refine HV2.mono ?_; rintro e w' ⟨rfl, rfl⟩
  go_wp2
  go_returns
  exact ⟨rfl, Chg.to_below hXj⟩

theorem FlashTwice_walk (W : World) (p : ByteArray) (hp : p.size ≤ maxLen) (s : ByteArray) (hs : s.size ≤ maxLen) (at_ : Int) (_wa : (Lit.int .i64 at_).wf = true) (tear : Int) (wt : (Lit.int .i64 tear).wf = true) :
    Calls Try.prog 6 #[.string p, .string s, .int .i64 at_, .int .i64 tear] W fun e w' => e = .returned (.bool true) ∧ Below W.heap.size W w' := by
  have ht := bounds_i64 wt
  unfold maxLen at hp hs
  by_cases h0 : p.size = 0
  · exact tw0 W p s at_ tear (by omega) (by omega) h0
  by_cases h1 : 200 < p.size
  · exact tw1 W p s at_ tear (by omega) (by omega) h1
  by_cases h2 : p.size < s.size
  · exact tw2 W p s at_ tear (by omega) (by omega) (by omega) (by omega) h2
  have hm := umod_bd at_ ((p.size : Int) - s.size + 1) (by omega) (by omega)
  obtain ⟨A, hA, hA1⟩ : ∃ A : Nat, wrap64 ((IntKind.u64.wrap at_).tmod ((p.size : Int) - s.size + 1)) = (A : Int) ∧ A + s.size ≤ p.size := ⟨(wrap64 ((IntKind.u64.wrap at_).tmod ((p.size : Int) - s.size + 1))).toNat, by omega, by omega⟩
  have hz0 := rep_size p.size
  have hB1 := over_all (rep p.size) p hz0.symm
  have HN : ∀ w, Calls Try.prog 8 #[.int .i64 p.size] w fun e w' => ∃ f r c, e = .returned (.tuple #[.pointer (some ⟨f, 0, none⟩), .int .i64 0]) ∧ w.heap.size ≤ f ∧ w.heap.size ≤ r ∧ w.heap.size ≤ c ∧ FlA w' f r c ⟨rep p.size, false, 0, false, 0⟩ ∧ Chg [] w w' := fun w => fl_new w p.size (by omega) (by omega)
  obtain ⟨m, hm1, hm2⟩ : ∃ m : Nat, min (max tear 0) (s.size : Int) = m ∧ m ≤ s.size := ⟨(min (max tear 0) (s.size : Int)).toNat, by omega, by omega⟩
  have hsm : (s.extract 0 m).size = m := by simp; omega
  have hz2 := over_size p A (s.extract 0 m) (by omega)
  have hzZ := over_size p A s hA1
  have hx : (over p A s).extract 0 (0 + p.size) = over p A s := by
    have := ext_all (over p A s)
    rw [hzZ] at this
    rw [Nat.zero_add]
    exact this
  exact tw_core W p s at_ tear A m (rep p.size) _ (by omega) (by omega) (by omega) hA1 hA HN hz0 hB1 hm1 hm2 rfl hz2 _ (over_twice p A s (s.extract 0 m) hA1 (by omega)) (over_twice p A s s hA1 (Nat.le_refl _)) rfl hzZ hx
end Go.Proofs.Ytfabbafmbifkiaa
