/- Package nav: Read. -/
import Derived.Test.YtilgjjkppioblaaNavW
import Derived.RegionTactic
import Derived.BigRegion
namespace Go.Proofs.Ytilgjjkppioblaa
open Go.RowKit

def NV.none : NV := ⟨0, 0, 0, 0, 0, 0, 0, 0⟩
def rd (s : ByteArray) : NV := ⟨by_ s 0 * 256 + by_ s 1, by_ s 2, wd (by_ s 3) (by_ s 4) (by_ s 5) (by_ s 6), wd (by_ s 7) (by_ s 8) (by_ s 9) (by_ s 10), wd (by_ s 11) (by_ s 12) (by_ s 13) (by_ s 14),
  wd (by_ s 15) (by_ s 16) (by_ s 17) (by_ s 18), wd (by_ s 19) (by_ s 20) (by_ s 21) (by_ s 22), wd (by_ s 23) (by_ s 24) (by_ s 25) (by_ s 26)⟩

theorem read_short (w : World) (s : ByteArray) (h : s.size < 27) : Calls Try.prog 9 #[.string s] w fun e w' => e = .returned (.tuple #[.agg NV.none.cells, .int .i64 5]) ∧ Chg [] w w' := by
  go_enter Try.func9, Try.ntmps9
  go_wp2
  exact bodyPost_ret (v := .tuple #[.agg NV.none.cells, .int .i64 5]) (by simp [results, Try.results9, go_sem, NV.none, NV.cells]) rfl ⟨rfl, (Chg.refl _ _).alloc _⟩
theorem read_long (w : World) (s : ByteArray) (h : 27 < s.size) : Calls Try.prog 9 #[.string s] w fun e w' => e = .returned (.tuple #[.agg NV.none.cells, .int .i64 3]) ∧ Chg [] w w' := by
  go_enter Try.func9, Try.ntmps9
  go_wp2
  exact bodyPost_ret (v := .tuple #[.agg NV.none.cells, .int .i64 3]) (by simp [results, Try.results9, go_sem, NV.none, NV.cells]) rfl ⟨rfl, (Chg.refl _ _).alloc _⟩

theorem by_get (s : ByteArray) (k : Nat) (h : k < s.size) : ((s[k]'h).toNat : Int) = by_ s k := by
  have hj2 : k < s.data.toList.length := by simpa using h
  unfold by_
  rw [List.getD_eq_getElem?_getD, List.getElem?_eq_getElem hj2]
  simp
  rfl
theorem or64 (a b : Int) (h0 : 0 ≤ a) (h1 : a ≤ 255) (h3 : 0 ≤ b) (h4 : b ≤ 255) : bits .or .i64 (wrap64 (wrap64 a * 256)) (wrap64 b) = a * 256 + b := by
  obtain ⟨k, rfl⟩ : ∃ k : Nat, a = (k : Int) := ⟨a.toNat, by omega⟩
  obtain ⟨m, rfl⟩ : ∃ m : Nat, b = (m : Int) := ⟨b.toNat, by omega⟩
  have w1 : wrap64 (wrap64 (k : Int) * 256) = ((256 * k : Nat) : Int) := by unfold wrap64; omega
  have w2 : wrap64 (m : Int) = (m : Int) := by unfold wrap64; omega
  rw [w1, w2]
  have hm : m < 2 ^ 8 := by omega
  have e := Nat.two_pow_add_eq_or_of_lt hm k
  have e1 : (BitVec.ofInt 64 ((256 * k : Nat) : Int)).toNat = 256 * k := by
    rw [BitVec.ofInt_natCast, BitVec.toNat_ofNat]; exact Nat.mod_eq_of_lt (by omega)
  have e2 : (BitVec.ofInt 64 (m : Int)).toNat = m := by
    rw [BitVec.ofInt_natCast, BitVec.toNat_ofNat]; exact Nat.mod_eq_of_lt (by omega)
  show IntKind.i64.wrap ((BitVec.ofInt 64 ((256 * k : Nat) : Int) ||| BitVec.ofInt 64 (m : Int)).toNat : Int) = _
  rw [BitVec.toNat_or, e1, e2, show (256 : Nat) = 2 ^ 8 from rfl, ← e]
  simp [IntKind.wrap, IntKind.bits, IntKind.signed]
  omega
theorem by_bd (s : ByteArray) (k : Nat) : 0 ≤ by_ s k ∧ by_ s k ≤ 255 := by
  unfold by_
  have := (s.data.toList.getD k 0).toNat_lt
  omega
theorem by_extract (s : ByteArray) (a b j : Nat) (h : a + j < b) (hb : b ≤ s.size) : by_ (s.extract a b) j = by_ s (a + j) := by
  have hj : j < (s.extract a b).size := by simp; omega
  rw [← by_get _ j hj, ← by_get s (a + j) (by omega), ByteArray.getElem_extract]
theorem word_at (s : ByteArray) (h : s.size = 27) (a : Nat) (ha : a + 4 ≤ 27) (w : World) : Calls Try.prog 23 #[.string (s.extract a 27)] w fun e w' => e = .returned (.int .i64 (wd (by_ s a) (by_ s (a + 1)) (by_ s (a + 2)) (by_ s (a + 3)))) ∧ Chg [] w w' := by
  have e := word_any w (s.extract a 27) (by simp; omega)
  rw [by_extract s a 27 0 (by omega) (by omega), by_extract s a 27 1 (by omega) (by omega), by_extract s a 27 2 (by omega) (by omega), by_extract s a 27 3 (by omega) (by omega)] at e
  exact e

set_option maxHeartbeats 1000000 in
theorem read_any (w : World) (s : ByteArray) (h : s.size = 27) : Calls Try.prog 9 #[.string s] w fun e w' => e = .returned (.tuple #[.agg (rd s).cells, .int .i64 0]) ∧ Chg [] w w' := by
  have r0 := by_bd s 0
  have r1 := by_bd s 1
  have r2 := by_bd s 2
  go_enter Try.func9, Try.ntmps9
  go_wp2_with fail
  have hI := At.new w NV.none.cells 23
  have hX : Chg [] w (w.alloc (.cells NV.none.cells 23)) := (Chg.refl _ _).alloc _
  have c0 := hI.cell 0
  have c1 := hI.cell 1
  have f0 := hI.frozen 0
  have f1 := hI.frozen 1
  simp only [NV.none, NV.cells] at c0 c1 f0 f1
  go_region
  rw [by_get s 0 (by omega), by_get s 1 (by omega), by_get s 2 (by omega), or64 _ _ r0.1 r0.2 r1.1 r1.2, show wrap64 (by_ s 2) = by_ s 2 from IntWalk.wrap64_in _ ⟨by omega, by omega⟩]
  clear c0 c1 f0 f1 hI hX
  have hI := (At.new w #[.int .i64 (by_ s 0 * 256 + by_ s 1), .int .i64 (by_ s 2), .int .i64 0, .int .i64 0, .int .i64 0, .int .i64 0, .int .i64 0, .int .i64 0] 23).drew
  have hX : Chg [] w (w.alloc (.cells #[.int .i64 (by_ s 0 * 256 + by_ s 1), .int .i64 (by_ s 2), .int .i64 0, .int .i64 0, .int .i64 0, .int .i64 0, .int .i64 0, .int .i64 0] 23)).drew := ((Chg.refl _ _).alloc _).drew
  generalize (w.alloc (.cells #[.int .i64 (by_ s 0 * 256 + by_ s 1), .int .i64 (by_ s 2), .int .i64 0, .int .i64 0, .int .i64 0, .int .i64 0, .int .i64 0, .int .i64 0] 23)).drew = w1 at *
  have hzw : w.heap.size ≤ w.heap.size := Nat.le_refl _
  generalize hz : w.heap.size = z at hI hzw ⊢
  go_wp2_with fail
  refine (numbers_any _ _).mono ?_; rintro e w2 ⟨rfl, hX1⟩
  replace hI := hX1.at hI (by simp)
  replace hX := hX.trans hX1
  clear hX1
  have i0 := idx0 z
  have i1 := idx1 z
  have i2 := idx2 z
  have i3 := idx3 z
  have i4 := idx4 z
  have i5 := idx5 z
  go_wp2_with fail
  refine wp_loop_rounds 7 ?_
  rw [rounds_succ]
  go_wp2_with fail
  refine (word_at s h 3 (by omega) _).mono ?_; rintro e wa ⟨rfl, hX1⟩
  replace hI := hX1.at hI (by simp)
  replace hX := hX.trans hX1
  clear hX1
  have cc := hI.cell 2
  have ff := hI.frozen 2
  rw [show (3 : Nat) + 1 = 4 from rfl, show (3 : Nat) + 2 = 5 from rfl, show (3 : Nat) + 3 = 6 from rfl]
  go_wp2_with fail
  clear cc ff
  replace hI := hI.set 2 (.int .i64 (wd (by_ s 3) (by_ s 4) (by_ s 5) (by_ s 6))) rfl
  replace hX := hX.setCell (p := ⟨z, 2, none⟩) (Or.inr (by simp; omega)) (.int .i64 (wd (by_ s 3) (by_ s 4) (by_ s 5) (by_ s 6)))
  generalize wa.setCell ⟨z, 2, none⟩ (.int .i64 (wd (by_ s 3) (by_ s 4) (by_ s 5) (by_ s 6))) = w3 at *
  clear wa
  rw [rounds_succ]
  go_wp2_with fail
  refine (word_at s h 7 (by omega) _).mono ?_; rintro e wa ⟨rfl, hX1⟩
  replace hI := hX1.at hI (by simp)
  replace hX := hX.trans hX1
  clear hX1
  have cc := hI.cell 3
  have ff := hI.frozen 3
  rw [show (7 : Nat) + 1 = 8 from rfl, show (7 : Nat) + 2 = 9 from rfl, show (7 : Nat) + 3 = 10 from rfl]
  go_wp2_with fail
  clear cc ff
  replace hI := hI.set 3 (.int .i64 (wd (by_ s 7) (by_ s 8) (by_ s 9) (by_ s 10))) rfl
  replace hX := hX.setCell (p := ⟨z, 3, none⟩) (Or.inr (by simp; omega)) (.int .i64 (wd (by_ s 7) (by_ s 8) (by_ s 9) (by_ s 10)))
  generalize wa.setCell ⟨z, 3, none⟩ (.int .i64 (wd (by_ s 7) (by_ s 8) (by_ s 9) (by_ s 10))) = w4 at *
  clear wa
  rw [rounds_succ]
  go_wp2_with fail
  refine (word_at s h 11 (by omega) _).mono ?_; rintro e wa ⟨rfl, hX1⟩
  replace hI := hX1.at hI (by simp)
  replace hX := hX.trans hX1
  clear hX1
  have cc := hI.cell 4
  have ff := hI.frozen 4
  rw [show (11 : Nat) + 1 = 12 from rfl, show (11 : Nat) + 2 = 13 from rfl, show (11 : Nat) + 3 = 14 from rfl]
  go_wp2_with fail
  clear cc ff
  replace hI := hI.set 4 (.int .i64 (wd (by_ s 11) (by_ s 12) (by_ s 13) (by_ s 14))) rfl
  replace hX := hX.setCell (p := ⟨z, 4, none⟩) (Or.inr (by simp; omega)) (.int .i64 (wd (by_ s 11) (by_ s 12) (by_ s 13) (by_ s 14)))
  generalize wa.setCell ⟨z, 4, none⟩ (.int .i64 (wd (by_ s 11) (by_ s 12) (by_ s 13) (by_ s 14))) = w5 at *
  clear wa
  rw [rounds_succ]
  go_wp2_with fail
  refine (word_at s h 15 (by omega) _).mono ?_; rintro e wa ⟨rfl, hX1⟩
  replace hI := hX1.at hI (by simp)
  replace hX := hX.trans hX1
  clear hX1
  have cc := hI.cell 5
  have ff := hI.frozen 5
  rw [show (15 : Nat) + 1 = 16 from rfl, show (15 : Nat) + 2 = 17 from rfl, show (15 : Nat) + 3 = 18 from rfl]
  go_wp2_with fail
  clear cc ff
  replace hI := hI.set 5 (.int .i64 (wd (by_ s 15) (by_ s 16) (by_ s 17) (by_ s 18))) rfl
  replace hX := hX.setCell (p := ⟨z, 5, none⟩) (Or.inr (by simp; omega)) (.int .i64 (wd (by_ s 15) (by_ s 16) (by_ s 17) (by_ s 18)))
  generalize wa.setCell ⟨z, 5, none⟩ (.int .i64 (wd (by_ s 15) (by_ s 16) (by_ s 17) (by_ s 18))) = w6 at *
  clear wa
  rw [rounds_succ]
  go_wp2_with fail
  refine (word_at s h 19 (by omega) _).mono ?_; rintro e wa ⟨rfl, hX1⟩
  replace hI := hX1.at hI (by simp)
  replace hX := hX.trans hX1
  clear hX1
  have cc := hI.cell 6
  have ff := hI.frozen 6
  rw [show (19 : Nat) + 1 = 20 from rfl, show (19 : Nat) + 2 = 21 from rfl, show (19 : Nat) + 3 = 22 from rfl]
  go_wp2_with fail
  clear cc ff
  replace hI := hI.set 6 (.int .i64 (wd (by_ s 19) (by_ s 20) (by_ s 21) (by_ s 22))) rfl
  replace hX := hX.setCell (p := ⟨z, 6, none⟩) (Or.inr (by simp; omega)) (.int .i64 (wd (by_ s 19) (by_ s 20) (by_ s 21) (by_ s 22)))
  generalize wa.setCell ⟨z, 6, none⟩ (.int .i64 (wd (by_ s 19) (by_ s 20) (by_ s 21) (by_ s 22))) = w7 at *
  clear wa
  rw [rounds_succ]
  go_wp2_with fail
  refine (word_at s h 23 (by omega) _).mono ?_; rintro e wa ⟨rfl, hX1⟩
  replace hI := hX1.at hI (by simp)
  replace hX := hX.trans hX1
  clear hX1
  have cc := hI.cell 7
  have ff := hI.frozen 7
  rw [show (23 : Nat) + 1 = 24 from rfl, show (23 : Nat) + 2 = 25 from rfl, show (23 : Nat) + 3 = 26 from rfl]
  go_wp2_with fail
  clear cc ff
  replace hI := hI.set 7 (.int .i64 (wd (by_ s 23) (by_ s 24) (by_ s 25) (by_ s 26))) rfl
  replace hX := hX.setCell (p := ⟨z, 7, none⟩) (Or.inr (by simp; omega)) (.int .i64 (wd (by_ s 23) (by_ s 24) (by_ s 25) (by_ s 26)))
  generalize wa.setCell ⟨z, 7, none⟩ (.int .i64 (wd (by_ s 23) (by_ s 24) (by_ s 25) (by_ s 26))) = w8 at *
  clear wa
  rw [rounds_succ]
  have c0 := hI.cell 0
  have f0 := hI.frozen 0
  have c1 := hI.cell 1
  have f1 := hI.frozen 1
  have c2 := hI.cell 2
  have f2 := hI.frozen 2
  have c3 := hI.cell 3
  have f3 := hI.frozen 3
  have c4 := hI.cell 4
  have f4 := hI.frozen 4
  have c5 := hI.cell 5
  have f5 := hI.frozen 5
  have c6 := hI.cell 6
  have f6 := hI.frozen 6
  have c7 := hI.cell 7
  have f7 := hI.frozen 7
  go_wp2
  replace hI := hI.set 0 (.int .i64 (by_ s 0 * 256 + by_ s 1)) rfl
  replace hX := hX.setCell (p := ⟨z, 0, none⟩) (Or.inr (by simp; omega)) (.int .i64 (by_ s 0 * 256 + by_ s 1))
  replace hI := hI.set 1 (.int .i64 (by_ s 2)) rfl
  replace hX := hX.setCell (p := ⟨z, 1, none⟩) (Or.inr (by simp; omega)) (.int .i64 (by_ s 2))
  replace hI := hI.set 2 (.int .i64 (wd (by_ s 3) (by_ s 4) (by_ s 5) (by_ s 6))) rfl
  replace hX := hX.setCell (p := ⟨z, 2, none⟩) (Or.inr (by simp; omega)) (.int .i64 (wd (by_ s 3) (by_ s 4) (by_ s 5) (by_ s 6)))
  replace hI := hI.set 3 (.int .i64 (wd (by_ s 7) (by_ s 8) (by_ s 9) (by_ s 10))) rfl
  replace hX := hX.setCell (p := ⟨z, 3, none⟩) (Or.inr (by simp; omega)) (.int .i64 (wd (by_ s 7) (by_ s 8) (by_ s 9) (by_ s 10)))
  replace hI := hI.set 4 (.int .i64 (wd (by_ s 11) (by_ s 12) (by_ s 13) (by_ s 14))) rfl
  replace hX := hX.setCell (p := ⟨z, 4, none⟩) (Or.inr (by simp; omega)) (.int .i64 (wd (by_ s 11) (by_ s 12) (by_ s 13) (by_ s 14)))
  replace hI := hI.set 5 (.int .i64 (wd (by_ s 15) (by_ s 16) (by_ s 17) (by_ s 18))) rfl
  replace hX := hX.setCell (p := ⟨z, 5, none⟩) (Or.inr (by simp; omega)) (.int .i64 (wd (by_ s 15) (by_ s 16) (by_ s 17) (by_ s 18)))
  replace hI := hI.set 6 (.int .i64 (wd (by_ s 19) (by_ s 20) (by_ s 21) (by_ s 22))) rfl
  replace hX := hX.setCell (p := ⟨z, 6, none⟩) (Or.inr (by simp; omega)) (.int .i64 (wd (by_ s 19) (by_ s 20) (by_ s 21) (by_ s 22)))
  replace hI := hI.set 7 (.int .i64 (wd (by_ s 23) (by_ s 24) (by_ s 25) (by_ s 26))) rfl
  replace hX := hX.setCell (p := ⟨z, 7, none⟩) (Or.inr (by simp; omega)) (.int .i64 (wd (by_ s 23) (by_ s 24) (by_ s 25) (by_ s 26)))
  clear c0 c1 c2 c3 c4 c5 c6 c7 f0 f1 f2 f3 f4 f5 f6 f7
  have d0 := hI.cell 0
  have d1 := hI.cell 1
  have d2 := hI.cell 2
  have d3 := hI.cell 3
  have d4 := hI.cell 4
  have d5 := hI.cell 5
  have d6 := hI.cell 6
  have d7 := hI.cell 7
  exact bodyPost_ret (v := .tuple #[.agg (rd s).cells, .int .i64 0]) (by simp [results, Try.results9, go_sem, rd, NV.cells, d0, d1, d2, d3, d4, d5, d6, d7]) rfl ⟨rfl, hX⟩
end Go.Proofs.Ytilgjjkppioblaa
