/- Package latch: Save. -/
import Derived.Test.YtjneidmkllhbjaaLal
import Derived.StillTailTactics
namespace Go.Proofs.Ytjneidmkllhbjaa
open Go.RowKit

theorem lsave_nil (w : World) (r : RcV) : Calls Try.prog 20 #[.pointer none, .agg r.cells] w fun e w' => e = .returned (.int .i64 9) ∧ Chg [] w w' := by
  unfold RcV.cells
  go_enter Try.func20, Try.ntmps20
  go_wp2
  go_returns
  exact ⟨rfl, (Chg.refl _ _).alloc _⟩
def RcV.next (r : RcV) (l : LtV) : RcV := { r with seq := l.last.seq + 1 }

set_option maxRecDepth 100000 in
set_option maxHeartbeats 2000000 in
theorem lsave_bad (w : World) (b f : Nat) (l : LtV) (r : RcV) (h : At w b (l.cells f)) (hl0 : 0 ≤ l.last.seq) (hl1 : l.last.seq ≤ 4294967295) (hr : (r.next l).right = false) :
    Calls Try.prog 20 #[.pointer (some ⟨b, 0, none⟩), .agg r.cells] w fun e w' => e = .returned (.int .i64 1) ∧ Chg [] w w' := by
  have HP := fun w => lprint_any w (r.next l)
  have hp : (r.next l).print = ByteArray.empty := by unfold RcV.print; rw [hr]; rfl
  rw [hp] at HP
  clear hp hr
  have hB := h
  clear h
  simp only [RcV.next, RcV.cells, LtV.cells] at *
  have hZ := At.new w #[.int .i64 r.seq, .int .i64 r.cyc, .int .i64 r.ph, .int .i64 r.st, .int .i64 r.fl, .int .i64 r.vi, .int .i64 r.di, .int .i64 r.inv, .int .i64 r.inph] 23
  have hX : Chg [] w (w.alloc (.cells #[.int .i64 r.seq, .int .i64 r.cyc, .int .i64 r.ph, .int .i64 r.st, .int .i64 r.fl, .int .i64 r.vi, .int .i64 r.di, .int .i64 r.inv, .int .i64 r.inph] 23)) := (Chg.refl _ _).alloc _
  have hbz : b ≠ w.heap.size := by have := hB.lt; omega
  replace hB := hX.at hB (by simp)
  go_enter Try.func20, Try.ntmps20
  go_upto_region 1 with fail
  have hzW : w.heap.size ≤ w.heap.size := Nat.le_refl _
  generalize hz : w.heap.size = z at *
  generalize w.alloc (.cells #[.int .i64 r.seq, .int .i64 r.cyc, .int .i64 r.ph, .int .i64 r.st, .int .i64 r.fl, .int .i64 r.vi, .int .i64 r.di, .int .i64 r.inv, .int .i64 r.inph] 23) = wa at *
  have b3 : wa.cell? ⟨b, 3, none⟩ = some (.int .i64 l.last.seq) := hB.cell 3
  have z0 : wa.cell? ⟨z, 0, none⟩ = some (.int .i64 r.seq) := hZ.cell 0
  have zf0 := hZ.frozen 0
  go_upto_region 4 with fail
  have hZ2 := hZ.set 0 (.int .i64 (l.last.seq + 1)) rfl
  simp only [List.setIfInBounds_toArray, List.set_cons_zero] at hZ2
  have hX2 := hX.setCell (p := ⟨z, 0, none⟩) (Or.inr (by simp; omega)) (.int .i64 (l.last.seq + 1))
  generalize wa.setCell ⟨z, 0, none⟩ (.int .i64 (l.last.seq + 1)) = wb at *
  clear b3 z0 zf0
  have z0 : wb.cell? ⟨z, 0, none⟩ = some (.int .i64 (l.last.seq + 1)) := hZ2.cell 0
  have z1 : wb.cell? ⟨z, 1, none⟩ = some (.int .i64 r.cyc) := hZ2.cell 1
  have z2 : wb.cell? ⟨z, 2, none⟩ = some (.int .i64 r.ph) := hZ2.cell 2
  have z3 : wb.cell? ⟨z, 3, none⟩ = some (.int .i64 r.st) := hZ2.cell 3
  have z4 : wb.cell? ⟨z, 4, none⟩ = some (.int .i64 r.fl) := hZ2.cell 4
  have z5 : wb.cell? ⟨z, 5, none⟩ = some (.int .i64 r.vi) := hZ2.cell 5
  have z6 : wb.cell? ⟨z, 6, none⟩ = some (.int .i64 r.di) := hZ2.cell 6
  have z7 : wb.cell? ⟨z, 7, none⟩ = some (.int .i64 r.inv) := hZ2.cell 7
  have z8 : wb.cell? ⟨z, 8, none⟩ = some (.int .i64 r.inph) := hZ2.cell 8
  go_wp2_with fail
  refine (HP _).mono ?_; rintro e w2 ⟨rfl, hY⟩
  go_wp2
  go_returns
  exact ⟨rfl, hX2.trans hY⟩

theorem str24_ne {s : ByteArray} (h : s.size = 24) : s.toList.isEmpty = false := by rw [str_empty, h]; rfl
/-- The write falls: nothing of the latch's own changes. -/
theorem lsave_fail (w : World) (b f : Nat) (l : LtV) (r : RcV) (h : At w b (l.cells f)) (hl0 : 0 ≤ l.last.seq) (hl1 : l.last.seq ≤ 4294967295) (hs0 : 0 ≤ l.slot) (hs1 : l.slot ≤ 1) (hb0 : 0 ≤ l.base) (hb1 : l.base ≤ 100000) (hr : (r.next l).right = true)
    (er : Int) (her : er ≠ 0) (S : List Nat) (P : World → Prop)
    (HW : ∀ w1, Chg [] w w1 → Calls Try.prog 16 #[.pointer (some ⟨f, 0, none⟩), .int .i64 (l.base + (l.slot + 1) % 2 * 24), .string (strOfNums (r.next l).all)] w1 fun e w2 => e = .returned (.int .i64 er) ∧ P w2 ∧ Chg S w w2) :
    Calls Try.prog 20 #[.pointer (some ⟨b, 0, none⟩), .agg r.cells] w fun e w' => e = .returned (.int .i64 er) ∧ P w' ∧ Chg S w w' := by
  have HP := fun w => lprint_any w (r.next l)
  have hp : (r.next l).print = strOfNums (r.next l).all := by unfold RcV.print; rw [hr]; rfl
  rw [hp] at HP
  have hz24 : (strOfNums (r.next l).all).size = 24 := by rw [strOfNums_size, RcV.all_len]
  have hne := str24_ne hz24
  generalize strOfNums (r.next l).all = txt at *
  have hmd : (l.slot + 1).tmod 2 = (l.slot + 1) % 2 := Int.tmod_eq_emod_of_nonneg (by omega)
  have HW' := Lib.hid HW
  clear hp hr HW
  have hB := h
  clear h
  simp only [RcV.next, RcV.cells, LtV.cells] at *
  have hZ := At.new w #[.int .i64 r.seq, .int .i64 r.cyc, .int .i64 r.ph, .int .i64 r.st, .int .i64 r.fl, .int .i64 r.vi, .int .i64 r.di, .int .i64 r.inv, .int .i64 r.inph] 23
  have hX : Chg [] w (w.alloc (.cells #[.int .i64 r.seq, .int .i64 r.cyc, .int .i64 r.ph, .int .i64 r.st, .int .i64 r.fl, .int .i64 r.vi, .int .i64 r.di, .int .i64 r.inv, .int .i64 r.inph] 23)) := (Chg.refl _ _).alloc _
  have hbz : b ≠ w.heap.size := by have := hB.lt; omega
  replace hB := hX.at hB (by simp)
  go_enter Try.func20, Try.ntmps20
  go_upto_region 1 with fail
  have hzW : w.heap.size ≤ w.heap.size := Nat.le_refl _
  generalize hz : w.heap.size = z at *
  generalize w.alloc (.cells #[.int .i64 r.seq, .int .i64 r.cyc, .int .i64 r.ph, .int .i64 r.st, .int .i64 r.fl, .int .i64 r.vi, .int .i64 r.di, .int .i64 r.inv, .int .i64 r.inph] 23) = wa at *
  have b3 : wa.cell? ⟨b, 3, none⟩ = some (.int .i64 l.last.seq) := hB.cell 3
  have z0 : wa.cell? ⟨z, 0, none⟩ = some (.int .i64 r.seq) := hZ.cell 0
  have zf0 := hZ.frozen 0
  go_upto_region 4 with fail
  have hZ2 := hZ.set 0 (.int .i64 (l.last.seq + 1)) rfl
  simp only [List.setIfInBounds_toArray, List.set_cons_zero] at hZ2
  have hB2 := hB.other ⟨z, 0, none⟩ (.int .i64 (l.last.seq + 1)) hbz
  have hX2 := hX.setCell (p := ⟨z, 0, none⟩) (Or.inr (by simp; omega)) (.int .i64 (l.last.seq + 1))
  generalize wa.setCell ⟨z, 0, none⟩ (.int .i64 (l.last.seq + 1)) = wb at *
  clear b3 z0 zf0
  have z0 : wb.cell? ⟨z, 0, none⟩ = some (.int .i64 (l.last.seq + 1)) := hZ2.cell 0
  have z1 : wb.cell? ⟨z, 1, none⟩ = some (.int .i64 r.cyc) := hZ2.cell 1
  have z2 : wb.cell? ⟨z, 2, none⟩ = some (.int .i64 r.ph) := hZ2.cell 2
  have z3 : wb.cell? ⟨z, 3, none⟩ = some (.int .i64 r.st) := hZ2.cell 3
  have z4 : wb.cell? ⟨z, 4, none⟩ = some (.int .i64 r.fl) := hZ2.cell 4
  have z5 : wb.cell? ⟨z, 5, none⟩ = some (.int .i64 r.vi) := hZ2.cell 5
  have z6 : wb.cell? ⟨z, 6, none⟩ = some (.int .i64 r.di) := hZ2.cell 6
  have z7 : wb.cell? ⟨z, 7, none⟩ = some (.int .i64 r.inv) := hZ2.cell 7
  have z8 : wb.cell? ⟨z, 8, none⟩ = some (.int .i64 r.inph) := hZ2.cell 8
  go_wp2_with fail
  refine (HP _).mono ?_; rintro e w2 ⟨rfl, hY⟩
  go_upto_region 7 with fail
  clear z0 z1 z2 z3 z4 z5 z6 z7 z8
  replace hB := hY.at hB2 (by simp)
  clear hB2
  replace hX2 := hX2.trans hY
  have q0 : w2.cell? ⟨b, 0, none⟩ = some (.pointer (some ⟨f, 0, none⟩)) := hB.cell 0
  have q1 : w2.cell? ⟨b, 1, none⟩ = some (.int .i64 l.base) := hB.cell 1
  have q2 : w2.cell? ⟨b, 2, none⟩ = some (.int .i64 l.slot) := hB.cell 2
  go_upto_region 8 with fail
  have hsl : 0 ≤ (l.slot + 1) % 2 ∧ (l.slot + 1) % 2 ≤ 1 := by omega
  clear hmd
  generalize (l.slot + 1) % 2 = sl at *
  have hnz : (er == 0) = false := by simpa using her
  have Her := Lib.hid her
  clear her
  go_still_tail 12, (by kernel_rfl)
  change wpList _ _ _ _ _ w2.drew
  clear q0 q1 q2
  go_wp2_with fail
  refine (HW'.out _ hX2.drew).mono ?_; rintro e w3 ⟨rfl, hP, hXS⟩
  go_wp2
  go_returns
  exact ⟨rfl, hP, hXS⟩
end Go.Proofs.Ytjneidmkllhbjaa
