/- Package apogeelaw09: like. -/
import Derived.Test.YtjneidmkllhbjaaLao
namespace Go.Proofs.Ytjneidmkllhbjaa
open Go.RowKit

set_option maxRecDepth 100000 in
theorem like_any (w : World) (r : RcV) : Calls Try.prog 12 #[.agg r.cells] w fun e w' => e = .returned (.agg r.cells) ∧ Chg [] w w' := by
  unfold RcV.cells
  have hA := (At.new w #[.int .i64 r.seq, .int .i64 r.cyc, .int .i64 r.ph, .int .i64 r.st, .int .i64 r.fl, .int .i64 r.vi, .int .i64 r.di, .int .i64 r.inv, .int .i64 r.inph] 23).alloc (.cells #[.int .i64 0, .int .i64 0, .int .i64 0, .int .i64 0, .int .i64 0, .int .i64 0, .int .i64 0, .int .i64 0, .int .i64 0] 28)
  have hR := At.new (w.alloc (.cells #[.int .i64 r.seq, .int .i64 r.cyc, .int .i64 r.ph, .int .i64 r.st, .int .i64 r.fl, .int .i64 r.vi, .int .i64 r.di, .int .i64 r.inv, .int .i64 r.inph] 23)) #[.int .i64 0, .int .i64 0, .int .i64 0, .int .i64 0, .int .i64 0, .int .i64 0, .int .i64 0, .int .i64 0, .int .i64 0] 28
  have hX : Chg [] w ((w.alloc (.cells #[.int .i64 r.seq, .int .i64 r.cyc, .int .i64 r.ph, .int .i64 r.st, .int .i64 r.fl, .int .i64 r.vi, .int .i64 r.di, .int .i64 r.inv, .int .i64 r.inph] 23)).alloc (.cells #[.int .i64 0, .int .i64 0, .int .i64 0, .int .i64 0, .int .i64 0, .int .i64 0, .int .i64 0, .int .i64 0, .int .i64 0] 28)) := ((Chg.refl _ _).alloc _).alloc _
  rw [show (w.alloc (.cells #[.int .i64 r.seq, .int .i64 r.cyc, .int .i64 r.ph, .int .i64 r.st, .int .i64 r.fl, .int .i64 r.vi, .int .i64 r.di, .int .i64 r.inv, .int .i64 r.inph] 23)).heap.size = w.heap.size + 1 by simp] at hR
  go_enter Try.func12, Try.ntmps12
  go_upto_region 1 with fail
  have hzW : w.heap.size ≤ w.heap.size := Nat.le_refl _
  generalize hz : w.heap.size = z at *
  generalize (w.alloc (.cells #[.int .i64 r.seq, .int .i64 r.cyc, .int .i64 r.ph, .int .i64 r.st, .int .i64 r.fl, .int .i64 r.vi, .int .i64 r.di, .int .i64 r.inv, .int .i64 r.inph] 23)).alloc (.cells #[.int .i64 0, .int .i64 0, .int .i64 0, .int .i64 0, .int .i64 0, .int .i64 0, .int .i64 0, .int .i64 0, .int .i64 0] 28) = wa at *
  have a0 : wa.cell? ⟨z, 0, none⟩ = some (.int .i64 r.seq) := hA.cell 0
  have a1 : wa.cell? ⟨z, 1, none⟩ = some (.int .i64 r.cyc) := hA.cell 1
  have a2 : wa.cell? ⟨z, 2, none⟩ = some (.int .i64 r.ph) := hA.cell 2
  have a3 : wa.cell? ⟨z, 3, none⟩ = some (.int .i64 r.st) := hA.cell 3
  have a4 : wa.cell? ⟨z, 4, none⟩ = some (.int .i64 r.fl) := hA.cell 4
  have a5 : wa.cell? ⟨z, 5, none⟩ = some (.int .i64 r.vi) := hA.cell 5
  have a6 : wa.cell? ⟨z, 6, none⟩ = some (.int .i64 r.di) := hA.cell 6
  have a7 : wa.cell? ⟨z, 7, none⟩ = some (.int .i64 r.inv) := hA.cell 7
  have a8 : wa.cell? ⟨z, 8, none⟩ = some (.int .i64 r.inph) := hA.cell 8
  have r0 := hR.cell 0; have rf0 := hR.frozen 0
  have r1 := hR.cell 1; have rf1 := hR.frozen 1
  have r2 := hR.cell 2; have rf2 := hR.frozen 2
  have r3 := hR.cell 3; have rf3 := hR.frozen 3
  have r4 := hR.cell 4; have rf4 := hR.frozen 4
  have r5 := hR.cell 5; have rf5 := hR.frozen 5
  have r6 := hR.cell 6; have rf6 := hR.frozen 6
  have r7 := hR.cell 7; have rf7 := hR.frozen 7
  have r8 := hR.cell 8; have rf8 := hR.frozen 8
  go_wp2_with (with_reducible refine hold_post ?_)
  refine Lib.hid ?_
  have hR9 := (((((((((hR).set 0 (.int .i64 r.seq) rfl).set 1 (.int .i64 r.cyc) rfl).set 2 (.int .i64 r.ph) rfl).set 3 (.int .i64 r.st) rfl).set 4 (.int .i64 r.fl) rfl).set 5 (.int .i64 r.vi) rfl).set 6 (.int .i64 r.di) rfl).set 7 (.int .i64 r.inv) rfl).set 8 (.int .i64 r.inph) rfl
  simp only [List.setIfInBounds_toArray, List.set_cons_succ, List.set_cons_zero] at hR9
  have hX9 := (((((((((hX).setCell (p := ⟨z + 1, 0, none⟩) (Or.inr (by simp; omega)) (.int .i64 r.seq)).setCell (p := ⟨z + 1, 1, none⟩) (Or.inr (by simp; omega)) (.int .i64 r.cyc)).setCell (p := ⟨z + 1, 2, none⟩) (Or.inr (by simp; omega)) (.int .i64 r.ph)).setCell (p := ⟨z + 1, 3, none⟩) (Or.inr (by simp; omega)) (.int .i64 r.st)).setCell (p := ⟨z + 1, 4, none⟩) (Or.inr (by simp; omega)) (.int .i64 r.fl)).setCell (p := ⟨z + 1, 5, none⟩) (Or.inr (by simp; omega)) (.int .i64 r.vi)).setCell (p := ⟨z + 1, 6, none⟩) (Or.inr (by simp; omega)) (.int .i64 r.di)).setCell (p := ⟨z + 1, 7, none⟩) (Or.inr (by simp; omega)) (.int .i64 r.inv)).setCell (p := ⟨z + 1, 8, none⟩) (Or.inr (by simp; omega)) (.int .i64 r.inph)
  generalize (((((((((wa).setCell ⟨z + 1, 0, none⟩ (.int .i64 r.seq)).setCell ⟨z + 1, 1, none⟩ (.int .i64 r.cyc)).setCell ⟨z + 1, 2, none⟩ (.int .i64 r.ph)).setCell ⟨z + 1, 3, none⟩ (.int .i64 r.st)).setCell ⟨z + 1, 4, none⟩ (.int .i64 r.fl)).setCell ⟨z + 1, 5, none⟩ (.int .i64 r.vi)).setCell ⟨z + 1, 6, none⟩ (.int .i64 r.di)).setCell ⟨z + 1, 7, none⟩ (.int .i64 r.inv)).setCell ⟨z + 1, 8, none⟩ (.int .i64 r.inph) = w9 at *
  clear r0 rf0 a0 r1 rf1 a1 r2 rf2 a2 r3 rf3 a3 r4 rf4 a4 r5 rf5 a5 r6 rf6 a6 r7 rf7 a7 r8 rf8 a8
  have r0 : w9.cell? ⟨z + 1, 0, none⟩ = some (.int .i64 r.seq) := hR9.cell 0
  have r1 : w9.cell? ⟨z + 1, 1, none⟩ = some (.int .i64 r.cyc) := hR9.cell 1
  have r2 : w9.cell? ⟨z + 1, 2, none⟩ = some (.int .i64 r.ph) := hR9.cell 2
  have r3 : w9.cell? ⟨z + 1, 3, none⟩ = some (.int .i64 r.st) := hR9.cell 3
  have r4 : w9.cell? ⟨z + 1, 4, none⟩ = some (.int .i64 r.fl) := hR9.cell 4
  have r5 : w9.cell? ⟨z + 1, 5, none⟩ = some (.int .i64 r.vi) := hR9.cell 5
  have r6 : w9.cell? ⟨z + 1, 6, none⟩ = some (.int .i64 r.di) := hR9.cell 6
  have r7 : w9.cell? ⟨z + 1, 7, none⟩ = some (.int .i64 r.inv) := hR9.cell 7
  have r8 : w9.cell? ⟨z + 1, 8, none⟩ = some (.int .i64 r.inph) := hR9.cell 8
  exact bodyPost_ret (v := .agg #[.int .i64 r.seq, .int .i64 r.cyc, .int .i64 r.ph, .int .i64 r.st, .int .i64 r.fl, .int .i64 r.vi, .int .i64 r.di, .int .i64 r.inv, .int .i64 r.inph]) (by simp [results, Try.results12, go_sem, r0, r1, r2, r3, r4, r5, r6, r7, r8]) rfl ⟨rfl, hX9⟩
end Go.Proofs.Ytjneidmkllhbjaa
