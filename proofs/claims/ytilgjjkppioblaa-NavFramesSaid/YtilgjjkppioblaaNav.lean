/- Package nav and its reference: a nav's numbers, and which ones are right. -/
import Derived.Test.YtilgjjkppioblaaRows
import Derived.Test.YtilgjjkppioblaaStage
import Derived.Test.YtilgjjkppioblaaPairs
import Derived.WalkLawsBesides
import Derived.WalkSpells
import Derived.BigQuiet
import Derived.StillTailTactics
import Derived.Handy
import Derived.Laws.ResultCell
namespace Go.Proofs.Ytilgjjkppioblaa
open Go.RowKit

structure NV where (cnt flg x y z vx vy vz : Int)
def NV.cells (n : NV) : Array Value := #[.int .i64 n.cnt, .int .i64 n.flg, .int .i64 n.x, .int .i64 n.y, .int .i64 n.z, .int .i64 n.vx, .int .i64 n.vy, .int .i64 n.vz]
def in32 (x : Int) : Bool := decide (-2147483648 ≤ x) && decide (x ≤ 2147483647)
def NV.right (n : NV) : Bool := in32 n.x && in32 n.y && in32 n.z && in32 n.vx && in32 n.vy && in32 n.vz && decide (0 ≤ n.cnt) && decide (n.cnt ≤ 65535) && decide (0 ≤ n.flg) && decide (n.flg ≤ 255)
def ptrs (b : Nat) : Array Value := #[.pointer (some ⟨b, 2, none⟩), .pointer (some ⟨b, 3, none⟩), .pointer (some ⟨b, 4, none⟩), .pointer (some ⟨b, 5, none⟩), .pointer (some ⟨b, 6, none⟩), .pointer (some ⟨b, 7, none⟩)]

theorem und_a6 : Try.prog.underlying 50 = some (.array 6 49) := by kernel_rfl
/-- Reading one of the six pointers. -/
theorem idx0 (b : Nat) (w : World) : (Instr.index 50 (.agg (ptrs b)) (.int .i64 0)).run Try.prog w = .ok (.pointer (some ⟨b, 2, none⟩)) w := by simp [Instr.index, run_underlying und_a6, asIntOf, go_sem, ptrs]
theorem idx1 (b : Nat) (w : World) : (Instr.index 50 (.agg (ptrs b)) (.int .i64 1)).run Try.prog w = .ok (.pointer (some ⟨b, 3, none⟩)) w := by simp [Instr.index, run_underlying und_a6, asIntOf, go_sem, ptrs]
theorem idx2 (b : Nat) (w : World) : (Instr.index 50 (.agg (ptrs b)) (.int .i64 2)).run Try.prog w = .ok (.pointer (some ⟨b, 4, none⟩)) w := by simp [Instr.index, run_underlying und_a6, asIntOf, go_sem, ptrs]
theorem idx3 (b : Nat) (w : World) : (Instr.index 50 (.agg (ptrs b)) (.int .i64 3)).run Try.prog w = .ok (.pointer (some ⟨b, 5, none⟩)) w := by simp [Instr.index, run_underlying und_a6, asIntOf, go_sem, ptrs]
theorem idx4 (b : Nat) (w : World) : (Instr.index 50 (.agg (ptrs b)) (.int .i64 4)).run Try.prog w = .ok (.pointer (some ⟨b, 6, none⟩)) w := by simp [Instr.index, run_underlying und_a6, asIntOf, go_sem, ptrs]
theorem idx5 (b : Nat) (w : World) : (Instr.index 50 (.agg (ptrs b)) (.int .i64 5)).run Try.prog w = .ok (.pointer (some ⟨b, 7, none⟩)) w := by simp [Instr.index, run_underlying und_a6, asIntOf, go_sem, ptrs]

set_option maxRecDepth 100000 in
theorem numbers_any (w : World) (b : Nat) : Calls Try.prog 22 #[.pointer (some ⟨b, 0, none⟩)] w fun e w' => e = .returned (.agg (ptrs b)) ∧ Chg [] w w' := by
  unfold ptrs
  go_enter Try.func22, Try.ntmps22
  go_wp2_with fail
  have hZ := (At.new w #[.pointer none, .pointer none, .pointer none, .pointer none, .pointer none, .pointer none] 50).drew
  have hX : Chg [] w (w.alloc (.cells #[.pointer none, .pointer none, .pointer none, .pointer none, .pointer none, .pointer none] 50)).drew := ((Chg.refl _ _).alloc _).drew
  have hs : w.heap.size ≤ w.heap.size := Nat.le_refl _
  go_still_tail 19, (by kernel_rfl)
  change wpList _ _ _ _ _ (w.alloc (.cells #[.pointer none, .pointer none, .pointer none, .pointer none, .pointer none, .pointer none] 50)).drew
  generalize (w.alloc (.cells #[.pointer none, .pointer none, .pointer none, .pointer none, .pointer none, .pointer none] 50)).drew = wa at *
  generalize hz : w.heap.size = z at hZ hs ⊢
  have c0 := hZ.cell 0
  have f0 := hZ.frozen 0
  have c1 := hZ.cell 1
  have f1 := hZ.frozen 1
  have c2 := hZ.cell 2
  have f2 := hZ.frozen 2
  have c3 := hZ.cell 3
  have f3 := hZ.frozen 3
  have c4 := hZ.cell 4
  have f4 := hZ.frozen 4
  have c5 := hZ.cell 5
  have f5 := hZ.frozen 5
  go_wp2
  have hZ' := (((((hZ.set 0 (.pointer (some ⟨b, 2, none⟩)) rfl).set 1 (.pointer (some ⟨b, 3, none⟩)) rfl).set 2 (.pointer (some ⟨b, 4, none⟩)) rfl).set 3 (.pointer (some ⟨b, 5, none⟩)) rfl).set 4 (.pointer (some ⟨b, 6, none⟩)) rfl).set 5 (.pointer (some ⟨b, 7, none⟩)) rfl
  have hX' := (((((hX.setCell (p := ⟨z, 0, none⟩) (Or.inr (by simp; omega)) (.pointer (some ⟨b, 2, none⟩))).setCell (p := ⟨z, 1, none⟩) (Or.inr (by simp; omega)) (.pointer (some ⟨b, 3, none⟩))).setCell (p := ⟨z, 2, none⟩) (Or.inr (by simp; omega)) (.pointer (some ⟨b, 4, none⟩))).setCell (p := ⟨z, 3, none⟩) (Or.inr (by simp; omega)) (.pointer (some ⟨b, 5, none⟩))).setCell (p := ⟨z, 4, none⟩) (Or.inr (by simp; omega)) (.pointer (some ⟨b, 6, none⟩))).setCell (p := ⟨z, 5, none⟩) (Or.inr (by simp; omega)) (.pointer (some ⟨b, 7, none⟩))
  have d0 := hZ'.cell 0
  have d1 := hZ'.cell 1
  have d2 := hZ'.cell 2
  have d3 := hZ'.cell 3
  have d4 := hZ'.cell 4
  have d5 := hZ'.cell 5
  clear c0 c1 c2 c3 c4 c5 f0 f1 f2 f3 f4 f5 hZ hX hZ'
  exact bodyPost_ret (v := .agg (ptrs b)) (by simp [results, Try.results22, go_sem, ptrs, d0, d1, d2, d3, d4, d5]) rfl ⟨rfl, hX'⟩

theorem NV.right_iff (n : NV) : n.right = true ↔ (-2147483648 ≤ n.x ∧ n.x ≤ 2147483647) ∧ (-2147483648 ≤ n.y ∧ n.y ≤ 2147483647) ∧ (-2147483648 ≤ n.z ∧ n.z ≤ 2147483647) ∧ (-2147483648 ≤ n.vx ∧ n.vx ≤ 2147483647) ∧ (-2147483648 ≤ n.vy ∧ n.vy ≤ 2147483647) ∧ (-2147483648 ≤ n.vz ∧ n.vz ≤ 2147483647) ∧ 0 ≤ n.cnt ∧ n.cnt ≤ 65535 ∧ 0 ≤ n.flg ∧ n.flg ≤ 255 := by
  simp [NV.right, in32, and_assoc]

set_option maxRecDepth 100000 in
set_option maxHeartbeats 1000000 in
theorem right_any (w : World) (n : NV) : Calls Try.prog 13 #[.agg n.cells] w fun e w' => e = .returned (.bool n.right) ∧ Chg [] w w' := by
  have HR := Lib.hid n.right_iff
  obtain ⟨r, hr⟩ : ∃ r, r = n.right := ⟨_, rfl⟩
  rw [← hr] at HR ⊢
  clear hr
  unfold NV.cells
  go_enter Try.func13, Try.ntmps13
  go_wp2_with fail
  have hI := At.new w n.cells 23
  have hX : Chg [] w (w.alloc (.cells n.cells 23)) := (Chg.refl _ _).alloc _
  refine (numbers_any _ _).mono ?_; rintro e w1 ⟨rfl, hX1⟩
  replace hI := hX1.at hI (by simp)
  replace hX := hX.trans hX1
  clear hX1
  generalize w.heap.size = z at hI ⊢
  have c0 := hI.cell 0
  have c1 := hI.cell 1
  have c2 := hI.cell 2
  have c3 := hI.cell 3
  have c4 := hI.cell 4
  have c5 := hI.cell 5
  have c6 := hI.cell 6
  have c7 := hI.cell 7
  simp only [NV.cells] at c0 c1 c2 c3 c4 c5 c6 c7
  obtain ⟨cnt, flg, nx, ny, nz, vx, vy, vz⟩ := n
  simp only at c0 c1 c2 c3 c4 c5 c6 c7
  clear hI
  have i0 := idx0 z
  have i1 := idx1 z
  have i2 := idx2 z
  have i3 := idx3 z
  have i4 := idx4 z
  have i5 := idx5 z
  go_wp2_with fail
  refine wp_loop_rounds 7 ?_
  iterate 7
    rw [rounds_succ]
    go_wp2_with fail
    all_goals first
      | (go_returns; exact ⟨ret_bool (by rw [Bool.eq_iff_iff, HR.out]; simp <;> omega), hX⟩)
      | skip
end Go.Proofs.Ytilgjjkppioblaa
