/- Package apogeeref06: a nav's numbers, and which ones are right. -/
import Derived.Test.YtilgjjkppioblaaNav
namespace Go.Proofs.Ytilgjjkppioblaa
open Go.RowKit

def NV.six (n : NV) : Array Value := #[.int .i64 n.x, .int .i64 n.y, .int .i64 n.z, .int .i64 n.vx, .int .i64 n.vy, .int .i64 n.vz]

theorem rnum_any (w : World) (n : NV) : Calls Try.prog 24 #[.agg n.cells] w fun e w' =>
    e = .returned (.slice (some ⟨w.heap.size + 1, 0, none⟩) 6 6) ∧ At w' (w.heap.size + 1) n.six ∧ w'.heap.size = w.heap.size + 2 ∧ Chg [] w w' := by
  unfold NV.cells NV.six
  go_enter Try.func24, Try.ntmps24
  go_wp2
  go_returns
  refine ⟨by simp, ?_, by simp, ((Chg.refl _ _).alloc _).alloc _⟩
  have h := At.new (w.alloc (.cells n.cells 23)) n.six 2
  rw [show (w.alloc (.cells n.cells 23)).heap.size = w.heap.size + 1 by simp] at h
  exact h

set_option maxRecDepth 100000 in
set_option maxHeartbeats 1000000 in
theorem rright_any (w : World) (n : NV) : Calls Try.prog 10 #[.agg n.cells] w fun e w' => e = .returned (.bool n.right) ∧ Chg [] w w' := by
  have HR := Lib.hid n.right_iff
  obtain ⟨r, hr⟩ : ∃ r, r = n.right := ⟨_, rfl⟩
  rw [← hr] at HR ⊢
  clear hr
  have HU : n.cells = #[.int .i64 n.cnt, .int .i64 n.flg, .int .i64 n.x, .int .i64 n.y, .int .i64 n.z, .int .i64 n.vx, .int .i64 n.vy, .int .i64 n.vz] := rfl
  rw [HU]
  clear HU
  go_enter Try.func10, Try.ntmps10
  go_wp2_with fail
  have hI := At.new w n.cells 23
  have hX : Chg [] w (w.alloc (.cells n.cells 23)) := (Chg.refl _ _).alloc _
  refine (rnum_any _ n).mono ?_; rintro e w1 ⟨rfl, hL, _, hX1⟩
  replace hI := hX1.at hI (by simp)
  replace hX := hX.trans hX1
  clear hX1
  generalize (w.alloc _).heap.size + 1 = y at hL ⊢
  generalize w.heap.size = z at hI ⊢
  have c0 := hI.cell 0
  have c1 := hI.cell 1
  have d0 := hL.cell 0
  have d1 := hL.cell 1
  have d2 := hL.cell 2
  have d3 := hL.cell 3
  have d4 := hL.cell 4
  have d5 := hL.cell 5
  simp only [NV.cells, NV.six] at c0 c1 d0 d1 d2 d3 d4 d5
  obtain ⟨cnt, flg, nx, ny, nz, vx, vy, vz⟩ := n
  simp only at c0 c1 d0 d1 d2 d3 d4 d5
  clear hI hL
  go_wp2_with fail
  refine wp_loop_rounds 7 ?_
  iterate 7
    rw [rounds_succ]
    go_wp2_with fail
    all_goals first
      | (go_returns; exact ⟨ret_bool (by rw [Bool.eq_iff_iff, HR.out]; simp <;> omega), hX⟩)
      | skip
  all_goals trace_state
end Go.Proofs.Ytilgjjkppioblaa
