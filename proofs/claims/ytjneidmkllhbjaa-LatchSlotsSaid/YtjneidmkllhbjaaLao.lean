/- Package latch: Last. -/
import Derived.Test.YtjneidmkllhbjaaLav
namespace Go.Proofs.Ytjneidmkllhbjaa
open Go.RowKit

structure LtV where
  (base slot : Int)
  last : RcV
  ok : Bool
def LtV.cells (l : LtV) (f : Nat) : Array Value := #[.pointer (some ⟨f, 0, none⟩), .int .i64 l.base, .int .i64 l.slot, .int .i64 l.last.seq, .int .i64 l.last.cyc, .int .i64 l.last.ph, .int .i64 l.last.st, .int .i64 l.last.fl, .int .i64 l.last.vi, .int .i64 l.last.di, .int .i64 l.last.inv, .int .i64 l.last.inph, .bool l.ok]
theorem llast_nil (w : World) : Calls Try.prog 19 #[.pointer none] w fun e w' => e = .returned (.tuple #[.agg RcV.zero.cells, .bool false]) ∧ Chg [] w w' := by
  have hR := At.new w #[.int .i64 0, .int .i64 0, .int .i64 0, .int .i64 0, .int .i64 0, .int .i64 0, .int .i64 0, .int .i64 0, .int .i64 0] 23
  have hX : Chg [] w (w.alloc (.cells #[.int .i64 0, .int .i64 0, .int .i64 0, .int .i64 0, .int .i64 0, .int .i64 0, .int .i64 0, .int .i64 0, .int .i64 0] 23)) := (Chg.refl _ _).alloc _
  go_enter Try.func19, Try.ntmps19
  go_upto_region 2 with fail
  have hzW : w.heap.size ≤ w.heap.size := Nat.le_refl _
  generalize hz : w.heap.size = z at *
  generalize w.alloc (.cells #[.int .i64 0, .int .i64 0, .int .i64 0, .int .i64 0, .int .i64 0, .int .i64 0, .int .i64 0, .int .i64 0, .int .i64 0] 23) = wa at *
  have r0 := hR.cell 0
  have r1 := hR.cell 1
  have r2 := hR.cell 2
  have r3 := hR.cell 3
  have r4 := hR.cell 4
  have r5 := hR.cell 5
  have r6 := hR.cell 6
  have r7 := hR.cell 7
  have r8 := hR.cell 8
  have rf0 := hR.frozen 0
  have rf1 := hR.frozen 1
  have rf2 := hR.frozen 2
  have rf3 := hR.frozen 3
  have rf4 := hR.frozen 4
  have rf5 := hR.frozen 5
  have rf6 := hR.frozen 6
  have rf7 := hR.frozen 7
  have rf8 := hR.frozen 8
  go_wp2_with (with_reducible refine hold_post ?_)
  refine Lib.hid ?_
  have hR9 := (((((((((hR).set 0 (.int .i64 0) rfl).set 1 (.int .i64 0) rfl).set 2 (.int .i64 0) rfl).set 3 (.int .i64 0) rfl).set 4 (.int .i64 0) rfl).set 5 (.int .i64 0) rfl).set 6 (.int .i64 0) rfl).set 7 (.int .i64 0) rfl).set 8 (.int .i64 0) rfl
  simp only [List.setIfInBounds_toArray, List.set_cons_succ, List.set_cons_zero] at hR9
  have hX9 := (((((((((hX).setCell (p := ⟨z, 0, none⟩) (Or.inr (by simp; omega)) (.int .i64 0)).setCell (p := ⟨z, 1, none⟩) (Or.inr (by simp; omega)) (.int .i64 0)).setCell (p := ⟨z, 2, none⟩) (Or.inr (by simp; omega)) (.int .i64 0)).setCell (p := ⟨z, 3, none⟩) (Or.inr (by simp; omega)) (.int .i64 0)).setCell (p := ⟨z, 4, none⟩) (Or.inr (by simp; omega)) (.int .i64 0)).setCell (p := ⟨z, 5, none⟩) (Or.inr (by simp; omega)) (.int .i64 0)).setCell (p := ⟨z, 6, none⟩) (Or.inr (by simp; omega)) (.int .i64 0)).setCell (p := ⟨z, 7, none⟩) (Or.inr (by simp; omega)) (.int .i64 0)).setCell (p := ⟨z, 8, none⟩) (Or.inr (by simp; omega)) (.int .i64 0)
  generalize (((((((((wa).setCell ⟨z, 0, none⟩ (.int .i64 0)).setCell ⟨z, 1, none⟩ (.int .i64 0)).setCell ⟨z, 2, none⟩ (.int .i64 0)).setCell ⟨z, 3, none⟩ (.int .i64 0)).setCell ⟨z, 4, none⟩ (.int .i64 0)).setCell ⟨z, 5, none⟩ (.int .i64 0)).setCell ⟨z, 6, none⟩ (.int .i64 0)).setCell ⟨z, 7, none⟩ (.int .i64 0)).setCell ⟨z, 8, none⟩ (.int .i64 0) = w9 at *
  clear r0 rf0 r1 rf1 r2 rf2 r3 rf3 r4 rf4 r5 rf5 r6 rf6 r7 rf7 r8 rf8
  have r0 : w9.cell? ⟨z, 0, none⟩ = some (.int .i64 0) := hR9.cell 0
  have r1 : w9.cell? ⟨z, 1, none⟩ = some (.int .i64 0) := hR9.cell 1
  have r2 : w9.cell? ⟨z, 2, none⟩ = some (.int .i64 0) := hR9.cell 2
  have r3 : w9.cell? ⟨z, 3, none⟩ = some (.int .i64 0) := hR9.cell 3
  have r4 : w9.cell? ⟨z, 4, none⟩ = some (.int .i64 0) := hR9.cell 4
  have r5 : w9.cell? ⟨z, 5, none⟩ = some (.int .i64 0) := hR9.cell 5
  have r6 : w9.cell? ⟨z, 6, none⟩ = some (.int .i64 0) := hR9.cell 6
  have r7 : w9.cell? ⟨z, 7, none⟩ = some (.int .i64 0) := hR9.cell 7
  have r8 : w9.cell? ⟨z, 8, none⟩ = some (.int .i64 0) := hR9.cell 8
  exact bodyPost_ret (v := .tuple #[.agg #[.int .i64 0, .int .i64 0, .int .i64 0, .int .i64 0, .int .i64 0, .int .i64 0, .int .i64 0, .int .i64 0, .int .i64 0], .bool false]) (by simp [results, Try.results19, go_sem, r0, r1, r2, r3, r4, r5, r6, r7, r8]) rfl ⟨rfl, hX9⟩
structure LLR (W : World) (b z : Nat) (cs zs ns : Array Value) (k : Nat) (w : World) : Prop where
  hb : At w b cs
  x : Chg [] W w
  k0 : k = 0 → At w z zs
  k1 : 1 ≤ k → At w z ns
set_option maxRecDepth 100000 in
set_option maxHeartbeats 2000000 in
theorem llast_any (w : World) (b f : Nat) (l : LtV) (h : At w b (l.cells f)) : Calls Try.prog 19 #[.pointer (some ⟨b, 0, none⟩)] w fun e w' => e = .returned (.tuple #[.agg l.last.cells, .bool l.ok]) ∧ Chg [] w w' := by
  have hB := h
  clear h
  simp only [LtV.cells, RcV.cells] at hB ⊢
  go_enter Try.func19, Try.ntmps19
  go_upto_region 3 with fail
  have hR := At.new w #[.int .i64 0, .int .i64 0, .int .i64 0, .int .i64 0, .int .i64 0, .int .i64 0, .int .i64 0, .int .i64 0, .int .i64 0] 23
  have hX : Chg [] w (w.alloc (.cells #[.int .i64 0, .int .i64 0, .int .i64 0, .int .i64 0, .int .i64 0, .int .i64 0, .int .i64 0, .int .i64 0, .int .i64 0] 23)) := (Chg.refl _ _).alloc _
  have hBz := hB.lt
  replace hB := hX.at hB (by simp)
  generalize w.alloc (.cells #[.int .i64 0, .int .i64 0, .int .i64 0, .int .i64 0, .int .i64 0, .int .i64 0, .int .i64 0, .int .i64 0, .int .i64 0] 23) = wa at *
  generalize hz : w.heap.size = z at hR hBz ⊢
  have Hz := Lib.hid hz
  clear hz
  have hbz : b ≠ z := by omega
  refine wp_region_stage (LLR w b z #[.pointer (some ⟨f, 0, none⟩), .int .i64 l.base, .int .i64 l.slot, .int .i64 l.last.seq, .int .i64 l.last.cyc, .int .i64 l.last.ph, .int .i64 l.last.st, .int .i64 l.last.fl, .int .i64 l.last.vi, .int .i64 l.last.di, .int .i64 l.last.inv, .int .i64 l.last.inph, .bool l.ok] #[.int .i64 0, .int .i64 0, .int .i64 0, .int .i64 0, .int .i64 0, .int .i64 0, .int .i64 0, .int .i64 0, .int .i64 0] #[.int .i64 l.last.seq, .int .i64 l.last.cyc, .int .i64 l.last.ph, .int .i64 l.last.st, .int .i64 l.last.fl, .int .i64 l.last.vi, .int .i64 l.last.di, .int .i64 l.last.inv, .int .i64 l.last.inph]) [8] [(0, 0, false), (0, 0, false), (0, 0, false), (0, 0, false), (0, 1, false), (0, 1, false), (0, 1, false), (0, 1, false), (0, 0, true), (1, 1, false)]
    (by kernel_rfl) (by kernel_rfl) (by kernel_rfl) (⟨hB.drew, hX.drew, fun _ => hR.drew, fun h => absurd h (by omega)⟩) ?_
  simp only [List.zip_cons_cons, List.zip_nil_right]
  refine wpStage_yes (by go_simp) ?_
  intro K hK
  apply Exists.intro
  refine ⟨fun kk ww hk1 hk2 hC => ?_, ?_⟩
  · go_simp
    with_reducible exact rfl
  go_simp
  refine hK _ ?_
  clear hK K
  refine wpStage_yes (by go_simp) ?_
  intro K hK
  apply Exists.intro
  refine ⟨fun kk ww hk1 hk2 hC => ?_, ?_⟩
  · go_simp
    with_reducible exact rfl
  go_simp
  refine hK _ ?_
  clear hK K
  refine wpStage_yes (by go_simp) ?_
  intro K hK
  apply Exists.intro
  refine ⟨fun kk ww hk1 hk2 hC => ?_, ?_⟩
  · go_simp
    with_reducible exact rfl
  go_simp
  refine hK _ ?_
  clear hK K
  refine wpStage_yes (by go_simp) ?_
  intro K hK
  apply Exists.intro
  refine ⟨fun kk ww hk1 hk2 hC => ?_, ?_⟩
  · have b3 := hC.hb.cell 3
    have b4 := hC.hb.cell 4
    have b5 := hC.hb.cell 5
    have b6 := hC.hb.cell 6
    have b7 := hC.hb.cell 7
    have b8 := hC.hb.cell 8
    have b9 := hC.hb.cell 9
    have b10 := hC.hb.cell 10
    have b11 := hC.hb.cell 11
    go_simp
    with_reducible exact rfl
  go_simp
  refine hK _ ?_
  clear hK K
  refine wpStage_yes (by go_simp) ?_
  intro K hK
  apply Exists.intro
  refine ⟨fun kk ww hk1 hk2 hC => ?_, ?_⟩
  · go_simp
    with_reducible exact rfl
  go_simp
  refine hK _ ?_
  clear hK K
  refine wpStage_yes (by go_simp) ?_
  intro K hK
  apply Exists.intro
  refine ⟨fun kk ww hk1 hk2 hC => ?_, ?_⟩
  · go_simp
    with_reducible exact rfl
  go_simp
  refine hK _ ?_
  clear hK K
  refine wpStage_yes (by go_simp) ?_
  intro K hK
  apply Exists.intro
  refine ⟨fun kk ww hk1 hk2 hC => ?_, ?_⟩
  · go_simp
    with_reducible exact rfl
  go_simp
  refine hK _ ?_
  clear hK K
  refine wpStage_yes (by go_simp) ?_
  intro K hK
  apply Exists.intro
  refine ⟨fun kk ww hk1 hk2 hC => ?_, ?_⟩
  · have b12 := hC.hb.cell 12
    go_simp
    with_reducible exact rfl
  go_simp
  refine hK _ ?_
  clear hK K
  refine wpStage_yes (by go_simp) ?_
  intro K hK
  apply Exists.intro
  refine ⟨fun kk ww hk1 hk2 hC => ?_, ?_⟩
  · obtain rfl : kk = 0 := by omega
    have hR := hC.k0 rfl
    have r0 := hR.cell 0
    have r1 := hR.cell 1
    have r2 := hR.cell 2
    have r3 := hR.cell 3
    have r4 := hR.cell 4
    have r5 := hR.cell 5
    have r6 := hR.cell 6
    have r7 := hR.cell 7
    have r8 := hR.cell 8
    have rf0 := hR.frozen 0
    have rf1 := hR.frozen 1
    have rf2 := hR.frozen 2
    have rf3 := hR.frozen 3
    have rf4 := hR.frozen 4
    have rf5 := hR.frozen 5
    have rf6 := hR.frozen 6
    have rf7 := hR.frozen 7
    have rf8 := hR.frozen 8
    go_simp
    have hR9 := (((((((((hR).set 0 (.int .i64 l.last.seq) rfl).set 1 (.int .i64 l.last.cyc) rfl).set 2 (.int .i64 l.last.ph) rfl).set 3 (.int .i64 l.last.st) rfl).set 4 (.int .i64 l.last.fl) rfl).set 5 (.int .i64 l.last.vi) rfl).set 6 (.int .i64 l.last.di) rfl).set 7 (.int .i64 l.last.inv) rfl).set 8 (.int .i64 l.last.inph) rfl
    simp only [List.setIfInBounds_toArray, List.set_cons_succ, List.set_cons_zero] at hR9
    have hz := Hz.out
    exact ⟨rfl, (((((((((hC.hb).other ⟨z, 0, none⟩ (.int .i64 l.last.seq) hbz).other ⟨z, 1, none⟩ (.int .i64 l.last.cyc) hbz).other ⟨z, 2, none⟩ (.int .i64 l.last.ph) hbz).other ⟨z, 3, none⟩ (.int .i64 l.last.st) hbz).other ⟨z, 4, none⟩ (.int .i64 l.last.fl) hbz).other ⟨z, 5, none⟩ (.int .i64 l.last.vi) hbz).other ⟨z, 6, none⟩ (.int .i64 l.last.di) hbz).other ⟨z, 7, none⟩ (.int .i64 l.last.inv) hbz).other ⟨z, 8, none⟩ (.int .i64 l.last.inph) hbz, (((((((((hC.x).setCell (p := ⟨z, 0, none⟩) (Or.inr (by simp; omega)) (.int .i64 l.last.seq)).setCell (p := ⟨z, 1, none⟩) (Or.inr (by simp; omega)) (.int .i64 l.last.cyc)).setCell (p := ⟨z, 2, none⟩) (Or.inr (by simp; omega)) (.int .i64 l.last.ph)).setCell (p := ⟨z, 3, none⟩) (Or.inr (by simp; omega)) (.int .i64 l.last.st)).setCell (p := ⟨z, 4, none⟩) (Or.inr (by simp; omega)) (.int .i64 l.last.fl)).setCell (p := ⟨z, 5, none⟩) (Or.inr (by simp; omega)) (.int .i64 l.last.vi)).setCell (p := ⟨z, 6, none⟩) (Or.inr (by simp; omega)) (.int .i64 l.last.di)).setCell (p := ⟨z, 7, none⟩) (Or.inr (by simp; omega)) (.int .i64 l.last.inv)).setCell (p := ⟨z, 8, none⟩) (Or.inr (by simp; omega)) (.int .i64 l.last.inph), fun h => absurd h (by omega), fun _ => hR9⟩
  go_simp
  refine hK _ ?_
  clear hK K
  refine wpStage_yes (by go_simp) ?_
  intro K hK
  apply Exists.intro
  refine ⟨fun kk ww hk1 hk2 hC => ?_, ?_⟩
  · go_simp
    with_reducible exact rfl
  go_simp
  refine hK _ ?_
  clear hK K
  refine wpStage_nil (fun ww hC => ?_)
  have hR9 := hC.k1 (by decide)
  have hX9 := hC.x
  clear hC hB hR hX
  go_wp2_with (with_reducible refine hold_post ?_)
  refine Lib.hid ?_
  have r0 : ww.cell? ⟨z, 0, none⟩ = some (.int .i64 l.last.seq) := hR9.cell 0
  have r1 : ww.cell? ⟨z, 1, none⟩ = some (.int .i64 l.last.cyc) := hR9.cell 1
  have r2 : ww.cell? ⟨z, 2, none⟩ = some (.int .i64 l.last.ph) := hR9.cell 2
  have r3 : ww.cell? ⟨z, 3, none⟩ = some (.int .i64 l.last.st) := hR9.cell 3
  have r4 : ww.cell? ⟨z, 4, none⟩ = some (.int .i64 l.last.fl) := hR9.cell 4
  have r5 : ww.cell? ⟨z, 5, none⟩ = some (.int .i64 l.last.vi) := hR9.cell 5
  have r6 : ww.cell? ⟨z, 6, none⟩ = some (.int .i64 l.last.di) := hR9.cell 6
  have r7 : ww.cell? ⟨z, 7, none⟩ = some (.int .i64 l.last.inv) := hR9.cell 7
  have r8 : ww.cell? ⟨z, 8, none⟩ = some (.int .i64 l.last.inph) := hR9.cell 8
  exact bodyPost_ret (v := .tuple #[.agg #[.int .i64 l.last.seq, .int .i64 l.last.cyc, .int .i64 l.last.ph, .int .i64 l.last.st, .int .i64 l.last.fl, .int .i64 l.last.vi, .int .i64 l.last.di, .int .i64 l.last.inv, .int .i64 l.last.inph], .bool l.ok]) (by simp [results, Try.results19, go_sem, r0, r1, r2, r3, r4, r5, r6, r7, r8]) rfl ⟨rfl, hX9⟩
end Go.Proofs.Ytjneidmkllhbjaa
