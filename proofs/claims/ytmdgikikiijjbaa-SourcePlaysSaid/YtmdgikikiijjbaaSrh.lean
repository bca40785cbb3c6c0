/- Package source: New, Reset, Last, Age. -/
import Derived.Test.YtmdgikikiijjbaaSrg
namespace Go.Proofs.Ytmdgikikiijjbaa
open Go.RowKit

theorem cNewS (w : World) (k : Int) : Calls Try.prog 16 #[.int .i64 k] w fun e w' =>
    e = .returned (.pointer (some ⟨w.heap.size, 0, none⟩)) ∧ Ctr w' w.heap.size 0 (cSet 1000000 k) ∧ w'.heap.size = w.heap.size + 1 ∧ Chg [] w w' := by
  go_enter Try.func16, Try.ntmps16
  go_wp2
  all_goals
    go_ret
    refine ⟨rfl, ?_, by simp, (Chg.refl _ _).alloc _⟩
    exact At.new' w _ _ _ (by have e : ∀ x y : Int, x = y → #[Value.int .i64 0, Value.int .i64 x] = #[Value.int .i64 0, Value.int .i64 y] := fun x y h => by rw [h]
                              exact e _ _ (by unfold cSet; omega))
def SV.new (step most : Int) : SV := ⟨step, most, NV.zero, false, 0⟩
theorem sNew_none (w : World) (v0 v1 v2 v3 v4 v7 v8 : Value) (step age : Int) (h : step < 1 ∨ age < 1) :
    Calls Try.prog 9 #[.agg #[v0, v1, v2, v3, v4, .int .i64 step, .int .i64 age, v7, v8]] w fun e w' => e = .returned (.pointer none) ∧ Chg [] w w' := by
  by_cases h1 : step < 1
  · go_enter Try.func9, Try.ntmps9
    go_wp2_with fail
    go_returns
    exact ⟨rfl, (Chg.refl _ _).alloc _⟩
  · have h2 : age < 1 := by omega
    go_enter Try.func9, Try.ntmps9
    go_wp2_with fail
    go_returns
    exact ⟨rfl, (Chg.refl _ _).alloc _⟩
structure SN (W : World) (z s : Nat) (rc cs : Array Value) (k : Nat) (w : World) : Prop where
  r : At w z rc
  x : Chg [] W w
  size : w.heap.size = s + k
  v : 1 ≤ k → Ctr w s 0 1000000
  t : 2 ≤ k → At w (s + 1) cs
set_option maxRecDepth 100000 in
set_option maxHeartbeats 2000000 in
theorem sNew_any (w : World) (v0 v1 v2 v3 v4 v7 v8 : Value) (step age : Int) (h1 : 1 ≤ step) (h2 : 1 ≤ age) :
    Calls Try.prog 9 #[.agg #[v0, v1, v2, v3, v4, .int .i64 step, .int .i64 age, v7, v8]] w fun e w' =>
      ∃ b c, e = .returned (.pointer (some ⟨b, 0, none⟩)) ∧ Src w' b c (SV.new step age) ∧ Chg [] w w' ∧ w.heap.size ≤ b ∧ w.heap.size ≤ c := by
  go_enter Try.func9, Try.ntmps9
  go_wp2_with fail
  have hZ := At.new w #[v0, v1, v2, v3, v4, .int .i64 step, .int .i64 age, v7, v8] 24
  have hX : Chg [] w (w.alloc (.cells #[v0, v1, v2, v3, v4, .int .i64 step, .int .i64 age, v7, v8] 24)) := (Chg.refl _ _).alloc _
  have hsz : (w.alloc (.cells #[v0, v1, v2, v3, v4, .int .i64 step, .int .i64 age, v7, v8] 24)).heap.size = w.heap.size + 1 := by simp
  generalize hz : w.heap.size = z at *
  generalize (w.alloc (.cells #[v0, v1, v2, v3, v4, .int .i64 step, .int .i64 age, v7, v8] 24)) = w1 at *
  have HZ := Lib.hid hsz
  have Hz := Lib.hid hz
  clear hsz hz
  refine wp_region_stage (SN w z (z + 1) #[v0, v1, v2, v3, v4, .int .i64 step, .int .i64 age, v7, v8] #[.int .i64 step, .int .i64 age, .int .i64 0, .int .i64 0, .int .i64 0, .int .i64 0, .int .i64 0, .int .i64 0, .int .i64 0, .int .i64 0, .bool false, .pointer (some ⟨z + 1, 0, none⟩)]) [4, 6] [(0, 1, false), (0, 1, false), (0, 1, false), (0, 1, false), (0, 0, true), (1, 1, false), (1, 1, true), (2, 2, false)]
    (by kernel_rfl) (by kernel_rfl) (by kernel_rfl) (⟨hZ, hX.drew, HZ.out, fun h => absurd h (by omega), fun h => absurd h (by omega)⟩) ?_
  simp only [List.zip_cons_cons, List.zip_nil_right]
  refine wpStage_yes (by go_simp) ?_
  intro K hK
  apply Exists.intro
  refine ⟨fun kk ww hk1 hk2 hC => ?_, ?_⟩
  · go_simp
    with_reducible exact rfl
  go_simp
  refine hK _ ?_
  clear hK K
  refine wpStage_yes (by go_simp) ?_
  intro K hK
  apply Exists.intro
  refine ⟨fun kk ww hk1 hk2 hC => ?_, ?_⟩
  · have r5 := hC.r.cell 5
    go_simp
    with_reducible exact rfl
  go_simp
  refine hK _ ?_
  clear hK K
  refine wpStage_yes (by go_simp) ?_
  intro K hK
  apply Exists.intro
  refine ⟨fun kk ww hk1 hk2 hC => ?_, ?_⟩
  · go_simp
    with_reducible exact rfl
  go_simp
  refine hK _ ?_
  clear hK K
  refine wpStage_yes (by go_simp) ?_
  intro K hK
  apply Exists.intro
  refine ⟨fun kk ww hk1 hk2 hC => ?_, ?_⟩
  · have r6 := hC.r.cell 6
    go_simp
    with_reducible exact rfl
  go_simp
  refine hK _ ?_
  clear hK K
  refine wpStage_yes (by go_simp) ?_
  intro K hK
  apply Exists.intro
  refine ⟨fun kk ww hk1 hk2 hC => ?_, ?_⟩
  · obtain rfl : kk = 0 := by omega
    have hs := hC.size
    go_simp
    refine (cNewS ww 1000000).mono ?_; rw [hs]; rintro e w' ⟨he, hA, hS, hX⟩
    exact ⟨he, hX.at hC.r (by simp), hC.x.trans hX, by omega, fun _ => hA, fun h => absurd h (by omega)⟩
  go_simp
  refine hK _ ?_
  clear hK K
  refine wpStage_yes (by go_simp) ?_
  intro K hK
  apply Exists.intro
  refine ⟨fun kk ww hk1 hk2 hC => ?_, ?_⟩
  · go_simp
    with_reducible exact rfl
  go_simp
  refine hK _ ?_
  clear hK K
  refine wpStage_yes (by go_simp) ?_
  intro K hK
  apply Exists.intro
  refine ⟨fun kk ww hk1 hk2 hC => ?_, ?_⟩
  · obtain rfl : kk = 1 := by omega
    have hs := hC.size
    have hA := At.new ww #[.int .i64 step, .int .i64 age, .int .i64 0, .int .i64 0, .int .i64 0, .int .i64 0, .int .i64 0, .int .i64 0, .int .i64 0, .int .i64 0, .bool false, .pointer (some ⟨z + 1, 0, none⟩)] 55
    rw [hs] at hA
    go_simp
    exact ⟨rfl, hC.r.alloc _, hC.x.alloc _, by simp [hs], fun _ => (hC.v (by omega)).alloc _, fun _ => hA⟩
  go_simp
  refine hK _ ?_
  clear hK K
  refine wpStage_yes (by go_simp) ?_
  intro K hK
  apply Exists.intro
  refine ⟨fun kk ww hk1 hk2 hC => ?_, ?_⟩
  · go_simp
    with_reducible exact rfl
  go_simp
  refine hK _ ?_
  clear hK K
  refine wpStage_nil (fun ww hC => ?_)
  clear hZ hX HZ
  go_wp2_with fail
  go_returns
  exact ⟨_, _, rfl, ⟨hC.t (by decide), hC.v (by decide)⟩, hC.x, by have := Hz.out; omega, by have := Hz.out; omega⟩
theorem sAge_nil (w : World) : Calls Try.prog 13 #[.pointer none] w fun e w' => e = .returned (.int .i64 0) ∧ w = w' := by
  go_enter Try.func13, Try.ntmps13
  go_wp2_with fail
  go_returns
  exact ⟨rfl, rfl⟩
theorem sAge_any (w : World) (b c : Nat) (s : SV) (h : Src w b c s) : Calls Try.prog 13 #[.pointer (some ⟨b, 0, none⟩)] w fun e w' => e = .returned (.int .i64 s.old) ∧ w = w' := by
  have P := Lib.hid (fun h => cValue_any w c s.old 1000000 h)
  obtain ⟨hB, hK⟩ := h
  simp only [SV.cells] at hB
  have b11 := hB.cell 11
  go_enter Try.func13, Try.ntmps13
  go_wp2_with fail
  refine (P.out hK).mono ?_; rintro e w' ⟨rfl, rfl⟩
  go_wp2_with fail
  go_returns
  exact ⟨rfl, rfl⟩
theorem sReset_nil (w : World) : Calls Try.prog 15 #[.pointer none] w fun e w' => e = .returned (.tuple #[]) ∧ w = w' := by
  go_enter Try.func15, Try.ntmps15
  go_wp2_with fail
  go_end0
  exact ⟨rfl, rfl⟩
set_option maxRecDepth 100000 in
set_option maxHeartbeats 2000000 in
theorem sReset_any (w : World) (b c : Nat) (s : SV) (h : Src w b c s) : Calls Try.prog 15 #[.pointer (some ⟨b, 0, none⟩)] w fun e w' =>
    e = .returned (.tuple #[]) ∧ Src w' b c (SV.new s.step s.most) ∧ Chg [b, c] w w' := by
  have hbc := h.ne
  have hcb := hbc.symm
  obtain ⟨hB, hK⟩ := h
  simp only [SV.cells] at hB
  go_enter Try.func15, Try.ntmps15
  have b2 := hB.cell 2
  have b3 := hB.cell 3
  have b4 := hB.cell 4
  have b5 := hB.cell 5
  have b6 := hB.cell 6
  have b7 := hB.cell 7
  have b8 := hB.cell 8
  have b9 := hB.cell 9
  have b10 := hB.cell 10
  have bf2 := hB.frozen 2
  have bf3 := hB.frozen 3
  have bf4 := hB.frozen 4
  have bf5 := hB.frozen 5
  have bf6 := hB.frozen 6
  have bf7 := hB.frozen 7
  have bf8 := hB.frozen 8
  have bf9 := hB.frozen 9
  have bf10 := hB.frozen 10
  go_upto_region 2 with fail
  clear b2 bf2 b3 bf3 b4 bf4 b5 bf5 b6 bf6 b7 bf7 b8 bf8 b9 bf9 b10 bf10
  have hB2 := (((((((((hB).set 2 (.int .i64 0) rfl).set 3 (.int .i64 0) rfl).set 4 (.int .i64 0) rfl).set 5 (.int .i64 0) rfl).set 6 (.int .i64 0) rfl).set 7 (.int .i64 0) rfl).set 8 (.int .i64 0) rfl).set 9 (.int .i64 0) rfl).set 10 (.bool false) rfl
  simp only [List.setIfInBounds_toArray, List.set_cons_succ, List.set_cons_zero] at hB2
  have hK2 : Ctr _ c s.old 1000000 := (((((((((hK).other ⟨b, 2, none⟩ (.int .i64 0) hcb).other ⟨b, 3, none⟩ (.int .i64 0) hcb).other ⟨b, 4, none⟩ (.int .i64 0) hcb).other ⟨b, 5, none⟩ (.int .i64 0) hcb).other ⟨b, 6, none⟩ (.int .i64 0) hcb).other ⟨b, 7, none⟩ (.int .i64 0) hcb).other ⟨b, 8, none⟩ (.int .i64 0) hcb).other ⟨b, 9, none⟩ (.int .i64 0) hcb).other ⟨b, 10, none⟩ (.bool false) hcb
  have hX2 : Chg [b, c] w _ := ((((((((((Chg.refl [b, c] w)).setCell (p := ⟨b, 2, none⟩) (Or.inl (by simp)) (.int .i64 0)).setCell (p := ⟨b, 3, none⟩) (Or.inl (by simp)) (.int .i64 0)).setCell (p := ⟨b, 4, none⟩) (Or.inl (by simp)) (.int .i64 0)).setCell (p := ⟨b, 5, none⟩) (Or.inl (by simp)) (.int .i64 0)).setCell (p := ⟨b, 6, none⟩) (Or.inl (by simp)) (.int .i64 0)).setCell (p := ⟨b, 7, none⟩) (Or.inl (by simp)) (.int .i64 0)).setCell (p := ⟨b, 8, none⟩) (Or.inl (by simp)) (.int .i64 0)).setCell (p := ⟨b, 9, none⟩) (Or.inl (by simp)) (.int .i64 0)).setCell (p := ⟨b, 10, none⟩) (Or.inl (by simp)) (.bool false)
  clear hB hK
  generalize (((((((((w).setCell ⟨b, 2, none⟩ (.int .i64 0)).setCell ⟨b, 3, none⟩ (.int .i64 0)).setCell ⟨b, 4, none⟩ (.int .i64 0)).setCell ⟨b, 5, none⟩ (.int .i64 0)).setCell ⟨b, 6, none⟩ (.int .i64 0)).setCell ⟨b, 7, none⟩ (.int .i64 0)).setCell ⟨b, 8, none⟩ (.int .i64 0)).setCell ⟨b, 9, none⟩ (.int .i64 0)).setCell ⟨b, 10, none⟩ (.bool false) = w2 at *
  have b11 := hB2.cell 11
  go_wp2_with fail
  clear b11
  refine (cReset_any _ c s.old 1000000 hK2).mono ?_; rintro e w3 ⟨rfl, hK3, hX3⟩
  go_wp2_with fail
  go_end0
  exact ⟨rfl, ⟨hX3.at hB2 (by simp [hbc]), hK3⟩, hX2.then hX3 (by simp)⟩
structure LR (W : World) (b z : Nat) (cs zs ns : Array Value) (k : Nat) (w : World) : Prop where
  hb : At w b cs
  x : Chg [] W w
  k0 : k = 0 → At w z zs
  k1 : 1 ≤ k → At w z ns
set_option maxRecDepth 100000 in
theorem sLast_nil (w : World) : Calls Try.prog 12 #[.pointer none] w fun e w' => e = .returned (.tuple #[.agg NV.zero.cells, .bool false]) ∧ Chg [] w w' := by
  go_enter Try.func12, Try.ntmps12
  go_upto_region 2 with fail
  have hR := At.new w #[.int .i64 0, .int .i64 0, .int .i64 0, .int .i64 0, .int .i64 0, .int .i64 0, .int .i64 0, .int .i64 0] 32
  have hX : Chg [] w (w.alloc (.cells #[.int .i64 0, .int .i64 0, .int .i64 0, .int .i64 0, .int .i64 0, .int .i64 0, .int .i64 0, .int .i64 0] 32)) := (Chg.refl _ _).alloc _
  generalize w.alloc (.cells #[.int .i64 0, .int .i64 0, .int .i64 0, .int .i64 0, .int .i64 0, .int .i64 0, .int .i64 0, .int .i64 0] 32) = wa at *
  generalize hz : w.heap.size = z at *
  have r0 := hR.cell 0
  have r1 := hR.cell 1
  have r2 := hR.cell 2
  have r3 := hR.cell 3
  have r4 := hR.cell 4
  have r5 := hR.cell 5
  have r6 := hR.cell 6
  have r7 := hR.cell 7
  have rf0 := hR.frozen 0
  have rf1 := hR.frozen 1
  have rf2 := hR.frozen 2
  have rf3 := hR.frozen 3
  have rf4 := hR.frozen 4
  have rf5 := hR.frozen 5
  have rf6 := hR.frozen 6
  have rf7 := hR.frozen 7
  go_wp2_with fail
  have hR9 := ((((((((hR).set 0 (.int .i64 0) rfl).set 1 (.int .i64 0) rfl).set 2 (.int .i64 0) rfl).set 3 (.int .i64 0) rfl).set 4 (.int .i64 0) rfl).set 5 (.int .i64 0) rfl).set 6 (.int .i64 0) rfl).set 7 (.int .i64 0) rfl
  simp only [List.setIfInBounds_toArray, List.set_cons_succ, List.set_cons_zero] at hR9
  have hX9 := ((((((((hX).setCell (p := ⟨z, 0, none⟩) (Or.inr (by simp; omega)) (.int .i64 0)).setCell (p := ⟨z, 1, none⟩) (Or.inr (by simp; omega)) (.int .i64 0)).setCell (p := ⟨z, 2, none⟩) (Or.inr (by simp; omega)) (.int .i64 0)).setCell (p := ⟨z, 3, none⟩) (Or.inr (by simp; omega)) (.int .i64 0)).setCell (p := ⟨z, 4, none⟩) (Or.inr (by simp; omega)) (.int .i64 0)).setCell (p := ⟨z, 5, none⟩) (Or.inr (by simp; omega)) (.int .i64 0)).setCell (p := ⟨z, 6, none⟩) (Or.inr (by simp; omega)) (.int .i64 0)).setCell (p := ⟨z, 7, none⟩) (Or.inr (by simp; omega)) (.int .i64 0)
  clear r0 rf0 r1 rf1 r2 rf2 r3 rf3 r4 rf4 r5 rf5 r6 rf6 r7 rf7
  clear hR hX
  generalize ((((((((wa).setCell ⟨z, 0, none⟩ (.int .i64 0)).setCell ⟨z, 1, none⟩ (.int .i64 0)).setCell ⟨z, 2, none⟩ (.int .i64 0)).setCell ⟨z, 3, none⟩ (.int .i64 0)).setCell ⟨z, 4, none⟩ (.int .i64 0)).setCell ⟨z, 5, none⟩ (.int .i64 0)).setCell ⟨z, 6, none⟩ (.int .i64 0)).setCell ⟨z, 7, none⟩ (.int .i64 0) = w9 at *
  have r0 : w9.cell? ⟨z, 0, none⟩ = some (.int .i64 0) := hR9.cell 0
  have r1 : w9.cell? ⟨z, 1, none⟩ = some (.int .i64 0) := hR9.cell 1
  have r2 : w9.cell? ⟨z, 2, none⟩ = some (.int .i64 0) := hR9.cell 2
  have r3 : w9.cell? ⟨z, 3, none⟩ = some (.int .i64 0) := hR9.cell 3
  have r4 : w9.cell? ⟨z, 4, none⟩ = some (.int .i64 0) := hR9.cell 4
  have r5 : w9.cell? ⟨z, 5, none⟩ = some (.int .i64 0) := hR9.cell 5
  have r6 : w9.cell? ⟨z, 6, none⟩ = some (.int .i64 0) := hR9.cell 6
  have r7 : w9.cell? ⟨z, 7, none⟩ = some (.int .i64 0) := hR9.cell 7
  exact bodyPost_ret (v := .tuple #[.agg #[.int .i64 0, .int .i64 0, .int .i64 0, .int .i64 0, .int .i64 0, .int .i64 0, .int .i64 0, .int .i64 0], .bool false]) (by simp [results, Try.results12, go_sem, r0, r1, r2, r3, r4, r5, r6, r7]) rfl ⟨rfl, hX9⟩
set_option maxRecDepth 100000 in
set_option maxHeartbeats 2000000 in
theorem sLast_any (w : World) (b c : Nat) (s : SV) (h : Src w b c s) : Calls Try.prog 12 #[.pointer (some ⟨b, 0, none⟩)] w fun e w' => e = .returned (.tuple #[.agg s.last.cells, .bool s.has]) ∧ Chg [] w w' := by
  have hB := h.b
  clear h
  simp only [SV.cells, NV.cells] at hB ⊢
  go_enter Try.func12, Try.ntmps12
  go_upto_region 3 with fail
  have hR := At.new w #[.int .i64 0, .int .i64 0, .int .i64 0, .int .i64 0, .int .i64 0, .int .i64 0, .int .i64 0, .int .i64 0] 32
  have hX : Chg [] w (w.alloc (.cells #[.int .i64 0, .int .i64 0, .int .i64 0, .int .i64 0, .int .i64 0, .int .i64 0, .int .i64 0, .int .i64 0] 32)) := (Chg.refl _ _).alloc _
  have hBz := hB.lt
  replace hB := hX.at hB (by simp)
  generalize w.alloc (.cells #[.int .i64 0, .int .i64 0, .int .i64 0, .int .i64 0, .int .i64 0, .int .i64 0, .int .i64 0, .int .i64 0] 32) = wa at *
  generalize hz : w.heap.size = z at hR hBz ⊢
  have Hz := Lib.hid hz
  clear hz
  have hbz : b ≠ z := by omega
  refine wp_region_stage (LR w b z #[.int .i64 s.step, .int .i64 s.most, .int .i64 s.last.cnt, .int .i64 s.last.flg, .int .i64 s.last.x, .int .i64 s.last.y, .int .i64 s.last.z, .int .i64 s.last.vx, .int .i64 s.last.vy, .int .i64 s.last.vz, .bool s.has, .pointer (some ⟨c, 0, none⟩)] #[.int .i64 0, .int .i64 0, .int .i64 0, .int .i64 0, .int .i64 0, .int .i64 0, .int .i64 0, .int .i64 0] #[.int .i64 s.last.cnt, .int .i64 s.last.flg, .int .i64 s.last.x, .int .i64 s.last.y, .int .i64 s.last.z, .int .i64 s.last.vx, .int .i64 s.last.vy, .int .i64 s.last.vz]) [8] [(0, 0, false), (0, 0, false), (0, 0, false), (0, 0, false), (0, 1, false), (0, 1, false), (0, 1, false), (0, 1, false), (0, 0, true), (1, 1, false)]
    (by kernel_rfl) (by kernel_rfl) (by kernel_rfl) (⟨hB.drew, hX.drew, fun _ => hR.drew, fun h => absurd h (by omega)⟩) ?_
  simp only [List.zip_cons_cons, List.zip_nil_right]
  refine wpStage_yes (by go_simp) ?_
  intro K hK
  apply Exists.intro
  refine ⟨fun kk ww hk1 hk2 hC => ?_, ?_⟩
  · go_simp
    with_reducible exact rfl
  go_simp
  refine hK _ ?_
  clear hK K
  refine wpStage_yes (by go_simp) ?_
  intro K hK
  apply Exists.intro
  refine ⟨fun kk ww hk1 hk2 hC => ?_, ?_⟩
  · go_simp
    with_reducible exact rfl
  go_simp
  refine hK _ ?_
  clear hK K
  refine wpStage_yes (by go_simp) ?_
  intro K hK
  apply Exists.intro
  refine ⟨fun kk ww hk1 hk2 hC => ?_, ?_⟩
  · go_simp
    with_reducible exact rfl
  go_simp
  refine hK _ ?_
  clear hK K
  refine wpStage_yes (by go_simp) ?_
  intro K hK
  apply Exists.intro
  refine ⟨fun kk ww hk1 hk2 hC => ?_, ?_⟩
  · have b2 := hC.hb.cell 2
    have b3 := hC.hb.cell 3
    have b4 := hC.hb.cell 4
    have b5 := hC.hb.cell 5
    have b6 := hC.hb.cell 6
    have b7 := hC.hb.cell 7
    have b8 := hC.hb.cell 8
    have b9 := hC.hb.cell 9
    go_simp
    with_reducible exact rfl
  go_simp
  refine hK _ ?_
  clear hK K
  refine wpStage_yes (by go_simp) ?_
  intro K hK
  apply Exists.intro
  refine ⟨fun kk ww hk1 hk2 hC => ?_, ?_⟩
  · go_simp
    with_reducible exact rfl
  go_simp
  refine hK _ ?_
  clear hK K
  refine wpStage_yes (by go_simp) ?_
  intro K hK
  apply Exists.intro
  refine ⟨fun kk ww hk1 hk2 hC => ?_, ?_⟩
  · go_simp
    with_reducible exact rfl
  go_simp
  refine hK _ ?_
  clear hK K
  refine wpStage_yes (by go_simp) ?_
  intro K hK
  apply Exists.intro
  refine ⟨fun kk ww hk1 hk2 hC => ?_, ?_⟩
  · go_simp
    with_reducible exact rfl
  go_simp
  refine hK _ ?_
  clear hK K
  refine wpStage_yes (by go_simp) ?_
  intro K hK
  apply Exists.intro
  refine ⟨fun kk ww hk1 hk2 hC => ?_, ?_⟩
  · have b10 := hC.hb.cell 10
    go_simp
    with_reducible exact rfl
  go_simp
  refine hK _ ?_
  clear hK K
  refine wpStage_yes (by go_simp) ?_
  intro K hK
  apply Exists.intro
  refine ⟨fun kk ww hk1 hk2 hC => ?_, ?_⟩
  · obtain rfl : kk = 0 := by omega
    have hR := hC.k0 rfl
    have r0 := hR.cell 0
    have r1 := hR.cell 1
    have r2 := hR.cell 2
    have r3 := hR.cell 3
    have r4 := hR.cell 4
    have r5 := hR.cell 5
    have r6 := hR.cell 6
    have r7 := hR.cell 7
    have rf0 := hR.frozen 0
    have rf1 := hR.frozen 1
    have rf2 := hR.frozen 2
    have rf3 := hR.frozen 3
    have rf4 := hR.frozen 4
    have rf5 := hR.frozen 5
    have rf6 := hR.frozen 6
    have rf7 := hR.frozen 7
    go_simp
    have hR9 := ((((((((hR).set 0 (.int .i64 s.last.cnt) rfl).set 1 (.int .i64 s.last.flg) rfl).set 2 (.int .i64 s.last.x) rfl).set 3 (.int .i64 s.last.y) rfl).set 4 (.int .i64 s.last.z) rfl).set 5 (.int .i64 s.last.vx) rfl).set 6 (.int .i64 s.last.vy) rfl).set 7 (.int .i64 s.last.vz) rfl
    simp only [List.setIfInBounds_toArray, List.set_cons_succ, List.set_cons_zero] at hR9
    have hz := Hz.out
    exact ⟨rfl, ((((((((hC.hb).other ⟨z, 0, none⟩ (.int .i64 s.last.cnt) hbz).other ⟨z, 1, none⟩ (.int .i64 s.last.flg) hbz).other ⟨z, 2, none⟩ (.int .i64 s.last.x) hbz).other ⟨z, 3, none⟩ (.int .i64 s.last.y) hbz).other ⟨z, 4, none⟩ (.int .i64 s.last.z) hbz).other ⟨z, 5, none⟩ (.int .i64 s.last.vx) hbz).other ⟨z, 6, none⟩ (.int .i64 s.last.vy) hbz).other ⟨z, 7, none⟩ (.int .i64 s.last.vz) hbz, ((((((((hC.x).setCell (p := ⟨z, 0, none⟩) (Or.inr (by simp; omega)) (.int .i64 s.last.cnt)).setCell (p := ⟨z, 1, none⟩) (Or.inr (by simp; omega)) (.int .i64 s.last.flg)).setCell (p := ⟨z, 2, none⟩) (Or.inr (by simp; omega)) (.int .i64 s.last.x)).setCell (p := ⟨z, 3, none⟩) (Or.inr (by simp; omega)) (.int .i64 s.last.y)).setCell (p := ⟨z, 4, none⟩) (Or.inr (by simp; omega)) (.int .i64 s.last.z)).setCell (p := ⟨z, 5, none⟩) (Or.inr (by simp; omega)) (.int .i64 s.last.vx)).setCell (p := ⟨z, 6, none⟩) (Or.inr (by simp; omega)) (.int .i64 s.last.vy)).setCell (p := ⟨z, 7, none⟩) (Or.inr (by simp; omega)) (.int .i64 s.last.vz), fun h => absurd h (by omega), fun _ => hR9⟩
  go_simp
  refine hK _ ?_
  clear hK K
  refine wpStage_yes (by go_simp) ?_
  intro K hK
  apply Exists.intro
  refine ⟨fun kk ww hk1 hk2 hC => ?_, ?_⟩
  · go_simp
    with_reducible exact rfl
  go_simp
  refine hK _ ?_
  clear hK K
  refine wpStage_nil (fun ww hC => ?_)
  have hR9 := hC.k1 (by decide)
  have hX9 := hC.x
  clear hC hB hR hX
  go_wp2_with fail
  have r0 : ww.cell? ⟨z, 0, none⟩ = some (.int .i64 s.last.cnt) := hR9.cell 0
  have r1 : ww.cell? ⟨z, 1, none⟩ = some (.int .i64 s.last.flg) := hR9.cell 1
  have r2 : ww.cell? ⟨z, 2, none⟩ = some (.int .i64 s.last.x) := hR9.cell 2
  have r3 : ww.cell? ⟨z, 3, none⟩ = some (.int .i64 s.last.y) := hR9.cell 3
  have r4 : ww.cell? ⟨z, 4, none⟩ = some (.int .i64 s.last.z) := hR9.cell 4
  have r5 : ww.cell? ⟨z, 5, none⟩ = some (.int .i64 s.last.vx) := hR9.cell 5
  have r6 : ww.cell? ⟨z, 6, none⟩ = some (.int .i64 s.last.vy) := hR9.cell 6
  have r7 : ww.cell? ⟨z, 7, none⟩ = some (.int .i64 s.last.vz) := hR9.cell 7
  exact bodyPost_ret (v := .tuple #[.agg #[.int .i64 s.last.cnt, .int .i64 s.last.flg, .int .i64 s.last.x, .int .i64 s.last.y, .int .i64 s.last.z, .int .i64 s.last.vx, .int .i64 s.last.vy, .int .i64 s.last.vz], .bool s.has]) (by simp [results, Try.results12, go_sem, r0, r1, r2, r3, r4, r5, r6, r7]) rfl ⟨rfl, hX9⟩
end Go.Proofs.Ytmdgikikiijjbaa
