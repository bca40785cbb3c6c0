/- Walk of the law NavNear. -/
import Derived.Test.YtilgjjkppioblaaP06
namespace Go.Proofs.Ytilgjjkppioblaa
open Go.RowKit

theorem n1_iff (a b e : Int) : n1 a b e = true ↔ a - b ≤ e ∧ b - a ≤ e := by simp [n1]
theorem near_iff (a b : NV) (e : Int) : a.near b e = true ↔ (a.x - b.x ≤ e ∧ b.x - a.x ≤ e) ∧ (a.y - b.y ≤ e ∧ b.y - a.y ≤ e) ∧ (a.z - b.z ≤ e ∧ b.z - a.z ≤ e) ∧ (a.vx - b.vx ≤ e ∧ b.vx - a.vx ≤ e) ∧ (a.vy - b.vy ≤ e ∧ b.vy - a.vy ≤ e) ∧ (a.vz - b.vz ≤ e ∧ b.vz - a.vz ≤ e) := by
  unfold NV.near
  simp only [Bool.and_eq_true, n1_iff, and_assoc]
theorem near_swap (a b : NV) (e : Int) : b.near a e = a.near b e := by
  rw [Bool.eq_iff_iff, near_iff, near_iff]; omega
theorem near_more (a b : NV) (e m : Int) (hm : 0 ≤ m) (h : a.near b e = true) : a.near b (e + m) = true := by
  rw [near_iff] at *; omega
theorem near_tri (a b c : NV) (e m : Int) (h : a.near b e = true) (h2 : b.near c m = true) : a.near c (e + m) = true := by
  rw [near_iff] at *; omega

structure C4 (W : World) (z : Nat) (a b c : NV) (k : Nat) (w : World) : Prop where
  A : At w z a.cells
  B : At w (z + 1) b.cells
  D : At w (z + 2) c.cells
  x : Chg [] W w
theorem C4.step {W : World} {z : Nat} {a b c : NV} {k j : Nat} {w w' : World} (h : C4 W z a b c k w) (hX : Chg [] w w') : C4 W z a b c j w' :=
  ⟨hX.at h.A (by simp), hX.at h.B (by simp), hX.at h.D (by simp), h.x.trans hX⟩

set_option maxRecDepth 100000 in
set_option maxHeartbeats 2000000 in
theorem NavNear_walk (W : World) (c1 : Array Value) (x1 : shNV.T) (h1 : shNV.rep W x1 c1.toList) (c2 : Array Value) (x2 : shNV.T) (h2 : shNV.rep W x2 c2.toList) (c3 : Array Value) (x3 : shNV.T) (h3 : shNV.rep W x3 c3.toList)
    (eps : Int) (we : (Lit.int .i64 eps).wf = true) (more : Int) (wm : (Lit.int .i64 more).wf = true) :
    Calls Try.prog 5 #[.agg c1, .agg c2, .agg c3, .int .i64 eps, .int .i64 more] W fun e w' => e = .returned (.bool true) ∧ Below W.heap.size W w' := by
  obtain ⟨rfl, ha⟩ := nv_of h1
  obtain ⟨rfl, hb⟩ := nv_of h2
  obtain ⟨rfl, hc⟩ := nv_of h3
  have he : i64b eps := bounds_i64 we
  have hm : i64b more := bounds_i64 wm
  clear h1 h2 h3 we wm
  generalize toNV x1 = a at *
  generalize toNV x2 = b at *
  generalize toNV x3 = c at *
  have N1 := fun w => near_any w a b eps ha hb he
  have N2 := fun w => rnear_any w a b eps ha hb he
  have N3 := fun w => near_any w b a eps hb ha he
  rw [near_swap] at N3
  have N4 := fun w => near_any w b c more hb hc hm
  have N5 : 0 ≤ eps → eps ≤ 1099511627776 → 0 ≤ more → more ≤ 1099511627776 → ∀ w, Calls Try.prog 15 #[.agg a.cells, .agg b.cells, .int .i64 (eps + more)] w fun e w' => e = .returned (.bool (a.near b (eps + more))) ∧ Chg [] w w' :=
    fun _ _ _ _ w => near_any w a b _ ha hb (by unfold i64b; omega)
  have N6 : 0 ≤ eps → eps ≤ 1099511627776 → 0 ≤ more → more ≤ 1099511627776 → ∀ w, Calls Try.prog 15 #[.agg a.cells, .agg c.cells, .int .i64 (eps + more)] w fun e w' => e = .returned (.bool (a.near c (eps + more))) ∧ Chg [] w w' :=
    fun _ _ _ _ w => near_any w a c _ ha hc (by unfold i64b; omega)
  have M1 : 0 ≤ more → a.near b eps = true → a.near b (eps + more) = true := near_more a b eps more
  have M2 : a.near b eps = true → b.near c more = true → a.near c (eps + more) = true := near_tri a b c eps more
  unfold i64b at he hm
  generalize a.near b eps = p at *
  generalize b.near c more = q at *
  generalize a.near b (eps + more) = r at *
  generalize a.near c (eps + more) = t at *
  have HA : a.cells = #[.int .i64 a.cnt, .int .i64 a.flg, .int .i64 a.x, .int .i64 a.y, .int .i64 a.z, .int .i64 a.vx, .int .i64 a.vy, .int .i64 a.vz] := rfl
  have HB : b.cells = #[.int .i64 b.cnt, .int .i64 b.flg, .int .i64 b.x, .int .i64 b.y, .int .i64 b.z, .int .i64 b.vx, .int .i64 b.vy, .int .i64 b.vz] := rfl
  have HC : c.cells = #[.int .i64 c.cnt, .int .i64 c.flg, .int .i64 c.x, .int .i64 c.y, .int .i64 c.z, .int .i64 c.vx, .int .i64 c.vy, .int .i64 c.vz] := rfl
  rw [HA, HB] at N1 N2 N3 N5
  rw [HB, HC] at N4
  rw [HA, HC] at N6
  rw [HA, HB, HC]
  clear HA HB HC
  go_enter Try.func5, Try.ntmps5
  go_wp2_with fail
  have hA := ((At.new W a.cells 23).alloc (.cells b.cells 23)).alloc (.cells c.cells 23)
  have hB := (At.new (W.alloc (.cells a.cells 23)) b.cells 23).alloc (.cells c.cells 23)
  have hC := At.new ((W.alloc (.cells a.cells 23)).alloc (.cells b.cells 23)) c.cells 23
  have hX : Chg [] W (((W.alloc (.cells a.cells 23)).alloc (.cells b.cells 23)).alloc (.cells c.cells 23)) := (((Chg.refl _ _).alloc _).alloc _).alloc _
  rw [show (W.alloc (.cells a.cells 23)).heap.size = W.heap.size + 1 by simp] at hB
  rw [show ((W.alloc (.cells a.cells 23)).alloc (.cells b.cells 23)).heap.size = W.heap.size + 2 by simp] at hC
  have hC0 : C4 W W.heap.size a b c 0 (((W.alloc (.cells a.cells 23)).alloc (.cells b.cells 23)).alloc (.cells c.cells 23)).drew := ⟨hA.drew, hB.drew, hC.drew, hX.drew⟩
  clear hA hB hC hX
  generalize W.heap.size = z at *
  refine wp_region_stage (C4 W z a b c) [0, 6, 10, 17, 21] [(0, 0, true), (1, 1, false), (1, 1, false), (1, 1, false), (1, 1, false), (1, 1, false), (1, 1, true), (1, 2, false), (1, 2, false), (1, 2, false), (2, 2, true), (3, 3, false), (3, 3, false), (3, 3, false), (3, 3, false), (3, 3, false), (3, 3, false), (3, 3, true), (3, 4, false), (3, 4, false), (3, 4, false), (4, 4, true), (5, 5, false), (5, 5, false)]
    (by kernel_rfl) (by kernel_rfl) (by kernel_rfl) (hC0) ?_
  simp only [List.zip_cons_cons, List.zip_nil_right]
  refine wpStage_yes (by go_simp) ?_
  intro K hK
  apply Exists.intro
  refine ⟨fun kk w2 hk1 hk2 hC => ?_, ?_⟩
  · go_simp
    go_at_call 11; refine (awake06 _).mono ?_; rintro e w' ⟨rfl, hX⟩
    exact ⟨rfl, hC.step hX⟩
  go_simp
  refine hK _ ?_
  clear hK K
  refine wpStage_yes (by go_simp) ?_
  intro K hK
  apply Exists.intro
  refine ⟨fun kk w2 hk1 hk2 hC => ?_, ?_⟩
  · go_simp
    with_reducible exact rfl
  go_simp
  refine hK _ ?_
  clear hK K
  refine wpStage_yes (by go_simp) ?_
  intro K hK
  apply Exists.intro
  refine ⟨fun kk w2 hk1 hk2 hC => ?_, ?_⟩
  · go_simp
    with_reducible exact rfl
  go_simp
  refine hK _ ?_
  clear hK K
  refine wpStage_yes (by go_simp) ?_
  intro K hK
  apply Exists.intro
  refine ⟨fun kk w2 hk1 hk2 hC => ?_, ?_⟩
  · have a0 := hC.A.cell 0; have a1 := hC.A.cell 1; have a2 := hC.A.cell 2; have a3 := hC.A.cell 3; have a4 := hC.A.cell 4; have a5 := hC.A.cell 5; have a6 := hC.A.cell 6; have a7 := hC.A.cell 7
    simp only [NV.cells] at a0 a1 a2 a3 a4 a5 a6 a7
    go_simp
    with_reducible exact rfl
  go_simp
  refine hK _ ?_
  clear hK K
  refine wpStage_yes (by go_simp) ?_
  intro K hK
  apply Exists.intro
  refine ⟨fun kk w2 hk1 hk2 hC => ?_, ?_⟩
  · have b0 := hC.B.cell 0; have b1 := hC.B.cell 1; have b2 := hC.B.cell 2; have b3 := hC.B.cell 3; have b4 := hC.B.cell 4; have b5 := hC.B.cell 5; have b6 := hC.B.cell 6; have b7 := hC.B.cell 7
    simp only [NV.cells] at b0 b1 b2 b3 b4 b5 b6 b7
    go_simp
    with_reducible exact rfl
  go_simp
  refine hK _ ?_
  clear hK K
  refine wpStage_yes (by go_simp) ?_
  intro K hK
  apply Exists.intro
  refine ⟨fun kk w2 hk1 hk2 hC => ?_, ?_⟩
  · go_simp
    with_reducible exact rfl
  go_simp
  refine hK _ ?_
  clear hK K
  refine wpStage_yes (by go_simp) ?_
  intro K hK
  apply Exists.intro
  refine ⟨fun kk w2 hk1 hk2 hC => ?_, ?_⟩
  · go_simp
    go_at_call 15; refine (N1 _).mono ?_; rintro e w' ⟨rfl, hX⟩
    exact ⟨rfl, hC.step hX⟩
  go_simp
  refine hK _ ?_
  clear hK K
  refine wpStage_yes (by go_simp) ?_
  intro K hK
  apply Exists.intro
  refine ⟨fun kk w2 hk1 hk2 hC => ?_, ?_⟩
  · have a0 := hC.A.cell 0; have a1 := hC.A.cell 1; have a2 := hC.A.cell 2; have a3 := hC.A.cell 3; have a4 := hC.A.cell 4; have a5 := hC.A.cell 5; have a6 := hC.A.cell 6; have a7 := hC.A.cell 7
    simp only [NV.cells] at a0 a1 a2 a3 a4 a5 a6 a7
    go_simp
    with_reducible exact rfl
  go_simp
  refine hK _ ?_
  clear hK K
  refine wpStage_yes (by go_simp) ?_
  intro K hK
  apply Exists.intro
  refine ⟨fun kk w2 hk1 hk2 hC => ?_, ?_⟩
  · have b0 := hC.B.cell 0; have b1 := hC.B.cell 1; have b2 := hC.B.cell 2; have b3 := hC.B.cell 3; have b4 := hC.B.cell 4; have b5 := hC.B.cell 5; have b6 := hC.B.cell 6; have b7 := hC.B.cell 7
    simp only [NV.cells] at b0 b1 b2 b3 b4 b5 b6 b7
    go_simp
    with_reducible exact rfl
  go_simp
  refine hK _ ?_
  clear hK K
  refine wpStage_yes (by go_simp) ?_
  intro K hK
  apply Exists.intro
  refine ⟨fun kk w2 hk1 hk2 hC => ?_, ?_⟩
  · go_simp
    with_reducible exact rfl
  go_simp
  refine hK _ ?_
  clear hK K
  refine wpStage_yes (by go_simp) ?_
  intro K hK
  apply Exists.intro
  refine ⟨fun kk w2 hk1 hk2 hC => ?_, ?_⟩
  · go_simp
    go_at_call 16; refine (N2 _).mono ?_; rintro e w' ⟨rfl, hX⟩
    exact ⟨rfl, hC.step hX⟩
  go_simp
  refine hK _ ?_
  clear hK K
  refine wpStage_yes (by go_simp) ?_
  intro K hK
  apply Exists.intro
  refine ⟨fun kk w2 hk1 hk2 hC => ?_, ?_⟩
  · go_simp
    with_reducible exact rfl
  go_simp
  refine hK _ ?_
  clear hK K
  refine wpStage_yes (by go_simp) ?_
  intro K hK
  apply Exists.intro
  refine ⟨fun kk w2 hk1 hk2 hC => ?_, ?_⟩
  · go_simp
    with_reducible exact rfl
  go_simp
  refine hK _ ?_
  clear hK K
  refine wpStage_yes (by go_simp) ?_
  intro K hK
  apply Exists.intro
  refine ⟨fun kk w2 hk1 hk2 hC => ?_, ?_⟩
  · go_simp
    with_reducible exact rfl
  go_simp
  refine hK _ ?_
  clear hK K
  refine wpStage_yes (by go_simp) ?_
  intro K hK
  apply Exists.intro
  refine ⟨fun kk w2 hk1 hk2 hC => ?_, ?_⟩
  · have a0 := hC.A.cell 0; have a1 := hC.A.cell 1; have a2 := hC.A.cell 2; have a3 := hC.A.cell 3; have a4 := hC.A.cell 4; have a5 := hC.A.cell 5; have a6 := hC.A.cell 6; have a7 := hC.A.cell 7
    simp only [NV.cells] at a0 a1 a2 a3 a4 a5 a6 a7
    go_simp
    with_reducible exact rfl
  go_simp
  refine hK _ ?_
  clear hK K
  refine wpStage_yes (by go_simp) ?_
  intro K hK
  apply Exists.intro
  refine ⟨fun kk w2 hk1 hk2 hC => ?_, ?_⟩
  · have b0 := hC.B.cell 0; have b1 := hC.B.cell 1; have b2 := hC.B.cell 2; have b3 := hC.B.cell 3; have b4 := hC.B.cell 4; have b5 := hC.B.cell 5; have b6 := hC.B.cell 6; have b7 := hC.B.cell 7
    simp only [NV.cells] at b0 b1 b2 b3 b4 b5 b6 b7
    go_simp
    with_reducible exact rfl
  go_simp
  refine hK _ ?_
  clear hK K
  refine wpStage_yes (by go_simp) ?_
  intro K hK
  apply Exists.intro
  refine ⟨fun kk w2 hk1 hk2 hC => ?_, ?_⟩
  · go_simp
    with_reducible exact rfl
  go_simp
  refine hK _ ?_
  clear hK K
  refine wpStage_yes (by go_simp) ?_
  intro K hK
  apply Exists.intro
  refine ⟨fun kk w2 hk1 hk2 hC => ?_, ?_⟩
  · go_simp
    go_at_call 15; refine (N1 _).mono ?_; rintro e w' ⟨rfl, hX⟩
    exact ⟨rfl, hC.step hX⟩
  go_simp
  refine hK _ ?_
  clear hK K
  refine wpStage_yes (by go_simp) ?_
  intro K hK
  apply Exists.intro
  refine ⟨fun kk w2 hk1 hk2 hC => ?_, ?_⟩
  · have b0 := hC.B.cell 0; have b1 := hC.B.cell 1; have b2 := hC.B.cell 2; have b3 := hC.B.cell 3; have b4 := hC.B.cell 4; have b5 := hC.B.cell 5; have b6 := hC.B.cell 6; have b7 := hC.B.cell 7
    simp only [NV.cells] at b0 b1 b2 b3 b4 b5 b6 b7
    go_simp
    with_reducible exact rfl
  go_simp
  refine hK _ ?_
  clear hK K
  refine wpStage_yes (by go_simp) ?_
  intro K hK
  apply Exists.intro
  refine ⟨fun kk w2 hk1 hk2 hC => ?_, ?_⟩
  · have a0 := hC.A.cell 0; have a1 := hC.A.cell 1; have a2 := hC.A.cell 2; have a3 := hC.A.cell 3; have a4 := hC.A.cell 4; have a5 := hC.A.cell 5; have a6 := hC.A.cell 6; have a7 := hC.A.cell 7
    simp only [NV.cells] at a0 a1 a2 a3 a4 a5 a6 a7
    go_simp
    with_reducible exact rfl
  go_simp
  refine hK _ ?_
  clear hK K
  refine wpStage_yes (by go_simp) ?_
  intro K hK
  apply Exists.intro
  refine ⟨fun kk w2 hk1 hk2 hC => ?_, ?_⟩
  · go_simp
    with_reducible exact rfl
  go_simp
  refine hK _ ?_
  clear hK K
  refine wpStage_yes (by go_simp) ?_
  intro K hK
  apply Exists.intro
  refine ⟨fun kk w2 hk1 hk2 hC => ?_, ?_⟩
  · go_simp
    go_at_call 15; refine (N3 _).mono ?_; rintro e w' ⟨rfl, hX⟩
    exact ⟨rfl, hC.step hX⟩
  go_simp
  refine hK _ ?_
  clear hK K
  refine wpStage_yes (by go_simp) ?_
  intro K hK
  apply Exists.intro
  refine ⟨fun kk w2 hk1 hk2 hC => ?_, ?_⟩
  · go_simp
    with_reducible exact rfl
  go_simp
  refine hK _ ?_
  clear hK K
  refine wpStage_yes (by go_simp) ?_
  intro K hK
  apply Exists.intro
  refine ⟨fun kk w2 hk1 hk2 hC => ?_, ?_⟩
  · go_simp
    with_reducible exact rfl
  go_simp
  refine hK _ ?_
  clear hK K
  refine wpStage_nil (fun w2 hC => ?_)
  clear hC0
  by_cases g : eps < 0 ∨ 1099511627776 < eps ∨ more < 0 ∨ 1099511627776 < more
  · have hX := hC.x
    clear hC N1 N2 N3 N4 N5 N6 M1 M2
    rcases g with g | g | g | g <;> (go_wp2; all_goals (go_returns; exact ⟨rfl, Chg.to_below hX⟩))
  replace N5 := N5 (by omega) (by omega) (by omega) (by omega)
  replace N6 := N6 (by omega) (by omega) (by omega) (by omega)
  have g1 : 0 ≤ eps := by omega
  have g2 : eps ≤ 1099511627776 := by omega
  have g3 : 0 ≤ more := by omega
  have g4 : more ≤ 1099511627776 := by omega
  replace M1 := M1 g3
  clear g
  cases p
  · clear M1 M2
    replace hC : C4 W z a b c 0 w2 := hC.step (Chg.refl _ _)
    have a0 := hC.A.cell 0; have a1 := hC.A.cell 1; have a2 := hC.A.cell 2; have a3 := hC.A.cell 3; have a4 := hC.A.cell 4; have a5 := hC.A.cell 5; have a6 := hC.A.cell 6; have a7 := hC.A.cell 7
    simp only [NV.cells] at a0 a1 a2 a3 a4 a5 a6 a7
    have b0 := hC.B.cell 0; have b1 := hC.B.cell 1; have b2 := hC.B.cell 2; have b3 := hC.B.cell 3; have b4 := hC.B.cell 4; have b5 := hC.B.cell 5; have b6 := hC.B.cell 6; have b7 := hC.B.cell 7
    simp only [NV.cells] at b0 b1 b2 b3 b4 b5 b6 b7
    have d0 := hC.D.cell 0; have d1 := hC.D.cell 1; have d2 := hC.D.cell 2; have d3 := hC.D.cell 3; have d4 := hC.D.cell 4; have d5 := hC.D.cell 5; have d6 := hC.D.cell 6; have d7 := hC.D.cell 7
    simp only [NV.cells] at d0 d1 d2 d3 d4 d5 d6 d7
    go_wp2_with fail
    refine (N1 _).mono ?_; rintro e w3 ⟨rfl, hX⟩
    replace hC : C4 W z a b c 0 w3 := hC.step hX
    clear hX a0 a1 a2 a3 a4 a5 a6 a7 b0 b1 b2 b3 b4 b5 b6 b7 d0 d1 d2 d3 d4 d5 d6 d7
    have a0 := hC.A.cell 0; have a1 := hC.A.cell 1; have a2 := hC.A.cell 2; have a3 := hC.A.cell 3; have a4 := hC.A.cell 4; have a5 := hC.A.cell 5; have a6 := hC.A.cell 6; have a7 := hC.A.cell 7
    simp only [NV.cells] at a0 a1 a2 a3 a4 a5 a6 a7
    have b0 := hC.B.cell 0; have b1 := hC.B.cell 1; have b2 := hC.B.cell 2; have b3 := hC.B.cell 3; have b4 := hC.B.cell 4; have b5 := hC.B.cell 5; have b6 := hC.B.cell 6; have b7 := hC.B.cell 7
    simp only [NV.cells] at b0 b1 b2 b3 b4 b5 b6 b7
    have d0 := hC.D.cell 0; have d1 := hC.D.cell 1; have d2 := hC.D.cell 2; have d3 := hC.D.cell 3; have d4 := hC.D.cell 4; have d5 := hC.D.cell 5; have d6 := hC.D.cell 6; have d7 := hC.D.cell 7
    simp only [NV.cells] at d0 d1 d2 d3 d4 d5 d6 d7
    go_wp2_with fail
    refine (N1 _).mono ?_; rintro e w5 ⟨rfl, hX⟩
    replace hC : C4 W z a b c 0 w5 := hC.step hX
    clear hX a0 a1 a2 a3 a4 a5 a6 a7 b0 b1 b2 b3 b4 b5 b6 b7 d0 d1 d2 d3 d4 d5 d6 d7
    have a0 := hC.A.cell 0; have a1 := hC.A.cell 1; have a2 := hC.A.cell 2; have a3 := hC.A.cell 3; have a4 := hC.A.cell 4; have a5 := hC.A.cell 5; have a6 := hC.A.cell 6; have a7 := hC.A.cell 7
    simp only [NV.cells] at a0 a1 a2 a3 a4 a5 a6 a7
    have b0 := hC.B.cell 0; have b1 := hC.B.cell 1; have b2 := hC.B.cell 2; have b3 := hC.B.cell 3; have b4 := hC.B.cell 4; have b5 := hC.B.cell 5; have b6 := hC.B.cell 6; have b7 := hC.B.cell 7
    simp only [NV.cells] at b0 b1 b2 b3 b4 b5 b6 b7
    have d0 := hC.D.cell 0; have d1 := hC.D.cell 1; have d2 := hC.D.cell 2; have d3 := hC.D.cell 3; have d4 := hC.D.cell 4; have d5 := hC.D.cell 5; have d6 := hC.D.cell 6; have d7 := hC.D.cell 7
    simp only [NV.cells] at d0 d1 d2 d3 d4 d5 d6 d7
    go_wp2
    go_returns
    exact ⟨rfl, Chg.to_below hC.x⟩
  · obtain rfl : r = true := M1 rfl
    cases q
    · clear M1 M2
      replace hC : C4 W z a b c 0 w2 := hC.step (Chg.refl _ _)
      have a0 := hC.A.cell 0; have a1 := hC.A.cell 1; have a2 := hC.A.cell 2; have a3 := hC.A.cell 3; have a4 := hC.A.cell 4; have a5 := hC.A.cell 5; have a6 := hC.A.cell 6; have a7 := hC.A.cell 7
      simp only [NV.cells] at a0 a1 a2 a3 a4 a5 a6 a7
      have b0 := hC.B.cell 0; have b1 := hC.B.cell 1; have b2 := hC.B.cell 2; have b3 := hC.B.cell 3; have b4 := hC.B.cell 4; have b5 := hC.B.cell 5; have b6 := hC.B.cell 6; have b7 := hC.B.cell 7
      simp only [NV.cells] at b0 b1 b2 b3 b4 b5 b6 b7
      have d0 := hC.D.cell 0; have d1 := hC.D.cell 1; have d2 := hC.D.cell 2; have d3 := hC.D.cell 3; have d4 := hC.D.cell 4; have d5 := hC.D.cell 5; have d6 := hC.D.cell 6; have d7 := hC.D.cell 7
      simp only [NV.cells] at d0 d1 d2 d3 d4 d5 d6 d7
      go_wp2_with fail
      refine (N1 _).mono ?_; rintro e w3 ⟨rfl, hX⟩
      replace hC : C4 W z a b c 0 w3 := hC.step hX
      clear hX a0 a1 a2 a3 a4 a5 a6 a7 b0 b1 b2 b3 b4 b5 b6 b7 d0 d1 d2 d3 d4 d5 d6 d7
      have a0 := hC.A.cell 0; have a1 := hC.A.cell 1; have a2 := hC.A.cell 2; have a3 := hC.A.cell 3; have a4 := hC.A.cell 4; have a5 := hC.A.cell 5; have a6 := hC.A.cell 6; have a7 := hC.A.cell 7
      simp only [NV.cells] at a0 a1 a2 a3 a4 a5 a6 a7
      have b0 := hC.B.cell 0; have b1 := hC.B.cell 1; have b2 := hC.B.cell 2; have b3 := hC.B.cell 3; have b4 := hC.B.cell 4; have b5 := hC.B.cell 5; have b6 := hC.B.cell 6; have b7 := hC.B.cell 7
      simp only [NV.cells] at b0 b1 b2 b3 b4 b5 b6 b7
      have d0 := hC.D.cell 0; have d1 := hC.D.cell 1; have d2 := hC.D.cell 2; have d3 := hC.D.cell 3; have d4 := hC.D.cell 4; have d5 := hC.D.cell 5; have d6 := hC.D.cell 6; have d7 := hC.D.cell 7
      simp only [NV.cells] at d0 d1 d2 d3 d4 d5 d6 d7
      go_wp2_with fail
      refine (N5 _).mono ?_; rintro e w4 ⟨rfl, hX⟩
      replace hC : C4 W z a b c 0 w4 := hC.step hX
      clear hX a0 a1 a2 a3 a4 a5 a6 a7 b0 b1 b2 b3 b4 b5 b6 b7 d0 d1 d2 d3 d4 d5 d6 d7
      have a0 := hC.A.cell 0; have a1 := hC.A.cell 1; have a2 := hC.A.cell 2; have a3 := hC.A.cell 3; have a4 := hC.A.cell 4; have a5 := hC.A.cell 5; have a6 := hC.A.cell 6; have a7 := hC.A.cell 7
      simp only [NV.cells] at a0 a1 a2 a3 a4 a5 a6 a7
      have b0 := hC.B.cell 0; have b1 := hC.B.cell 1; have b2 := hC.B.cell 2; have b3 := hC.B.cell 3; have b4 := hC.B.cell 4; have b5 := hC.B.cell 5; have b6 := hC.B.cell 6; have b7 := hC.B.cell 7
      simp only [NV.cells] at b0 b1 b2 b3 b4 b5 b6 b7
      have d0 := hC.D.cell 0; have d1 := hC.D.cell 1; have d2 := hC.D.cell 2; have d3 := hC.D.cell 3; have d4 := hC.D.cell 4; have d5 := hC.D.cell 5; have d6 := hC.D.cell 6; have d7 := hC.D.cell 7
      simp only [NV.cells] at d0 d1 d2 d3 d4 d5 d6 d7
      go_wp2_with fail
      refine (N1 _).mono ?_; rintro e w5 ⟨rfl, hX⟩
      replace hC : C4 W z a b c 0 w5 := hC.step hX
      clear hX a0 a1 a2 a3 a4 a5 a6 a7 b0 b1 b2 b3 b4 b5 b6 b7 d0 d1 d2 d3 d4 d5 d6 d7
      have a0 := hC.A.cell 0; have a1 := hC.A.cell 1; have a2 := hC.A.cell 2; have a3 := hC.A.cell 3; have a4 := hC.A.cell 4; have a5 := hC.A.cell 5; have a6 := hC.A.cell 6; have a7 := hC.A.cell 7
      simp only [NV.cells] at a0 a1 a2 a3 a4 a5 a6 a7
      have b0 := hC.B.cell 0; have b1 := hC.B.cell 1; have b2 := hC.B.cell 2; have b3 := hC.B.cell 3; have b4 := hC.B.cell 4; have b5 := hC.B.cell 5; have b6 := hC.B.cell 6; have b7 := hC.B.cell 7
      simp only [NV.cells] at b0 b1 b2 b3 b4 b5 b6 b7
      have d0 := hC.D.cell 0; have d1 := hC.D.cell 1; have d2 := hC.D.cell 2; have d3 := hC.D.cell 3; have d4 := hC.D.cell 4; have d5 := hC.D.cell 5; have d6 := hC.D.cell 6; have d7 := hC.D.cell 7
      simp only [NV.cells] at d0 d1 d2 d3 d4 d5 d6 d7
      go_wp2_with fail
      refine (N4 _).mono ?_; rintro e w6 ⟨rfl, hX⟩
      replace hC : C4 W z a b c 0 w6 := hC.step hX
      clear hX a0 a1 a2 a3 a4 a5 a6 a7 b0 b1 b2 b3 b4 b5 b6 b7 d0 d1 d2 d3 d4 d5 d6 d7
      have a0 := hC.A.cell 0; have a1 := hC.A.cell 1; have a2 := hC.A.cell 2; have a3 := hC.A.cell 3; have a4 := hC.A.cell 4; have a5 := hC.A.cell 5; have a6 := hC.A.cell 6; have a7 := hC.A.cell 7
      simp only [NV.cells] at a0 a1 a2 a3 a4 a5 a6 a7
      have b0 := hC.B.cell 0; have b1 := hC.B.cell 1; have b2 := hC.B.cell 2; have b3 := hC.B.cell 3; have b4 := hC.B.cell 4; have b5 := hC.B.cell 5; have b6 := hC.B.cell 6; have b7 := hC.B.cell 7
      simp only [NV.cells] at b0 b1 b2 b3 b4 b5 b6 b7
      have d0 := hC.D.cell 0; have d1 := hC.D.cell 1; have d2 := hC.D.cell 2; have d3 := hC.D.cell 3; have d4 := hC.D.cell 4; have d5 := hC.D.cell 5; have d6 := hC.D.cell 6; have d7 := hC.D.cell 7
      simp only [NV.cells] at d0 d1 d2 d3 d4 d5 d6 d7
      go_wp2
      go_returns
      exact ⟨rfl, Chg.to_below hC.x⟩
    · obtain rfl : t = true := M2 rfl rfl
      clear M1 M2
      replace hC : C4 W z a b c 0 w2 := hC.step (Chg.refl _ _)
      have a0 := hC.A.cell 0; have a1 := hC.A.cell 1; have a2 := hC.A.cell 2; have a3 := hC.A.cell 3; have a4 := hC.A.cell 4; have a5 := hC.A.cell 5; have a6 := hC.A.cell 6; have a7 := hC.A.cell 7
      simp only [NV.cells] at a0 a1 a2 a3 a4 a5 a6 a7
      have b0 := hC.B.cell 0; have b1 := hC.B.cell 1; have b2 := hC.B.cell 2; have b3 := hC.B.cell 3; have b4 := hC.B.cell 4; have b5 := hC.B.cell 5; have b6 := hC.B.cell 6; have b7 := hC.B.cell 7
      simp only [NV.cells] at b0 b1 b2 b3 b4 b5 b6 b7
      have d0 := hC.D.cell 0; have d1 := hC.D.cell 1; have d2 := hC.D.cell 2; have d3 := hC.D.cell 3; have d4 := hC.D.cell 4; have d5 := hC.D.cell 5; have d6 := hC.D.cell 6; have d7 := hC.D.cell 7
      simp only [NV.cells] at d0 d1 d2 d3 d4 d5 d6 d7
      go_wp2_with fail
      refine (N1 _).mono ?_; rintro e w3 ⟨rfl, hX⟩
      replace hC : C4 W z a b c 0 w3 := hC.step hX
      clear hX a0 a1 a2 a3 a4 a5 a6 a7 b0 b1 b2 b3 b4 b5 b6 b7 d0 d1 d2 d3 d4 d5 d6 d7
      have a0 := hC.A.cell 0; have a1 := hC.A.cell 1; have a2 := hC.A.cell 2; have a3 := hC.A.cell 3; have a4 := hC.A.cell 4; have a5 := hC.A.cell 5; have a6 := hC.A.cell 6; have a7 := hC.A.cell 7
      simp only [NV.cells] at a0 a1 a2 a3 a4 a5 a6 a7
      have b0 := hC.B.cell 0; have b1 := hC.B.cell 1; have b2 := hC.B.cell 2; have b3 := hC.B.cell 3; have b4 := hC.B.cell 4; have b5 := hC.B.cell 5; have b6 := hC.B.cell 6; have b7 := hC.B.cell 7
      simp only [NV.cells] at b0 b1 b2 b3 b4 b5 b6 b7
      have d0 := hC.D.cell 0; have d1 := hC.D.cell 1; have d2 := hC.D.cell 2; have d3 := hC.D.cell 3; have d4 := hC.D.cell 4; have d5 := hC.D.cell 5; have d6 := hC.D.cell 6; have d7 := hC.D.cell 7
      simp only [NV.cells] at d0 d1 d2 d3 d4 d5 d6 d7
      go_wp2_with fail
      refine (N5 _).mono ?_; rintro e w4 ⟨rfl, hX⟩
      replace hC : C4 W z a b c 0 w4 := hC.step hX
      clear hX a0 a1 a2 a3 a4 a5 a6 a7 b0 b1 b2 b3 b4 b5 b6 b7 d0 d1 d2 d3 d4 d5 d6 d7
      have a0 := hC.A.cell 0; have a1 := hC.A.cell 1; have a2 := hC.A.cell 2; have a3 := hC.A.cell 3; have a4 := hC.A.cell 4; have a5 := hC.A.cell 5; have a6 := hC.A.cell 6; have a7 := hC.A.cell 7
      simp only [NV.cells] at a0 a1 a2 a3 a4 a5 a6 a7
      have b0 := hC.B.cell 0; have b1 := hC.B.cell 1; have b2 := hC.B.cell 2; have b3 := hC.B.cell 3; have b4 := hC.B.cell 4; have b5 := hC.B.cell 5; have b6 := hC.B.cell 6; have b7 := hC.B.cell 7
      simp only [NV.cells] at b0 b1 b2 b3 b4 b5 b6 b7
      have d0 := hC.D.cell 0; have d1 := hC.D.cell 1; have d2 := hC.D.cell 2; have d3 := hC.D.cell 3; have d4 := hC.D.cell 4; have d5 := hC.D.cell 5; have d6 := hC.D.cell 6; have d7 := hC.D.cell 7
      simp only [NV.cells] at d0 d1 d2 d3 d4 d5 d6 d7
      go_wp2_with fail
      refine (N1 _).mono ?_; rintro e w5 ⟨rfl, hX⟩
      replace hC : C4 W z a b c 0 w5 := hC.step hX
      clear hX a0 a1 a2 a3 a4 a5 a6 a7 b0 b1 b2 b3 b4 b5 b6 b7 d0 d1 d2 d3 d4 d5 d6 d7
      have a0 := hC.A.cell 0; have a1 := hC.A.cell 1; have a2 := hC.A.cell 2; have a3 := hC.A.cell 3; have a4 := hC.A.cell 4; have a5 := hC.A.cell 5; have a6 := hC.A.cell 6; have a7 := hC.A.cell 7
      simp only [NV.cells] at a0 a1 a2 a3 a4 a5 a6 a7
      have b0 := hC.B.cell 0; have b1 := hC.B.cell 1; have b2 := hC.B.cell 2; have b3 := hC.B.cell 3; have b4 := hC.B.cell 4; have b5 := hC.B.cell 5; have b6 := hC.B.cell 6; have b7 := hC.B.cell 7
      simp only [NV.cells] at b0 b1 b2 b3 b4 b5 b6 b7
      have d0 := hC.D.cell 0; have d1 := hC.D.cell 1; have d2 := hC.D.cell 2; have d3 := hC.D.cell 3; have d4 := hC.D.cell 4; have d5 := hC.D.cell 5; have d6 := hC.D.cell 6; have d7 := hC.D.cell 7
      simp only [NV.cells] at d0 d1 d2 d3 d4 d5 d6 d7
      go_wp2_with fail
      refine (N4 _).mono ?_; rintro e w6 ⟨rfl, hX⟩
      replace hC : C4 W z a b c 0 w6 := hC.step hX
      clear hX a0 a1 a2 a3 a4 a5 a6 a7 b0 b1 b2 b3 b4 b5 b6 b7 d0 d1 d2 d3 d4 d5 d6 d7
      have a0 := hC.A.cell 0; have a1 := hC.A.cell 1; have a2 := hC.A.cell 2; have a3 := hC.A.cell 3; have a4 := hC.A.cell 4; have a5 := hC.A.cell 5; have a6 := hC.A.cell 6; have a7 := hC.A.cell 7
      simp only [NV.cells] at a0 a1 a2 a3 a4 a5 a6 a7
      have b0 := hC.B.cell 0; have b1 := hC.B.cell 1; have b2 := hC.B.cell 2; have b3 := hC.B.cell 3; have b4 := hC.B.cell 4; have b5 := hC.B.cell 5; have b6 := hC.B.cell 6; have b7 := hC.B.cell 7
      simp only [NV.cells] at b0 b1 b2 b3 b4 b5 b6 b7
      have d0 := hC.D.cell 0; have d1 := hC.D.cell 1; have d2 := hC.D.cell 2; have d3 := hC.D.cell 3; have d4 := hC.D.cell 4; have d5 := hC.D.cell 5; have d6 := hC.D.cell 6; have d7 := hC.D.cell 7
      simp only [NV.cells] at d0 d1 d2 d3 d4 d5 d6 d7
      go_wp2_with fail
      refine (N6 _).mono ?_; rintro e w7 ⟨rfl, hX⟩
      replace hC : C4 W z a b c 0 w7 := hC.step hX
      clear hX a0 a1 a2 a3 a4 a5 a6 a7 b0 b1 b2 b3 b4 b5 b6 b7 d0 d1 d2 d3 d4 d5 d6 d7
      have a0 := hC.A.cell 0; have a1 := hC.A.cell 1; have a2 := hC.A.cell 2; have a3 := hC.A.cell 3; have a4 := hC.A.cell 4; have a5 := hC.A.cell 5; have a6 := hC.A.cell 6; have a7 := hC.A.cell 7
      simp only [NV.cells] at a0 a1 a2 a3 a4 a5 a6 a7
      have b0 := hC.B.cell 0; have b1 := hC.B.cell 1; have b2 := hC.B.cell 2; have b3 := hC.B.cell 3; have b4 := hC.B.cell 4; have b5 := hC.B.cell 5; have b6 := hC.B.cell 6; have b7 := hC.B.cell 7
      simp only [NV.cells] at b0 b1 b2 b3 b4 b5 b6 b7
      have d0 := hC.D.cell 0; have d1 := hC.D.cell 1; have d2 := hC.D.cell 2; have d3 := hC.D.cell 3; have d4 := hC.D.cell 4; have d5 := hC.D.cell 5; have d6 := hC.D.cell 6; have d7 := hC.D.cell 7
      simp only [NV.cells] at d0 d1 d2 d3 d4 d5 d6 d7
      go_wp2
      go_returns
      exact ⟨rfl, Chg.to_below hC.x⟩
end Go.Proofs.Ytilgjjkppioblaa
