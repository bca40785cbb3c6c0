/- Package apogeeref06: which navs are near. -/
import Derived.Test.YtilgjjkppioblaaNavN
namespace Go.Proofs.Ytilgjjkppioblaa
open Go.RowKit

structure CNear (W : World) (z : Nat) (a b : NV) (k : Nat) (w : World) : Prop where
  A : At w z a.cells
  B : At w (z + 1) b.cells
  x : Chg [] W w
  s0 : k = 0 → w.heap.size = z + 2
  s1 : k = 1 → w.heap.size = z + 4
  l : 1 ≤ k → At w (z + 3) a.six
  m : 2 ≤ k → At w (z + 5) b.six

set_option maxRecDepth 100000 in
set_option maxHeartbeats 600000 in
theorem rnear_any (w : World) (a b : NV) (eps : Int) (ha : a.bd) (hb : b.bd) (he2 : i64b eps) :
    Calls Try.prog 16 #[.agg a.cells, .agg b.cells, .int .i64 eps] w fun e w' => e = .returned (.bool (a.near b eps)) ∧ Chg [] w w' := by
  have eA : a.cells = #[.int .i64 a.cnt, .int .i64 a.flg, .int .i64 a.x, .int .i64 a.y, .int .i64 a.z, .int .i64 a.vx, .int .i64 a.vy, .int .i64 a.vz] := rfl
  have eB : b.cells = #[.int .i64 b.cnt, .int .i64 b.flg, .int .i64 b.x, .int .i64 b.y, .int .i64 b.z, .int .i64 b.vx, .int .i64 b.vy, .int .i64 b.vz] := rfl
  rw [eA, eB]
  clear eA eB
  have hneg := Lib.hid (fun h : eps < 0 => NV.near_neg a b h)
  have hn := Lib.hid (show a.near b eps = (n1 a.x b.x eps && n1 a.y b.y eps && n1 a.z b.z eps && n1 a.vx b.vx eps && n1 a.vy b.vy eps && n1 a.vz b.vz eps) from rfl)
  have W0 : 0 ≤ eps → ∀ w, Calls Try.prog 26 #[.int .i64 a.x, .int .i64 b.x, .int .i64 eps] w fun e w' => e = .returned (.bool (n1 a.x b.x eps)) ∧ w = w' := fun hz w => apart_any w _ _ _ ha.x hb.x hz he2
  have W1 : 0 ≤ eps → ∀ w, Calls Try.prog 26 #[.int .i64 a.y, .int .i64 b.y, .int .i64 eps] w fun e w' => e = .returned (.bool (n1 a.y b.y eps)) ∧ w = w' := fun hz w => apart_any w _ _ _ ha.y hb.y hz he2
  have W2 : 0 ≤ eps → ∀ w, Calls Try.prog 26 #[.int .i64 a.z, .int .i64 b.z, .int .i64 eps] w fun e w' => e = .returned (.bool (n1 a.z b.z eps)) ∧ w = w' := fun hz w => apart_any w _ _ _ ha.z hb.z hz he2
  have W3 : 0 ≤ eps → ∀ w, Calls Try.prog 26 #[.int .i64 a.vx, .int .i64 b.vx, .int .i64 eps] w fun e w' => e = .returned (.bool (n1 a.vx b.vx eps)) ∧ w = w' := fun hz w => apart_any w _ _ _ ha.vx hb.vx hz he2
  have W4 : 0 ≤ eps → ∀ w, Calls Try.prog 26 #[.int .i64 a.vy, .int .i64 b.vy, .int .i64 eps] w fun e w' => e = .returned (.bool (n1 a.vy b.vy eps)) ∧ w = w' := fun hz w => apart_any w _ _ _ ha.vy hb.vy hz he2
  have W5 : 0 ≤ eps → ∀ w, Calls Try.prog 26 #[.int .i64 a.vz, .int .i64 b.vz, .int .i64 eps] w fun e w' => e = .returned (.bool (n1 a.vz b.vz eps)) ∧ w = w' := fun hz w => apart_any w _ _ _ ha.vz hb.vz hz he2
  generalize n1 a.x b.x eps = p0 at *
  generalize n1 a.y b.y eps = p1 at *
  generalize n1 a.z b.z eps = p2 at *
  generalize n1 a.vx b.vx eps = p3 at *
  generalize n1 a.vy b.vy eps = p4 at *
  generalize n1 a.vz b.vz eps = p5 at *
  generalize a.near b eps = res at *
  have H0 := Lib.hid W0
  clear W0
  have H1 := Lib.hid W1
  clear W1
  have H2 := Lib.hid W2
  clear W2
  have H3 := Lib.hid W3
  clear W3
  have H4 := Lib.hid W4
  clear W4
  have H5 := Lib.hid W5
  clear W5
  go_enter Try.func16, Try.ntmps16
  go_wp2_with fail
  have hA := (At.new w a.cells 23).alloc (.cells b.cells 23)
  have hB := At.new (w.alloc (.cells a.cells 23)) b.cells 23
  rw [show (w.alloc (.cells a.cells 23)).heap.size = w.heap.size + 1 by simp] at hB
  have hX : Chg [] w ((w.alloc (.cells a.cells 23)).alloc (.cells b.cells 23)) := ((Chg.refl _ _).alloc _).alloc _
  have hs : ((w.alloc (.cells a.cells 23)).alloc (.cells b.cells 23)).heap.size = w.heap.size + 2 := by simp
  generalize w.heap.size = z at *
  refine wp_region_stage (CNear w z a b) [1, 3] [(0, 0, false), (0, 0, true), (0, 1, false), (1, 1, true), (1, 2, false), (2, 2, false)]
    (by kernel_rfl) (by kernel_rfl) (by kernel_rfl) ⟨hA.drew, hB.drew, hX.drew, fun _ => hs, fun h => absurd h (by omega), fun h => absurd h (by omega), fun h => absurd h (by omega)⟩ ?_
  simp only [List.zip_cons_cons, List.zip_nil_right]
  clear hA hB hX hs
  refine wpStage_yes (by go_simp) ?_
  intro K hK
  apply Exists.intro
  refine ⟨fun kk w2 hk1 hk2 hC => ?_, ?_⟩
  · have c0 := hC.A.cell 0; have c1 := hC.A.cell 1; have c2 := hC.A.cell 2; have c3 := hC.A.cell 3; have c4 := hC.A.cell 4; have c5 := hC.A.cell 5; have c6 := hC.A.cell 6; have c7 := hC.A.cell 7; simp only [NV.cells] at c0 c1 c2 c3 c4 c5 c6 c7; go_simp; with_reducible exact rfl
  go_simp
  refine hK _ ?_
  clear hK K
  refine wpStage_yes (by go_simp) ?_
  intro K hK
  apply Exists.intro
  refine ⟨fun kk w2 hk1 hk2 hC => ?_, ?_⟩
  · obtain rfl : kk = 0 := by omega
    have hs := hC.s0 rfl
    go_simp
    go_at_call 24; refine (rnum_any w2 a).mono ?_
    rw [hs, show z + 2 + 1 = z + 3 from rfl]; rintro e w' ⟨rfl, hL, hs2, hX⟩
    exact ⟨rfl, hX.at hC.A (by simp), hX.at hC.B (by simp), hC.x.trans hX, fun h => absurd h (by omega), fun _ => hs2, fun _ => hL, fun h => absurd h (by omega)⟩
  go_simp
  refine hK _ ?_
  clear hK K
  refine wpStage_yes (by go_simp) ?_
  intro K hK
  apply Exists.intro
  refine ⟨fun kk w2 hk1 hk2 hC => ?_, ?_⟩
  · have c0 := hC.B.cell 0; have c1 := hC.B.cell 1; have c2 := hC.B.cell 2; have c3 := hC.B.cell 3; have c4 := hC.B.cell 4; have c5 := hC.B.cell 5; have c6 := hC.B.cell 6; have c7 := hC.B.cell 7; simp only [NV.cells] at c0 c1 c2 c3 c4 c5 c6 c7; go_simp; with_reducible exact rfl
  go_simp
  refine hK _ ?_
  clear hK K
  refine wpStage_yes (by go_simp) ?_
  intro K hK
  apply Exists.intro
  refine ⟨fun kk w2 hk1 hk2 hC => ?_, ?_⟩
  · obtain rfl : kk = 1 := by omega
    have hs := hC.s1 rfl
    go_simp
    go_at_call 24; refine (rnum_any w2 b).mono ?_
    rw [hs, show z + 4 + 1 = z + 5 from rfl]; rintro e w' ⟨rfl, hL, hs2, hX⟩
    exact ⟨rfl, hX.at hC.A (by simp), hX.at hC.B (by simp), hC.x.trans hX, fun h => absurd h (by omega), fun h => absurd h (by omega), fun _ => hX.at (hC.l (by omega)) (by simp), fun _ => hL⟩
  go_simp
  refine hK _ ?_
  clear hK K
  refine wpStage_yes (by go_simp) ?_
  intro K hK
  apply Exists.intro
  refine ⟨fun kk w2 hk1 hk2 hC => ?_, ?_⟩
  · go_simp
    with_reducible exact rfl
  go_simp
  refine hK _ ?_
  clear hK K
  refine wpStage_yes (by go_simp) ?_
  intro K hK
  apply Exists.intro
  refine ⟨fun kk w2 hk1 hk2 hC => ?_, ?_⟩
  · go_simp
    with_reducible exact rfl
  go_simp
  refine hK _ ?_
  clear hK K
  refine wpStage_nil (fun w2 hC => ?_)
  have hA := hC.l (by simp)
  have hB := hC.m (by simp)
  have hX := hC.x
  clear hC
  generalize z + 3 = za at *
  generalize z + 5 = zb at *
  go_wp2_with fail
  refine wp_loop_rounds 7 ?_
  by_cases hz : eps < 0
  · have a0 := hA.cell 0
    rw [rounds_succ]
    go_wp2_with fail
    go_quiet (fail)
    go_wp2
    go_returns
    exact ⟨ret_bool (hneg.out hz).symm, hX.drewN _⟩
  · have hz' : 0 ≤ eps := by omega
    have hdz : decide (eps < 0) = false := by simpa using hz'
    have W0 := H0.out hz'
    have W1 := H1.out hz'
    have W2 := H2.out hz'
    have W3 := H3.out hz'
    have W4 := H4.out hz'
    have W5 := H5.out hz'
    have a0 := hA.cell 0
    have b0 := hB.cell 0
    simp only [NV.six] at a0 b0
    rw [rounds_succ]
    go_wp2_with fail
    go_quiet (with_reducible refine quiet_same (W0 _))
    cases p0
    · go_wp2
      go_returns
      exact ⟨ret_bool (by rw [hn.out]; simp), hX.drewN _⟩
    clear a0 b0
    replace hA := hA.drewN nq
    replace hB := hB.drewN nq
    replace hX := hX.drewN nq
    generalize w2.drewN nq = w3 at *
    clear nq
    go_wp2_with fail
    have a1 := hA.cell 1
    have b1 := hB.cell 1
    simp only [NV.six] at a1 b1
    rw [rounds_succ]
    go_wp2_with fail
    go_quiet (with_reducible refine quiet_same (W1 _))
    cases p1
    · go_wp2
      go_returns
      exact ⟨ret_bool (by rw [hn.out]; simp), hX.drewN _⟩
    clear a1 b1
    replace hA := hA.drewN nq
    replace hB := hB.drewN nq
    replace hX := hX.drewN nq
    generalize w3.drewN nq = w4 at *
    clear nq
    go_wp2_with fail
    have a2 := hA.cell 2
    have b2 := hB.cell 2
    simp only [NV.six] at a2 b2
    rw [rounds_succ]
    go_wp2_with fail
    go_quiet (with_reducible refine quiet_same (W2 _))
    cases p2
    · go_wp2
      go_returns
      exact ⟨ret_bool (by rw [hn.out]; simp), hX.drewN _⟩
    clear a2 b2
    replace hA := hA.drewN nq
    replace hB := hB.drewN nq
    replace hX := hX.drewN nq
    generalize w4.drewN nq = w5 at *
    clear nq
    go_wp2_with fail
    have a3 := hA.cell 3
    have b3 := hB.cell 3
    simp only [NV.six] at a3 b3
    rw [rounds_succ]
    go_wp2_with fail
    go_quiet (with_reducible refine quiet_same (W3 _))
    cases p3
    · go_wp2
      go_returns
      exact ⟨ret_bool (by rw [hn.out]; simp), hX.drewN _⟩
    clear a3 b3
    replace hA := hA.drewN nq
    replace hB := hB.drewN nq
    replace hX := hX.drewN nq
    generalize w5.drewN nq = w6 at *
    clear nq
    go_wp2_with fail
    have a4 := hA.cell 4
    have b4 := hB.cell 4
    simp only [NV.six] at a4 b4
    rw [rounds_succ]
    go_wp2_with fail
    go_quiet (with_reducible refine quiet_same (W4 _))
    cases p4
    · go_wp2
      go_returns
      exact ⟨ret_bool (by rw [hn.out]; simp), hX.drewN _⟩
    clear a4 b4
    replace hA := hA.drewN nq
    replace hB := hB.drewN nq
    replace hX := hX.drewN nq
    generalize w6.drewN nq = w7 at *
    clear nq
    go_wp2_with fail
    have a5 := hA.cell 5
    have b5 := hB.cell 5
    simp only [NV.six] at a5 b5
    rw [rounds_succ]
    go_wp2_with fail
    go_quiet (with_reducible refine quiet_same (W5 _))
    cases p5
    · go_wp2
      go_returns
      exact ⟨ret_bool (by rw [hn.out]; simp), hX.drewN _⟩
    clear a5 b5
    replace hA := hA.drewN nq
    replace hB := hB.drewN nq
    replace hX := hX.drewN nq
    generalize w7.drewN nq = w8 at *
    clear nq
    go_wp2_with fail
    rw [rounds_succ]
    go_wp2
    go_returns
    exact ⟨ret_bool (by rw [hn.out]; simp), hX⟩
end Go.Proofs.Ytilgjjkppioblaa
