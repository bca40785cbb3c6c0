/- Walk of the law FixWide. -/
import Derived.Test.YthdjanjlpgcmoaaFls
namespace Go.Proofs.Ythdjanjlpgcmoaa
open Go.RowKit

set_option maxHeartbeats 4000000 in
theorem FixWide_walk (W : World) (a : Int) (w0 : (Lit.int .i64 a).wf = true) (b : Int) (w1 : (Lit.int .i64 b).wf = true) :
    Calls Try.prog 4 #[.int .i64 a, .int .i64 b] W fun e w' => e = .returned (.bool true) ∧ Below W.heap.size W w' := by
  obtain ⟨ha0, ha1⟩ := bounds_i64 w0
  obtain ⟨hb0, hb1⟩ := bounds_i64 w1
  obtain ⟨g0, g1⟩ := prod_bd a a ha0 ha1 ha0 ha1
  obtain ⟨g2, g3⟩ := prod_bd b b hb0 hb1 hb0 hb1
  have n0 : 0 ≤ a * a := by rcases Int.le_total 0 a with h | h; exact Int.mul_nonneg h h; exact Int.mul_nonneg_of_nonpos_of_nonpos h h
  have n1 : 0 ≤ b * b := by rcases Int.le_total 0 b with h | h; exact Int.mul_nonneg h h; exact Int.mul_nonneg_of_nonpos_of_nonpos h h
  have P1 := fun w => fhyp_any w a b ha0 ha1 hb0 hb1
  have M1 := fun w => wmul_any w a a ha0 ha1 ha0 ha1
  have M2 := fun w => wmul_any w b b hb0 hb1 hb0 hb1
  have A1 := fun w => wadd_any w (ofV (a * a)) (ofV (b * b)) (ofV_ok _ (by omega) (by omega)) (ofV_ok _ (by omega) (by omega))
  rw [ofV_val', ofV_val'] at A1
  have M3 := fun w => wmul_any w 4611686018427387904 4611686018427387904 (by decide) (by decide) (by decide) (by decide)
  have HH0 : hyB (a * a + b * b) = false → (if hyB (a * a + b * b) then rootV (a * a + b * b) else 0) = 0 := fun h => by rw [h]; rfl
  have HN : hyB (a * a + b * b) = false → fitsV (a * a + b * b) = true → ∃ y, (∀ w, Calls Try.prog 12 #[.agg (addV (a * a + b * b)).cells, .agg (ofV (4611686018427387904 * 4611686018427387904)).cells] w fun e w' => e = .returned (.int .i64 y) ∧ Chg [] w w') ∧ 0 < y := by
    intro h hf
    obtain ⟨q0, q1, q2⟩ := rootV_spec (a * a + b * b) (by omega)
    have hr : ¬rootV (a * a + b * b) ≤ 9223372036854775807 := fun hh => by unfold hyB at h; rw [hf, decide_eq_true hh] at h; cases h
    have := sq_le 9223372036854775808 (rootV (a * a + b * b)) (by omega) (by omega)
    exact ⟨_, fun w => wcmp_any w _ _ (addV_ok _) (ofV_ok _ (by decide) (by decide)), cmpV_gt' (by rw [ofV_val', addV_val _ hf]; omega)⟩
  have HY : hyB (a * a + b * b) = true → fitsV (a * a + b * b) = true ∧ 0 ≤ (if hyB (a * a + b * b) then rootV (a * a + b * b) else 0) ∧ (if hyB (a * a + b * b) then rootV (a * a + b * b) else 0) ≤ 9223372036854775807 ∧ True ∧
      ((if hyB (a * a + b * b) then rootV (a * a + b * b) else 0) < 4611686018427387904 → ∃ y1 y2, (∀ w, Calls Try.prog 12 #[.agg (ofV ((if hyB (a * a + b * b) then rootV (a * a + b * b) else 0) * (if hyB (a * a + b * b) then rootV (a * a + b * b) else 0))).cells, .agg (addV (a * a + b * b)).cells] w fun e w' => e = .returned (.int .i64 y1) ∧ Chg [] w w') ∧
        (∀ w, Calls Try.prog 12 #[.agg (ofV (((if hyB (a * a + b * b) then rootV (a * a + b * b) else 0) + 1) * ((if hyB (a * a + b * b) then rootV (a * a + b * b) else 0) + 1))).cells, .agg (addV (a * a + b * b)).cells] w fun e w' => e = .returned (.int .i64 y2) ∧ Chg [] w w') ∧
        (∀ w, Calls Try.prog 11 #[.int .i64 (if hyB (a * a + b * b) then rootV (a * a + b * b) else 0), .int .i64 (if hyB (a * a + b * b) then rootV (a * a + b * b) else 0)] w fun e w' => e = .returned (.agg (ofV ((if hyB (a * a + b * b) then rootV (a * a + b * b) else 0) * (if hyB (a * a + b * b) then rootV (a * a + b * b) else 0))).cells) ∧ Chg [] w w') ∧
        (∀ w, Calls Try.prog 11 #[.int .i64 ((if hyB (a * a + b * b) then rootV (a * a + b * b) else 0) + 1), .int .i64 ((if hyB (a * a + b * b) then rootV (a * a + b * b) else 0) + 1)] w fun e w' => e = .returned (.agg (ofV (((if hyB (a * a + b * b) then rootV (a * a + b * b) else 0) + 1) * ((if hyB (a * a + b * b) then rootV (a * a + b * b) else 0) + 1))).cells) ∧ Chg [] w w') ∧
        y1 ≤ 0 ∧ 0 < y2 ∧ IntKind.i64.wrap ((if hyB (a * a + b * b) then rootV (a * a + b * b) else 0) + 1) = (if hyB (a * a + b * b) then rootV (a * a + b * b) else 0) + 1) := by
    intro h
    have hf : fitsV (a * a + b * b) = true := by unfold hyB at h; simp at h; exact h.1
    have hr : rootV (a * a + b * b) ≤ 9223372036854775807 := by unfold hyB at h; simp at h; exact h.2
    obtain ⟨q0, q1, q2⟩ := rootV_spec (a * a + b * b) (by omega)
    rw [h, if_pos rfl]
    refine ⟨hf, q0, hr, trivial, fun hlt => ?_⟩
    have b1 := imul_bd (rootV (a * a + b * b)) (rootV (a * a + b * b)) 4611686018427387904 (by omega) (by omega) (by omega) (by omega) (by omega)
    have b2 := imul_bd (rootV (a * a + b * b) + 1) (rootV (a * a + b * b) + 1) 4611686018427387904 (by omega) (by omega) (by omega) (by omega) (by omega)
    exact ⟨_, _, fun w => wcmp_any w _ _ (ofV_ok _ (by omega) (by omega)) (addV_ok _), fun w => wcmp_any w _ _ (ofV_ok _ (by omega) (by omega)) (addV_ok _), fun w => wmul_any w _ _ (by omega) (by omega) (by omega) (by omega), fun w => wmul_any w _ _ (by omega) (by omega) (by omega) (by omega),
      cmpV_le' (by rw [ofV_val', addV_val _ hf]; exact q1), cmpV_gt' (by rw [ofV_val', addV_val _ hf]; exact q2), by rw [IntKind.wrap_i64]; omega⟩
  generalize (if hyB (a * a + b * b) then rootV (a * a + b * b) else 0) = hv at *
  generalize hyB (a * a + b * b) = hb at *
  generalize addV (a * a + b * b) = s at *
  generalize fitsV (a * a + b * b) = sf at *
  generalize ofV (a * a) = x at *
  generalize ofV (b * b) = y at *
  generalize ofV (hv * hv) = u1 at *
  generalize ofV ((hv + 1) * (hv + 1)) = u2 at *
  rw [show ofV (4611686018427387904 * 4611686018427387904) = ⟨1152921504606846976, 0⟩ from rfl] at *
  simp only [wv_cells] at *
  clear g0 g1 g2 g3 n0 n1 w0 w1
  replace P1 := Lib.hid P1
  replace M1 := Lib.hid M1
  replace M2 := Lib.hid M2
  replace A1 := Lib.hid A1
  replace M3 := Lib.hid M3
  replace HN := Lib.hid HN
  replace HY := Lib.hid HY
  replace HH0 := Lib.hid HH0
  have C := CL.new W 0
  go_enter Try.func4, Try.ntmps4
  go_wp2_with fail
  refine (P1.out _).mono ?_; rintro e w1 ⟨rfl, hX⟩
  replace C := C.step (j := 0) hX
  clear hX
  go_wp2_with fail
  refine (M1.out _).mono ?_; rintro e w2 ⟨rfl, hX⟩
  replace C := C.step (j := 0) hX
  clear hX
  go_wp2_with fail
  refine (M2.out _).mono ?_; rintro e w3 ⟨rfl, hX⟩
  replace C := C.step (j := 0) hX
  clear hX
  go_wp2_with fail
  refine (A1.out _).mono ?_; rintro e w4 ⟨rfl, hX⟩
  replace C := (C.step (j := 0) hX).push #[.int .i64 s.hi, .int .u64 s.lo] 27
  clear hX
  generalize hz4 : w4.heap.size = z4 at *
  have cc0 := C.cells 0 rfl
  go_wp2_with fail
  refine (awake02 _).mono ?_; rintro e w5 ⟨rfl, hX⟩
  clear cc0
  replace C := C.step (j := 0) hX
  clear hX
  cases hb
  · have hv0 := (HH0.out rfl)
    subst hv0
    cases sf
    · clear HN HY
      have cc0 := C.cells 0 rfl
      go_wp2_with fail
      clear cc0
      have Cd := C.drew
      clear C
      refine wp_region_stage (CL W [(z4, #[.int .i64 s.hi, .int .u64 s.lo])]) [] [(0, 0, false), (0, 0, false), (0, 0, false), (0, 0, false), (0, 0, false), (0, 0, false), (0, 0, false), (0, 0, false), (0, 0, false)]
        (by kernel_rfl) (by kernel_rfl) (by kernel_rfl) (Cd) ?_
      simp only [List.zip_cons_cons, List.zip_nil_right]
      refine wpStage_yes (by go_simp) ?_
      intro K hK
      apply Exists.intro
      refine ⟨fun kk ww hk1 hk2 hC => ?_, ?_⟩
      · go_simp
        with_reducible exact rfl
      go_simp
      refine hK _ ?_
      clear hK K
      refine wpStage_yes (by go_simp) ?_
      intro K hK
      apply Exists.intro
      refine ⟨fun kk ww hk1 hk2 hC => ?_, ?_⟩
      · go_simp
        with_reducible exact rfl
      go_simp
      refine hK _ ?_
      clear hK K
      refine wpStage_yes (by go_simp) ?_
      intro K hK
      apply Exists.intro
      refine ⟨fun kk ww hk1 hk2 hC => ?_, ?_⟩
      · go_simp
        with_reducible exact rfl
      go_simp
      refine hK _ ?_
      clear hK K
      refine wpStage_no (by go_simp) ?_
      intro K hK
      go_simp
      refine hK _ ?_
      clear hK K
      refine wpStage_no (by go_simp) ?_
      intro K hK
      go_simp
      refine hK _ ?_
      clear hK K
      refine wpStage_no (by go_simp) ?_
      intro K hK
      go_simp
      refine hK _ ?_
      clear hK K
      refine wpStage_no (by go_simp) ?_
      intro K hK
      go_simp
      refine hK _ ?_
      clear hK K
      refine wpStage_yes (by go_simp) ?_
      intro K hK
      apply Exists.intro
      refine ⟨fun kk ww hk1 hk2 hC => ?_, ?_⟩
      · go_simp
        with_reducible exact rfl
      go_simp
      refine hK _ ?_
      clear hK K
      refine wpStage_yes (by go_simp) ?_
      intro K hK
      apply Exists.intro
      refine ⟨fun kk ww hk1 hk2 hC => ?_, ?_⟩
      · go_simp
        with_reducible exact rfl
      go_simp
      refine hK _ ?_
      clear hK K
      refine wpStage_nil (fun ww hC => ?_)
      clear Cd
      have C := hC
      clear hC
      have cc0 := C.cells 0 rfl
      go_wp2_with fail
      go_returns
      exact ⟨rfl, C.x.to_below⟩
    · obtain ⟨y, N3, hy⟩ := HN.out rfl rfl
      clear HN HY
      replace N3 := Lib.hid N3
      have cc0 := C.cells 0 rfl
      go_wp2_with fail
      clear cc0
      have Cd := C.drew
      clear C
      refine wp_region_stage (CL W [(z4, #[.int .i64 s.hi, .int .u64 s.lo])]) [] [(0, 0, false), (0, 0, false), (0, 0, false), (0, 0, false), (0, 0, false), (0, 0, false), (0, 0, false), (0, 0, false), (0, 0, false)]
        (by kernel_rfl) (by kernel_rfl) (by kernel_rfl) (Cd) ?_
      simp only [List.zip_cons_cons, List.zip_nil_right]
      refine wpStage_yes (by go_simp) ?_
      intro K hK
      apply Exists.intro
      refine ⟨fun kk ww hk1 hk2 hC => ?_, ?_⟩
      · go_simp
        with_reducible exact rfl
      go_simp
      refine hK _ ?_
      clear hK K
      refine wpStage_yes (by go_simp) ?_
      intro K hK
      apply Exists.intro
      refine ⟨fun kk ww hk1 hk2 hC => ?_, ?_⟩
      · go_simp
        with_reducible exact rfl
      go_simp
      refine hK _ ?_
      clear hK K
      refine wpStage_yes (by go_simp) ?_
      intro K hK
      apply Exists.intro
      refine ⟨fun kk ww hk1 hk2 hC => ?_, ?_⟩
      · go_simp
        with_reducible exact rfl
      go_simp
      refine hK _ ?_
      clear hK K
      refine wpStage_yes (by go_simp) ?_
      intro K hK
      apply Exists.intro
      refine ⟨fun kk ww hk1 hk2 hC => ?_, ?_⟩
      · have c0 := (hC.get 0 rfl).cell 0; have c1 := (hC.get 0 rfl).cell 1
        go_simp
        with_reducible exact rfl
      go_simp
      refine hK _ ?_
      clear hK K
      refine wpStage_yes (by go_simp) ?_
      intro K hK
      apply Exists.intro
      refine ⟨fun kk ww hk1 hk2 hC => ?_, ?_⟩
      · go_simp
        go_at_call 11; refine (M3.out _).mono ?_; rintro e w' ⟨rfl, hX⟩
        exact ⟨rfl, hC.step hX⟩
      go_simp
      refine hK _ ?_
      clear hK K
      refine wpStage_yes (by go_simp) ?_
      intro K hK
      apply Exists.intro
      refine ⟨fun kk ww hk1 hk2 hC => ?_, ?_⟩
      · go_simp
        go_at_call 12; refine (N3.out _).mono ?_; rintro e w' ⟨rfl, hX⟩
        exact ⟨rfl, hC.step hX⟩
      go_simp
      refine hK _ ?_
      clear hK K
      refine wpStage_yes (by go_simp) ?_
      intro K hK
      apply Exists.intro
      refine ⟨fun kk ww hk1 hk2 hC => ?_, ?_⟩
      · go_simp
        with_reducible exact rfl
      go_simp
      refine hK _ ?_
      clear hK K
      refine wpStage_yes (by go_simp) ?_
      intro K hK
      apply Exists.intro
      refine ⟨fun kk ww hk1 hk2 hC => ?_, ?_⟩
      · go_simp
        with_reducible exact rfl
      go_simp
      refine hK _ ?_
      clear hK K
      refine wpStage_yes (by go_simp) ?_
      intro K hK
      apply Exists.intro
      refine ⟨fun kk ww hk1 hk2 hC => ?_, ?_⟩
      · go_simp
        with_reducible exact rfl
      go_simp
      refine hK _ ?_
      clear hK K
      refine wpStage_nil (fun ww hC => ?_)
      clear Cd
      have C := hC
      clear hC
      have cc0 := C.cells 0 rfl
      go_wp2_with fail
      go_returns
      exact ⟨rfl, C.x.to_below⟩
  · obtain ⟨sf1, hv1, hv2, hv3, hY⟩ := HY.out rfl
    subst sf1
    clear HN HY HH0
    by_cases hbig : hv < 4611686018427387904
    · obtain ⟨y1, y2, N1, N2, Q1, Q2, g1, g2, k3⟩ := hY hbig
      clear hY
      replace N1 := Lib.hid N1
      replace N2 := Lib.hid N2
      replace Q1 := Lib.hid Q1
      replace Q2 := Lib.hid Q2
      have cc0 := C.cells 0 rfl
      go_wp2_with fail
      clear cc0
      have Cd := C.drew
      clear C
      refine wp_region_stage (CL W [(z4, #[.int .i64 s.hi, .int .u64 s.lo])]) [] [(0, 0, false), (0, 0, false), (0, 0, false), (0, 0, false), (0, 0, false), (0, 0, false), (0, 0, false), (0, 0, false), (0, 0, false), (0, 0, false), (0, 0, false), (0, 0, false), (0, 0, false), (0, 0, false), (0, 0, false), (0, 0, false), (0, 0, false), (0, 0, false), (0, 0, false), (0, 0, false)]
        (by kernel_rfl) (by kernel_rfl) (by kernel_rfl) (Cd) ?_
      simp only [List.zip_cons_cons, List.zip_nil_right]
      refine wpStage_yes (by go_simp) ?_
      intro K hK
      apply Exists.intro
      refine ⟨fun kk ww hk1 hk2 hC => ?_, ?_⟩
      · go_simp
        with_reducible exact rfl
      go_simp
      refine hK _ ?_
      clear hK K
      refine wpStage_yes (by go_simp) ?_
      intro K hK
      apply Exists.intro
      refine ⟨fun kk ww hk1 hk2 hC => ?_, ?_⟩
      · go_simp
        with_reducible exact rfl
      go_simp
      refine hK _ ?_
      clear hK K
      refine wpStage_yes (by go_simp) ?_
      intro K hK
      apply Exists.intro
      refine ⟨fun kk ww hk1 hk2 hC => ?_, ?_⟩
      · go_simp
        with_reducible exact rfl
      go_simp
      refine hK _ ?_
      clear hK K
      refine wpStage_yes (by go_simp) ?_
      intro K hK
      apply Exists.intro
      refine ⟨fun kk ww hk1 hk2 hC => ?_, ?_⟩
      · go_simp
        with_reducible exact rfl
      go_simp
      refine hK _ ?_
      clear hK K
      refine wpStage_yes (by go_simp) ?_
      intro K hK
      apply Exists.intro
      refine ⟨fun kk ww hk1 hk2 hC => ?_, ?_⟩
      · go_simp
        go_at_call 11; refine (Q1.out _).mono ?_; rintro e w' ⟨rfl, hX⟩
        exact ⟨rfl, hC.step hX⟩
      go_simp
      refine hK _ ?_
      clear hK K
      refine wpStage_yes (by go_simp) ?_
      intro K hK
      apply Exists.intro
      refine ⟨fun kk ww hk1 hk2 hC => ?_, ?_⟩
      · have c0 := (hC.get 0 rfl).cell 0; have c1 := (hC.get 0 rfl).cell 1
        go_simp
        with_reducible exact rfl
      go_simp
      refine hK _ ?_
      clear hK K
      refine wpStage_yes (by go_simp) ?_
      intro K hK
      apply Exists.intro
      refine ⟨fun kk ww hk1 hk2 hC => ?_, ?_⟩
      · go_simp
        go_at_call 12; refine (N1.out _).mono ?_; rintro e w' ⟨rfl, hX⟩
        exact ⟨rfl, hC.step hX⟩
      go_simp
      refine hK _ ?_
      clear hK K
      refine wpStage_yes (by go_simp) ?_
      intro K hK
      apply Exists.intro
      refine ⟨fun kk ww hk1 hk2 hC => ?_, ?_⟩
      · go_simp
        with_reducible exact rfl
      go_simp
      refine hK _ ?_
      clear hK K
      refine wpStage_yes (by go_simp) ?_
      intro K hK
      apply Exists.intro
      refine ⟨fun kk ww hk1 hk2 hC => ?_, ?_⟩
      · go_simp
        with_reducible exact rfl
      go_simp
      refine hK _ ?_
      clear hK K
      refine wpStage_yes (by go_simp) ?_
      intro K hK
      apply Exists.intro
      refine ⟨fun kk ww hk1 hk2 hC => ?_, ?_⟩
      · go_simp
        with_reducible exact rfl
      go_simp
      refine hK _ ?_
      clear hK K
      refine wpStage_yes (by go_simp) ?_
      intro K hK
      apply Exists.intro
      refine ⟨fun kk ww hk1 hk2 hC => ?_, ?_⟩
      · go_simp
        with_reducible exact rfl
      go_simp
      refine hK _ ?_
      clear hK K
      refine wpStage_yes (by go_simp) ?_
      intro K hK
      apply Exists.intro
      refine ⟨fun kk ww hk1 hk2 hC => ?_, ?_⟩
      · go_simp
        with_reducible exact rfl
      go_simp
      refine hK _ ?_
      clear hK K
      refine wpStage_yes (by go_simp) ?_
      intro K hK
      apply Exists.intro
      refine ⟨fun kk ww hk1 hk2 hC => ?_, ?_⟩
      · go_simp
        with_reducible exact rfl
      go_simp
      refine hK _ ?_
      clear hK K
      refine wpStage_yes (by go_simp) ?_
      intro K hK
      apply Exists.intro
      refine ⟨fun kk ww hk1 hk2 hC => ?_, ?_⟩
      · go_simp
        with_reducible exact rfl
      go_simp
      refine hK _ ?_
      clear hK K
      refine wpStage_yes (by go_simp) ?_
      intro K hK
      apply Exists.intro
      refine ⟨fun kk ww hk1 hk2 hC => ?_, ?_⟩
      · go_simp
        go_at_call 11; refine (Q2.out _).mono ?_; rintro e w' ⟨rfl, hX⟩
        exact ⟨rfl, hC.step hX⟩
      go_simp
      refine hK _ ?_
      clear hK K
      refine wpStage_yes (by go_simp) ?_
      intro K hK
      apply Exists.intro
      refine ⟨fun kk ww hk1 hk2 hC => ?_, ?_⟩
      · have c0 := (hC.get 0 rfl).cell 0; have c1 := (hC.get 0 rfl).cell 1
        go_simp
        with_reducible exact rfl
      go_simp
      refine hK _ ?_
      clear hK K
      refine wpStage_yes (by go_simp) ?_
      intro K hK
      apply Exists.intro
      refine ⟨fun kk ww hk1 hk2 hC => ?_, ?_⟩
      · go_simp
        go_at_call 12; refine (N2.out _).mono ?_; rintro e w' ⟨rfl, hX⟩
        exact ⟨rfl, hC.step hX⟩
      go_simp
      refine hK _ ?_
      clear hK K
      refine wpStage_yes (by go_simp) ?_
      intro K hK
      apply Exists.intro
      refine ⟨fun kk ww hk1 hk2 hC => ?_, ?_⟩
      · go_simp
        with_reducible exact rfl
      go_simp
      refine hK _ ?_
      clear hK K
      refine wpStage_yes (by go_simp) ?_
      intro K hK
      apply Exists.intro
      refine ⟨fun kk ww hk1 hk2 hC => ?_, ?_⟩
      · go_simp
        with_reducible exact rfl
      go_simp
      refine hK _ ?_
      clear hK K
      refine wpStage_yes (by go_simp) ?_
      intro K hK
      apply Exists.intro
      refine ⟨fun kk ww hk1 hk2 hC => ?_, ?_⟩
      · go_simp
        with_reducible exact rfl
      go_simp
      refine hK _ ?_
      clear hK K
      refine wpStage_nil (fun ww hC => ?_)
      clear Cd
      have C := hC
      clear hC
      have cc0 := C.cells 0 rfl
      go_wp2_with fail
      go_returns
      exact ⟨rfl, C.x.to_below⟩
    · clear hY
      have cc0 := C.cells 0 rfl
      go_wp2_with fail
      go_returns
      exact ⟨rfl, C.x.to_below⟩
end Go.Proofs.Ythdjanjlpgcmoaa
