/- Walk of the law WideMul. -/
import Derived.Test.YtlhnnfofdkjapaaWrm
import Derived.Test.YtlhnnfofdkjapaaWtl
namespace Go.Proofs.Ytlhnnfofdkjapaa
open Go.RowKit

set_option maxHeartbeats 2000000 in
theorem WideMul_walk (W : World) (a : Int) (w0 : (Lit.int .i64 a).wf = true) (b : Int) (w1 : (Lit.int .i64 b).wf = true) :
    Calls Try.prog 3 #[.int .i64 a, .int .i64 b] W fun e w' => e = .returned (.bool true) ∧ Below W.heap.size W w' := by
  obtain ⟨ha0, ha1⟩ := bounds_i64 w0
  obtain ⟨hb0, hb1⟩ := bounds_i64 w1
  have P1 := fun w => wmul_any w a b ha0 ha1 hb0 hb1
  have P2 := fun w => wmul_any w b a hb0 hb1 ha0 ha1
  have R1 := fun w => rmul_any w a b ha0 ha1 hb0 hb1
  have P3 := fun w => wof_any w a ha0 ha1
  obtain ⟨L1, L2⟩ := imul_bd a b 9223372036854775808 (by omega) (by omega) (by omega) (by omega) (by omega)
  have D1 : ¬b ≤ 0 → ∀ w, Calls Try.prog 14 #[.agg (ofV (a * b)).cells, .int .i64 b] w fun e w' => e = .returned (.tuple #[.agg (ofV a).cells, .int .i64 0, .bool true]) ∧ Chg [] w w' := by
    intro hb w
    have H := wdiv_any w (ofV (a * b)) (ofV_ok _ (by omega) (by omega)) b hb0 hb1
    rw [show divQ (ofV (a * b)) b = ofV a by unfold divQ; rw [if_pos (by omega), ofV_val', Int.mul_ediv_cancel _ (by omega)],
      show divR (ofV (a * b)) b = 0 by unfold divR; rw [if_pos (by omega), ofV_val', Int.mul_emod_left], show decide (0 < b) = true by simp; omega] at H
    exact H
  rw [Int.mul_comm b a] at P2
  have K1 := fun w => like_any w (ofV (a * b))
  generalize ofV (a * b) = m at *
  generalize ofV a = q at *
  simp only [wv_cells] at *
  replace P1 := Lib.hid P1
  replace P2 := Lib.hid P2
  replace P3 := Lib.hid P3
  replace R1 := Lib.hid R1
  replace K1 := Lib.hid K1
  replace D1 := Lib.hid D1
  clear w0 w1 L1 L2
  have C := CL.new W 0
  go_enter Try.func3, Try.ntmps3
  go_wp2_with fail
  refine (P1.out _).mono ?_; rintro e w1 ⟨rfl, hX⟩
  replace C := (C.step (j := 0) hX).push #[.int .i64 m.hi, .int .u64 m.lo] 24
  clear hX
  generalize hz1 : w1.heap.size = z1 at *
  go_wp2_with fail
  have Cd := C.drew
  clear C
  refine wp_region_stage (CL W [(z1, #[.int .i64 m.hi, .int .u64 m.lo])]) [] [(0, 0, false), (0, 0, false), (0, 0, false), (0, 0, false), (0, 0, false), (0, 0, false), (0, 0, false), (0, 0, false), (0, 0, false), (0, 0, false), (0, 0, false), (0, 0, false), (0, 0, false), (0, 0, false), (0, 0, false), (0, 0, false), (0, 0, false)]
    (by kernel_rfl) (by kernel_rfl) (by kernel_rfl) (Cd) ?_
  simp only [List.zip_cons_cons, List.zip_nil_right]
  refine wpStage_yes (by go_simp) ?_
  intro K hK
  apply Exists.intro
  refine ⟨fun kk ww hk1 hk2 hC => ?_, ?_⟩
  · go_simp
    go_at_call 11; refine (awake01 _).mono ?_; rintro e w' ⟨rfl, hX⟩
    exact ⟨rfl, hC.step hX⟩
  go_simp
  refine hK _ ?_
  clear hK K
  refine wpStage_yes (by go_simp) ?_
  intro K hK
  apply Exists.intro
  refine ⟨fun kk ww hk1 hk2 hC => ?_, ?_⟩
  · go_simp
    with_reducible exact rfl
  go_simp
  refine hK _ ?_
  clear hK K
  refine wpStage_yes (by go_simp) ?_
  intro K hK
  apply Exists.intro
  refine ⟨fun kk ww hk1 hk2 hC => ?_, ?_⟩
  · go_simp
    with_reducible exact rfl
  go_simp
  refine hK _ ?_
  clear hK K
  refine wpStage_yes (by go_simp) ?_
  intro K hK
  apply Exists.intro
  refine ⟨fun kk ww hk1 hk2 hC => ?_, ?_⟩
  · have c0 := (hC.get 0 rfl).cell 0; have c1 := (hC.get 0 rfl).cell 1
    go_simp
    with_reducible exact rfl
  go_simp
  refine hK _ ?_
  clear hK K
  refine wpStage_yes (by go_simp) ?_
  intro K hK
  apply Exists.intro
  refine ⟨fun kk ww hk1 hk2 hC => ?_, ?_⟩
  · go_simp
    go_at_call 12; refine (K1.out _).mono ?_; rintro e w' ⟨rfl, hX⟩
    exact ⟨rfl, hC.step hX⟩
  go_simp
  refine hK _ ?_
  clear hK K
  refine wpStage_yes (by go_simp) ?_
  intro K hK
  apply Exists.intro
  refine ⟨fun kk ww hk1 hk2 hC => ?_, ?_⟩
  · go_simp
    with_reducible exact rfl
  go_simp
  refine hK _ ?_
  clear hK K
  refine wpStage_yes (by go_simp) ?_
  intro K hK
  apply Exists.intro
  refine ⟨fun kk ww hk1 hk2 hC => ?_, ?_⟩
  · go_simp
    with_reducible exact rfl
  go_simp
  refine hK _ ?_
  clear hK K
  refine wpStage_yes (by go_simp) ?_
  intro K hK
  apply Exists.intro
  refine ⟨fun kk ww hk1 hk2 hC => ?_, ?_⟩
  · go_simp
    go_at_call 13; refine (R1.out _).mono ?_; rintro e w' ⟨rfl, hX⟩
    exact ⟨rfl, hC.step hX⟩
  go_simp
  refine hK _ ?_
  clear hK K
  refine wpStage_yes (by go_simp) ?_
  intro K hK
  apply Exists.intro
  refine ⟨fun kk ww hk1 hk2 hC => ?_, ?_⟩
  · go_simp
    with_reducible exact rfl
  go_simp
  refine hK _ ?_
  clear hK K
  refine wpStage_yes (by go_simp) ?_
  intro K hK
  apply Exists.intro
  refine ⟨fun kk ww hk1 hk2 hC => ?_, ?_⟩
  · go_simp
    with_reducible exact rfl
  go_simp
  refine hK _ ?_
  clear hK K
  refine wpStage_yes (by go_simp) ?_
  intro K hK
  apply Exists.intro
  refine ⟨fun kk ww hk1 hk2 hC => ?_, ?_⟩
  · go_simp
    with_reducible exact rfl
  go_simp
  refine hK _ ?_
  clear hK K
  refine wpStage_yes (by go_simp) ?_
  intro K hK
  apply Exists.intro
  refine ⟨fun kk ww hk1 hk2 hC => ?_, ?_⟩
  · have c0 := (hC.get 0 rfl).cell 0; have c1 := (hC.get 0 rfl).cell 1
    go_simp
    with_reducible exact rfl
  go_simp
  refine hK _ ?_
  clear hK K
  refine wpStage_yes (by go_simp) ?_
  intro K hK
  apply Exists.intro
  refine ⟨fun kk ww hk1 hk2 hC => ?_, ?_⟩
  · go_simp
    with_reducible exact rfl
  go_simp
  refine hK _ ?_
  clear hK K
  refine wpStage_yes (by go_simp) ?_
  intro K hK
  apply Exists.intro
  refine ⟨fun kk ww hk1 hk2 hC => ?_, ?_⟩
  · go_simp
    with_reducible exact rfl
  go_simp
  refine hK _ ?_
  clear hK K
  refine wpStage_yes (by go_simp) ?_
  intro K hK
  apply Exists.intro
  refine ⟨fun kk ww hk1 hk2 hC => ?_, ?_⟩
  · go_simp
    go_at_call 10; refine (P2.out _).mono ?_; rintro e w' ⟨rfl, hX⟩
    exact ⟨rfl, hC.step hX⟩
  go_simp
  refine hK _ ?_
  clear hK K
  refine wpStage_yes (by go_simp) ?_
  intro K hK
  apply Exists.intro
  refine ⟨fun kk ww hk1 hk2 hC => ?_, ?_⟩
  · go_simp
    with_reducible exact rfl
  go_simp
  refine hK _ ?_
  clear hK K
  refine wpStage_yes (by go_simp) ?_
  intro K hK
  apply Exists.intro
  refine ⟨fun kk ww hk1 hk2 hC => ?_, ?_⟩
  · go_simp
    with_reducible exact rfl
  go_simp
  refine hK _ ?_
  clear hK K
  refine wpStage_nil (fun ww hC => ?_)
  clear Cd
  have C := hC
  clear hC
  by_cases hb : b ≤ 0
  · clear D1
    have cc0 := C.cells 0 rfl
    go_wp2_with fail
    go_returns
    exact ⟨rfl, C.x.to_below⟩
  · have D2 := Lib.hid (D1.out (by omega))
    clear D1
    have cc0 := C.cells 0 rfl
    go_wp2_with fail
    refine (D2.out _).mono ?_; rintro e w2 ⟨rfl, hX⟩
    clear cc0
    replace C := (C.step (j := 0) hX).push #[.int .i64 q.hi, .int .u64 q.lo] 24
    clear hX
    generalize hz2 : w2.heap.size = z2 at *
    have cc0 := C.cells 0 rfl
    have cc1 := C.cells 1 rfl
    go_wp2_with fail
    clear cc0 cc1
    have Cd := C.drew
    clear C
    refine wp_region_stage (CL W [(z2, #[.int .i64 q.hi, .int .u64 q.lo]), (z1, #[.int .i64 m.hi, .int .u64 m.lo])]) [] [(0, 0, false), (0, 0, false), (0, 0, false), (0, 0, false), (0, 0, false), (0, 0, false), (0, 0, false), (0, 0, false), (0, 0, false), (0, 0, false), (0, 0, false), (0, 0, false)]
      (by kernel_rfl) (by kernel_rfl) (by kernel_rfl) (Cd) ?_
    simp only [List.zip_cons_cons, List.zip_nil_right]
    refine wpStage_yes (by go_simp) ?_
    intro K hK
    apply Exists.intro
    refine ⟨fun kk ww hk1 hk2 hC => ?_, ?_⟩
    · go_simp
      with_reducible exact rfl
    go_simp
    refine hK _ ?_
    clear hK K
    refine wpStage_yes (by go_simp) ?_
    intro K hK
    apply Exists.intro
    refine ⟨fun kk ww hk1 hk2 hC => ?_, ?_⟩
    · go_simp
      with_reducible exact rfl
    go_simp
    refine hK _ ?_
    clear hK K
    refine wpStage_yes (by go_simp) ?_
    intro K hK
    apply Exists.intro
    refine ⟨fun kk ww hk1 hk2 hC => ?_, ?_⟩
    · go_simp
      with_reducible exact rfl
    go_simp
    refine hK _ ?_
    clear hK K
    refine wpStage_yes (by go_simp) ?_
    intro K hK
    apply Exists.intro
    refine ⟨fun kk ww hk1 hk2 hC => ?_, ?_⟩
    · go_simp
      with_reducible exact rfl
    go_simp
    refine hK _ ?_
    clear hK K
    refine wpStage_yes (by go_simp) ?_
    intro K hK
    apply Exists.intro
    refine ⟨fun kk ww hk1 hk2 hC => ?_, ?_⟩
    · go_simp
      with_reducible exact rfl
    go_simp
    refine hK _ ?_
    clear hK K
    refine wpStage_yes (by go_simp) ?_
    intro K hK
    apply Exists.intro
    refine ⟨fun kk ww hk1 hk2 hC => ?_, ?_⟩
    · go_simp
      with_reducible exact rfl
    go_simp
    refine hK _ ?_
    clear hK K
    refine wpStage_yes (by go_simp) ?_
    intro K hK
    apply Exists.intro
    refine ⟨fun kk ww hk1 hk2 hC => ?_, ?_⟩
    · have c0 := (hC.get 0 rfl).cell 0; have c1 := (hC.get 0 rfl).cell 1
      go_simp
      with_reducible exact rfl
    go_simp
    refine hK _ ?_
    clear hK K
    refine wpStage_yes (by go_simp) ?_
    intro K hK
    apply Exists.intro
    refine ⟨fun kk ww hk1 hk2 hC => ?_, ?_⟩
    · go_simp
      with_reducible exact rfl
    go_simp
    refine hK _ ?_
    clear hK K
    refine wpStage_yes (by go_simp) ?_
    intro K hK
    apply Exists.intro
    refine ⟨fun kk ww hk1 hk2 hC => ?_, ?_⟩
    · go_simp
      go_at_call 15; refine (P3.out _).mono ?_; rintro e w' ⟨rfl, hX⟩
      exact ⟨rfl, hC.step hX⟩
    go_simp
    refine hK _ ?_
    clear hK K
    refine wpStage_yes (by go_simp) ?_
    intro K hK
    apply Exists.intro
    refine ⟨fun kk ww hk1 hk2 hC => ?_, ?_⟩
    · go_simp
      with_reducible exact rfl
    go_simp
    refine hK _ ?_
    clear hK K
    refine wpStage_yes (by go_simp) ?_
    intro K hK
    apply Exists.intro
    refine ⟨fun kk ww hk1 hk2 hC => ?_, ?_⟩
    · go_simp
      with_reducible exact rfl
    go_simp
    refine hK _ ?_
    clear hK K
    refine wpStage_yes (by go_simp) ?_
    intro K hK
    apply Exists.intro
    refine ⟨fun kk ww hk1 hk2 hC => ?_, ?_⟩
    · go_simp
      with_reducible exact rfl
    go_simp
    refine hK _ ?_
    clear hK K
    refine wpStage_nil (fun ww hC => ?_)
    clear Cd
    have C := hC
    clear hC
    have cc0 := C.cells 0 rfl
    have cc1 := C.cells 1 rfl
    go_wp2_with fail
    go_returns
    exact ⟨rfl, C.x.to_below⟩
end Go.Proofs.Ytlhnnfofdkjapaa
