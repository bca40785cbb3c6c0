/- Walk of the law WideSqrt. -/
import Derived.Test.YtlhnnfofdkjapaaWla
namespace Go.Proofs.Ytlhnnfofdkjapaa
open Go.RowKit

theorem cmpV_le {a b : WV} (h : a.val ≤ b.val) : cmpV a b ≤ 0 := by
  unfold cmpV cmpI
  split
  · omega
  · rw [if_neg (by omega)]; omega
theorem cmpV_gt {a b : WV} (h : b.val < a.val) : 0 < cmpV a b := by
  unfold cmpV cmpI
  rw [if_neg (by omega), if_pos h]
  omega
set_option maxRecDepth 100000 in
theorem WideSqrt_walk (W : World) (c1 : Array Value) (x1 : shWV.T) (h1 : shWV.rep W x1 c1.toList) :
    Calls Try.prog 5 #[.agg c1] W fun e w' => e = .returned (.bool true) ∧ Below W.heap.size W w' := by
  obtain ⟨rfl, ha⟩ := wv_of h1
  clear h1
  generalize toWV x1 = a at *
  have R := fun w => wsqrt_any w a ha
  rw [show a.cells = #[.int .i64 a.hi, .int .u64 a.lo] from rfl] at *
  have C := (CL.new W 0).push #[.int .i64 a.hi, .int .u64 a.lo] 24
  replace R := Lib.hid R
  go_enter Try.func5, Try.ntmps5
  generalize hzW : W.heap.size = z at *
  have cc0 := C.cells 0 rfl
  go_wp2_with fail
  clear cc0
  refine (R.out _).mono ?_; rintro e w1 ⟨⟨hlt, rfl⟩ | ⟨hge, r0, rfl, hr1, hr2, hr3⟩, hX⟩
  · clear R
    replace C := C.step (j := 0) hX
    clear hX
    have cc0 := C.cells 0 rfl
    go_wp2_with fail
    refine (awake01 _).mono ?_; rintro e w2 ⟨rfl, hX⟩
    clear cc0
    replace C := C.step (j := 0) hX
    clear hX
    have cc0 := C.cells 0 rfl
    go_wp2_with fail
    go_returns
    exact ⟨rfl, hzW ▸ C.x.to_below⟩
  · clear R
    rw [show ((r0 + 1 : Nat) : Int) = (r0 : Int) + 1 by omega] at hr3
    obtain ⟨r, hr, hr0⟩ : ∃ r : Int, (r0 : Int) = r ∧ 0 ≤ r := ⟨_, rfl, by omega⟩
    rw [hr] at hr1 hr2 hr3 ⊢
    clear hr
    by_cases hbig : r < 4611686018427387904
    · have k1 : IntKind.i64.wrap r = r := by rw [IntKind.wrap_i64]; omega
      have k2 : wrap64 r = r := by unfold wrap64; omega
      have k3 : IntKind.i64.wrap (r + 1) = r + 1 := by rw [IntKind.wrap_i64]; omega
      have bm := imul_bd r r 4611686018427387904 (by omega) (by omega) (by omega) (by omega) (by omega)
      have bn := imul_bd (r + 1) (r + 1) 4611686018427387904 (by omega) (by omega) (by omega) (by omega) (by omega)
      have N1 := fun w => wmul_any w r r (by omega) (by omega) (by omega) (by omega)
      have N3 := fun w => wmul_any w (r + 1) (r + 1) (by omega) (by omega) (by omega) (by omega)
      have N2 := fun w => wcmp_any w (ofV (r * r)) a (ofV_ok _ (by omega) (by omega)) ha
      have N4 := fun w => wcmp_any w (ofV ((r + 1) * (r + 1))) a (ofV_ok _ (by omega) (by omega)) ha
      have g1 : cmpV (ofV (r * r)) a ≤ 0 := cmpV_le (by rw [ofV_val']; exact hr2)
      have g2 : 0 < cmpV (ofV ((r + 1) * (r + 1))) a := cmpV_gt (by rw [ofV_val']; exact hr3)
      generalize cmpV (ofV (r * r)) a = y1 at *
      generalize cmpV (ofV ((r + 1) * (r + 1))) a = y2 at *
      generalize ofV (r * r) = m at *
      generalize ofV ((r + 1) * (r + 1)) = n at *
      rw [show m.cells = #[.int .i64 m.hi, .int .u64 m.lo] from rfl, show a.cells = #[.int .i64 a.hi, .int .u64 a.lo] from rfl] at *
      rw [show n.cells = #[.int .i64 n.hi, .int .u64 n.lo] from rfl] at *
      clear bm bn hr2 hr3
      replace N1 := Lib.hid N1
      replace N2 := Lib.hid N2
      replace N3 := Lib.hid N3
      replace N4 := Lib.hid N4
      replace C := C.step (j := 0) hX
      clear hX
      have cc0 := C.cells 0 rfl
      go_wp2_with fail
      refine (awake01 _).mono ?_; rintro e w2 ⟨rfl, hX⟩
      clear cc0
      replace C := C.step (j := 0) hX
      clear hX
      have cc0 := C.cells 0 rfl
      go_wp2_with fail
      have Cd := C.drew
      clear C
      refine wp_region_stage (CL W [(z, #[.int .i64 a.hi, .int .u64 a.lo])]) [] [(0, 0, false), (0, 0, false), (0, 0, false), (0, 0, false), (0, 0, false), (0, 0, false), (0, 0, false), (0, 0, false), (0, 0, false), (0, 0, false), (0, 0, false), (0, 0, false), (0, 0, false), (0, 0, false), (0, 0, false), (0, 0, false), (0, 0, false), (0, 0, false), (0, 0, false), (0, 0, false), (0, 0, false)]
        (by kernel_rfl) (by kernel_rfl) (by kernel_rfl) (Cd) ?_
      simp only [List.zip_cons_cons, List.zip_nil_right]
      refine wpStage_yes (by go_simp) ?_
      intro K hK
      apply Exists.intro
      refine ⟨fun kk ww hk1 hk2 hC => ?_, ?_⟩
      · go_simp
        with_reducible exact rfl
      go_simp
      refine hK _ ?_
      clear hK K
      refine wpStage_yes (by go_simp) ?_
      intro K hK
      apply Exists.intro
      refine ⟨fun kk ww hk1 hk2 hC => ?_, ?_⟩
      · go_simp
        with_reducible exact rfl
      go_simp
      refine hK _ ?_
      clear hK K
      refine wpStage_yes (by go_simp) ?_
      intro K hK
      apply Exists.intro
      refine ⟨fun kk ww hk1 hk2 hC => ?_, ?_⟩
      · go_simp
        with_reducible exact rfl
      go_simp
      refine hK _ ?_
      clear hK K
      refine wpStage_yes (by go_simp) ?_
      intro K hK
      apply Exists.intro
      refine ⟨fun kk ww hk1 hk2 hC => ?_, ?_⟩
      · go_simp
        with_reducible exact rfl
      go_simp
      refine hK _ ?_
      clear hK K
      refine wpStage_yes (by go_simp) ?_
      intro K hK
      apply Exists.intro
      refine ⟨fun kk ww hk1 hk2 hC => ?_, ?_⟩
      · go_simp
        go_at_call 10; refine (N1.out _).mono ?_; rintro e w' ⟨rfl, hX⟩
        exact ⟨rfl, hC.step hX⟩
      go_simp
      refine hK _ ?_
      clear hK K
      refine wpStage_yes (by go_simp) ?_
      intro K hK
      apply Exists.intro
      refine ⟨fun kk ww hk1 hk2 hC => ?_, ?_⟩
      · have c0 := (hC.get 0 rfl).cell 0; have c1 := (hC.get 0 rfl).cell 1
        go_simp
        with_reducible exact rfl
      go_simp
      refine hK _ ?_
      clear hK K
      refine wpStage_yes (by go_simp) ?_
      intro K hK
      apply Exists.intro
      refine ⟨fun kk ww hk1 hk2 hC => ?_, ?_⟩
      · go_simp
        go_at_call 20; refine (N2.out _).mono ?_; rintro e w' ⟨rfl, hX⟩
        exact ⟨rfl, hC.step hX⟩
      go_simp
      refine hK _ ?_
      clear hK K
      refine wpStage_yes (by go_simp) ?_
      intro K hK
      apply Exists.intro
      refine ⟨fun kk ww hk1 hk2 hC => ?_, ?_⟩
      · go_simp
        with_reducible exact rfl
      go_simp
      refine hK _ ?_
      clear hK K
      refine wpStage_yes (by go_simp) ?_
      intro K hK
      apply Exists.intro
      refine ⟨fun kk ww hk1 hk2 hC => ?_, ?_⟩
      · go_simp
        with_reducible exact rfl
      go_simp
      refine hK _ ?_
      clear hK K
      refine wpStage_yes (by go_simp) ?_
      intro K hK
      apply Exists.intro
      refine ⟨fun kk ww hk1 hk2 hC => ?_, ?_⟩
      · go_simp
        with_reducible exact rfl
      go_simp
      refine hK _ ?_
      clear hK K
      refine wpStage_yes (by go_simp) ?_
      intro K hK
      apply Exists.intro
      refine ⟨fun kk ww hk1 hk2 hC => ?_, ?_⟩
      · go_simp
        with_reducible exact rfl
      go_simp
      refine hK _ ?_
      clear hK K
      refine wpStage_yes (by go_simp) ?_
      intro K hK
      apply Exists.intro
      refine ⟨fun kk ww hk1 hk2 hC => ?_, ?_⟩
      · go_simp
        with_reducible exact rfl
      go_simp
      refine hK _ ?_
      clear hK K
      refine wpStage_yes (by go_simp) ?_
      intro K hK
      apply Exists.intro
      refine ⟨fun kk ww hk1 hk2 hC => ?_, ?_⟩
      · go_simp
        with_reducible exact rfl
      go_simp
      refine hK _ ?_
      clear hK K
      refine wpStage_yes (by go_simp) ?_
      intro K hK
      apply Exists.intro
      refine ⟨fun kk ww hk1 hk2 hC => ?_, ?_⟩
      · go_simp
        with_reducible exact rfl
      go_simp
      refine hK _ ?_
      clear hK K
      refine wpStage_yes (by go_simp) ?_
      intro K hK
      apply Exists.intro
      refine ⟨fun kk ww hk1 hk2 hC => ?_, ?_⟩
      · go_simp
        with_reducible exact rfl
      go_simp
      refine hK _ ?_
      clear hK K
      refine wpStage_yes (by go_simp) ?_
      intro K hK
      apply Exists.intro
      refine ⟨fun kk ww hk1 hk2 hC => ?_, ?_⟩
      · go_simp
        go_at_call 10; refine (N3.out _).mono ?_; rintro e w' ⟨rfl, hX⟩
        exact ⟨rfl, hC.step hX⟩
      go_simp
      refine hK _ ?_
      clear hK K
      refine wpStage_yes (by go_simp) ?_
      intro K hK
      apply Exists.intro
      refine ⟨fun kk ww hk1 hk2 hC => ?_, ?_⟩
      · have c0 := (hC.get 0 rfl).cell 0; have c1 := (hC.get 0 rfl).cell 1
        go_simp
        with_reducible exact rfl
      go_simp
      refine hK _ ?_
      clear hK K
      refine wpStage_yes (by go_simp) ?_
      intro K hK
      apply Exists.intro
      refine ⟨fun kk ww hk1 hk2 hC => ?_, ?_⟩
      · go_simp
        go_at_call 20; refine (N4.out _).mono ?_; rintro e w' ⟨rfl, hX⟩
        exact ⟨rfl, hC.step hX⟩
      go_simp
      refine hK _ ?_
      clear hK K
      refine wpStage_yes (by go_simp) ?_
      intro K hK
      apply Exists.intro
      refine ⟨fun kk ww hk1 hk2 hC => ?_, ?_⟩
      · go_simp
        with_reducible exact rfl
      go_simp
      refine hK _ ?_
      clear hK K
      refine wpStage_yes (by go_simp) ?_
      intro K hK
      apply Exists.intro
      refine ⟨fun kk ww hk1 hk2 hC => ?_, ?_⟩
      · go_simp
        with_reducible exact rfl
      go_simp
      refine hK _ ?_
      clear hK K
      refine wpStage_yes (by go_simp) ?_
      intro K hK
      apply Exists.intro
      refine ⟨fun kk ww hk1 hk2 hC => ?_, ?_⟩
      · go_simp
        with_reducible exact rfl
      go_simp
      refine hK _ ?_
      clear hK K
      refine wpStage_nil (fun ww hC => ?_)
      clear Cd
      have C := hC
      clear hC
      go_wp2_with fail
      go_returns
      exact ⟨rfl, hzW ▸ C.x.to_below⟩
    · clear hr2 hr3
      replace C := C.step (j := 0) hX
      clear hX
      have cc0 := C.cells 0 rfl
      go_wp2_with fail
      refine (awake01 _).mono ?_; rintro e w2 ⟨rfl, hX⟩
      clear cc0
      replace C := C.step (j := 0) hX
      clear hX
      have cc0 := C.cells 0 rfl
      go_wp2_with fail
      go_returns
      exact ⟨rfl, hzW ▸ C.x.to_below⟩
end Go.Proofs.Ytlhnnfofdkjapaa
