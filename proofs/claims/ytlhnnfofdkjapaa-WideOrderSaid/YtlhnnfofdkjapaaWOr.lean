/- Walk of the law WideOrder. -/
import Derived.Test.YtlhnnfofdkjapaaWla
namespace Go.Proofs.Ytlhnnfofdkjapaa
open Go.RowKit

set_option maxRecDepth 100000 in
set_option maxHeartbeats 4000000 in
theorem WideOrder_walk (W : World) (c1 : Array Value) (x1 : shWV.T) (h1 : shWV.rep W x1 c1.toList) (c2 : Array Value) (x2 : shWV.T) (h2 : shWV.rep W x2 c2.toList) (c3 : Array Value) (x3 : shWV.T) (h3 : shWV.rep W x3 c3.toList) :
    Calls Try.prog 6 #[.agg c1, .agg c2, .agg c3] W fun e w' => e = .returned (.bool true) ∧ Below W.heap.size W w' := by
  obtain ⟨rfl, ha⟩ := wv_of h1
  obtain ⟨rfl, hb⟩ := wv_of h2
  obtain ⟨rfl, hc⟩ := wv_of h3
  clear h1 h2 h3
  generalize toWV x1 = a at *
  generalize toWV x2 = b at *
  generalize toWV x3 = c at *
  have N1 := fun w => wcmp_any w a b ha hb
  have N2 := fun w => wcmp_any w b a hb ha
  have N3 := fun w => wcmp_any w b c hb hc
  have N4 := fun w => wcmp_any w a c ha hc
  have P1 := fun w => wadd_any w a c ha hc
  have P2 := fun w => wadd_any w b c hb hc
  have N5 := fun w => wcmp_any w (addV (a.val + c.val)) (addV (b.val + c.val)) (addV_ok _) (addV_ok _)
  have K1 := addV_val (a.val + c.val)
  have K2 := addV_val (b.val + c.val)
  have D1 := cmp_cases a b
  have D2 := cmp_cases b c
  have D3 := cmp_cases a c
  have D4 := cmp_cases (addV (a.val + c.val)) (addV (b.val + c.val))
  have Hinj := Lib.hid (fun h => val_inj ha hb h)
  have Hne0 : ¬a.val = b.val → ¬(a.hi = b.hi ∧ a.lo = b.lo) := fun h e => h (by unfold WV.val; rw [e.1, e.2])
  have H5 : fitsV (a.val + c.val) = true → fitsV (b.val + c.val) = true → cmpV (addV (a.val + c.val)) (addV (b.val + c.val)) = cmpV a b := fun g1 g2 => by
    have e1 := K1 g1
    have e2 := K2 g2
    rcases D1 with d | d | d <;> rcases D4 with e | e | e <;> omega
  generalize addV (a.val + c.val) = tx at *
  generalize addV (b.val + c.val) = ty at *
  generalize fitsV (a.val + c.val) = p at *
  generalize fitsV (b.val + c.val) = r at *
  generalize cmpV tx ty = x5 at *
  have Hfin := Lib.hid H5
  clear D4 K1 K2 H5 ha hb hc
  rw [show a.cells = #[.int .i64 a.hi, .int .u64 a.lo] from rfl] at *
  rw [show b.cells = #[.int .i64 b.hi, .int .u64 b.lo] from rfl] at *
  rw [show c.cells = #[.int .i64 c.hi, .int .u64 c.lo] from rfl] at *
  rw [show tx.cells = #[.int .i64 tx.hi, .int .u64 tx.lo] from rfl] at *
  rw [show ty.cells = #[.int .i64 ty.hi, .int .u64 ty.lo] from rfl] at *
  have C0 := (((CL.new W 0).push #[.int .i64 a.hi, .int .u64 a.lo] 24).push #[.int .i64 b.hi, .int .u64 b.lo] 24).push #[.int .i64 c.hi, .int .u64 c.lo] 24
  rw [show (W.alloc (.cells #[.int .i64 a.hi, .int .u64 a.lo] 24)).heap.size = W.heap.size + 1 by simp, show ((W.alloc (.cells #[.int .i64 a.hi, .int .u64 a.lo] 24)).alloc (.cells #[.int .i64 b.hi, .int .u64 b.lo] 24)).heap.size = W.heap.size + 1 + 1 by simp] at C0
  replace C0 := C0.drew
  go_enter Try.func6, Try.ntmps6
  generalize hzW : W.heap.size = z at *
  go_upto_region 1 with fail
  go_cut [50] (fun s wx => s = .bool false ∧ CL W [(z + 1 + 1, #[.int .i64 c.hi, .int .u64 c.lo]), (z + 1, #[.int .i64 b.hi, .int .u64 b.lo]), (z, #[.int .i64 a.hi, .int .u64 a.lo])] 0 wx)
  case first =>
    clear P1 P2 N5 Hfin
    rcases D1 with ⟨d, e1, e2⟩ | ⟨d, e1, e2⟩ | ⟨d, e1, e2⟩
    · rw [e1] at N1
      rw [e2] at N2
      have Hne := Lib.hid (Hne0 (by omega))
      clear Hne0
      by_cases y : cmpV b c < 0
      · have hbc : cmpV b c = -1 := by rcases D2 with f | f | f <;> omega
        have hac : cmpV a c = -1 := by rcases D2 with f | f | f <;> rcases D3 with g | g | g <;> omega
        rw [hbc] at N3
        rw [hac] at N4
        clear D2 D3 y hbc hac e1 e2 d
        replace N1 := Lib.hid N1
        replace N2 := Lib.hid N2
        replace N3 := Lib.hid N3
        replace N4 := Lib.hid N4
        have wm : IntKind.i64.wrap (-1) = -1 := by decide
        have wm1 : IntKind.i64.wrap 1 = 1 := by decide
        have wm0 : IntKind.i64.wrap 0 = 0 := by decide
        refine wp_region_stage (CL W [(z + 1 + 1, #[.int .i64 c.hi, .int .u64 c.lo]), (z + 1, #[.int .i64 b.hi, .int .u64 b.lo]), (z, #[.int .i64 a.hi, .int .u64 a.lo])]) [] [(0, 0, false), (0, 0, false), (0, 0, false), (0, 0, false), (0, 0, false), (0, 0, false), (0, 0, false), (0, 0, false), (0, 0, false), (0, 0, false), (0, 0, false), (0, 0, false), (0, 0, false), (0, 0, false), (0, 0, false), (0, 0, false), (0, 0, false), (0, 0, false), (0, 0, false), (0, 0, false), (0, 0, false), (0, 0, false), (0, 0, false), (0, 0, false), (0, 0, false), (0, 0, false), (0, 0, false), (0, 0, false), (0, 0, false), (0, 0, false), (0, 0, false), (0, 0, false), (0, 0, false), (0, 0, false), (0, 0, false), (0, 0, false), (0, 0, false), (0, 0, false), (0, 0, false), (0, 0, false)]
          (by kernel_rfl) (by kernel_rfl) (by kernel_rfl) (C0) ?_
        simp only [List.zip_cons_cons, List.zip_nil_right]
        refine wpStage_yes (by go_simp) ?_
        intro K hK
        apply Exists.intro
        refine ⟨fun kk ww hk1 hk2 hC => ?_, ?_⟩
        · go_simp
          go_at_call 11; refine (awake01 _).mono ?_; rintro e w' ⟨rfl, hX⟩
          exact ⟨rfl, hC.step hX⟩
        go_simp
        refine hK _ ?_
        clear hK K
        refine wpStage_yes (by go_simp) ?_
        intro K hK
        apply Exists.intro
        refine ⟨fun kk ww hk1 hk2 hC => ?_, ?_⟩
        · go_simp
          with_reducible exact rfl
        go_simp
        refine hK _ ?_
        clear hK K
        refine wpStage_yes (by go_simp) ?_
        intro K hK
        apply Exists.intro
        refine ⟨fun kk ww hk1 hk2 hC => ?_, ?_⟩
        · go_simp
          with_reducible exact rfl
        go_simp
        refine hK _ ?_
        clear hK K
        refine wpStage_yes (by go_simp) ?_
        intro K hK
        apply Exists.intro
        refine ⟨fun kk ww hk1 hk2 hC => ?_, ?_⟩
        · have c0 := (hC.get 2 rfl).cell 0; have c1 := (hC.get 2 rfl).cell 1
          go_simp
          with_reducible exact rfl
        go_simp
        refine hK _ ?_
        clear hK K
        refine wpStage_yes (by go_simp) ?_
        intro K hK
        apply Exists.intro
        refine ⟨fun kk ww hk1 hk2 hC => ?_, ?_⟩
        · have c0 := (hC.get 1 rfl).cell 0; have c1 := (hC.get 1 rfl).cell 1
          go_simp
          with_reducible exact rfl
        go_simp
        refine hK _ ?_
        clear hK K
        refine wpStage_yes (by go_simp) ?_
        intro K hK
        apply Exists.intro
        refine ⟨fun kk ww hk1 hk2 hC => ?_, ?_⟩
        · go_simp
          go_at_call 20; refine (N1.out _).mono ?_; rintro e w' ⟨rfl, hX⟩
          exact ⟨rfl, hC.step hX⟩
        go_simp
        refine hK _ ?_
        clear hK K
        refine wpStage_yes (by go_simp) ?_
        intro K hK
        apply Exists.intro
        refine ⟨fun kk ww hk1 hk2 hC => ?_, ?_⟩
        · have c0 := (hC.get 1 rfl).cell 0; have c1 := (hC.get 1 rfl).cell 1
          go_simp
          with_reducible exact rfl
        go_simp
        refine hK _ ?_
        clear hK K
        refine wpStage_yes (by go_simp) ?_
        intro K hK
        apply Exists.intro
        refine ⟨fun kk ww hk1 hk2 hC => ?_, ?_⟩
        · have c0 := (hC.get 2 rfl).cell 0; have c1 := (hC.get 2 rfl).cell 1
          go_simp
          with_reducible exact rfl
        go_simp
        refine hK _ ?_
        clear hK K
        refine wpStage_yes (by go_simp) ?_
        intro K hK
        apply Exists.intro
        refine ⟨fun kk ww hk1 hk2 hC => ?_, ?_⟩
        · go_simp
          go_at_call 20; refine (N2.out _).mono ?_; rintro e w' ⟨rfl, hX⟩
          exact ⟨rfl, hC.step hX⟩
        go_simp
        refine hK _ ?_
        clear hK K
        refine wpStage_yes (by go_simp) ?_
        intro K hK
        apply Exists.intro
        refine ⟨fun kk ww hk1 hk2 hC => ?_, ?_⟩
        · go_simp
          with_reducible exact rfl
        go_simp
        refine hK _ ?_
        clear hK K
        refine wpStage_yes (by go_simp) ?_
        intro K hK
        apply Exists.intro
        refine ⟨fun kk ww hk1 hk2 hC => ?_, ?_⟩
        · go_simp
          with_reducible exact rfl
        go_simp
        refine hK _ ?_
        clear hK K
        refine wpStage_yes (by go_simp) ?_
        intro K hK
        apply Exists.intro
        refine ⟨fun kk ww hk1 hk2 hC => ?_, ?_⟩
        · go_simp
          with_reducible exact rfl
        go_simp
        refine hK _ ?_
        clear hK K
        refine wpStage_yes (by go_simp) ?_
        intro K hK
        apply Exists.intro
        refine ⟨fun kk ww hk1 hk2 hC => ?_, ?_⟩
        · go_simp
          with_reducible exact rfl
        go_simp
        refine hK _ ?_
        clear hK K
        refine wpStage_yes (by go_simp) ?_
        intro K hK
        apply Exists.intro
        refine ⟨fun kk ww hk1 hk2 hC => ?_, ?_⟩
        · have c0 := (hC.get 2 rfl).cell 0; have c1 := (hC.get 2 rfl).cell 1
          go_simp
          with_reducible exact rfl
        go_simp
        refine hK _ ?_
        clear hK K
        refine wpStage_yes (by go_simp) ?_
        intro K hK
        apply Exists.intro
        refine ⟨fun kk ww hk1 hk2 hC => ?_, ?_⟩
        · have c0 := (hC.get 1 rfl).cell 0; have c1 := (hC.get 1 rfl).cell 1
          go_simp
          with_reducible exact rfl
        go_simp
        refine hK _ ?_
        clear hK K
        refine wpStage_yes (by go_simp) ?_
        intro K hK
        apply Exists.intro
        refine ⟨fun kk ww hk1 hk2 hC => ?_, ?_⟩
        · go_simp
          go_at_call 20; refine (N1.out _).mono ?_; rintro e w' ⟨rfl, hX⟩
          exact ⟨rfl, hC.step hX⟩
        go_simp
        refine hK _ ?_
        clear hK K
        refine wpStage_yes (by go_simp) ?_
        intro K hK
        apply Exists.intro
        refine ⟨fun kk ww hk1 hk2 hC => ?_, ?_⟩
        · go_simp
          with_reducible exact rfl
        go_simp
        refine hK _ ?_
        clear hK K
        refine wpStage_yes (by go_simp) ?_
        intro K hK
        apply Exists.intro
        refine ⟨fun kk ww hk1 hk2 hC => ?_, ?_⟩
        · have c0 := (hC.get 2 rfl).cell 0; have c1 := (hC.get 2 rfl).cell 1
          go_simp
          with_reducible exact rfl
        go_simp
        refine hK _ ?_
        clear hK K
        refine wpStage_yes (by go_simp) ?_
        intro K hK
        apply Exists.intro
        refine ⟨fun kk ww hk1 hk2 hC => ?_, ?_⟩
        · have c0 := (hC.get 1 rfl).cell 0; have c1 := (hC.get 1 rfl).cell 1
          go_simp
          with_reducible exact rfl
        go_simp
        refine hK _ ?_
        clear hK K
        refine wpStage_yes (by go_simp) ?_
        intro K hK
        refine ⟨.bool false, ?_⟩
        refine ⟨fun kk ww hk1 hk2 hC => ?_, ?_⟩
        · go_simp
          rw [if_if, if_neg Hne.out]
          exact ⟨rfl, hC⟩
        go_simp
        refine hK _ ?_
        clear hK K
        refine wpStage_yes (by go_simp) ?_
        intro K hK
        apply Exists.intro
        refine ⟨fun kk ww hk1 hk2 hC => ?_, ?_⟩
        · go_simp
          with_reducible exact rfl
        go_simp
        refine hK _ ?_
        clear hK K
        refine wpStage_yes (by go_simp) ?_
        intro K hK
        apply Exists.intro
        refine ⟨fun kk ww hk1 hk2 hC => ?_, ?_⟩
        · go_simp
          with_reducible exact rfl
        go_simp
        refine hK _ ?_
        clear hK K
        refine wpStage_yes (by go_simp) ?_
        intro K hK
        apply Exists.intro
        refine ⟨fun kk ww hk1 hk2 hC => ?_, ?_⟩
        · go_simp
          with_reducible exact rfl
        go_simp
        refine hK _ ?_
        clear hK K
        refine wpStage_yes (by go_simp) ?_
        intro K hK
        apply Exists.intro
        refine ⟨fun kk ww hk1 hk2 hC => ?_, ?_⟩
        · have c0 := (hC.get 2 rfl).cell 0; have c1 := (hC.get 2 rfl).cell 1
          go_simp
          with_reducible exact rfl
        go_simp
        refine hK _ ?_
        clear hK K
        refine wpStage_yes (by go_simp) ?_
        intro K hK
        apply Exists.intro
        refine ⟨fun kk ww hk1 hk2 hC => ?_, ?_⟩
        · have c0 := (hC.get 1 rfl).cell 0; have c1 := (hC.get 1 rfl).cell 1
          go_simp
          with_reducible exact rfl
        go_simp
        refine hK _ ?_
        clear hK K
        refine wpStage_yes (by go_simp) ?_
        intro K hK
        apply Exists.intro
        refine ⟨fun kk ww hk1 hk2 hC => ?_, ?_⟩
        · go_simp
          go_at_call 20; refine (N1.out _).mono ?_; rintro e w' ⟨rfl, hX⟩
          exact ⟨rfl, hC.step hX⟩
        go_simp
        refine hK _ ?_
        clear hK K
        refine wpStage_yes (by go_simp) ?_
        intro K hK
        apply Exists.intro
        refine ⟨fun kk ww hk1 hk2 hC => ?_, ?_⟩
        · go_simp
          with_reducible exact rfl
        go_simp
        refine hK _ ?_
        clear hK K
        refine wpStage_yes (by go_simp) ?_
        intro K hK
        apply Exists.intro
        refine ⟨fun kk ww hk1 hk2 hC => ?_, ?_⟩
        · go_simp
          with_reducible exact rfl
        go_simp
        refine hK _ ?_
        clear hK K
        refine wpStage_yes (by go_simp) ?_
        intro K hK
        apply Exists.intro
        refine ⟨fun kk ww hk1 hk2 hC => ?_, ?_⟩
        · have c0 := (hC.get 1 rfl).cell 0; have c1 := (hC.get 1 rfl).cell 1
          go_simp
          with_reducible exact rfl
        go_simp
        refine hK _ ?_
        clear hK K
        refine wpStage_yes (by go_simp) ?_
        intro K hK
        apply Exists.intro
        refine ⟨fun kk ww hk1 hk2 hC => ?_, ?_⟩
        · have c0 := (hC.get 0 rfl).cell 0; have c1 := (hC.get 0 rfl).cell 1
          go_simp
          with_reducible exact rfl
        go_simp
        refine hK _ ?_
        clear hK K
        refine wpStage_yes (by go_simp) ?_
        intro K hK
        apply Exists.intro
        refine ⟨fun kk ww hk1 hk2 hC => ?_, ?_⟩
        · go_simp
          go_at_call 20; refine (N3.out _).mono ?_; rintro e w' ⟨rfl, hX⟩
          exact ⟨rfl, hC.step hX⟩
        go_simp
        refine hK _ ?_
        clear hK K
        refine wpStage_yes (by go_simp) ?_
        intro K hK
        apply Exists.intro
        refine ⟨fun kk ww hk1 hk2 hC => ?_, ?_⟩
        · go_simp
          with_reducible exact rfl
        go_simp
        refine hK _ ?_
        clear hK K
        refine wpStage_yes (by go_simp) ?_
        intro K hK
        apply Exists.intro
        refine ⟨fun kk ww hk1 hk2 hC => ?_, ?_⟩
        · go_simp
          with_reducible exact rfl
        go_simp
        refine hK _ ?_
        clear hK K
        refine wpStage_yes (by go_simp) ?_
        intro K hK
        apply Exists.intro
        refine ⟨fun kk ww hk1 hk2 hC => ?_, ?_⟩
        · go_simp
          with_reducible exact rfl
        go_simp
        refine hK _ ?_
        clear hK K
        refine wpStage_yes (by go_simp) ?_
        intro K hK
        apply Exists.intro
        refine ⟨fun kk ww hk1 hk2 hC => ?_, ?_⟩
        · have c0 := (hC.get 2 rfl).cell 0; have c1 := (hC.get 2 rfl).cell 1
          go_simp
          with_reducible exact rfl
        go_simp
        refine hK _ ?_
        clear hK K
        refine wpStage_yes (by go_simp) ?_
        intro K hK
        apply Exists.intro
        refine ⟨fun kk ww hk1 hk2 hC => ?_, ?_⟩
        · have c0 := (hC.get 0 rfl).cell 0; have c1 := (hC.get 0 rfl).cell 1
          go_simp
          with_reducible exact rfl
        go_simp
        refine hK _ ?_
        clear hK K
        refine wpStage_yes (by go_simp) ?_
        intro K hK
        apply Exists.intro
        refine ⟨fun kk ww hk1 hk2 hC => ?_, ?_⟩
        · go_simp
          go_at_call 20; refine (N4.out _).mono ?_; rintro e w' ⟨rfl, hX⟩
          exact ⟨rfl, hC.step hX⟩
        go_simp
        refine hK _ ?_
        clear hK K
        refine wpStage_yes (by go_simp) ?_
        intro K hK
        apply Exists.intro
        refine ⟨fun kk ww hk1 hk2 hC => ?_, ?_⟩
        · go_simp
          with_reducible exact rfl
        go_simp
        refine hK _ ?_
        clear hK K
        refine wpStage_yes (by go_simp) ?_
        intro K hK
        apply Exists.intro
        refine ⟨fun kk ww hk1 hk2 hC => ?_, ?_⟩
        · go_simp
          with_reducible exact rfl
        go_simp
        refine hK _ ?_
        clear hK K
        refine wpStage_yes (by go_simp) ?_
        intro K hK
        apply Exists.intro
        refine ⟨fun kk ww hk1 hk2 hC => ?_, ?_⟩
        · go_simp
          with_reducible exact rfl
        go_simp
        refine hK _ ?_
        clear hK K
        refine wpStage_nil (fun ww hC => ?_)
        go_wp2_with fail
        go_meet
        exact ⟨rfl, hC⟩
      · have hbc : ¬cmpV b c < 0 := y
        generalize cmpV b c = y at *
        clear D2 D3 e1 e2 d N4
        replace N1 := Lib.hid N1
        replace N2 := Lib.hid N2
        replace N3 := Lib.hid N3
        have wm : IntKind.i64.wrap (-1) = -1 := by decide
        have wm1 : IntKind.i64.wrap 1 = 1 := by decide
        have wm0 : IntKind.i64.wrap 0 = 0 := by decide
        refine wp_region_stage (CL W [(z + 1 + 1, #[.int .i64 c.hi, .int .u64 c.lo]), (z + 1, #[.int .i64 b.hi, .int .u64 b.lo]), (z, #[.int .i64 a.hi, .int .u64 a.lo])]) [] [(0, 0, false), (0, 0, false), (0, 0, false), (0, 0, false), (0, 0, false), (0, 0, false), (0, 0, false), (0, 0, false), (0, 0, false), (0, 0, false), (0, 0, false), (0, 0, false), (0, 0, false), (0, 0, false), (0, 0, false), (0, 0, false), (0, 0, false), (0, 0, false), (0, 0, false), (0, 0, false), (0, 0, false), (0, 0, false), (0, 0, false), (0, 0, false), (0, 0, false), (0, 0, false), (0, 0, false), (0, 0, false), (0, 0, false), (0, 0, false), (0, 0, false), (0, 0, false), (0, 0, false), (0, 0, false), (0, 0, false), (0, 0, false), (0, 0, false), (0, 0, false), (0, 0, false), (0, 0, false)]
          (by kernel_rfl) (by kernel_rfl) (by kernel_rfl) (C0) ?_
        simp only [List.zip_cons_cons, List.zip_nil_right]
        refine wpStage_yes (by go_simp) ?_
        intro K hK
        apply Exists.intro
        refine ⟨fun kk ww hk1 hk2 hC => ?_, ?_⟩
        · go_simp
          go_at_call 11; refine (awake01 _).mono ?_; rintro e w' ⟨rfl, hX⟩
          exact ⟨rfl, hC.step hX⟩
        go_simp
        refine hK _ ?_
        clear hK K
        refine wpStage_yes (by go_simp) ?_
        intro K hK
        apply Exists.intro
        refine ⟨fun kk ww hk1 hk2 hC => ?_, ?_⟩
        · go_simp
          with_reducible exact rfl
        go_simp
        refine hK _ ?_
        clear hK K
        refine wpStage_yes (by go_simp) ?_
        intro K hK
        apply Exists.intro
        refine ⟨fun kk ww hk1 hk2 hC => ?_, ?_⟩
        · go_simp
          with_reducible exact rfl
        go_simp
        refine hK _ ?_
        clear hK K
        refine wpStage_yes (by go_simp) ?_
        intro K hK
        apply Exists.intro
        refine ⟨fun kk ww hk1 hk2 hC => ?_, ?_⟩
        · have c0 := (hC.get 2 rfl).cell 0; have c1 := (hC.get 2 rfl).cell 1
          go_simp
          with_reducible exact rfl
        go_simp
        refine hK _ ?_
        clear hK K
        refine wpStage_yes (by go_simp) ?_
        intro K hK
        apply Exists.intro
        refine ⟨fun kk ww hk1 hk2 hC => ?_, ?_⟩
        · have c0 := (hC.get 1 rfl).cell 0; have c1 := (hC.get 1 rfl).cell 1
          go_simp
          with_reducible exact rfl
        go_simp
        refine hK _ ?_
        clear hK K
        refine wpStage_yes (by go_simp) ?_
        intro K hK
        apply Exists.intro
        refine ⟨fun kk ww hk1 hk2 hC => ?_, ?_⟩
        · go_simp
          go_at_call 20; refine (N1.out _).mono ?_; rintro e w' ⟨rfl, hX⟩
          exact ⟨rfl, hC.step hX⟩
        go_simp
        refine hK _ ?_
        clear hK K
        refine wpStage_yes (by go_simp) ?_
        intro K hK
        apply Exists.intro
        refine ⟨fun kk ww hk1 hk2 hC => ?_, ?_⟩
        · have c0 := (hC.get 1 rfl).cell 0; have c1 := (hC.get 1 rfl).cell 1
          go_simp
          with_reducible exact rfl
        go_simp
        refine hK _ ?_
        clear hK K
        refine wpStage_yes (by go_simp) ?_
        intro K hK
        apply Exists.intro
        refine ⟨fun kk ww hk1 hk2 hC => ?_, ?_⟩
        · have c0 := (hC.get 2 rfl).cell 0; have c1 := (hC.get 2 rfl).cell 1
          go_simp
          with_reducible exact rfl
        go_simp
        refine hK _ ?_
        clear hK K
        refine wpStage_yes (by go_simp) ?_
        intro K hK
        apply Exists.intro
        refine ⟨fun kk ww hk1 hk2 hC => ?_, ?_⟩
        · go_simp
          go_at_call 20; refine (N2.out _).mono ?_; rintro e w' ⟨rfl, hX⟩
          exact ⟨rfl, hC.step hX⟩
        go_simp
        refine hK _ ?_
        clear hK K
        refine wpStage_yes (by go_simp) ?_
        intro K hK
        apply Exists.intro
        refine ⟨fun kk ww hk1 hk2 hC => ?_, ?_⟩
        · go_simp
          with_reducible exact rfl
        go_simp
        refine hK _ ?_
        clear hK K
        refine wpStage_yes (by go_simp) ?_
        intro K hK
        apply Exists.intro
        refine ⟨fun kk ww hk1 hk2 hC => ?_, ?_⟩
        · go_simp
          with_reducible exact rfl
        go_simp
        refine hK _ ?_
        clear hK K
        refine wpStage_yes (by go_simp) ?_
        intro K hK
        apply Exists.intro
        refine ⟨fun kk ww hk1 hk2 hC => ?_, ?_⟩
        · go_simp
          with_reducible exact rfl
        go_simp
        refine hK _ ?_
        clear hK K
        refine wpStage_yes (by go_simp) ?_
        intro K hK
        apply Exists.intro
        refine ⟨fun kk ww hk1 hk2 hC => ?_, ?_⟩
        · go_simp
          with_reducible exact rfl
        go_simp
        refine hK _ ?_
        clear hK K
        refine wpStage_yes (by go_simp) ?_
        intro K hK
        apply Exists.intro
        refine ⟨fun kk ww hk1 hk2 hC => ?_, ?_⟩
        · have c0 := (hC.get 2 rfl).cell 0; have c1 := (hC.get 2 rfl).cell 1
          go_simp
          with_reducible exact rfl
        go_simp
        refine hK _ ?_
        clear hK K
        refine wpStage_yes (by go_simp) ?_
        intro K hK
        apply Exists.intro
        refine ⟨fun kk ww hk1 hk2 hC => ?_, ?_⟩
        · have c0 := (hC.get 1 rfl).cell 0; have c1 := (hC.get 1 rfl).cell 1
          go_simp
          with_reducible exact rfl
        go_simp
        refine hK _ ?_
        clear hK K
        refine wpStage_yes (by go_simp) ?_
        intro K hK
        apply Exists.intro
        refine ⟨fun kk ww hk1 hk2 hC => ?_, ?_⟩
        · go_simp
          go_at_call 20; refine (N1.out _).mono ?_; rintro e w' ⟨rfl, hX⟩
          exact ⟨rfl, hC.step hX⟩
        go_simp
        refine hK _ ?_
        clear hK K
        refine wpStage_yes (by go_simp) ?_
        intro K hK
        apply Exists.intro
        refine ⟨fun kk ww hk1 hk2 hC => ?_, ?_⟩
        · go_simp
          with_reducible exact rfl
        go_simp
        refine hK _ ?_
        clear hK K
        refine wpStage_yes (by go_simp) ?_
        intro K hK
        apply Exists.intro
        refine ⟨fun kk ww hk1 hk2 hC => ?_, ?_⟩
        · have c0 := (hC.get 2 rfl).cell 0; have c1 := (hC.get 2 rfl).cell 1
          go_simp
          with_reducible exact rfl
        go_simp
        refine hK _ ?_
        clear hK K
        refine wpStage_yes (by go_simp) ?_
        intro K hK
        apply Exists.intro
        refine ⟨fun kk ww hk1 hk2 hC => ?_, ?_⟩
        · have c0 := (hC.get 1 rfl).cell 0; have c1 := (hC.get 1 rfl).cell 1
          go_simp
          with_reducible exact rfl
        go_simp
        refine hK _ ?_
        clear hK K
        refine wpStage_yes (by go_simp) ?_
        intro K hK
        refine ⟨.bool false, ?_⟩
        refine ⟨fun kk ww hk1 hk2 hC => ?_, ?_⟩
        · go_simp
          rw [if_if, if_neg Hne.out]
          exact ⟨rfl, hC⟩
        go_simp
        refine hK _ ?_
        clear hK K
        refine wpStage_yes (by go_simp) ?_
        intro K hK
        apply Exists.intro
        refine ⟨fun kk ww hk1 hk2 hC => ?_, ?_⟩
        · go_simp
          with_reducible exact rfl
        go_simp
        refine hK _ ?_
        clear hK K
        refine wpStage_yes (by go_simp) ?_
        intro K hK
        apply Exists.intro
        refine ⟨fun kk ww hk1 hk2 hC => ?_, ?_⟩
        · go_simp
          with_reducible exact rfl
        go_simp
        refine hK _ ?_
        clear hK K
        refine wpStage_yes (by go_simp) ?_
        intro K hK
        apply Exists.intro
        refine ⟨fun kk ww hk1 hk2 hC => ?_, ?_⟩
        · go_simp
          with_reducible exact rfl
        go_simp
        refine hK _ ?_
        clear hK K
        refine wpStage_yes (by go_simp) ?_
        intro K hK
        apply Exists.intro
        refine ⟨fun kk ww hk1 hk2 hC => ?_, ?_⟩
        · have c0 := (hC.get 2 rfl).cell 0; have c1 := (hC.get 2 rfl).cell 1
          go_simp
          with_reducible exact rfl
        go_simp
        refine hK _ ?_
        clear hK K
        refine wpStage_yes (by go_simp) ?_
        intro K hK
        apply Exists.intro
        refine ⟨fun kk ww hk1 hk2 hC => ?_, ?_⟩
        · have c0 := (hC.get 1 rfl).cell 0; have c1 := (hC.get 1 rfl).cell 1
          go_simp
          with_reducible exact rfl
        go_simp
        refine hK _ ?_
        clear hK K
        refine wpStage_yes (by go_simp) ?_
        intro K hK
        apply Exists.intro
        refine ⟨fun kk ww hk1 hk2 hC => ?_, ?_⟩
        · go_simp
          go_at_call 20; refine (N1.out _).mono ?_; rintro e w' ⟨rfl, hX⟩
          exact ⟨rfl, hC.step hX⟩
        go_simp
        refine hK _ ?_
        clear hK K
        refine wpStage_yes (by go_simp) ?_
        intro K hK
        apply Exists.intro
        refine ⟨fun kk ww hk1 hk2 hC => ?_, ?_⟩
        · go_simp
          with_reducible exact rfl
        go_simp
        refine hK _ ?_
        clear hK K
        refine wpStage_yes (by go_simp) ?_
        intro K hK
        apply Exists.intro
        refine ⟨fun kk ww hk1 hk2 hC => ?_, ?_⟩
        · go_simp
          with_reducible exact rfl
        go_simp
        refine hK _ ?_
        clear hK K
        refine wpStage_yes (by go_simp) ?_
        intro K hK
        apply Exists.intro
        refine ⟨fun kk ww hk1 hk2 hC => ?_, ?_⟩
        · have c0 := (hC.get 1 rfl).cell 0; have c1 := (hC.get 1 rfl).cell 1
          go_simp
          with_reducible exact rfl
        go_simp
        refine hK _ ?_
        clear hK K
        refine wpStage_yes (by go_simp) ?_
        intro K hK
        apply Exists.intro
        refine ⟨fun kk ww hk1 hk2 hC => ?_, ?_⟩
        · have c0 := (hC.get 0 rfl).cell 0; have c1 := (hC.get 0 rfl).cell 1
          go_simp
          with_reducible exact rfl
        go_simp
        refine hK _ ?_
        clear hK K
        refine wpStage_yes (by go_simp) ?_
        intro K hK
        apply Exists.intro
        refine ⟨fun kk ww hk1 hk2 hC => ?_, ?_⟩
        · go_simp
          go_at_call 20; refine (N3.out _).mono ?_; rintro e w' ⟨rfl, hX⟩
          exact ⟨rfl, hC.step hX⟩
        go_simp
        refine hK _ ?_
        clear hK K
        refine wpStage_yes (by go_simp) ?_
        intro K hK
        apply Exists.intro
        refine ⟨fun kk ww hk1 hk2 hC => ?_, ?_⟩
        · go_simp
          with_reducible exact rfl
        go_simp
        refine hK _ ?_
        clear hK K
        refine wpStage_yes (by go_simp) ?_
        intro K hK
        apply Exists.intro
        refine ⟨fun kk ww hk1 hk2 hC => ?_, ?_⟩
        · go_simp
          with_reducible exact rfl
        go_simp
        refine hK _ ?_
        clear hK K
        refine wpStage_yes (by go_simp) ?_
        intro K hK
        apply Exists.intro
        refine ⟨fun kk ww hk1 hk2 hC => ?_, ?_⟩
        · go_simp
          with_reducible exact rfl
        go_simp
        refine hK _ ?_
        clear hK K
        refine wpStage_no (by go_simp) ?_
        intro K hK
        go_simp
        refine hK _ ?_
        clear hK K
        refine wpStage_no (by go_simp) ?_
        intro K hK
        go_simp
        refine hK _ ?_
        clear hK K
        refine wpStage_no (by go_simp) ?_
        intro K hK
        go_simp
        refine hK _ ?_
        clear hK K
        refine wpStage_no (by go_simp) ?_
        intro K hK
        go_simp
        refine hK _ ?_
        clear hK K
        refine wpStage_yes (by go_simp) ?_
        intro K hK
        apply Exists.intro
        refine ⟨fun kk ww hk1 hk2 hC => ?_, ?_⟩
        · go_simp
          with_reducible exact rfl
        go_simp
        refine hK _ ?_
        clear hK K
        refine wpStage_yes (by go_simp) ?_
        intro K hK
        apply Exists.intro
        refine ⟨fun kk ww hk1 hk2 hC => ?_, ?_⟩
        · go_simp
          with_reducible exact rfl
        go_simp
        refine hK _ ?_
        clear hK K
        refine wpStage_nil (fun ww hC => ?_)
        go_wp2_with fail
        go_meet
        exact ⟨rfl, hC⟩
    · obtain rfl := Hinj.out d
      clear Hinj Hne0 D2 D3 N3 N4
      rw [e1] at N1
      rw [e2] at N2
      clear e1 e2 d
      replace N1 := Lib.hid N1
      replace N2 := Lib.hid N2
      have wm : IntKind.i64.wrap (-1) = -1 := by decide
      have wm1 : IntKind.i64.wrap 1 = 1 := by decide
      have wm0 : IntKind.i64.wrap 0 = 0 := by decide
      refine wp_region_stage (CL W [(z + 1 + 1, #[.int .i64 c.hi, .int .u64 c.lo]), (z + 1, #[.int .i64 a.hi, .int .u64 a.lo]), (z, #[.int .i64 a.hi, .int .u64 a.lo])]) [] [(0, 0, false), (0, 0, false), (0, 0, false), (0, 0, false), (0, 0, false), (0, 0, false), (0, 0, false), (0, 0, false), (0, 0, false), (0, 0, false), (0, 0, false), (0, 0, false), (0, 0, false), (0, 0, false), (0, 0, false), (0, 0, false), (0, 0, false), (0, 0, false), (0, 0, false), (0, 0, false), (0, 0, false), (0, 0, false), (0, 0, false), (0, 0, false), (0, 0, false), (0, 0, false), (0, 0, false), (0, 0, false), (0, 0, false), (0, 0, false), (0, 0, false), (0, 0, false), (0, 0, false), (0, 0, false), (0, 0, false), (0, 0, false), (0, 0, false), (0, 0, false), (0, 0, false), (0, 0, false)]
        (by kernel_rfl) (by kernel_rfl) (by kernel_rfl) (C0) ?_
      simp only [List.zip_cons_cons, List.zip_nil_right]
      refine wpStage_yes (by go_simp) ?_
      intro K hK
      apply Exists.intro
      refine ⟨fun kk ww hk1 hk2 hC => ?_, ?_⟩
      · go_simp
        go_at_call 11; refine (awake01 _).mono ?_; rintro e w' ⟨rfl, hX⟩
        exact ⟨rfl, hC.step hX⟩
      go_simp
      refine hK _ ?_
      clear hK K
      refine wpStage_yes (by go_simp) ?_
      intro K hK
      apply Exists.intro
      refine ⟨fun kk ww hk1 hk2 hC => ?_, ?_⟩
      · go_simp
        with_reducible exact rfl
      go_simp
      refine hK _ ?_
      clear hK K
      refine wpStage_yes (by go_simp) ?_
      intro K hK
      apply Exists.intro
      refine ⟨fun kk ww hk1 hk2 hC => ?_, ?_⟩
      · go_simp
        with_reducible exact rfl
      go_simp
      refine hK _ ?_
      clear hK K
      refine wpStage_yes (by go_simp) ?_
      intro K hK
      apply Exists.intro
      refine ⟨fun kk ww hk1 hk2 hC => ?_, ?_⟩
      · have c0 := (hC.get 2 rfl).cell 0; have c1 := (hC.get 2 rfl).cell 1
        go_simp
        with_reducible exact rfl
      go_simp
      refine hK _ ?_
      clear hK K
      refine wpStage_yes (by go_simp) ?_
      intro K hK
      apply Exists.intro
      refine ⟨fun kk ww hk1 hk2 hC => ?_, ?_⟩
      · have c0 := (hC.get 1 rfl).cell 0; have c1 := (hC.get 1 rfl).cell 1
        go_simp
        with_reducible exact rfl
      go_simp
      refine hK _ ?_
      clear hK K
      refine wpStage_yes (by go_simp) ?_
      intro K hK
      apply Exists.intro
      refine ⟨fun kk ww hk1 hk2 hC => ?_, ?_⟩
      · go_simp
        go_at_call 20; refine (N1.out _).mono ?_; rintro e w' ⟨rfl, hX⟩
        exact ⟨rfl, hC.step hX⟩
      go_simp
      refine hK _ ?_
      clear hK K
      refine wpStage_yes (by go_simp) ?_
      intro K hK
      apply Exists.intro
      refine ⟨fun kk ww hk1 hk2 hC => ?_, ?_⟩
      · have c0 := (hC.get 1 rfl).cell 0; have c1 := (hC.get 1 rfl).cell 1
        go_simp
        with_reducible exact rfl
      go_simp
      refine hK _ ?_
      clear hK K
      refine wpStage_yes (by go_simp) ?_
      intro K hK
      apply Exists.intro
      refine ⟨fun kk ww hk1 hk2 hC => ?_, ?_⟩
      · have c0 := (hC.get 2 rfl).cell 0; have c1 := (hC.get 2 rfl).cell 1
        go_simp
        with_reducible exact rfl
      go_simp
      refine hK _ ?_
      clear hK K
      refine wpStage_yes (by go_simp) ?_
      intro K hK
      apply Exists.intro
      refine ⟨fun kk ww hk1 hk2 hC => ?_, ?_⟩
      · go_simp
        go_at_call 20; refine (N2.out _).mono ?_; rintro e w' ⟨rfl, hX⟩
        exact ⟨rfl, hC.step hX⟩
      go_simp
      refine hK _ ?_
      clear hK K
      refine wpStage_yes (by go_simp) ?_
      intro K hK
      apply Exists.intro
      refine ⟨fun kk ww hk1 hk2 hC => ?_, ?_⟩
      · go_simp
        with_reducible exact rfl
      go_simp
      refine hK _ ?_
      clear hK K
      refine wpStage_yes (by go_simp) ?_
      intro K hK
      apply Exists.intro
      refine ⟨fun kk ww hk1 hk2 hC => ?_, ?_⟩
      · go_simp
        with_reducible exact rfl
      go_simp
      refine hK _ ?_
      clear hK K
      refine wpStage_yes (by go_simp) ?_
      intro K hK
      apply Exists.intro
      refine ⟨fun kk ww hk1 hk2 hC => ?_, ?_⟩
      · go_simp
        with_reducible exact rfl
      go_simp
      refine hK _ ?_
      clear hK K
      refine wpStage_yes (by go_simp) ?_
      intro K hK
      apply Exists.intro
      refine ⟨fun kk ww hk1 hk2 hC => ?_, ?_⟩
      · go_simp
        with_reducible exact rfl
      go_simp
      refine hK _ ?_
      clear hK K
      refine wpStage_yes (by go_simp) ?_
      intro K hK
      apply Exists.intro
      refine ⟨fun kk ww hk1 hk2 hC => ?_, ?_⟩
      · have c0 := (hC.get 2 rfl).cell 0; have c1 := (hC.get 2 rfl).cell 1
        go_simp
        with_reducible exact rfl
      go_simp
      refine hK _ ?_
      clear hK K
      refine wpStage_yes (by go_simp) ?_
      intro K hK
      apply Exists.intro
      refine ⟨fun kk ww hk1 hk2 hC => ?_, ?_⟩
      · have c0 := (hC.get 1 rfl).cell 0; have c1 := (hC.get 1 rfl).cell 1
        go_simp
        with_reducible exact rfl
      go_simp
      refine hK _ ?_
      clear hK K
      refine wpStage_yes (by go_simp) ?_
      intro K hK
      apply Exists.intro
      refine ⟨fun kk ww hk1 hk2 hC => ?_, ?_⟩
      · go_simp
        go_at_call 20; refine (N1.out _).mono ?_; rintro e w' ⟨rfl, hX⟩
        exact ⟨rfl, hC.step hX⟩
      go_simp
      refine hK _ ?_
      clear hK K
      refine wpStage_yes (by go_simp) ?_
      intro K hK
      apply Exists.intro
      refine ⟨fun kk ww hk1 hk2 hC => ?_, ?_⟩
      · go_simp
        with_reducible exact rfl
      go_simp
      refine hK _ ?_
      clear hK K
      refine wpStage_yes (by go_simp) ?_
      intro K hK
      apply Exists.intro
      refine ⟨fun kk ww hk1 hk2 hC => ?_, ?_⟩
      · have c0 := (hC.get 2 rfl).cell 0; have c1 := (hC.get 2 rfl).cell 1
        go_simp
        with_reducible exact rfl
      go_simp
      refine hK _ ?_
      clear hK K
      refine wpStage_yes (by go_simp) ?_
      intro K hK
      apply Exists.intro
      refine ⟨fun kk ww hk1 hk2 hC => ?_, ?_⟩
      · have c0 := (hC.get 1 rfl).cell 0; have c1 := (hC.get 1 rfl).cell 1
        go_simp
        with_reducible exact rfl
      go_simp
      refine hK _ ?_
      clear hK K
      refine wpStage_yes (by go_simp) ?_
      intro K hK
      apply Exists.intro
      refine ⟨fun kk ww hk1 hk2 hC => ?_, ?_⟩
      · go_simp
        with_reducible exact rfl
      go_simp
      refine hK _ ?_
      clear hK K
      refine wpStage_yes (by go_simp) ?_
      intro K hK
      apply Exists.intro
      refine ⟨fun kk ww hk1 hk2 hC => ?_, ?_⟩
      · go_simp
        with_reducible exact rfl
      go_simp
      refine hK _ ?_
      clear hK K
      refine wpStage_yes (by go_simp) ?_
      intro K hK
      apply Exists.intro
      refine ⟨fun kk ww hk1 hk2 hC => ?_, ?_⟩
      · go_simp
        with_reducible exact rfl
      go_simp
      refine hK _ ?_
      clear hK K
      refine wpStage_yes (by go_simp) ?_
      intro K hK
      apply Exists.intro
      refine ⟨fun kk ww hk1 hk2 hC => ?_, ?_⟩
      · go_simp
        with_reducible exact rfl
      go_simp
      refine hK _ ?_
      clear hK K
      refine wpStage_yes (by go_simp) ?_
      intro K hK
      apply Exists.intro
      refine ⟨fun kk ww hk1 hk2 hC => ?_, ?_⟩
      · have c0 := (hC.get 2 rfl).cell 0; have c1 := (hC.get 2 rfl).cell 1
        go_simp
        with_reducible exact rfl
      go_simp
      refine hK _ ?_
      clear hK K
      refine wpStage_yes (by go_simp) ?_
      intro K hK
      apply Exists.intro
      refine ⟨fun kk ww hk1 hk2 hC => ?_, ?_⟩
      · have c0 := (hC.get 1 rfl).cell 0; have c1 := (hC.get 1 rfl).cell 1
        go_simp
        with_reducible exact rfl
      go_simp
      refine hK _ ?_
      clear hK K
      refine wpStage_yes (by go_simp) ?_
      intro K hK
      apply Exists.intro
      refine ⟨fun kk ww hk1 hk2 hC => ?_, ?_⟩
      · go_simp
        go_at_call 20; refine (N1.out _).mono ?_; rintro e w' ⟨rfl, hX⟩
        exact ⟨rfl, hC.step hX⟩
      go_simp
      refine hK _ ?_
      clear hK K
      refine wpStage_yes (by go_simp) ?_
      intro K hK
      apply Exists.intro
      refine ⟨fun kk ww hk1 hk2 hC => ?_, ?_⟩
      · go_simp
        with_reducible exact rfl
      go_simp
      refine hK _ ?_
      clear hK K
      refine wpStage_yes (by go_simp) ?_
      intro K hK
      apply Exists.intro
      refine ⟨fun kk ww hk1 hk2 hC => ?_, ?_⟩
      · go_simp
        with_reducible exact rfl
      go_simp
      refine hK _ ?_
      clear hK K
      refine wpStage_no (by go_simp) ?_
      intro K hK
      go_simp
      refine hK _ ?_
      clear hK K
      refine wpStage_no (by go_simp) ?_
      intro K hK
      go_simp
      refine hK _ ?_
      clear hK K
      refine wpStage_no (by go_simp) ?_
      intro K hK
      go_simp
      refine hK _ ?_
      clear hK K
      refine wpStage_no (by go_simp) ?_
      intro K hK
      go_simp
      refine hK _ ?_
      clear hK K
      refine wpStage_yes (by go_simp) ?_
      intro K hK
      apply Exists.intro
      refine ⟨fun kk ww hk1 hk2 hC => ?_, ?_⟩
      · go_simp
        with_reducible exact rfl
      go_simp
      refine hK _ ?_
      clear hK K
      refine wpStage_yes (by go_simp) ?_
      intro K hK
      apply Exists.intro
      refine ⟨fun kk ww hk1 hk2 hC => ?_, ?_⟩
      · go_simp
        with_reducible exact rfl
      go_simp
      refine hK _ ?_
      clear hK K
      refine wpStage_no (by go_simp) ?_
      intro K hK
      go_simp
      refine hK _ ?_
      clear hK K
      refine wpStage_no (by go_simp) ?_
      intro K hK
      go_simp
      refine hK _ ?_
      clear hK K
      refine wpStage_no (by go_simp) ?_
      intro K hK
      go_simp
      refine hK _ ?_
      clear hK K
      refine wpStage_no (by go_simp) ?_
      intro K hK
      go_simp
      refine hK _ ?_
      clear hK K
      refine wpStage_yes (by go_simp) ?_
      intro K hK
      apply Exists.intro
      refine ⟨fun kk ww hk1 hk2 hC => ?_, ?_⟩
      · go_simp
        with_reducible exact rfl
      go_simp
      refine hK _ ?_
      clear hK K
      refine wpStage_yes (by go_simp) ?_
      intro K hK
      apply Exists.intro
      refine ⟨fun kk ww hk1 hk2 hC => ?_, ?_⟩
      · go_simp
        with_reducible exact rfl
      go_simp
      refine hK _ ?_
      clear hK K
      refine wpStage_nil (fun ww hC => ?_)
      go_wp2_with fail
      go_meet
      exact ⟨rfl, hC⟩
    · rw [e1] at N1
      rw [e2] at N2
      have Hne := Lib.hid (Hne0 (by omega))
      clear Hne0 D2 D3 N3 N4 e1 e2 d
      replace N1 := Lib.hid N1
      replace N2 := Lib.hid N2
      have wm : IntKind.i64.wrap (-1) = -1 := by decide
      have wm1 : IntKind.i64.wrap 1 = 1 := by decide
      have wm0 : IntKind.i64.wrap 0 = 0 := by decide
      refine wp_region_stage (CL W [(z + 1 + 1, #[.int .i64 c.hi, .int .u64 c.lo]), (z + 1, #[.int .i64 b.hi, .int .u64 b.lo]), (z, #[.int .i64 a.hi, .int .u64 a.lo])]) [] [(0, 0, false), (0, 0, false), (0, 0, false), (0, 0, false), (0, 0, false), (0, 0, false), (0, 0, false), (0, 0, false), (0, 0, false), (0, 0, false), (0, 0, false), (0, 0, false), (0, 0, false), (0, 0, false), (0, 0, false), (0, 0, false), (0, 0, false), (0, 0, false), (0, 0, false), (0, 0, false), (0, 0, false), (0, 0, false), (0, 0, false), (0, 0, false), (0, 0, false), (0, 0, false), (0, 0, false), (0, 0, false), (0, 0, false), (0, 0, false), (0, 0, false), (0, 0, false), (0, 0, false), (0, 0, false), (0, 0, false), (0, 0, false), (0, 0, false), (0, 0, false), (0, 0, false), (0, 0, false)]
        (by kernel_rfl) (by kernel_rfl) (by kernel_rfl) (C0) ?_
      simp only [List.zip_cons_cons, List.zip_nil_right]
      refine wpStage_yes (by go_simp) ?_
      intro K hK
      apply Exists.intro
      refine ⟨fun kk ww hk1 hk2 hC => ?_, ?_⟩
      · go_simp
        go_at_call 11; refine (awake01 _).mono ?_; rintro e w' ⟨rfl, hX⟩
        exact ⟨rfl, hC.step hX⟩
      go_simp
      refine hK _ ?_
      clear hK K
      refine wpStage_yes (by go_simp) ?_
      intro K hK
      apply Exists.intro
      refine ⟨fun kk ww hk1 hk2 hC => ?_, ?_⟩
      · go_simp
        with_reducible exact rfl
      go_simp
      refine hK _ ?_
      clear hK K
      refine wpStage_yes (by go_simp) ?_
      intro K hK
      apply Exists.intro
      refine ⟨fun kk ww hk1 hk2 hC => ?_, ?_⟩
      · go_simp
        with_reducible exact rfl
      go_simp
      refine hK _ ?_
      clear hK K
      refine wpStage_yes (by go_simp) ?_
      intro K hK
      apply Exists.intro
      refine ⟨fun kk ww hk1 hk2 hC => ?_, ?_⟩
      · have c0 := (hC.get 2 rfl).cell 0; have c1 := (hC.get 2 rfl).cell 1
        go_simp
        with_reducible exact rfl
      go_simp
      refine hK _ ?_
      clear hK K
      refine wpStage_yes (by go_simp) ?_
      intro K hK
      apply Exists.intro
      refine ⟨fun kk ww hk1 hk2 hC => ?_, ?_⟩
      · have c0 := (hC.get 1 rfl).cell 0; have c1 := (hC.get 1 rfl).cell 1
        go_simp
        with_reducible exact rfl
      go_simp
      refine hK _ ?_
      clear hK K
      refine wpStage_yes (by go_simp) ?_
      intro K hK
      apply Exists.intro
      refine ⟨fun kk ww hk1 hk2 hC => ?_, ?_⟩
      · go_simp
        go_at_call 20; refine (N1.out _).mono ?_; rintro e w' ⟨rfl, hX⟩
        exact ⟨rfl, hC.step hX⟩
      go_simp
      refine hK _ ?_
      clear hK K
      refine wpStage_yes (by go_simp) ?_
      intro K hK
      apply Exists.intro
      refine ⟨fun kk ww hk1 hk2 hC => ?_, ?_⟩
      · have c0 := (hC.get 1 rfl).cell 0; have c1 := (hC.get 1 rfl).cell 1
        go_simp
        with_reducible exact rfl
      go_simp
      refine hK _ ?_
      clear hK K
      refine wpStage_yes (by go_simp) ?_
      intro K hK
      apply Exists.intro
      refine ⟨fun kk ww hk1 hk2 hC => ?_, ?_⟩
      · have c0 := (hC.get 2 rfl).cell 0; have c1 := (hC.get 2 rfl).cell 1
        go_simp
        with_reducible exact rfl
      go_simp
      refine hK _ ?_
      clear hK K
      refine wpStage_yes (by go_simp) ?_
      intro K hK
      apply Exists.intro
      refine ⟨fun kk ww hk1 hk2 hC => ?_, ?_⟩
      · go_simp
        go_at_call 20; refine (N2.out _).mono ?_; rintro e w' ⟨rfl, hX⟩
        exact ⟨rfl, hC.step hX⟩
      go_simp
      refine hK _ ?_
      clear hK K
      refine wpStage_yes (by go_simp) ?_
      intro K hK
      apply Exists.intro
      refine ⟨fun kk ww hk1 hk2 hC => ?_, ?_⟩
      · go_simp
        with_reducible exact rfl
      go_simp
      refine hK _ ?_
      clear hK K
      refine wpStage_yes (by go_simp) ?_
      intro K hK
      apply Exists.intro
      refine ⟨fun kk ww hk1 hk2 hC => ?_, ?_⟩
      · go_simp
        with_reducible exact rfl
      go_simp
      refine hK _ ?_
      clear hK K
      refine wpStage_yes (by go_simp) ?_
      intro K hK
      apply Exists.intro
      refine ⟨fun kk ww hk1 hk2 hC => ?_, ?_⟩
      · go_simp
        with_reducible exact rfl
      go_simp
      refine hK _ ?_
      clear hK K
      refine wpStage_yes (by go_simp) ?_
      intro K hK
      apply Exists.intro
      refine ⟨fun kk ww hk1 hk2 hC => ?_, ?_⟩
      · go_simp
        with_reducible exact rfl
      go_simp
      refine hK _ ?_
      clear hK K
      refine wpStage_yes (by go_simp) ?_
      intro K hK
      apply Exists.intro
      refine ⟨fun kk ww hk1 hk2 hC => ?_, ?_⟩
      · have c0 := (hC.get 2 rfl).cell 0; have c1 := (hC.get 2 rfl).cell 1
        go_simp
        with_reducible exact rfl
      go_simp
      refine hK _ ?_
      clear hK K
      refine wpStage_yes (by go_simp) ?_
      intro K hK
      apply Exists.intro
      refine ⟨fun kk ww hk1 hk2 hC => ?_, ?_⟩
      · have c0 := (hC.get 1 rfl).cell 0; have c1 := (hC.get 1 rfl).cell 1
        go_simp
        with_reducible exact rfl
      go_simp
      refine hK _ ?_
      clear hK K
      refine wpStage_yes (by go_simp) ?_
      intro K hK
      apply Exists.intro
      refine ⟨fun kk ww hk1 hk2 hC => ?_, ?_⟩
      · go_simp
        go_at_call 20; refine (N1.out _).mono ?_; rintro e w' ⟨rfl, hX⟩
        exact ⟨rfl, hC.step hX⟩
      go_simp
      refine hK _ ?_
      clear hK K
      refine wpStage_yes (by go_simp) ?_
      intro K hK
      apply Exists.intro
      refine ⟨fun kk ww hk1 hk2 hC => ?_, ?_⟩
      · go_simp
        with_reducible exact rfl
      go_simp
      refine hK _ ?_
      clear hK K
      refine wpStage_yes (by go_simp) ?_
      intro K hK
      apply Exists.intro
      refine ⟨fun kk ww hk1 hk2 hC => ?_, ?_⟩
      · have c0 := (hC.get 2 rfl).cell 0; have c1 := (hC.get 2 rfl).cell 1
        go_simp
        with_reducible exact rfl
      go_simp
      refine hK _ ?_
      clear hK K
      refine wpStage_yes (by go_simp) ?_
      intro K hK
      apply Exists.intro
      refine ⟨fun kk ww hk1 hk2 hC => ?_, ?_⟩
      · have c0 := (hC.get 1 rfl).cell 0; have c1 := (hC.get 1 rfl).cell 1
        go_simp
        with_reducible exact rfl
      go_simp
      refine hK _ ?_
      clear hK K
      refine wpStage_yes (by go_simp) ?_
      intro K hK
      refine ⟨.bool false, ?_⟩
      refine ⟨fun kk ww hk1 hk2 hC => ?_, ?_⟩
      · go_simp
        rw [if_if, if_neg Hne.out]
        exact ⟨rfl, hC⟩
      go_simp
      refine hK _ ?_
      clear hK K
      refine wpStage_yes (by go_simp) ?_
      intro K hK
      apply Exists.intro
      refine ⟨fun kk ww hk1 hk2 hC => ?_, ?_⟩
      · go_simp
        with_reducible exact rfl
      go_simp
      refine hK _ ?_
      clear hK K
      refine wpStage_yes (by go_simp) ?_
      intro K hK
      apply Exists.intro
      refine ⟨fun kk ww hk1 hk2 hC => ?_, ?_⟩
      · go_simp
        with_reducible exact rfl
      go_simp
      refine hK _ ?_
      clear hK K
      refine wpStage_yes (by go_simp) ?_
      intro K hK
      apply Exists.intro
      refine ⟨fun kk ww hk1 hk2 hC => ?_, ?_⟩
      · go_simp
        with_reducible exact rfl
      go_simp
      refine hK _ ?_
      clear hK K
      refine wpStage_yes (by go_simp) ?_
      intro K hK
      apply Exists.intro
      refine ⟨fun kk ww hk1 hk2 hC => ?_, ?_⟩
      · have c0 := (hC.get 2 rfl).cell 0; have c1 := (hC.get 2 rfl).cell 1
        go_simp
        with_reducible exact rfl
      go_simp
      refine hK _ ?_
      clear hK K
      refine wpStage_yes (by go_simp) ?_
      intro K hK
      apply Exists.intro
      refine ⟨fun kk ww hk1 hk2 hC => ?_, ?_⟩
      · have c0 := (hC.get 1 rfl).cell 0; have c1 := (hC.get 1 rfl).cell 1
        go_simp
        with_reducible exact rfl
      go_simp
      refine hK _ ?_
      clear hK K
      refine wpStage_yes (by go_simp) ?_
      intro K hK
      apply Exists.intro
      refine ⟨fun kk ww hk1 hk2 hC => ?_, ?_⟩
      · go_simp
        go_at_call 20; refine (N1.out _).mono ?_; rintro e w' ⟨rfl, hX⟩
        exact ⟨rfl, hC.step hX⟩
      go_simp
      refine hK _ ?_
      clear hK K
      refine wpStage_yes (by go_simp) ?_
      intro K hK
      apply Exists.intro
      refine ⟨fun kk ww hk1 hk2 hC => ?_, ?_⟩
      · go_simp
        with_reducible exact rfl
      go_simp
      refine hK _ ?_
      clear hK K
      refine wpStage_yes (by go_simp) ?_
      intro K hK
      apply Exists.intro
      refine ⟨fun kk ww hk1 hk2 hC => ?_, ?_⟩
      · go_simp
        with_reducible exact rfl
      go_simp
      refine hK _ ?_
      clear hK K
      refine wpStage_no (by go_simp) ?_
      intro K hK
      go_simp
      refine hK _ ?_
      clear hK K
      refine wpStage_no (by go_simp) ?_
      intro K hK
      go_simp
      refine hK _ ?_
      clear hK K
      refine wpStage_no (by go_simp) ?_
      intro K hK
      go_simp
      refine hK _ ?_
      clear hK K
      refine wpStage_no (by go_simp) ?_
      intro K hK
      go_simp
      refine hK _ ?_
      clear hK K
      refine wpStage_yes (by go_simp) ?_
      intro K hK
      apply Exists.intro
      refine ⟨fun kk ww hk1 hk2 hC => ?_, ?_⟩
      · go_simp
        with_reducible exact rfl
      go_simp
      refine hK _ ?_
      clear hK K
      refine wpStage_yes (by go_simp) ?_
      intro K hK
      apply Exists.intro
      refine ⟨fun kk ww hk1 hk2 hC => ?_, ?_⟩
      · go_simp
        with_reducible exact rfl
      go_simp
      refine hK _ ?_
      clear hK K
      refine wpStage_no (by go_simp) ?_
      intro K hK
      go_simp
      refine hK _ ?_
      clear hK K
      refine wpStage_no (by go_simp) ?_
      intro K hK
      go_simp
      refine hK _ ?_
      clear hK K
      refine wpStage_no (by go_simp) ?_
      intro K hK
      go_simp
      refine hK _ ?_
      clear hK K
      refine wpStage_no (by go_simp) ?_
      intro K hK
      go_simp
      refine hK _ ?_
      clear hK K
      refine wpStage_yes (by go_simp) ?_
      intro K hK
      apply Exists.intro
      refine ⟨fun kk ww hk1 hk2 hC => ?_, ?_⟩
      · go_simp
        with_reducible exact rfl
      go_simp
      refine hK _ ?_
      clear hK K
      refine wpStage_yes (by go_simp) ?_
      intro K hK
      apply Exists.intro
      refine ⟨fun kk ww hk1 hk2 hC => ?_, ?_⟩
      · go_simp
        with_reducible exact rfl
      go_simp
      refine hK _ ?_
      clear hK K
      refine wpStage_nil (fun ww hC => ?_)
      go_wp2_with fail
      go_meet
      exact ⟨rfl, hC⟩
  case rest =>
    obtain ⟨rfl, C1⟩ := hcut
    clear C0 D1 D2 D3 N2 N3 N4 Hinj Hne0
    replace P1 := Lib.hid P1
    replace P2 := Lib.hid P2
    replace N1 := Lib.hid N1
    replace N5 := Lib.hid N5
    have cc := C1.cells 0 rfl
    have ca := C1.cells 2 rfl
    go_wp2_with fail
    refine (P1.out _).mono ?_; rintro e w1 ⟨rfl, hX⟩
    clear cc ca
    replace C1 := (C1.step (j := 0) hX).push #[.int .i64 tx.hi, .int .u64 tx.lo] 24
    clear hX
    have cc := (C1.cells 1 rfl)
    have cb := (C1.cells 2 rfl)
    generalize hzx : w1.heap.size = zx at *
    go_wp2_with fail
    refine (P2.out _).mono ?_; rintro e w2 ⟨rfl, hX⟩
    clear cc cb
    replace C1 := (C1.step (j := 0) hX).push #[.int .i64 ty.hi, .int .u64 ty.lo] 24
    clear hX
    generalize hzy : w2.heap.size = zy at *
    have C0 := C1.drew
    clear C1
    cases p
    · clear N5 Hfin
      go_wp2_with fail
      refine wp_region_stage (CL W [(zy, #[.int .i64 ty.hi, .int .u64 ty.lo]), (zx, #[.int .i64 tx.hi, .int .u64 tx.lo]), (z + 1 + 1, #[.int .i64 c.hi, .int .u64 c.lo]), (z + 1, #[.int .i64 b.hi, .int .u64 b.lo]), (z, #[.int .i64 a.hi, .int .u64 a.lo])]) [] [(0, 0, false), (0, 0, false), (0, 0, false), (0, 0, false), (0, 0, false), (0, 0, false), (0, 0, false), (0, 0, false), (0, 0, false), (0, 0, false), (0, 0, false), (0, 0, false), (0, 0, false), (0, 0, false), (0, 0, false), (0, 0, false)]
        (by kernel_rfl) (by kernel_rfl) (by kernel_rfl) (C0) ?_
      simp only [List.zip_cons_cons, List.zip_nil_right]
      refine wpStage_yes (by go_simp) ?_
      intro K hK
      apply Exists.intro
      refine ⟨fun kk ww hk1 hk2 hC => ?_, ?_⟩
      · go_simp
        with_reducible exact rfl
      go_simp
      refine hK _ ?_
      clear hK K
      refine wpStage_yes (by go_simp) ?_
      intro K hK
      apply Exists.intro
      refine ⟨fun kk ww hk1 hk2 hC => ?_, ?_⟩
      · go_simp
        with_reducible exact rfl
      go_simp
      refine hK _ ?_
      clear hK K
      refine wpStage_yes (by go_simp) ?_
      intro K hK
      apply Exists.intro
      refine ⟨fun kk ww hk1 hk2 hC => ?_, ?_⟩
      · go_simp
        with_reducible exact rfl
      go_simp
      refine hK _ ?_
      clear hK K
      refine wpStage_no (by go_simp) ?_
      intro K hK
      go_simp
      refine hK _ ?_
      clear hK K
      refine wpStage_no (by go_simp) ?_
      intro K hK
      go_simp
      refine hK _ ?_
      clear hK K
      refine wpStage_yes (by go_simp) ?_
      intro K hK
      apply Exists.intro
      refine ⟨fun kk ww hk1 hk2 hC => ?_, ?_⟩
      · go_simp
        with_reducible exact rfl
      go_simp
      refine hK _ ?_
      clear hK K
      refine wpStage_yes (by go_simp) ?_
      intro K hK
      apply Exists.intro
      refine ⟨fun kk ww hk1 hk2 hC => ?_, ?_⟩
      · go_simp
        with_reducible exact rfl
      go_simp
      refine hK _ ?_
      clear hK K
      refine wpStage_no (by go_simp) ?_
      intro K hK
      go_simp
      refine hK _ ?_
      clear hK K
      refine wpStage_no (by go_simp) ?_
      intro K hK
      go_simp
      refine hK _ ?_
      clear hK K
      refine wpStage_no (by go_simp) ?_
      intro K hK
      go_simp
      refine hK _ ?_
      clear hK K
      refine wpStage_no (by go_simp) ?_
      intro K hK
      go_simp
      refine hK _ ?_
      clear hK K
      refine wpStage_no (by go_simp) ?_
      intro K hK
      go_simp
      refine hK _ ?_
      clear hK K
      refine wpStage_no (by go_simp) ?_
      intro K hK
      go_simp
      refine hK _ ?_
      clear hK K
      refine wpStage_no (by go_simp) ?_
      intro K hK
      go_simp
      refine hK _ ?_
      clear hK K
      refine wpStage_yes (by go_simp) ?_
      intro K hK
      apply Exists.intro
      refine ⟨fun kk ww hk1 hk2 hC => ?_, ?_⟩
      · go_simp
        with_reducible exact rfl
      go_simp
      refine hK _ ?_
      clear hK K
      refine wpStage_yes (by go_simp) ?_
      intro K hK
      apply Exists.intro
      refine ⟨fun kk ww hk1 hk2 hC => ?_, ?_⟩
      · go_simp
        with_reducible exact rfl
      go_simp
      refine hK _ ?_
      clear hK K
      refine wpStage_nil (fun ww hC => ?_)
      clear C0
      go_wp2_with fail
      go_returns
      exact ⟨rfl, hzW ▸ hC.x.to_below⟩
    · cases r
      · clear N5 Hfin
        go_wp2_with fail
        refine wp_region_stage (CL W [(zy, #[.int .i64 ty.hi, .int .u64 ty.lo]), (zx, #[.int .i64 tx.hi, .int .u64 tx.lo]), (z + 1 + 1, #[.int .i64 c.hi, .int .u64 c.lo]), (z + 1, #[.int .i64 b.hi, .int .u64 b.lo]), (z, #[.int .i64 a.hi, .int .u64 a.lo])]) [] [(0, 0, false), (0, 0, false), (0, 0, false), (0, 0, false), (0, 0, false), (0, 0, false), (0, 0, false), (0, 0, false), (0, 0, false), (0, 0, false), (0, 0, false), (0, 0, false), (0, 0, false), (0, 0, false), (0, 0, false), (0, 0, false)]
          (by kernel_rfl) (by kernel_rfl) (by kernel_rfl) (C0) ?_
        simp only [List.zip_cons_cons, List.zip_nil_right]
        refine wpStage_yes (by go_simp) ?_
        intro K hK
        apply Exists.intro
        refine ⟨fun kk ww hk1 hk2 hC => ?_, ?_⟩
        · go_simp
          with_reducible exact rfl
        go_simp
        refine hK _ ?_
        clear hK K
        refine wpStage_yes (by go_simp) ?_
        intro K hK
        apply Exists.intro
        refine ⟨fun kk ww hk1 hk2 hC => ?_, ?_⟩
        · go_simp
          with_reducible exact rfl
        go_simp
        refine hK _ ?_
        clear hK K
        refine wpStage_yes (by go_simp) ?_
        intro K hK
        apply Exists.intro
        refine ⟨fun kk ww hk1 hk2 hC => ?_, ?_⟩
        · go_simp
          with_reducible exact rfl
        go_simp
        refine hK _ ?_
        clear hK K
        refine wpStage_yes (by go_simp) ?_
        intro K hK
        apply Exists.intro
        refine ⟨fun kk ww hk1 hk2 hC => ?_, ?_⟩
        · go_simp
          with_reducible exact rfl
        go_simp
        refine hK _ ?_
        clear hK K
        refine wpStage_yes (by go_simp) ?_
        intro K hK
        apply Exists.intro
        refine ⟨fun kk ww hk1 hk2 hC => ?_, ?_⟩
        · go_simp
          with_reducible exact rfl
        go_simp
        refine hK _ ?_
        clear hK K
        refine wpStage_yes (by go_simp) ?_
        intro K hK
        apply Exists.intro
        refine ⟨fun kk ww hk1 hk2 hC => ?_, ?_⟩
        · go_simp
          with_reducible exact rfl
        go_simp
        refine hK _ ?_
        clear hK K
        refine wpStage_yes (by go_simp) ?_
        intro K hK
        apply Exists.intro
        refine ⟨fun kk ww hk1 hk2 hC => ?_, ?_⟩
        · go_simp
          with_reducible exact rfl
        go_simp
        refine hK _ ?_
        clear hK K
        refine wpStage_no (by go_simp) ?_
        intro K hK
        go_simp
        refine hK _ ?_
        clear hK K
        refine wpStage_no (by go_simp) ?_
        intro K hK
        go_simp
        refine hK _ ?_
        clear hK K
        refine wpStage_no (by go_simp) ?_
        intro K hK
        go_simp
        refine hK _ ?_
        clear hK K
        refine wpStage_no (by go_simp) ?_
        intro K hK
        go_simp
        refine hK _ ?_
        clear hK K
        refine wpStage_no (by go_simp) ?_
        intro K hK
        go_simp
        refine hK _ ?_
        clear hK K
        refine wpStage_no (by go_simp) ?_
        intro K hK
        go_simp
        refine hK _ ?_
        clear hK K
        refine wpStage_no (by go_simp) ?_
        intro K hK
        go_simp
        refine hK _ ?_
        clear hK K
        refine wpStage_yes (by go_simp) ?_
        intro K hK
        apply Exists.intro
        refine ⟨fun kk ww hk1 hk2 hC => ?_, ?_⟩
        · go_simp
          with_reducible exact rfl
        go_simp
        refine hK _ ?_
        clear hK K
        refine wpStage_yes (by go_simp) ?_
        intro K hK
        apply Exists.intro
        refine ⟨fun kk ww hk1 hk2 hC => ?_, ?_⟩
        · go_simp
          with_reducible exact rfl
        go_simp
        refine hK _ ?_
        clear hK K
        refine wpStage_nil (fun ww hC => ?_)
        clear C0
        go_wp2_with fail
        go_returns
        exact ⟨rfl, hzW ▸ hC.x.to_below⟩
      · have Hfin2 := Lib.hid (Hfin.out rfl rfl)
        clear Hfin
        go_wp2_with fail
        refine wp_region_stage (CL W [(zy, #[.int .i64 ty.hi, .int .u64 ty.lo]), (zx, #[.int .i64 tx.hi, .int .u64 tx.lo]), (z + 1 + 1, #[.int .i64 c.hi, .int .u64 c.lo]), (z + 1, #[.int .i64 b.hi, .int .u64 b.lo]), (z, #[.int .i64 a.hi, .int .u64 a.lo])]) [] [(0, 0, false), (0, 0, false), (0, 0, false), (0, 0, false), (0, 0, false), (0, 0, false), (0, 0, false), (0, 0, false), (0, 0, false), (0, 0, false), (0, 0, false), (0, 0, false), (0, 0, false), (0, 0, false), (0, 0, false), (0, 0, false)]
          (by kernel_rfl) (by kernel_rfl) (by kernel_rfl) (C0) ?_
        simp only [List.zip_cons_cons, List.zip_nil_right]
        refine wpStage_yes (by go_simp) ?_
        intro K hK
        apply Exists.intro
        refine ⟨fun kk ww hk1 hk2 hC => ?_, ?_⟩
        · go_simp
          with_reducible exact rfl
        go_simp
        refine hK _ ?_
        clear hK K
        refine wpStage_yes (by go_simp) ?_
        intro K hK
        apply Exists.intro
        refine ⟨fun kk ww hk1 hk2 hC => ?_, ?_⟩
        · go_simp
          with_reducible exact rfl
        go_simp
        refine hK _ ?_
        clear hK K
        refine wpStage_yes (by go_simp) ?_
        intro K hK
        apply Exists.intro
        refine ⟨fun kk ww hk1 hk2 hC => ?_, ?_⟩
        · go_simp
          with_reducible exact rfl
        go_simp
        refine hK _ ?_
        clear hK K
        refine wpStage_yes (by go_simp) ?_
        intro K hK
        apply Exists.intro
        refine ⟨fun kk ww hk1 hk2 hC => ?_, ?_⟩
        · go_simp
          with_reducible exact rfl
        go_simp
        refine hK _ ?_
        clear hK K
        refine wpStage_yes (by go_simp) ?_
        intro K hK
        apply Exists.intro
        refine ⟨fun kk ww hk1 hk2 hC => ?_, ?_⟩
        · go_simp
          with_reducible exact rfl
        go_simp
        refine hK _ ?_
        clear hK K
        refine wpStage_yes (by go_simp) ?_
        intro K hK
        apply Exists.intro
        refine ⟨fun kk ww hk1 hk2 hC => ?_, ?_⟩
        · go_simp
          with_reducible exact rfl
        go_simp
        refine hK _ ?_
        clear hK K
        refine wpStage_yes (by go_simp) ?_
        intro K hK
        apply Exists.intro
        refine ⟨fun kk ww hk1 hk2 hC => ?_, ?_⟩
        · go_simp
          with_reducible exact rfl
        go_simp
        refine hK _ ?_
        clear hK K
        refine wpStage_yes (by go_simp) ?_
        intro K hK
        apply Exists.intro
        refine ⟨fun kk ww hk1 hk2 hC => ?_, ?_⟩
        · have c0 := (hC.get 1 rfl).cell 0; have c1 := (hC.get 1 rfl).cell 1
          go_simp
          with_reducible exact rfl
        go_simp
        refine hK _ ?_
        clear hK K
        refine wpStage_yes (by go_simp) ?_
        intro K hK
        apply Exists.intro
        refine ⟨fun kk ww hk1 hk2 hC => ?_, ?_⟩
        · have c0 := (hC.get 0 rfl).cell 0; have c1 := (hC.get 0 rfl).cell 1
          go_simp
          with_reducible exact rfl
        go_simp
        refine hK _ ?_
        clear hK K
        refine wpStage_yes (by go_simp) ?_
        intro K hK
        apply Exists.intro
        refine ⟨fun kk ww hk1 hk2 hC => ?_, ?_⟩
        · go_simp
          go_at_call 20; refine (N5.out _).mono ?_; rintro e w' ⟨rfl, hX⟩
          exact ⟨rfl, hC.step hX⟩
        go_simp
        refine hK _ ?_
        clear hK K
        refine wpStage_yes (by go_simp) ?_
        intro K hK
        apply Exists.intro
        refine ⟨fun kk ww hk1 hk2 hC => ?_, ?_⟩
        · have c0 := (hC.get 4 rfl).cell 0; have c1 := (hC.get 4 rfl).cell 1
          go_simp
          with_reducible exact rfl
        go_simp
        refine hK _ ?_
        clear hK K
        refine wpStage_yes (by go_simp) ?_
        intro K hK
        apply Exists.intro
        refine ⟨fun kk ww hk1 hk2 hC => ?_, ?_⟩
        · have c0 := (hC.get 3 rfl).cell 0; have c1 := (hC.get 3 rfl).cell 1
          go_simp
          with_reducible exact rfl
        go_simp
        refine hK _ ?_
        clear hK K
        refine wpStage_yes (by go_simp) ?_
        intro K hK
        apply Exists.intro
        refine ⟨fun kk ww hk1 hk2 hC => ?_, ?_⟩
        · go_simp
          go_at_call 20; refine (N1.out _).mono ?_; rintro e w' ⟨rfl, hX⟩
          exact ⟨rfl, hC.step hX⟩
        go_simp
        refine hK _ ?_
        clear hK K
        refine wpStage_yes (by go_simp) ?_
        intro K hK
        apply Exists.intro
        refine ⟨fun kk ww hk1 hk2 hC => ?_, ?_⟩
        · go_simp
          with_reducible exact rfl
        go_simp
        refine hK _ ?_
        clear hK K
        refine wpStage_yes (by go_simp) ?_
        intro K hK
        apply Exists.intro
        refine ⟨fun kk ww hk1 hk2 hC => ?_, ?_⟩
        · go_simp
          with_reducible exact rfl
        go_simp
        refine hK _ ?_
        clear hK K
        refine wpStage_yes (by go_simp) ?_
        intro K hK
        apply Exists.intro
        refine ⟨fun kk ww hk1 hk2 hC => ?_, ?_⟩
        · go_simp
          with_reducible exact rfl
        go_simp
        refine hK _ ?_
        clear hK K
        refine wpStage_nil (fun ww hC => ?_)
        clear C0
        go_wp2_with fail
        go_returns
        exact ⟨ret_bool (by rw [Hfin2.out]; simp), hzW ▸ hC.x.to_below⟩
end Go.Proofs.Ytlhnnfofdkjapaa
