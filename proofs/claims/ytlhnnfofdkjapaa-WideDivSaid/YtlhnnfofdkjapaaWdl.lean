/- Walk of the law WideDiv. -/
import Derived.Test.YtlhnnfofdkjapaaWrd
import Derived.Test.YtlhnnfofdkjapaaWtl
namespace Go.Proofs.Ytlhnnfofdkjapaa
open Go.RowKit

theorem rdiv_any (w : World) (a : WV) (ha : a.ok) (d : Int) (_hd0 : -9223372036854775808 ≤ d) (hd1 : d ≤ 9223372036854775807) :
    Calls Try.prog 16 #[.agg a.cells, .int .i64 d] w fun e w' => e = .returned (.tuple #[.agg (divQ a d).cells, .int .i64 (divR a d), .bool (decide (0 < d))]) ∧ Chg [] w w' := by
  by_cases h : 0 < d
  · have H := rdiv_some w a ha d h hd1
    rw [show decide (0 < d) = true by simpa using h]
    exact H
  · have H := rdiv_none w a d (by omega)
    rw [show decide (0 < d) = false by simpa using h, show divQ a d = WV.zero from if_neg h, show divR a d = 0 from if_neg h]
    exact H
theorem divQ_ok (a : WV) (ha : a.ok) (d : Int) : (divQ a d).ok := by
  unfold divQ
  split
  · rename_i h
    have h0 := (fitsV_iff _).1 (fits_val' a ha)
    refine ofV_ok _ ?_ ?_
    · by_cases hv : 0 ≤ a.val
      · have := Int.ediv_nonneg hv (show 0 ≤ d by omega); omega
      · have h1 := Int.ediv_mul_le a.val (show d ≠ 0 by omega)
        have h2 := Int.emod_add_mul_ediv a.val d
        have h3 := Int.emod_lt_of_pos a.val h
        have h4 := Int.emod_nonneg a.val (show d ≠ 0 by omega)
        have h5 : a.val / d ≤ 0 := by have := Int.ediv_neg_of_neg_of_pos (show a.val < 0 by omega) h; omega
        have h6 := Int.mul_le_mul_of_nonpos_right (show (1 : Int) ≤ d by omega) h5
        have h7 : d ≤ 1 ∨ 2 ≤ d := by omega
        rcases h7 with h7 | h7
        · obtain rfl : d = 1 := by omega
          simp
          omega
        · by_cases h8 : a.val / d = 0
          · omega
          · have h9 := Int.mul_le_mul_of_nonpos_right (show (2 : Int) ≤ d by omega) h5
            have h10 : a.val / d * d = d * (a.val / d) := Int.mul_comm _ _
            by_cases h11 : a.val ≤ a.val / d
            · omega
            · exfalso
              have : a.val - a.val % d = d * (a.val / d) := by omega
              have h12 : -(a.val / d) ≥ 1 := by omega
              have h13 := Int.mul_le_mul_of_nonneg_left (show (1 : Int) ≤ -(a.val / d) by omega) (show 0 ≤ d - 1 by omega)
              have h14 : (d - 1) * -(a.val / d) = -(d * (a.val / d)) + a.val / d := by
                rw [Int.sub_mul, Int.mul_neg, Int.one_mul]; omega
              omega
    · by_cases hv : 0 ≤ a.val
      · have := Int.ediv_le_self d hv; omega
      · have := Int.ediv_neg_of_neg_of_pos (show a.val < 0 by omega) h; omega
  · exact zero_ok
set_option maxHeartbeats 2000000 in
theorem WideDiv_walk (W : World) (c1 : Array Value) (x1 : shWV.T) (h1 : shWV.rep W x1 c1.toList) (d : Int) (w1 : (Lit.int .i64 d).wf = true) :
    Calls Try.prog 4 #[.agg c1, .int .i64 d] W fun e w' => e = .returned (.bool true) ∧ Below W.heap.size W w' := by
  obtain ⟨rfl, ha⟩ := wv_of h1
  clear h1
  generalize toWV x1 = a at *
  obtain ⟨hd0, hd1⟩ := bounds_i64 w1
  have P1 := fun w => wdiv_any w a ha d hd0 hd1
  have R1 := fun w => rdiv_any w a ha d hd0 hd1
  have P2 := fun w => wint_any w (divQ a d) (divQ_ok a ha d)
  have K1 := fun w => like_any w a
  have HS : 0 < d → fits64 (divQ a d).val = true → (∀ w, Calls Try.prog 10 #[.int .i64 (int64V (divQ a d).val), .int .i64 d] w fun e w' => e = .returned (.agg (ofV (a.val / d * d)).cells) ∧ Chg [] w w') ∧
      (∀ w, Calls Try.prog 15 #[.int .i64 (divR a d)] w fun e w' => e = .returned (.agg (ofV (divR a d)).cells) ∧ Chg [] w w') ∧
      (∀ w, Calls Try.prog 18 #[.agg (ofV (a.val / d * d)).cells, .agg (ofV (divR a d)).cells] w fun e w' => e = .returned (.tuple #[.agg a.cells, .bool true]) ∧ Chg [] w w') ∧ 0 ≤ divR a d ∧ divR a d < d := by
    intro hd hs
    have hv : (divQ a d).val = a.val / d := by unfold divQ; rw [if_pos hd, ofV_val']
    have hr : divR a d = a.val % d := if_pos hd
    have r0 := Int.emod_nonneg a.val (show d ≠ 0 by omega)
    have r1 := Int.emod_lt_of_pos a.val hd
    have e1 := Int.emod_add_mul_ediv a.val d
    rw [hv] at hs
    have hs2 : -9223372036854775808 ≤ a.val / d ∧ a.val / d ≤ 9223372036854775807 := by unfold fits64 at hs; simpa using hs
    have hb := imul_bd (a.val / d) d 9223372036854775808 (by omega) (by omega) (by omega) (by omega) (by omega)
    have hi : int64V (divQ a d).val = a.val / d := by rw [hv]; unfold int64V; rw [if_pos hs]
    rw [hi, hr]
    refine ⟨fun w => wmul_any w _ d hs2.1 hs2.2 hd0 hd1, fun w => wof_any w _ (by omega) (by omega), fun w => ?_, r0, r1⟩
    have H := wadd_any w (ofV (a.val / d * d)) (ofV (a.val % d)) (ofV_ok _ (by omega) (by omega)) (ofV_ok _ (by omega) (by omega))
    have fa := fits_val' a ha
    rw [ofV_val', ofV_val', show a.val / d * d + a.val % d = a.val by rw [Int.mul_comm]; omega, fa, show addV a.val = a by unfold addV; rw [if_pos fa, ofV_val a ha]] at H
    exact H
  have HO : decide (0 < d) = true ↔ 0 < d := by simp
  generalize decide (0 < d) = ok at *
  generalize divR a d = r at *
  generalize ofV (a.val / d * d) = m at *
  generalize ofV r = o at *
  generalize int64V (divQ a d).val = i at *
  generalize fits64 (divQ a d).val = sm at *
  generalize divQ a d = q at *
  have K2 := fun w => like_any w q
  simp only [wv_cells] at *
  replace P1 := Lib.hid P1
  replace P2 := Lib.hid P2
  replace R1 := Lib.hid R1
  replace K1 := Lib.hid K1
  replace K2 := Lib.hid K2
  replace HS := Lib.hid HS
  replace HO := Lib.hid HO
  clear w1 ha
  have C := (CL.new W 0).push #[.int .i64 a.hi, .int .u64 a.lo] 24
  go_enter Try.func4, Try.ntmps4
  generalize hzW : W.heap.size = z at *
  have cc0 := C.cells 0 rfl
  go_wp2_with fail
  refine (P1.out _).mono ?_; rintro e w1 ⟨rfl, hX⟩
  clear cc0
  replace C := (C.step (j := 0) hX).push #[.int .i64 q.hi, .int .u64 q.lo] 24
  clear hX
  generalize hz1 : w1.heap.size = z1 at *
  have cc0 := C.cells 0 rfl
  have cc1 := C.cells 1 rfl
  go_wp2_with fail
  refine (K1.out _).mono ?_; rintro e w2 ⟨rfl, hX⟩
  clear cc0 cc1
  replace C := C.step (j := 0) hX
  clear hX
  have cc0 := C.cells 0 rfl
  have cc1 := C.cells 1 rfl
  go_wp2_with fail
  refine (R1.out _).mono ?_; rintro e w3 ⟨rfl, hX⟩
  clear cc0 cc1
  replace C := (C.step (j := 0) hX).push #[.int .i64 q.hi, .int .u64 q.lo] 27
  clear hX
  generalize hz3 : w3.heap.size = z3 at *
  have cc0 := C.cells 0 rfl
  have cc1 := C.cells 1 rfl
  have cc2 := C.cells 2 rfl
  go_wp2_with fail
  clear cc0 cc1 cc2
  have Cd := C.drew
  clear C
  refine wp_region_stage (CL W [(z3, #[.int .i64 q.hi, .int .u64 q.lo]), (z1, #[.int .i64 q.hi, .int .u64 q.lo]), (z, #[.int .i64 a.hi, .int .u64 a.lo])]) [] [(0, 0, false), (0, 0, false), (0, 0, false), (0, 0, false), (0, 0, false), (0, 0, false), (0, 0, false), (0, 0, false), (0, 0, false), (0, 0, false), (0, 0, false), (0, 0, false), (0, 0, false), (0, 0, false), (0, 0, false), (0, 0, false), (0, 0, false), (0, 0, false)]
    (by kernel_rfl) (by kernel_rfl) (by kernel_rfl) (Cd) ?_
  simp only [List.zip_cons_cons, List.zip_nil_right]
  refine wpStage_yes (by go_simp) ?_
  intro K hK
  apply Exists.intro
  refine ⟨fun kk ww hk1 hk2 hC => ?_, ?_⟩
  · go_simp
    go_at_call 11; refine (awake01 _).mono ?_; rintro e w' ⟨rfl, hX⟩
    exact ⟨rfl, hC.step hX⟩
  go_simp
  refine hK _ ?_
  clear hK K
  refine wpStage_yes (by go_simp) ?_
  intro K hK
  apply Exists.intro
  refine ⟨fun kk ww hk1 hk2 hC => ?_, ?_⟩
  · go_simp
    with_reducible exact rfl
  go_simp
  refine hK _ ?_
  clear hK K
  refine wpStage_yes (by go_simp) ?_
  intro K hK
  apply Exists.intro
  refine ⟨fun kk ww hk1 hk2 hC => ?_, ?_⟩
  · go_simp
    with_reducible exact rfl
  go_simp
  refine hK _ ?_
  clear hK K
  refine wpStage_yes (by go_simp) ?_
  intro K hK
  apply Exists.intro
  refine ⟨fun kk ww hk1 hk2 hC => ?_, ?_⟩
  · have c0 := (hC.get 1 rfl).cell 0; have c1 := (hC.get 1 rfl).cell 1
    go_simp
    with_reducible exact rfl
  go_simp
  refine hK _ ?_
  clear hK K
  refine wpStage_yes (by go_simp) ?_
  intro K hK
  apply Exists.intro
  refine ⟨fun kk ww hk1 hk2 hC => ?_, ?_⟩
  · go_simp
    go_at_call 12; refine (K2.out _).mono ?_; rintro e w' ⟨rfl, hX⟩
    exact ⟨rfl, hC.step hX⟩
  go_simp
  refine hK _ ?_
  clear hK K
  refine wpStage_yes (by go_simp) ?_
  intro K hK
  apply Exists.intro
  refine ⟨fun kk ww hk1 hk2 hC => ?_, ?_⟩
  · have c0 := (hC.get 0 rfl).cell 0; have c1 := (hC.get 0 rfl).cell 1
    go_simp
    with_reducible exact rfl
  go_simp
  refine hK _ ?_
  clear hK K
  refine wpStage_yes (by go_simp) ?_
  intro K hK
  apply Exists.intro
  refine ⟨fun kk ww hk1 hk2 hC => ?_, ?_⟩
  · go_simp
    with_reducible exact rfl
  go_simp
  refine hK _ ?_
  clear hK K
  refine wpStage_yes (by go_simp) ?_
  intro K hK
  apply Exists.intro
  refine ⟨fun kk ww hk1 hk2 hC => ?_, ?_⟩
  · go_simp
    with_reducible exact rfl
  go_simp
  refine hK _ ?_
  clear hK K
  refine wpStage_yes (by go_simp) ?_
  intro K hK
  apply Exists.intro
  refine ⟨fun kk ww hk1 hk2 hC => ?_, ?_⟩
  · go_simp
    with_reducible exact rfl
  go_simp
  refine hK _ ?_
  clear hK K
  refine wpStage_yes (by go_simp) ?_
  intro K hK
  apply Exists.intro
  refine ⟨fun kk ww hk1 hk2 hC => ?_, ?_⟩
  · go_simp
    with_reducible exact rfl
  go_simp
  refine hK _ ?_
  clear hK K
  refine wpStage_yes (by go_simp) ?_
  intro K hK
  apply Exists.intro
  refine ⟨fun kk ww hk1 hk2 hC => ?_, ?_⟩
  · go_simp
    with_reducible exact rfl
  go_simp
  refine hK _ ?_
  clear hK K
  refine wpStage_yes (by go_simp) ?_
  intro K hK
  apply Exists.intro
  refine ⟨fun kk ww hk1 hk2 hC => ?_, ?_⟩
  · go_simp
    with_reducible exact rfl
  go_simp
  refine hK _ ?_
  clear hK K
  refine wpStage_yes (by go_simp) ?_
  intro K hK
  apply Exists.intro
  refine ⟨fun kk ww hk1 hk2 hC => ?_, ?_⟩
  · go_simp
    with_reducible exact rfl
  go_simp
  refine hK _ ?_
  clear hK K
  refine wpStage_yes (by go_simp) ?_
  intro K hK
  apply Exists.intro
  refine ⟨fun kk ww hk1 hk2 hC => ?_, ?_⟩
  · go_simp
    with_reducible exact rfl
  go_simp
  refine hK _ ?_
  clear hK K
  refine wpStage_yes (by go_simp) ?_
  intro K hK
  apply Exists.intro
  refine ⟨fun kk ww hk1 hk2 hC => ?_, ?_⟩
  · go_simp
    with_reducible exact rfl
  go_simp
  refine hK _ ?_
  clear hK K
  refine wpStage_yes (by go_simp) ?_
  intro K hK
  apply Exists.intro
  refine ⟨fun kk ww hk1 hk2 hC => ?_, ?_⟩
  · go_simp
    with_reducible exact rfl
  go_simp
  refine hK _ ?_
  clear hK K
  refine wpStage_yes (by go_simp) ?_
  intro K hK
  apply Exists.intro
  refine ⟨fun kk ww hk1 hk2 hC => ?_, ?_⟩
  · go_simp
    with_reducible exact rfl
  go_simp
  refine hK _ ?_
  clear hK K
  refine wpStage_yes (by go_simp) ?_
  intro K hK
  apply Exists.intro
  refine ⟨fun kk ww hk1 hk2 hC => ?_, ?_⟩
  · go_simp
    with_reducible exact rfl
  go_simp
  refine hK _ ?_
  clear hK K
  refine wpStage_nil (fun ww hC => ?_)
  clear Cd
  have C := hC
  clear hC
  have cc0 := C.cells 0 rfl
  have cc1 := C.cells 1 rfl
  have cc2 := C.cells 2 rfl
  go_wp2_with fail
  refine (P2.out _).mono ?_; rintro e w4 ⟨rfl, hX⟩
  clear cc0 cc1 cc2
  replace C := C.step (j := 0) hX
  clear hX
  by_cases hd : 0 < d
  · have od : ok = true := HO.out.2 hd
    subst od
    cases sm
    · clear HS
      have cc0 := C.cells 0 rfl
      have cc1 := C.cells 1 rfl
      have cc2 := C.cells 2 rfl
      go_wp2_with fail
      go_returns
      exact ⟨rfl, hzW ▸ C.x.to_below⟩
    · obtain ⟨P3, P4, P5, h0, h1⟩ := HS.out hd rfl
      clear HS
      replace P3 := Lib.hid P3
      replace P4 := Lib.hid P4
      replace P5 := Lib.hid P5
      have cc0 := C.cells 0 rfl
      have cc1 := C.cells 1 rfl
      have cc2 := C.cells 2 rfl
      go_wp2_with fail
      refine (P3.out _).mono ?_; rintro e w5 ⟨rfl, hX⟩
      clear cc0 cc1 cc2
      replace C := C.step (j := 0) hX
      clear hX
      have cc0 := C.cells 0 rfl
      have cc1 := C.cells 1 rfl
      have cc2 := C.cells 2 rfl
      go_wp2_with fail
      refine (P4.out _).mono ?_; rintro e w6 ⟨rfl, hX⟩
      clear cc0 cc1 cc2
      replace C := C.step (j := 0) hX
      clear hX
      have cc0 := C.cells 0 rfl
      have cc1 := C.cells 1 rfl
      have cc2 := C.cells 2 rfl
      go_wp2_with fail
      refine (P5.out _).mono ?_; rintro e w7 ⟨rfl, hX⟩
      clear cc0 cc1 cc2
      replace C := (C.step (j := 0) hX).push #[.int .i64 a.hi, .int .u64 a.lo] 24
      clear hX
      generalize hz7 : w7.heap.size = z7 at *
      have cc0 := C.cells 0 rfl
      have cc1 := C.cells 1 rfl
      have cc2 := C.cells 2 rfl
      have cc3 := C.cells 3 rfl
      go_wp2_with fail
      go_returns
      exact ⟨rfl, hzW ▸ C.x.to_below⟩
  · have od : ok = false := by cases ok; exact rfl; exact absurd (HO.out.1 rfl) hd
    subst od
    clear HS
    have cc0 := C.cells 0 rfl
    have cc1 := C.cells 1 rfl
    have cc2 := C.cells 2 rfl
    go_wp2_with fail
    go_returns
    exact ⟨ret_bool (by simp; omega), hzW ▸ C.x.to_below⟩
end Go.Proofs.Ytlhnnfofdkjapaa
