/- Walk of the law FixMulDiv. -/
import Derived.Test.YthdjanjlpgcmoaaFim
import Derived.Test.YthdjanjlpgcmoaaFls
namespace Go.Proofs.Ythdjanjlpgcmoaa
open Go.RowKit

theorem md_in (a b c mode : Int) (h : mdB a b c mode = true) : 0 < c ∧ mdN a b c mode = mdV (a * b) c mode ∧ -9223372036854775808 ≤ mdV (a * b) c mode ∧ mdV (a * b) c mode ≤ 9223372036854775807 := by
  unfold mdB at h
  rw [Bool.and_eq_true] at h
  have h1 := h.1
  have h2 := (fits64_iff _).1 h.2
  have h3 : 0 < c := by unfold mdOk at h1; simp at h1; exact h1.1.1
  refine ⟨h3, ?_, h2.1, h2.2⟩
  unfold mdN
  rw [if_pos h1, int64V_fits h.2]
set_option maxRecDepth 100000 in
set_option maxHeartbeats 4000000 in
theorem FixMulDiv_walk (W : World) (a : Int) (w0 : (Lit.int .i64 a).wf = true) (b : Int) (w1 : (Lit.int .i64 b).wf = true) (c : Int) (w2 : (Lit.int .i64 c).wf = true) (mode : Int) (_w3 : (Lit.int .i64 mode).wf = true) :
    Calls Try.prog 3 #[.int .i64 a, .int .i64 b, .int .i64 c, .int .i64 mode] W fun e w' => e = .returned (.bool true) ∧ Below W.heap.size W w' := by
  obtain ⟨ha0, ha1⟩ := bounds_i64 w0
  obtain ⟨hb0, hb1⟩ := bounds_i64 w1
  obtain ⟨hc0, hc1⟩ := bounds_i64 w2
  obtain ⟨hp0, hp1⟩ := prod_bd a b ha0 ha1 hb0 hb1
  have P1 := fun w => fmuldiv_any w a b ha0 ha1 hb0 hb1 c hc0 hc1 mode
  have R1 := fun w => rmuldiv_any w a b ha0 ha1 hb0 hb1 c hc0 hc1 mode
  have L0 := fun w => fmuldiv_any w a b ha0 ha1 hb0 hb1 c hc0 hc1 0
  have L1 := fun w => fmuldiv_any w a b ha0 ha1 hb0 hb1 c hc0 hc1 1
  have L2 := fun w => fmuldiv_any w a b ha0 ha1 hb0 hb1 c hc0 hc1 2
  have HA : mdB a b c 0 = true → mdB a b c 2 = true → mdB a b c 1 = true → ∃ y1 y2, mdN a b c 0 ≤ mdN a b c 2 ∧ mdN a b c 2 ≤ mdN a b c 1 ∧ -9223372036854775808 ≤ mdN a b c 0 ∧ mdN a b c 1 ≤ 9223372036854775807 ∧ mdN a b c 1 - mdN a b c 0 ≤ 1 ∧ IntKind.i64.wrap (mdN a b c 1 - mdN a b c 0) = mdN a b c 1 - mdN a b c 0 ∧
      (∀ w, Calls Try.prog 11 #[.int .i64 (mdN a b c 0), .int .i64 c] w fun e w' => e = .returned (.agg (ofV (mdN a b c 0 * c)).cells) ∧ Chg [] w w') ∧
      (∀ w, Calls Try.prog 11 #[.int .i64 a, .int .i64 b] w fun e w' => e = .returned (.agg (ofV (a * b)).cells) ∧ Chg [] w w') ∧
      (∀ w, Calls Try.prog 11 #[.int .i64 (mdN a b c 1), .int .i64 c] w fun e w' => e = .returned (.agg (ofV (mdN a b c 1 * c)).cells) ∧ Chg [] w w') ∧
      (∀ w, Calls Try.prog 12 #[.agg (ofV (mdN a b c 0 * c)).cells, .agg (ofV (a * b)).cells] w fun e w' => e = .returned (.int .i64 y1) ∧ Chg [] w w') ∧
      (∀ w, Calls Try.prog 12 #[.agg (ofV (mdN a b c 1 * c)).cells, .agg (ofV (a * b)).cells] w fun e w' => e = .returned (.int .i64 y2) ∧ Chg [] w w') ∧ y1 ≤ 0 ∧ 0 ≤ y2 := by
    intro e0 e2 e1
    obtain ⟨hc, n0, l0, u0⟩ := md_in a b c 0 e0
    obtain ⟨-, n2, l2, u2⟩ := md_in a b c 2 e2
    obtain ⟨-, n1, l1, u1⟩ := md_in a b c 1 e1
    obtain ⟨-, q1, q2, q3, q4, q5⟩ := md_order (a * b) c hc
    rw [n0, n1, n2]
    obtain ⟨r0, r1⟩ := prod_bd (mdV (a * b) c 0) c l0 u0 hc0 hc1
    obtain ⟨r2, r3⟩ := prod_bd (mdV (a * b) c 1) c l1 u1 hc0 hc1
    exact ⟨_, _, q1, q2, l0, u1, by omega, by rw [IntKind.wrap_i64]; omega, fun w => wmul_any w _ _ l0 u0 hc0 hc1, fun w => wmul_any w _ _ ha0 ha1 hb0 hb1, fun w => wmul_any w _ _ l1 u1 hc0 hc1,
      fun w => wcmp_any w _ _ (ofV_ok _ (by omega) (by omega)) (ofV_ok _ (by omega) (by omega)), fun w => wcmp_any w _ _ (ofV_ok _ (by omega) (by omega)) (ofV_ok _ (by omega) (by omega)),
      cmpV_le' (by rw [ofV_val', ofV_val']; exact q4), cmpV_ge' (by rw [ofV_val', ofV_val']; exact q5)⟩
  generalize mdN a b c mode = n at *
  generalize mdB a b c mode = ok at *
  generalize mdN a b c 0 = lo at *
  generalize mdN a b c 1 = hi at *
  generalize mdN a b c 2 = mid at *
  generalize mdB a b c 0 = x at *
  generalize mdB a b c 1 = z at *
  generalize mdB a b c 2 = y at *
  generalize ofV (lo * c) = u1 at *
  generalize ofV (hi * c) = u2 at *
  generalize ofV (a * b) = u3 at *
  simp only [wv_cells] at HA
  clear hp0 hp1 w0 w1 w2
  replace P1 := Lib.hid P1
  replace R1 := Lib.hid R1
  replace L0 := Lib.hid L0
  replace L1 := Lib.hid L1
  replace L2 := Lib.hid L2
  replace HA := Lib.hid HA
  have C := CL.new W 0
  go_enter Try.func3, Try.ntmps3
  go_wp2_with fail
  refine (P1.out _).mono ?_; rintro e w1 ⟨rfl, hX⟩
  replace C := C.step (j := 0) hX
  clear hX
  go_wp2_with fail
  refine (R1.out _).mono ?_; rintro e w2 ⟨rfl, hX⟩
  replace C := C.step (j := 0) hX
  clear hX
  go_wp2_with fail
  refine (awake02 _).mono ?_; rintro e w3 ⟨rfl, hX⟩
  replace C := C.step (j := 0) hX
  clear hX
  go_wp2_with fail
  refine (L0.out _).mono ?_; rintro e w4 ⟨rfl, hX⟩
  replace C := C.step (j := 0) hX
  clear hX
  go_wp2_with fail
  refine (L2.out _).mono ?_; rintro e w5 ⟨rfl, hX⟩
  replace C := C.step (j := 0) hX
  clear hX
  go_wp2_with fail
  refine (L1.out _).mono ?_; rintro e w6 ⟨rfl, hX⟩
  replace C := C.step (j := 0) hX
  clear hX
  cases x
  · clear HA
    go_wp2_with fail
    go_returns
    exact ⟨rfl, C.x.to_below⟩
  · cases y
    · clear HA
      go_wp2_with fail
      go_returns
      exact ⟨rfl, C.x.to_below⟩
    · cases z
      · clear HA
        go_wp2_with fail
        go_returns
        exact ⟨rfl, C.x.to_below⟩
      · obtain ⟨y1, y2, o1, o2, o3, o4, o5, o6, M1, M2, M3, N1, N2, g1, g2⟩ := HA.out rfl rfl rfl
        clear HA
        replace M1 := Lib.hid M1
        replace M2 := Lib.hid M2
        replace M3 := Lib.hid M3
        replace N1 := Lib.hid N1
        replace N2 := Lib.hid N2
        go_wp2_with fail
        refine (M1.out _).mono ?_; rintro e w7 ⟨rfl, hX⟩
        replace C := C.step (j := 0) hX
        clear hX
        go_wp2_with fail
        refine (M2.out _).mono ?_; rintro e w8 ⟨rfl, hX⟩
        replace C := C.step (j := 0) hX
        clear hX
        go_wp2_with fail
        refine (N1.out _).mono ?_; rintro e w9 ⟨rfl, hX⟩
        replace C := C.step (j := 0) hX
        clear hX
        go_wp2_with fail
        refine (M3.out _).mono ?_; rintro e w10 ⟨rfl, hX⟩
        replace C := C.step (j := 0) hX
        clear hX
        go_wp2_with fail
        refine (M2.out _).mono ?_; rintro e w11 ⟨rfl, hX⟩
        replace C := C.step (j := 0) hX
        clear hX
        go_wp2_with fail
        refine (N2.out _).mono ?_; rintro e w12 ⟨rfl, hX⟩
        replace C := C.step (j := 0) hX
        clear hX
        go_wp2_with fail
        go_returns
        exact ⟨rfl, C.x.to_below⟩
end Go.Proofs.Ythdjanjlpgcmoaa
