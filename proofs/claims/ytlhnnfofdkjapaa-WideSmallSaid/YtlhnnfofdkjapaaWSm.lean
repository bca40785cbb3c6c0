/- Walk of the law WideSmall. -/
import Derived.Test.YtlhnnfofdkjapaaWla
namespace Go.Proofs.Ytlhnnfofdkjapaa
open Go.RowKit

theorem fits_small (v : Int) (h0 : -9223372036854775808 ≤ v) (h1 : v ≤ 9223372036854775807) : fitsV v = true ∧ fits64 v = true ∧ int64V v = v := by
  have h2 : fits64 v = true := by unfold fits64; simp; omega
  refine ⟨by rw [fitsV_iff]; omega, h2, by unfold int64V; rw [if_pos h2]⟩
theorem wint_small (w : World) (a : WV) (ha : a.ok) (v : Int) (e : a.val = v) (h0 : -9223372036854775808 ≤ v) (h1 : v ≤ 9223372036854775807) : Calls Try.prog 17 #[.agg a.cells] w fun e w' => e = .returned (.tuple #[.int .i64 v, .bool true]) ∧ Chg [] w w' := by
  have H := wint_any w a ha
  obtain ⟨g1, g2, g3⟩ := fits_small v h0 h1
  rw [e, g2, g3] at H
  exact H
set_option maxRecDepth 100000 in
theorem WideSmall_walk (W : World) (a : Int) (w0 : (Lit.int .i32 a).wf = true) (b : Int) (w1 : (Lit.int .i32 b).wf = true) :
    Calls Try.prog 8 #[.int .i32 a, .int .i32 b] W fun e w' => e = .returned (.bool true) ∧ Below W.heap.size W w' := by
  have ba := bounds_i32 w0
  have bb := bounds_i32 w1
  have bm := imul_bd a b 2147483648 (by omega) (by omega) (by omega) (by omega) (by omega)
  have O1 := fun w => wof_any w a (by omega) (by omega)
  have O2 := fun w => wof_any w b (by omega) (by omega)
  have oa := ofV_ok a (by omega) (by omega)
  have ob := ofV_ok b (by omega) (by omega)
  have P1 := fun w => wadd_any w (ofV a) (ofV b) oa ob
  have P2 := fun w => wsub_any w (ofV a) (ofV b) oa ob
  obtain ⟨f1, -, -⟩ := fits_small (a + b) (by omega) (by omega)
  obtain ⟨f2, -, -⟩ := fits_small (a - b) (by omega) (by omega)
  rw [ofV_val', ofV_val', f1] at P1
  rw [ofV_val', ofV_val', f2] at P2
  have P3 := fun w => wmul_any w a b (by omega) (by omega) (by omega) (by omega)
  have I1 := fun w => wint_small w (addV (a + b)) (addV_ok _) (a + b) (addV_val _ f1) (by omega) (by omega)
  have I2 := fun w => wint_small w (addV (a - b)) (addV_ok _) (a - b) (addV_val _ f2) (by omega) (by omega)
  have I3 := fun w => wint_small w (ofV (a * b)) (ofV_ok _ (by omega) (by omega)) (a * b) (ofV_val' _) (by omega) (by omega)
  clear oa ob f1 f2
  have k1 : IntKind.i64.wrap (a * b) = a * b := by rw [IntKind.wrap_i64]; omega
  generalize ofV (a * b) = m at *
  generalize addV (a + b) = s at *
  generalize addV (a - b) = d at *
  generalize ofV a = x at *
  generalize ofV b = y at *
  rw [show m.cells = #[.int .i64 m.hi, .int .u64 m.lo] from rfl] at *
  rw [show s.cells = #[.int .i64 s.hi, .int .u64 s.lo] from rfl] at *
  rw [show d.cells = #[.int .i64 d.hi, .int .u64 d.lo] from rfl] at *
  rw [show x.cells = #[.int .i64 x.hi, .int .u64 x.lo] from rfl] at *
  rw [show y.cells = #[.int .i64 y.hi, .int .u64 y.lo] from rfl] at *
  replace O1 := Lib.hid O1
  replace O2 := Lib.hid O2
  replace P1 := Lib.hid P1
  replace P2 := Lib.hid P2
  replace P3 := Lib.hid P3
  replace I1 := Lib.hid I1
  replace I2 := Lib.hid I2
  replace I3 := Lib.hid I3
  clear w0 w1
  have C := CL.new W 0
  go_enter Try.func8, Try.ntmps8
  go_wp2_with fail
  refine (O1.out _).mono ?_; rintro e w1 ⟨rfl, hX⟩
  replace C := C.step (j := 0) hX
  clear hX
  go_wp2_with fail
  refine (O2.out _).mono ?_; rintro e w2 ⟨rfl, hX⟩
  replace C := C.step (j := 0) hX
  clear hX
  go_wp2_with fail
  refine (P1.out _).mono ?_; rintro e w3 ⟨rfl, hX⟩
  replace C := (C.step (j := 0) hX).push #[.int .i64 s.hi, .int .u64 s.lo] 24
  clear hX
  generalize hz3 : w3.heap.size = z3 at *
  have cc0 := C.cells 0 rfl
  go_wp2_with fail
  refine (O1.out _).mono ?_; rintro e w4 ⟨rfl, hX⟩
  clear cc0
  replace C := C.step (j := 0) hX
  clear hX
  have cc0 := C.cells 0 rfl
  go_wp2_with fail
  refine (O2.out _).mono ?_; rintro e w5 ⟨rfl, hX⟩
  clear cc0
  replace C := C.step (j := 0) hX
  clear hX
  have cc0 := C.cells 0 rfl
  go_wp2_with fail
  refine (P2.out _).mono ?_; rintro e w6 ⟨rfl, hX⟩
  clear cc0
  replace C := (C.step (j := 0) hX).push #[.int .i64 d.hi, .int .u64 d.lo] 24
  clear hX
  generalize hz6 : w6.heap.size = z6 at *
  have cc0 := C.cells 0 rfl
  have cc1 := C.cells 1 rfl
  go_wp2_with fail
  refine (I1.out _).mono ?_; rintro e w7 ⟨rfl, hX⟩
  clear cc0 cc1
  replace C := C.step (j := 0) hX
  clear hX
  have cc0 := C.cells 0 rfl
  have cc1 := C.cells 1 rfl
  go_wp2_with fail
  refine (I2.out _).mono ?_; rintro e w8 ⟨rfl, hX⟩
  clear cc0 cc1
  replace C := C.step (j := 0) hX
  clear hX
  have cc0 := C.cells 0 rfl
  have cc1 := C.cells 1 rfl
  go_wp2_with fail
  refine (P3.out _).mono ?_; rintro e w9 ⟨rfl, hX⟩
  clear cc0 cc1
  replace C := C.step (j := 0) hX
  clear hX
  have cc0 := C.cells 0 rfl
  have cc1 := C.cells 1 rfl
  go_wp2_with fail
  refine (I3.out _).mono ?_; rintro e w10 ⟨rfl, hX⟩
  clear cc0 cc1
  replace C := C.step (j := 0) hX
  clear hX
  have cc0 := C.cells 0 rfl
  have cc1 := C.cells 1 rfl
  go_wp2_with fail
  refine (awake01 _).mono ?_; rintro e w11 ⟨rfl, hX⟩
  clear cc0 cc1
  replace C := C.step (j := 0) hX
  clear hX
  have cc0 := C.cells 0 rfl
  have cc1 := C.cells 1 rfl
  go_wp2_with fail
  go_returns
  exact ⟨rfl, C.x.to_below⟩
end Go.Proofs.Ytlhnnfofdkjapaa
