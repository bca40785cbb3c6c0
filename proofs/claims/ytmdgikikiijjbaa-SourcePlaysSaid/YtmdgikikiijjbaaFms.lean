/- fix.Mul and fix.Sub (where the seat has no wide.Div). -/
import Derived.Test.YtmdgikikiijjbaaCl
namespace Go.Proofs.Ytmdgikikiijjbaa
open Go.RowKit

theorem wv_cells (a : WV) : a.cells = #[.int .i64 a.hi, .int .u64 a.lo] := rfl
theorem fits64_iff (v : Int) : fits64 v = true ↔ -9223372036854775808 ≤ v ∧ v ≤ 9223372036854775807 := by unfold fits64; simp
theorem int64V_fits {v : Int} (h : fits64 v = true) : int64V v = v := if_pos h
theorem fits_of64 (v : Int) (h0 : -170141183460469231731687303715884105728 ≤ v) (h1 : v ≤ 170141183460469231731687303715884105727) : fitsV v = true := by rw [fitsV_iff]; exact ⟨h0, h1⟩
theorem told_any (w : World) (a : WV) (ha : a.ok) (ok : Bool) : Calls Try.prog 34 #[.agg a.cells, .bool ok] w fun e w' => e = .returned (.tuple #[.int .i64 (if ok then int64V a.val else 0), .bool (ok && fits64 a.val)]) ∧ Chg [] w w' := by
  have P1 := fun w => wint_any w a ha
  simp only [wv_cells] at *
  replace P1 := Lib.hid P1
  cases ok
  · have C := (CL.new w 0).push #[.int .i64 a.hi, .int .u64 a.lo] 89
    go_enter Try.func34, Try.ntmps34
    generalize hzW : w.heap.size = z at *
    go_wp2_with fail
    go_returns
    exact ⟨rfl, C.x⟩
  · have C := (CL.new w 0).push #[.int .i64 a.hi, .int .u64 a.lo] 89
    go_enter Try.func34, Try.ntmps34
    generalize hzW : w.heap.size = z at *
    have cc0 := C.cells 0 rfl
    go_wp2_with fail
    refine (P1.out _).mono ?_; rintro e w1 ⟨rfl, hX⟩
    clear cc0
    replace C := C.step (j := 0) hX
    clear hX
    go_wp2_with fail
    go_returns
    exact ⟨rfl, C.x⟩
/-- What is told of a number that has a place in 128 bits. -/
theorem told_of (w : World) (v : Int) (h : fitsV v = true) : Calls Try.prog 34 #[.agg (addV v).cells, .bool (fitsV v)] w fun e w' => e = .returned (.tuple #[.int .i64 (int64V v), .bool (fits64 v)]) ∧ Chg [] w w' := by
  have H := told_any w (addV v) (addV_ok v) (fitsV v)
  rw [addV_val v h, h] at H
  rw [h]
  exact H
theorem fsub_any (w : World) (a b : Int) (ha0 : -9223372036854775808 ≤ a) (ha1 : a ≤ 9223372036854775807) (hb0 : -9223372036854775808 ≤ b) (hb1 : b ≤ 9223372036854775807) : Calls Try.prog 30 #[.int .i64 a, .int .i64 b] w fun e w' => e = .returned (.tuple #[.int .i64 (int64V (a - b)), .bool (fits64 (a - b))]) ∧ Chg [] w w' := by
  have P1 := fun w => wof_any w a ha0 ha1
  have P2 := fun w => wof_any w b hb0 hb1
  have P3 := fun w => wsub_any w (ofV a) (ofV b) (ofV_ok a (by omega) (by omega)) (ofV_ok b (by omega) (by omega))
  rw [ofV_val', ofV_val'] at P3
  have P4 := fun w => told_of w (a - b) (fits_of64 _ (by omega) (by omega))
  generalize addV (a - b) = s at *
  generalize fitsV (a - b) = f at *
  generalize ofV a = x at *
  generalize ofV b = y at *
  simp only [wv_cells] at *
  replace P1 := Lib.hid P1
  replace P2 := Lib.hid P2
  replace P3 := Lib.hid P3
  replace P4 := Lib.hid P4
  have C := CL.new w 0
  go_enter Try.func30, Try.ntmps30
  go_wp2_with fail
  refine (P1.out _).mono ?_; rintro e w1 ⟨rfl, hX⟩
  replace C := C.step (j := 0) hX
  clear hX
  go_wp2_with fail
  refine (P2.out _).mono ?_; rintro e w2 ⟨rfl, hX⟩
  replace C := C.step (j := 0) hX
  clear hX
  go_wp2_with fail
  refine (P3.out _).mono ?_; rintro e w3 ⟨rfl, hX⟩
  replace C := C.step (j := 0) hX
  clear hX
  go_wp2_with fail
  refine (P4.out _).mono ?_; rintro e w4 ⟨rfl, hX⟩
  replace C := C.step (j := 0) hX
  clear hX
  go_wp2_with fail
  go_returns
  exact ⟨rfl, C.x⟩
theorem prod_bd (a b : Int) (ha0 : -9223372036854775808 ≤ a) (ha1 : a ≤ 9223372036854775807) (hb0 : -9223372036854775808 ≤ b) (hb1 : b ≤ 9223372036854775807) : -85070591730234615865843651857942052864 ≤ a * b ∧ a * b ≤ 85070591730234615865843651857942052864 := by
  have := imul_bd a b 9223372036854775808 (by omega) (by omega) (by omega) (by omega) (by omega)
  omega
theorem fmul_any (w : World) (a b : Int) (ha0 : -9223372036854775808 ≤ a) (ha1 : a ≤ 9223372036854775807) (hb0 : -9223372036854775808 ≤ b) (hb1 : b ≤ 9223372036854775807) : Calls Try.prog 29 #[.int .i64 a, .int .i64 b] w fun e w' => e = .returned (.tuple #[.int .i64 (int64V (a * b)), .bool (fits64 (a * b))]) ∧ Chg [] w w' := by
  have hb := prod_bd a b ha0 ha1 hb0 hb1
  have P1 := fun w => wmul_any w a b ha0 ha1 hb0 hb1
  have P2 := fun w => told_any w (ofV (a * b)) (ofV_ok _ (by omega) (by omega)) true
  rw [ofV_val'] at P2
  simp only [if_true, Bool.true_and] at P2
  generalize ofV (a * b) = x at *
  simp only [wv_cells] at *
  replace P1 := Lib.hid P1
  replace P2 := Lib.hid P2
  have C := CL.new w 0
  go_enter Try.func29, Try.ntmps29
  go_wp2_with fail
  refine (P1.out _).mono ?_; rintro e w1 ⟨rfl, hX⟩
  replace C := C.step (j := 0) hX
  clear hX
  go_wp2_with fail
  refine (P2.out _).mono ?_; rintro e w2 ⟨rfl, hX⟩
  replace C := C.step (j := 0) hX
  clear hX
  go_wp2_with fail
  go_returns
  exact ⟨rfl, C.x⟩
end Go.Proofs.Ytmdgikikiijjbaa
