/- Walk of the law FixTells. -/
import Derived.Test.YthdjanjlpgcmoaaFaw
namespace Go.Proofs.Ythdjanjlpgcmoaa
open Go.RowKit

set_option maxRecDepth 100000 in
set_option maxHeartbeats 2000000 in
theorem FixTells_walk (W : World) (a : Int) (w0 : (Lit.int .i64 a).wf = true) (b : Int) (w1 : (Lit.int .i64 b).wf = true) (c : Int) (w2 : (Lit.int .i64 c).wf = true) :
    Calls Try.prog 6 #[.int .i64 a, .int .i64 b, .int .i64 c] W fun e w' => e = .returned (.bool true) ∧ Below W.heap.size W w' := by
  obtain ⟨ha0, ha1⟩ := bounds_i64 w0
  obtain ⟨hb0, hb1⟩ := bounds_i64 w1
  have P1 := fun w => fadd_any w a b ha0 ha1 hb0 hb1
  have P2 := fun w => fsub_any w a b ha0 ha1 hb0 hb1
  have P3 := fun w => fmul_any w a b ha0 ha1 hb0 hb1
  have P4 := fun w => fabs_any w a ha0 ha1
  have R1 := fun w => radd2_any w a b ha0 ha1 hb0 hb1
  have R2 := fun w => rsub2_any w a b ha0 ha1 hb0 hb1
  have R3 := fun w => rmul2_any w a b ha0 ha1 hb0 hb1
  have R4 := fun w => rabs2_any w a ha0 ha1
  have K1 := fun w => fclampC w a b c
  have K2 := fun w => rclampC w a b c
  generalize (if a < b then b else if c < a then c else a) = cl at *
  generalize int64V (a + b) = s at *
  generalize fits64 (a + b) = sf at *
  generalize int64V (a - b) = d at *
  generalize fits64 (a - b) = df at *
  generalize int64V (a * b) = m at *
  generalize fits64 (a * b) = mf at *
  generalize int64V (absV a) = n at *
  generalize fits64 (absV a) = nf at *
  replace P1 := Lib.hid P1
  replace P2 := Lib.hid P2
  replace P3 := Lib.hid P3
  replace P4 := Lib.hid P4
  replace R1 := Lib.hid R1
  replace R2 := Lib.hid R2
  replace R3 := Lib.hid R3
  replace R4 := Lib.hid R4
  replace K1 := Lib.hid K1
  replace K2 := Lib.hid K2
  clear w0 w1 w2 ha0 ha1 hb0 hb1
  have C := CL.new W 0
  go_enter Try.func6, Try.ntmps6
  go_wp2_with fail
  refine (P1.out _).mono ?_; rintro e w1 ⟨rfl, hX⟩
  replace C := C.step (j := 0) hX
  clear hX
  go_wp2_with fail
  refine (P2.out _).mono ?_; rintro e w2 ⟨rfl, hX⟩
  replace C := C.step (j := 0) hX
  clear hX
  go_wp2_with fail
  refine (P3.out _).mono ?_; rintro e w3 ⟨rfl, hX⟩
  replace C := C.step (j := 0) hX
  clear hX
  go_wp2_with fail
  refine (P4.out _).mono ?_; rintro e w4 ⟨rfl, hX⟩
  replace C := C.step (j := 0) hX
  clear hX
  go_wp2_with fail
  refine (R1.out _).mono ?_; rintro e w5 ⟨rfl, hX⟩
  replace C := C.step (j := 0) hX
  clear hX
  go_wp2_with fail
  refine (R2.out _).mono ?_; rintro e w6 ⟨rfl, hX⟩
  replace C := C.step (j := 0) hX
  clear hX
  go_wp2_with fail
  refine (R3.out _).mono ?_; rintro e w7 ⟨rfl, hX⟩
  replace C := C.step (j := 0) hX
  clear hX
  go_wp2_with fail
  refine (R4.out _).mono ?_; rintro e w8 ⟨rfl, hX⟩
  replace C := C.step (j := 0) hX
  clear hX
  go_wp2_with fail
  refine (awake02 _).mono ?_; rintro e w9 ⟨rfl, hX⟩
  replace C := C.step (j := 0) hX
  clear hX
  go_wp2_with fail
  refine (K1.out _).mono ?_; rintro e w10 ⟨rfl, hX⟩
  replace C := C.step (j := 0) hX
  clear hX
  go_wp2_with fail
  refine (K2.out _).mono ?_; rintro e w11 ⟨rfl, hX⟩
  replace C := C.step (j := 0) hX
  clear hX
  go_wp2_with fail
  go_returns
  exact ⟨rfl, C.x.to_below⟩
end Go.Proofs.Ythdjanjlpgcmoaa
