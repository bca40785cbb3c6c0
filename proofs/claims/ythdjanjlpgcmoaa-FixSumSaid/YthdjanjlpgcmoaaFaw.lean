/- Package fix's awake. -/
import Derived.Test.YthdjanjlpgcmoaaFsm
namespace Go.Proofs.Ythdjanjlpgcmoaa
open Go.RowKit

theorem ISl_lit {w : World} {b : Nat} (L : List Int) (cap : Nat) (h : At w b (L.map (Value.int .i64)).toArray) : ISl w (.slice (some ⟨b, 0, none⟩) L.length cap) L :=
  .inr ⟨b, 0, cap, rfl, fun i n hn => by rw [Nat.zero_add, h.cell i]; simp [hn]⟩
theorem fclampC (w : World) (n lo hi : Int) : Calls Try.prog 25 #[.int .i64 n, .int .i64 lo, .int .i64 hi] w fun e w' => e = .returned (.int .i64 (if n < lo then lo else if hi < n then hi else n)) ∧ Chg [] w w' :=
  (fclamp_any w n lo hi).mono fun _ _ ⟨he, hw⟩ => ⟨he, hw ▸ Chg.refl _ _⟩
theorem rclampC (w : World) (n lo hi : Int) : Calls Try.prog 26 #[.int .i64 n, .int .i64 lo, .int .i64 hi] w fun e w' => e = .returned (.int .i64 (if n < lo then lo else if hi < n then hi else n)) ∧ Chg [] w w' :=
  (rclamp2_any w n lo hi).mono fun _ _ ⟨he, hw⟩ => ⟨he, hw ▸ Chg.refl _ _⟩
set_option maxHeartbeats 2000000 in
theorem awake02 (W : World) : Calls Try.prog 10 #[] W fun e w' => e = .returned (.bool true) ∧ Chg [] W w' := by
  have A1 := fun w => fmuldiv_any w (-7) 1 (by decide) (by decide) (by decide) (by decide) 2 (by decide) (by decide) 2
  rw [show mdN (-7) 1 2 2 = -4 by decide, show mdB (-7) 1 2 2 = true by decide] at A1
  have A2 := fun w => fmuldiv_any w 7 1 (by decide) (by decide) (by decide) (by decide) 2 (by decide) (by decide) 1
  rw [show mdN 7 1 2 1 = 4 by decide, show mdB 7 1 2 1 = true by decide] at A2
  have A3 := fun w => fadd_any w 9223372036854775807 1 (by decide) (by decide) (by decide) (by decide)
  rw [show int64V (9223372036854775807 + 1) = 0 by decide, show fits64 (9223372036854775807 + 1) = false by decide] at A3
  have A4 := fun w => fhyp_any w 3 (-4) (by decide) (by decide) (by decide) (by decide)
  rw [show hyB (3 * 3 + -4 * -4) = true by decide, show rootV (3 * 3 + -4 * -4) = 5 by decide, if_pos rfl] at A4
  have A5 := fun w => fmul_any w 1099511627776 1099511627776 (by decide) (by decide) (by decide) (by decide)
  rw [show int64V (1099511627776 * 1099511627776) = 0 by decide, show fits64 (1099511627776 * 1099511627776) = false by decide] at A5
  have A7 := fun w => fabs_any w (-9223372036854775808) (by decide) (by decide)
  rw [show int64V (absV (-9223372036854775808)) = 0 by decide, show fits64 (absV (-9223372036854775808)) = false by decide] at A7
  have A8 := fun w => fclampC w 9 1 5
  rw [show (if (9 : Int) < 1 then (1 : Int) else if (5 : Int) < 9 then 5 else 9) = 5 by decide] at A8
  have A9 := fun w => fclampC w 9 12 5
  rw [show (if (9 : Int) < 12 then (12 : Int) else if (5 : Int) < 9 then 5 else 9) = 12 by decide] at A9
  replace A1 := Lib.hid A1
  replace A2 := Lib.hid A2
  replace A3 := Lib.hid A3
  replace A4 := Lib.hid A4
  replace A5 := Lib.hid A5
  replace A7 := Lib.hid A7
  replace A8 := Lib.hid A8
  replace A9 := Lib.hid A9
  have C := CL.new W 0
  go_enter Try.func10, Try.ntmps10
  go_wp2_with fail
  refine (A1.out _).mono ?_; rintro e w1 ⟨rfl, hX⟩
  replace C := C.step (j := 0) hX
  clear hX
  go_wp2_with fail
  refine (A2.out _).mono ?_; rintro e w2 ⟨rfl, hX⟩
  replace C := C.step (j := 0) hX
  clear hX
  go_wp2_with fail
  refine (A3.out _).mono ?_; rintro e w3 ⟨rfl, hX⟩
  replace C := C.step (j := 0) hX
  clear hX
  go_wp2_with fail
  refine (A4.out _).mono ?_; rintro e w4 ⟨rfl, hX⟩
  replace C := C.step (j := 0) hX
  clear hX
  go_wp2_with fail
  refine (A5.out _).mono ?_; rintro e w5 ⟨rfl, hX⟩
  replace C := C.step (j := 0) hX
  clear hX
  go_wp2_with fail
  replace C := C.push #[.int .i64 1, .int .i64 2, .int .i64 (-5)] 2
  refine (fsum_any _ _ [1, 2, -5] (ISl_lit [1, 2, -5] _ (C.get 0 rfl)) (by decide) (by decide)).mono ?_; rintro e w6 ⟨rfl, hX⟩
  rw [show sumL 0 [1, 2, -5] = (-2, true) by decide]
  replace C := C.step (j := 0) hX
  clear hX
  go_wp2_with fail
  refine (A7.out _).mono ?_; rintro e w7 ⟨rfl, hX⟩
  replace C := C.step (j := 0) hX; clear hX
  go_wp2_with fail
  refine (A8.out _).mono ?_; rintro e w8 ⟨rfl, hX⟩
  replace C := C.step (j := 0) hX; clear hX
  go_wp2_with fail
  refine (A9.out _).mono ?_; rintro e w9 ⟨rfl, hX⟩
  replace C := C.step (j := 0) hX; clear hX
  go_wp2_with fail
  go_returns
  exact ⟨rfl, C.x⟩
end Go.Proofs.Ythdjanjlpgcmoaa
