/- The reference of fix: Add, Sub, Mul, Abs, Clamp. -/
import Derived.Test.YthdjanjlpgcmoaaFiy
import Derived.Test.YthdjanjlpgcmoaaWrm
namespace Go.Proofs.Ythdjanjlpgcmoaa
open Go.RowKit

theorem fits64_iff (v : Int) : fits64 v = true ↔ -9223372036854775808 ≤ v ∧ v ≤ 9223372036854775807 := by unfold fits64; simp
theorem radd2_any (w : World) (a b : Int) (ha0 : -9223372036854775808 ≤ a) (ha1 : a ≤ 9223372036854775807) (hb0 : -9223372036854775808 ≤ b) (hb1 : b ≤ 9223372036854775807) : Calls Try.prog 21 #[.int .i64 a, .int .i64 b] w fun e w' => e = .returned (.tuple #[.int .i64 (int64V (a + b)), .bool (fits64 (a + b))]) ∧ Chg [] w w' := by
  rcases Bool.eq_false_or_eq_true (fits64 (a + b)) with hf | hf
  · have hb := (fits64_iff _).1 hf
    rw [hf, int64V_fits hf]
    clear hf
    by_cases h1 : 0 < b
    · have g : ¬9223372036854775807 - b < a := by omega
      go_enter Try.func21, Try.ntmps21
      go_wp2_with fail
      go_returns
      exact ⟨rfl, Chg.refl _ _⟩
    · by_cases h2 : b < 0
      · have g : ¬a < -9223372036854775808 - b := by omega
        go_enter Try.func21, Try.ntmps21
        go_wp2_with fail
        go_returns
        exact ⟨rfl, Chg.refl _ _⟩
      · go_enter Try.func21, Try.ntmps21
        go_wp2_with fail
        go_returns
        exact ⟨rfl, Chg.refl _ _⟩
  · have hb : ¬(-9223372036854775808 ≤ a + b ∧ a + b ≤ 9223372036854775807) := fun h => by rw [(fits64_iff _).2 h] at hf; cases hf
    rw [hf, show int64V (a + b) = 0 by unfold int64V; rw [hf]; rfl]
    clear hf
    by_cases h1 : 0 < b
    · have g : 9223372036854775807 - b < a := by omega
      go_enter Try.func21, Try.ntmps21
      go_wp2_with fail
      go_returns
      exact ⟨rfl, Chg.refl _ _⟩
    · by_cases h2 : b < 0
      · have g : a < -9223372036854775808 - b := by omega
        go_enter Try.func21, Try.ntmps21
        go_wp2_with fail
        go_returns
        exact ⟨rfl, Chg.refl _ _⟩
      · exfalso
        omega
theorem rsub2_any (w : World) (a b : Int) (ha0 : -9223372036854775808 ≤ a) (ha1 : a ≤ 9223372036854775807) (hb0 : -9223372036854775808 ≤ b) (hb1 : b ≤ 9223372036854775807) : Calls Try.prog 22 #[.int .i64 a, .int .i64 b] w fun e w' => e = .returned (.tuple #[.int .i64 (int64V (a - b)), .bool (fits64 (a - b))]) ∧ Chg [] w w' := by
  rcases Bool.eq_false_or_eq_true (fits64 (a - b)) with hf | hf
  · have hb := (fits64_iff _).1 hf
    rw [hf, int64V_fits hf]
    clear hf
    by_cases h1 : b < 0
    · have g : ¬9223372036854775807 + b < a := by omega
      go_enter Try.func22, Try.ntmps22
      go_wp2_with fail
      go_returns
      exact ⟨rfl, Chg.refl _ _⟩
    · by_cases h2 : 0 < b
      · have g : ¬a < -9223372036854775808 + b := by omega
        go_enter Try.func22, Try.ntmps22
        go_wp2_with fail
        go_returns
        exact ⟨rfl, Chg.refl _ _⟩
      · go_enter Try.func22, Try.ntmps22
        go_wp2_with fail
        go_returns
        exact ⟨rfl, Chg.refl _ _⟩
  · have hb : ¬(-9223372036854775808 ≤ a - b ∧ a - b ≤ 9223372036854775807) := fun h => by rw [(fits64_iff _).2 h] at hf; cases hf
    rw [hf, show int64V (a - b) = 0 by unfold int64V; rw [hf]; rfl]
    clear hf
    by_cases h1 : b < 0
    · have g : 9223372036854775807 + b < a := by omega
      go_enter Try.func22, Try.ntmps22
      go_wp2_with fail
      go_returns
      exact ⟨rfl, Chg.refl _ _⟩
    · by_cases h2 : 0 < b
      · have g : a < -9223372036854775808 + b := by omega
        go_enter Try.func22, Try.ntmps22
        go_wp2_with fail
        go_returns
        exact ⟨rfl, Chg.refl _ _⟩
      · exfalso
        omega
theorem rmul2_any (w : World) (a b : Int) (ha0 : -9223372036854775808 ≤ a) (ha1 : a ≤ 9223372036854775807) (hb0 : -9223372036854775808 ≤ b) (hb1 : b ≤ 9223372036854775807) : Calls Try.prog 23 #[.int .i64 a, .int .i64 b] w fun e w' => e = .returned (.tuple #[.int .i64 (int64V (a * b)), .bool (fits64 (a * b))]) ∧ Chg [] w w' := by
  have hb := prod_bd a b ha0 ha1 hb0 hb1
  have P1 := fun w => rmul_any w a b ha0 ha1 hb0 hb1
  have P2 := fun w => rint_any w (ofV (a * b)) (ofV_ok _ (by omega) (by omega))
  rw [ofV_val'] at P2
  generalize ofV (a * b) = x at *
  simp only [wv_cells] at *
  replace P1 := Lib.hid P1
  replace P2 := Lib.hid P2
  have C := CL.new w 0
  go_enter Try.func23, Try.ntmps23
  go_wp2_with fail
  refine (P1.out _).mono ?_; rintro e w1 ⟨rfl, hX⟩
  replace C := C.step (j := 0) hX
  clear hX
  go_wp2_with fail
  refine (P2.out _).mono ?_; rintro e w2 ⟨rfl, hX⟩
  replace C := C.step (j := 0) hX
  clear hX
  go_wp2_with fail
  go_returns
  exact ⟨rfl, C.x⟩
theorem rabs2_any (w : World) (a : Int) (ha0 : -9223372036854775808 ≤ a) (ha1 : a ≤ 9223372036854775807) : Calls Try.prog 24 #[.int .i64 a] w fun e w' => e = .returned (.tuple #[.int .i64 (int64V (absV a)), .bool (fits64 (absV a))]) ∧ Chg [] w w' := by
  by_cases h0 : a = -9223372036854775808
  · subst h0
    rw [show int64V (absV (-9223372036854775808)) = 0 by decide, show fits64 (absV (-9223372036854775808)) = false by decide]
    go_enter Try.func24, Try.ntmps24
    go_wp2_with fail
    go_returns
    exact ⟨rfl, Chg.refl _ _⟩
  · have hf : fits64 (absV a) = true := by rw [fits64_iff]; unfold absV; split <;> omega
    rw [hf, int64V_fits hf]
    have e1 : (a == -9223372036854775808) = false := by simpa using h0
    have e2 : absV a = max a (-a) := by unfold absV; split <;> omega
    rw [e2]
    have hw : wrap64 (-a) = -a := by unfold wrap64; omega
    clear hf e2 h0
    go_enter Try.func24, Try.ntmps24
    go_wp2_with fail
    go_returns
    exact ⟨rfl, Chg.refl _ _⟩
theorem rclamp2_any (w : World) (n lo hi : Int) : Calls Try.prog 26 #[.int .i64 n, .int .i64 lo, .int .i64 hi] w fun e w' => e = .returned (.int .i64 (if n < lo then lo else if hi < n then hi else n)) ∧ w = w' := by
  by_cases h1 : n < lo
  · rw [if_pos h1]
    go_enter Try.func26, Try.ntmps26
    go_wp2_with fail
    go_returns
    exact ⟨rfl, rfl⟩
  · rw [if_neg h1]
    by_cases h2 : hi < n
    · rw [if_pos h2]
      go_enter Try.func26, Try.ntmps26
      go_wp2_with fail
      go_returns
      exact ⟨rfl, rfl⟩
    · rw [if_neg h2]
      go_enter Try.func26, Try.ntmps26
      go_wp2_with fail
      go_returns
      exact ⟨rfl, rfl⟩
end Go.Proofs.Ythdjanjlpgcmoaa
