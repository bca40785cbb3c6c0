/- The reference of package source: Cycle. -/
import Derived.Test.YtmdgikikiijjbaaSrh
import Derived.Deep.DeepCutAuto
namespace Go.Proofs.Ytmdgikikiijjbaa
open Go.RowKit

theorem step_any (w : World) (a b m : Int) (ha0 : -4611686018427387904 ≤ a) (ha1 : a ≤ 4611686018427387904) (hb0 : -65536 ≤ b) (hb1 : b ≤ 65536) :
    Calls Try.prog 27 #[.int .i64 a, .int .i64 b, .int .i64 m] w fun e w' => e = .returned (.bool (jmp1 m a b)) ∧ w = w' := by
  have h1 : IntKind.i64.wrap (a - b) = a - b := by rw [IntKind.wrap_i64]; omega
  have h2 : IntKind.i64.wrap (b - a) = b - a := by rw [IntKind.wrap_i64]; omega
  go_enter Try.func27, Try.ntmps27
  by_cases h : m < a - b
  · go_wp2
    go_returns
    exact ⟨ret_bool (by simp [jmp1, h]), rfl⟩
  · by_cases h' : m < b - a
    · go_wp2
      go_returns
      exact ⟨ret_bool (by simp [jmp1, h']), rfl⟩
    · go_wp2
      go_returns
      exact ⟨ret_bool (by simp [jmp1, h, h']), rfl⟩
theorem jump_any (w : World) (a b m : Int) (hm : m ≤ 2305843009213693952) (hb0 : -65536 ≤ b) (hb1 : b ≤ 65536) :
    Calls Try.prog 21 #[.int .i64 a, .int .i64 b, .int .i64 m] w fun e w' => e = .returned (.bool (jmp1 m a b)) ∧ w = w' := by
  have e1 : 4611686018427387904 < a → jmp1 m 4611686018427387904 b = jmp1 m a b := fun h => by
    unfold jmp1; rw [Bool.eq_iff_iff]; simp only [Bool.or_eq_true, decide_eq_true_eq]; omega
  have e2 : a < -4611686018427387904 → jmp1 m (-4611686018427387904) b = jmp1 m a b := fun h => by
    unfold jmp1; rw [Bool.eq_iff_iff]; simp only [Bool.or_eq_true, decide_eq_true_eq]; omega
  obtain ⟨v, hv⟩ : ∃ v, v = jmp1 m a b := ⟨_, rfl⟩
  rw [← hv] at e1 e2 ⊢
  have E1 := Lib.hid e1
  have E2 := Lib.hid e2
  have Hv := Lib.hid hv
  clear e1 e2 hv
  go_enter Try.func21, Try.ntmps21
  go_wp2_with fail
  · have hx : 4611686018427387904 < a := by have := ‹(4611686018427387904 : Int) < if a < -4611686018427387904 then -4611686018427387904 else a›; split at this <;> omega
    rename_i q1
    clear q1
    refine (step_any _ 4611686018427387904 b m (by decide) (by decide) hb0 hb1).mono ?_; rintro e w' ⟨rfl, rfl⟩
    rw [E1.out hx]
    go_wp2_with fail
    go_returns
    exact ⟨rfl, rfl⟩
  · have hx : a < -4611686018427387904 := by assumption
    rename_i q1
    clear q1
    refine (step_any _ (-4611686018427387904) b m (by decide) (by decide) hb0 hb1).mono ?_; rintro e w' ⟨rfl, rfl⟩
    rw [E2.out hx]
    go_wp2_with fail
    go_returns
    exact ⟨rfl, rfl⟩
  · have hx : -4611686018427387904 ≤ a := by assumption
    have hy : a ≤ 4611686018427387904 := by have := ‹(if a < -4611686018427387904 then -4611686018427387904 else a) ≤ (4611686018427387904 : Int)›; split at this <;> omega
    rename_i q1
    clear q1
    refine (step_any _ a b m hx hy hb0 hb1).mono ?_; rintro e w' ⟨rfl, rfl⟩
    rw [← Hv.out]
    go_wp2_with fail
    go_returns
    exact ⟨rfl, rfl⟩
def SV.rcells (s : SV) : Array Value := #[.int .i64 s.step, .int .i64 s.most, .int .i64 s.last.cnt, .int .i64 s.last.flg, .int .i64 s.last.x, .int .i64 s.last.y, .int .i64 s.last.z, .int .i64 s.last.vx, .int .i64 s.last.vy, .int .i64 s.last.vz, .bool s.has, .int .i64 s.old]
/-- What the reference needs of a source so that it tells the same. -/
structure SV.okr (s : SV) : Prop where
  s1 : s.step ≤ 1099511627776
  x0 : -65536 ≤ s.last.vx
  x1 : s.last.vx ≤ 65536
  y0 : -65536 ≤ s.last.vy
  y1 : s.last.vy ≤ 65536
  z0 : -65536 ≤ s.last.vz
  z1 : s.last.vz ≤ 65536
theorem mul_up (s o : Int) (h0 : 1 ≤ s) (h1 : s ≤ 1099511627776) (h2 : 0 ≤ o) (h3 : o ≤ 1000000) : s * (o + 1) ≤ 2305843009213693952 := by
  have h4 : s * (o + 1) ≤ 1099511627776 * (o + 1) := Int.mul_le_mul_of_nonneg_right h1 (by omega)
  omega
structure WB (b z : Nat) (cs zs : Array Value) (W : World) (k : Nat) (w : World) : Prop where
  hb : At w b cs
  hr : At w z zs
  x : Chg [b] W w
end Go.Proofs.Ytmdgikikiijjbaa
