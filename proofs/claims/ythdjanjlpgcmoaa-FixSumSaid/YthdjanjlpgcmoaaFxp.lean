/- Package fix: the plain laws: square roots, products divided. -/
import Derived.Test.YthdjanjlpgcmoaaWrc
namespace Go.Proofs.Ythdjanjlpgcmoaa
open Go.RowKit

/-- The square root, rounded down. -/
def isq : Nat → Nat
  | 0 => 0
  | n + 1 => if (isq n + 1) * (isq n + 1) ≤ n + 1 then isq n + 1 else isq n
theorem isq_spec (n : Nat) : isq n * isq n ≤ n ∧ n < (isq n + 1) * (isq n + 1) := by
  induction n with
  | zero => exact ⟨Nat.le_refl _, by decide⟩
  | succ n ih =>
    unfold isq
    split
    · rename_i h
      refine ⟨h, ?_⟩
      have : (isq n + 1 + 1) * (isq n + 1 + 1) = (isq n + 1) * (isq n + 1) + 2 * (isq n + 1) + 1 := by
        rw [Nat.add_mul (isq n + 1) 1, Nat.mul_add (isq n + 1)]; omega
      omega
    · rename_i h
      exact ⟨by omega, by omega⟩
theorem sq_lt (a b : Nat) (h : a * a < (b + 1) * (b + 1)) : a ≤ b := by
  apply Classical.byContradiction
  intro hn
  have := Nat.mul_le_mul (show b + 1 ≤ a by omega) (show b + 1 ≤ a by omega)
  omega
theorem isq_unique (n r : Nat) (h1 : r * r ≤ n) (h2 : n < (r + 1) * (r + 1)) : r = isq n := by
  obtain ⟨g1, g2⟩ := isq_spec n
  have := sq_lt r (isq n) (by omega)
  have := sq_lt (isq n) r (by omega)
  omega
/-- Of a number from 0 on. -/
def rootV (v : Int) : Int := (isq v.toNat : Int)
theorem rootV_spec (v : Int) (h : 0 ≤ v) : 0 ≤ rootV v ∧ rootV v * rootV v ≤ v ∧ v < (rootV v + 1) * (rootV v + 1) := by
  obtain ⟨n, rfl⟩ : ∃ n : Nat, v = n := ⟨v.toNat, by omega⟩
  obtain ⟨g1, g2⟩ := isq_spec n
  unfold rootV
  simp only [Int.toNat_natCast]
  refine ⟨by omega, ?_, ?_⟩
  · have : ((isq n * isq n : Nat) : Int) ≤ n := by omega
    simpa using this
  · have : (n : Int) < (((isq n + 1) * (isq n + 1) : Nat) : Int) := by omega
    simpa using this
theorem rootV_unique (v r : Int) (h0 : 0 ≤ r) (h1 : r * r ≤ v) (h2 : v < (r + 1) * (r + 1)) : r = rootV v := by
  obtain ⟨n, rfl⟩ : ∃ n : Nat, r = n := ⟨r.toNat, by omega⟩
  obtain ⟨m, rfl⟩ : ∃ m : Nat, v = m := ⟨v.toNat, by have := Int.mul_nonneg h0 h0; omega⟩
  unfold rootV
  simp only [Int.toNat_natCast]
  have e1 : n * n ≤ m := by
    have : ((n * n : Nat) : Int) ≤ m := by simpa using h1
    omega
  have e2 : m < (n + 1) * (n + 1) := by
    have : (m : Int) < (((n + 1) * (n + 1) : Nat) : Int) := by simpa using h2
    omega
  exact congrArg Int.ofNat (isq_unique m n e1 e2)
/-- Whether a product that is divided is rounded up. -/
def mdUp (p c mode : Int) : Bool := (mode == 1 && decide (0 < p % c)) || (mode == 2 && (decide (c - p % c < p % c) || (p % c == c - p % c && decide (0 ≤ p))))
def mdV (p c mode : Int) : Int := p / c + if mdUp p c mode then 1 else 0
def mdOk (c mode : Int) : Bool := decide (0 < c) && decide (0 ≤ mode) && decide (mode ≤ 2)
def mdN (a b c mode : Int) : Int := if mdOk c mode then int64V (mdV (a * b) c mode) else 0
def mdB (a b c mode : Int) : Bool := mdOk c mode && fits64 (mdV (a * b) c mode)
/-- Down, nearest, up: in order, and at most one apart. -/
theorem md_order (p c : Int) (hc : 0 < c) : mdV p c 0 = p / c ∧ mdV p c 0 ≤ mdV p c 2 ∧ mdV p c 2 ≤ mdV p c 1 ∧ mdV p c 1 ≤ mdV p c 0 + 1 ∧ mdV p c 0 * c ≤ p ∧ p ≤ mdV p c 1 * c := by
  have e0 : mdV p c 0 = p / c := by simp [mdV, mdUp]
  have h0 := Int.emod_nonneg p (show c ≠ 0 by omega)
  have h1 := Int.emod_lt_of_pos p hc
  have h2 := Int.emod_add_mul_ediv p c
  have h3 : p / c * c = c * (p / c) := Int.mul_comm _ _
  have e1 : mdV p c 1 = p / c + if 0 < p % c then 1 else 0 := by simp [mdV, mdUp]
  have e2 : mdV p c 2 ≤ p / c + (if 0 < p % c then 1 else 0) ∧ p / c ≤ mdV p c 2 := by
    unfold mdV
    by_cases hp : 0 < p % c
    · rw [if_pos hp]
      split <;> omega
    · rw [if_neg hp]
      have : mdUp p c 2 = false := by
        unfold mdUp
        simp
        omega
      rw [this]
      simp
  rw [e0, e1]
  refine ⟨rfl, by omega, by omega, ?_, by omega, ?_⟩
  · split <;> omega
  · split
    · rw [Int.add_mul]; omega
    · rw [Int.add_zero]; omega
end Go.Proofs.Ythdjanjlpgcmoaa
