/- The arithmetic under bits.Div64: two digits of 32 bits, each guessed and mended. Plain. -/
import Derived.Test.YthdjanjlpgcmoaaWlz
namespace Go.Proofs.Ythdjanjlpgcmoaa
open Go.RowKit

structure DI (Y y1 y0 U u q r : Int) : Prop where
  hY : Y = y1 * 4294967296 + y0
  y1a : 2147483648 ≤ y1
  y1b : y1 ≤ 4294967295
  y0a : 0 ≤ y0
  y0b : y0 ≤ 4294967295
  U0 : 0 ≤ U
  U1 : U < Y
  u0 : 0 ≤ u
  u1 : u ≤ 4294967295
  e : q * y1 + r = U
  r0 : 0 ≤ r
  r1 : r ≤ 4294967295
  hq : (U * 4294967296 + u) / Y ≤ q
theorem dmul (q y1 y0 U r : Int) (e : q * y1 + r = U) : q * (y1 * 4294967296 + y0) = (U - r) * 4294967296 + q * y0 := by
  rw [← e, Int.mul_add, ← Int.mul_assoc]
  congr 2
  omega
theorem DI.Q0 {Y y1 y0 U u q r : Int} (h : DI Y y1 y0 U u q r) : 0 ≤ (U * 4294967296 + u) / Y := by
  have h1 := h.hY; have h2 := h.y1a; have h3 := h.y0a; have h4 := h.U0; have h5 := h.u0
  exact Int.ediv_nonneg (by omega) (by omega)
theorem DI.qle {Y y1 y0 U u q r : Int} (h : DI Y y1 y0 U u q r) : q ≤ 4294967297 := by
  have h1 := h.hY; have h2 := h.y1a; have h3 := h.y0b; have h4 := h.U1; have h5 := h.e; have h6 := h.r0
  have : q * y1 < 4294967298 * y1 := by omega
  have := Int.lt_of_mul_lt_mul_right this (by omega)
  omega
theorem DI.Qlt {Y y1 y0 U u q r : Int} (h : DI Y y1 y0 U u q r) : (U * 4294967296 + u) / Y < 4294967296 := by
  have h1 := h.hY; have h2 := h.y1a; have h3 := h.y0a; have h4 := h.U1; have h5 := h.u1
  exact Int.ediv_lt_of_lt_mul (by omega) (by omega)
theorem DI.exit {Y y1 y0 U u q r : Int} (h : DI Y y1 y0 U u q r) (hc : q * y0 ≤ r * 4294967296 + u) : q = (U * 4294967296 + u) / Y := by
  have h1 := h.hY; have h2 := h.y1a; have h3 := h.y0a
  have e := dmul q y1 y0 U r h.e
  rw [← h.hY] at e
  have h4 : q ≤ (U * 4294967296 + u) / Y := (Int.le_ediv_iff_mul_le (by omega)).2 (by omega)
  have := h.hq
  omega
theorem DI.down {Y y1 y0 U u q r : Int} (h : DI Y y1 y0 U u q r) (hc : 4294967296 ≤ q ∨ r * 4294967296 + u < q * y0) : (U * 4294967296 + u) / Y ≤ q - 1 := by
  have h1 := h.hY; have h2 := h.y1a; have h3 := h.y0a
  rcases hc with hc | hc
  · have := h.Qlt
    omega
  · have e := dmul q y1 y0 U r h.e
    rw [← h.hY] at e
    have : (U * 4294967296 + u) / Y < q := Int.ediv_lt_of_lt_mul (by omega) (by omega)
    omega
theorem DI.next {Y y1 y0 U u q r : Int} (h : DI Y y1 y0 U u q r) (hc : (U * 4294967296 + u) / Y ≤ q - 1) (hr : r + y1 ≤ 4294967295) : DI Y y1 y0 U u (q - 1) (r + y1) :=
  ⟨h.hY, h.y1a, h.y1b, h.y0a, h.y0b, h.U0, h.U1, h.u0, h.u1, by rw [Int.sub_mul, ← h.e]; omega, by have := h.r0; have := h.y1a; omega, hr, hc⟩
theorem DI.brk {Y y1 y0 U u q r : Int} (h : DI Y y1 y0 U u q r) (hc : (U * 4294967296 + u) / Y ≤ q - 1) (hr : 4294967296 ≤ r + y1) : q - 1 = (U * 4294967296 + u) / Y := by
  have h1 := h.hY; have h2 := h.y1a; have h3 := h.y0a; have h3' := h.y0b; have h4 := h.U1; have h5 := h.u0
  have e1 : (q - 1) * y1 + (r + y1) = U := by rw [Int.sub_mul, ← h.e]; omega
  have e := dmul (q - 1) y1 y0 U (r + y1) e1
  rw [← h.hY] at e
  have q0 := h.Q0
  have hlt : (q - 1) * y1 < 4294967296 * y1 := by omega
  have hlt := Int.lt_of_mul_lt_mul_right hlt (by omega)
  have hb := mul_bd (q - 1) y0 (by omega) (by omega) h3 h3'
  have h4 : q - 1 ≤ (U * 4294967296 + u) / Y := (Int.le_ediv_iff_mul_le (by omega)).2 (by omega)
  omega
theorem DI.start (Y y1 y0 U u : Int) (hY : Y = y1 * 4294967296 + y0) (a1 : 2147483648 ≤ y1) (a2 : y1 ≤ 4294967295) (a3 : 0 ≤ y0) (a4 : y0 ≤ 4294967295) (a5 : 0 ≤ U) (a6 : U < Y) (a7 : 0 ≤ u) (a8 : u ≤ 4294967295) : DI Y y1 y0 U u (U / y1) (U % y1) := by
  have m := Int.emod_lt_of_pos U (show 0 < y1 by omega)
  refine ⟨hY, a1, a2, a3, a4, a5, a6, a7, a8, ?_, Int.emod_nonneg U (by omega), by omega, ?_⟩
  · have := Int.ediv_mul_add_emod U y1
    omega
  · refine (Int.le_ediv_iff_mul_le (by omega)).2 ?_
    have hQ : (U * 4294967296 + u) / Y * Y ≤ U * 4294967296 + u := Int.ediv_mul_le _ (by omega)
    have q0 : 0 ≤ (U * 4294967296 + u) / Y := Int.ediv_nonneg (by omega) (by omega)
    generalize (U * 4294967296 + u) / Y = Q at *
    have e := dmul Q y1 y0 (Q * y1) 0 (by omega)
    rw [← hY] at e
    have hb : 0 ≤ Q * y0 := Int.mul_nonneg q0 a3
    omega
/-- What the numbers are when the divisor's top bit is one. -/
theorem div_norm (hi lo y : Int) (s : Nat) (h0 : 0 ≤ hi) (h1 : hi < y) (l0 : 0 ≤ lo) (l1 : lo ≤ 18446744073709551615) (hs : s ≤ 63) (s3 : y * 2 ^ s < 2 ^ 64) :
    IntKind.u64.wrap (hi * 2 ^ s) = hi * 2 ^ s ∧ bits .or .u64 (hi * 2 ^ s) (lo / 2 ^ (64 - s)) = hi * 2 ^ s + lo / 2 ^ (64 - s) ∧
    (hi * 18446744073709551616 + lo) * 2 ^ s = (hi * 2 ^ s + lo / 2 ^ (64 - s)) * 18446744073709551616 + IntKind.u64.wrap (lo * 2 ^ s) ∧
    0 ≤ hi * 2 ^ s + lo / 2 ^ (64 - s) ∧ hi * 2 ^ s + lo / 2 ^ (64 - s) < y * 2 ^ s := by
  obtain ⟨H, rfl⟩ : ∃ n : Nat, hi = (n : Int) := ⟨hi.toNat, by omega⟩
  obtain ⟨L, rfl⟩ : ∃ n : Nat, lo = (n : Int) := ⟨lo.toNat, by omega⟩
  obtain ⟨Y, rfl⟩ : ∃ n : Nat, y = (n : Int) := ⟨y.toNat, by omega⟩
  have hp : 0 < 2 ^ s := Nat.pow_pos (by omega)
  have hY : Y * 2 ^ s < 2 ^ 64 := by exact_mod_cast s3
  have hH : H * 2 ^ s + 2 ^ s ≤ Y * 2 ^ s := by
    have := Nat.mul_le_mul_right (2 ^ s) (show H + 1 ≤ Y by omega)
    rw [Nat.add_mul, Nat.one_mul] at this
    exact this
  have hpow : 2 ^ (64 - s) * 2 ^ s = 2 ^ 64 := by rw [← Nat.pow_add]; congr 1; omega
  have hL : L / 2 ^ (64 - s) < 2 ^ s := Nat.div_lt_of_lt_mul (by rw [hpow]; omega)
  have hd : L * 2 ^ s / 2 ^ 64 = L / 2 ^ (64 - s) := by rw [← hpow]; exact Nat.mul_div_mul_right _ _ hp
  have c1 : (H : Int) * 2 ^ s = ((H * 2 ^ s : Nat) : Int) := by push_cast; rfl
  have c2 : (L : Int) / 2 ^ (64 - s) = ((L / 2 ^ (64 - s) : Nat) : Int) := by push_cast; rfl
  have c3 : (L : Int) * 2 ^ s = ((L * 2 ^ s : Nat) : Int) := by push_cast; rfl
  have c4 : (Y : Int) * 2 ^ s = ((Y * 2 ^ s : Nat) : Int) := by push_cast; rfl
  rw [c1, c2, c3, c4]
  refine ⟨by rw [IntKind.wrap_u64]; omega, ?_, ?_, by omega, by omega⟩
  · have e1 : ∀ n : Nat, n < 2 ^ 64 → (BitVec.ofInt 64 (n : Int)).toNat = n := fun n hn => by
      rw [BitVec.ofInt_natCast, BitVec.toNat_ofNat]; exact Nat.mod_eq_of_lt hn
    rw [or_u]
    unfold bv
    rw [BitVec.toNat_or, e1 _ (by omega), e1 _ (by omega), Nat.mul_comm H, ← Nat.two_pow_add_eq_or_of_lt hL]
    push_cast
    rfl
  · rw [IntKind.wrap_u64, Int.add_mul, c3, Int.mul_right_comm, c1]
    generalize H * 2 ^ s = a at *
    generalize L * 2 ^ s = b at *
    generalize L / 2 ^ (64 - s) = c at *
    omega
theorem div_scale (N y : Int) (s : Nat) (hy : 0 < y) : N * 2 ^ s / (y * 2 ^ s) = N / y ∧ N * 2 ^ s % (y * 2 ^ s) / 2 ^ s = N % y := by
  have hp : (0 : Int) < 2 ^ s := Int.pow_pos (by omega)
  refine ⟨Int.mul_ediv_mul_of_pos_left N y hp, ?_⟩
  rw [Int.mul_comm N, Int.mul_comm y, Int.mul_emod_mul_of_pos _ _ hp, Int.mul_ediv_cancel_left _ (by omega)]
theorem div_two (Y U A u1 u0 Q1 R1 Q0 R0 : Int) (hY : 0 < Y) (hA : A = u1 * 4294967296 + u0) (h1 : Q1 * Y + R1 = U * 4294967296 + u1) (h2 : Q0 * Y + R0 = R1 * 4294967296 + u0) (r0 : 0 ≤ R0) (r1 : R0 < Y) :
    (U * 18446744073709551616 + A) / Y = Q1 * 4294967296 + Q0 ∧ (U * 18446744073709551616 + A) % Y = R0 := by
  have e : U * 18446744073709551616 + A = R0 + Y * (Q1 * 4294967296 + Q0) := by
    rw [Int.mul_add, ← Int.mul_assoc, Int.mul_comm Y Q1, Int.mul_comm Y Q0]
    omega
  rw [e]
  constructor
  · rw [Int.add_mul_ediv_left _ _ (by omega), Int.ediv_eq_zero_of_lt r0 r1]
    omega
  · rw [Int.add_mul_emod_self_left, Int.emod_eq_of_lt r0 r1]
end Go.Proofs.Ythdjanjlpgcmoaa
