/- Words of 64 bits: the top bit of a word made of others; carry and borrow. -/
import Derived.Test.YtmdgikikiijjbaaHeap
namespace Go.Proofs.Ytmdgikikiijjbaa
open Go.RowKit

def bv (a : Int) : BitVec 64 := BitVec.ofInt 64 a
theorem u64_nat (v : BitVec 64) : IntKind.u64.wrap (v.toNat : Int) = v.toNat := by
  have := v.isLt
  simp [IntKind.wrap, IntKind.bits, IntKind.signed]
  omega
theorem and_u (a b : Int) : bits .and .u64 a b = ((bv a &&& bv b).toNat : Int) := u64_nat (bv a &&& bv b)
theorem or_u (a b : Int) : bits .or .u64 a b = ((bv a ||| bv b).toNat : Int) := u64_nat (bv a ||| bv b)
theorem xor_u (a b : Int) : bits .xor .u64 a b = ((bv a ^^^ bv b).toNat : Int) := u64_nat (bv a ^^^ bv b)
theorem andNot_u (a b : Int) : bits .andNot .u64 a b = ((bv a &&& ~~~ bv b).toNat : Int) := u64_nat (bv a &&& ~~~ bv b)
theorem bv_nat (v : BitVec 64) : bv (v.toNat : Int) = v := by
  unfold bv
  rw [BitVec.ofInt_natCast, BitVec.ofNat_toNat]
  simp
theorem bv_toNat (a : Int) (h0 : 0 ≤ a) (h1 : a ≤ 18446744073709551615) : ((bv a).toNat : Int) = a := by
  obtain ⟨m, rfl⟩ : ∃ m : Nat, a = (m : Int) := ⟨a.toNat, by omega⟩
  unfold bv
  rw [BitVec.ofInt_natCast, BitVec.toNat_ofNat, Nat.mod_eq_of_lt (by omega)]
theorem bv_msb (a : Int) (h0 : 0 ≤ a) (h1 : a ≤ 18446744073709551615) : (bv a).msb = decide (9223372036854775808 ≤ a) := by
  have e := bv_toNat a h0 h1
  rw [BitVec.msb_eq_decide, Bool.eq_iff_iff]
  simp
  omega
theorem top_u (v : BitVec 64) : (v.toNat : Int) / 9223372036854775808 = if v.msb then 1 else 0 := by
  have := v.isLt
  rw [BitVec.msb_eq_decide]
  by_cases h : 2 ^ 63 ≤ v.toNat
  · rw [if_pos (by simpa using h)]; omega
  · rw [if_neg (by simpa using h)]; omega
/-- bits.Add64's carry. -/
theorem carry64 (x y c : Int) (hx0 : 0 ≤ x) (hx1 : x ≤ 18446744073709551615) (hy0 : 0 ≤ y) (hy1 : y ≤ 18446744073709551615) (hc : c = 0 ∨ c = 1) :
    bits .or .u64 (bits .and .u64 x y) (bits .andNot .u64 (bits .or .u64 x y) ((x + y + c) % 18446744073709551616)) / 9223372036854775808 = (x + y + c) / 18446744073709551616 := by
  rw [or_u, and_u, andNot_u, or_u, bv_nat, bv_nat, bv_nat, top_u]
  rw [BitVec.msb_or, BitVec.msb_and, BitVec.msb_and, BitVec.msb_or, BitVec.msb_not, bv_msb x hx0 hx1, bv_msb y hy0 hy1, bv_msb _ (by omega) (by omega)]
  by_cases h1 : 9223372036854775808 ≤ x <;> by_cases h2 : 9223372036854775808 ≤ y <;> by_cases h3 : 9223372036854775808 ≤ (x + y + c) % 18446744073709551616 <;> simp [h1, h2, h3] <;> omega
/-- bits.Sub64's borrow. -/
theorem borrow64 (x y c : Int) (nx nxy : Int) (hx0 : 0 ≤ x) (hx1 : x ≤ 18446744073709551615) (hy0 : 0 ≤ y) (hy1 : y ≤ 18446744073709551615) (hc : c = 0 ∨ c = 1)
    (hnx : bv nx = ~~~ bv x) (hnxy : bv nxy = ~~~ (bv x ^^^ bv y)) :
    bits .or .u64 (bits .and .u64 nx y) (bits .and .u64 nxy ((x - y - c) % 18446744073709551616)) / 9223372036854775808 = -((x - y - c) / 18446744073709551616) := by
  rw [or_u, and_u, and_u, bv_nat, bv_nat, top_u, hnx, hnxy]
  rw [BitVec.msb_or, BitVec.msb_and, BitVec.msb_and, BitVec.msb_not, BitVec.msb_not, BitVec.msb_xor, bv_msb x hx0 hx1, bv_msb y hy0 hy1, bv_msb _ (by omega) (by omega)]
  by_cases h1 : 9223372036854775808 ≤ x <;> by_cases h2 : 9223372036854775808 ≤ y <;> by_cases h3 : 9223372036854775808 ≤ (x - y - c) % 18446744073709551616 <;> simp [h1, h2, h3] <;> omega

/-! ### Signed words -/
theorem i64_nat (v : BitVec 64) : IntKind.i64.wrap (v.toNat : Int) = v.toInt := by
  have := v.isLt
  rw [BitVec.toInt_eq_toNat_cond]
  simp [IntKind.wrap, IntKind.bits, IntKind.signed]
  split <;> omega
theorem and_i (a b : Int) : bits .and .i64 a b = (bv a &&& bv b).toInt := i64_nat (bv a &&& bv b)
theorem xor_i (a b : Int) : bits .xor .i64 a b = (bv a ^^^ bv b).toInt := i64_nat (bv a ^^^ bv b)
theorem bv_int (v : BitVec 64) : bv v.toInt = v := by
  unfold bv
  exact BitVec.ofInt_toInt
theorem bv_toInt (a : Int) (h0 : -9223372036854775808 ≤ a) (h1 : a ≤ 9223372036854775807) : (bv a).toInt = a := by
  unfold bv
  rw [BitVec.toInt_ofInt]
  exact Int.bmod_eq_of_le (by omega) (by omega)
theorem bv_msbi (a : Int) (h0 : -9223372036854775808 ≤ a) (h1 : a ≤ 9223372036854775807) : (bv a).msb = decide (a < 0) := by
  rw [BitVec.msb_eq_toInt, bv_toInt a h0 h1]
/-- Whether a sum's sign is another one than both numbers' (wide.Add). -/
theorem over_add (a b s : Int) (ha0 : -9223372036854775808 ≤ a) (ha1 : a ≤ 9223372036854775807) (hb0 : -9223372036854775808 ≤ b) (hb1 : b ≤ 9223372036854775807) (hs0 : -9223372036854775808 ≤ s) (hs1 : s ≤ 9223372036854775807) :
    bits .and .i64 (bits .xor .i64 a s) (bits .xor .i64 b s) < 0 ↔ (a < 0 ∧ b < 0 ∧ 0 ≤ s) ∨ (0 ≤ a ∧ 0 ≤ b ∧ s < 0) := by
  rw [and_i, xor_i, xor_i, bv_int, bv_int]
  have e := BitVec.msb_eq_toInt (x := (bv a ^^^ bv s) &&& (bv b ^^^ bv s))
  rw [BitVec.msb_and, BitVec.msb_xor, BitVec.msb_xor, bv_msbi a ha0 ha1, bv_msbi b hb0 hb1, bv_msbi s hs0 hs1] at e
  constructor
  · intro h
    rw [decide_eq_true h] at e
    by_cases h1 : a < 0 <;> by_cases h2 : b < 0 <;> by_cases h3 : s < 0 <;> simp [h1, h2, h3] at e <;> omega
  · intro h
    apply of_decide_eq_true
    rw [← e]
    by_cases h1 : a < 0 <;> by_cases h2 : b < 0 <;> by_cases h3 : s < 0 <;> simp [h1, h2, h3] <;> omega
/-- .. and a difference's (wide.Sub). -/
theorem over_sub (a b s : Int) (ha0 : -9223372036854775808 ≤ a) (ha1 : a ≤ 9223372036854775807) (hb0 : -9223372036854775808 ≤ b) (hb1 : b ≤ 9223372036854775807) (hs0 : -9223372036854775808 ≤ s) (hs1 : s ≤ 9223372036854775807) :
    bits .and .i64 (bits .xor .i64 a b) (bits .xor .i64 a s) < 0 ↔ (a < 0 ∧ 0 ≤ b ∧ 0 ≤ s) ∨ (0 ≤ a ∧ b < 0 ∧ s < 0) := by
  rw [and_i, xor_i, xor_i, bv_int, bv_int]
  have e := BitVec.msb_eq_toInt (x := (bv a ^^^ bv b) &&& (bv a ^^^ bv s))
  rw [BitVec.msb_and, BitVec.msb_xor, BitVec.msb_xor, bv_msbi a ha0 ha1, bv_msbi b hb0 hb1, bv_msbi s hs0 hs1] at e
  constructor
  · intro h
    rw [decide_eq_true h] at e
    by_cases h1 : a < 0 <;> by_cases h2 : b < 0 <;> by_cases h3 : s < 0 <;> simp [h1, h2, h3] at e <;> omega
  · intro h
    apply of_decide_eq_true
    rw [← e]
    by_cases h1 : a < 0 <;> by_cases h2 : b < 0 <;> by_cases h3 : s < 0 <;> simp [h1, h2, h3] <;> omega

/-! ### A product of two words -/
theorem mul_bd (x y : Int) (hx0 : 0 ≤ x) (hx1 : x ≤ 4294967295) (hy0 : 0 ≤ y) (hy1 : y ≤ 4294967295) : 0 ≤ x * y ∧ x * y ≤ 18446744065119617025 :=
  ⟨Int.mul_nonneg hx0 hy0, Int.le_trans (Int.mul_le_mul hx1 hy1 hy0 (by omega)) (by decide)⟩
theorem mul_parts (x0 x1 y0 y1 : Int) : (x1 * 4294967296 + x0) * (y1 * 4294967296 + y0) = x1 * y1 * 18446744073709551616 + (x1 * y0 + x0 * y1) * 4294967296 + x0 * y0 := by
  grind
theorem mul64_hi (x0 x1 y0 y1 : Int) (hx0 : 0 ≤ x0) (hx0' : x0 ≤ 4294967295) (hx1 : 0 ≤ x1) (hx1' : x1 ≤ 4294967295) (hy0 : 0 ≤ y0) (hy0' : y0 ≤ 4294967295) (hy1 : 0 ≤ y1) (hy1' : y1 ≤ 4294967295) :
    x1 * y1 + (x1 * y0 + x0 * y0 / 4294967296) / 4294967296 + ((x1 * y0 + x0 * y0 / 4294967296) % 4294967296 + x0 * y1) / 4294967296 = (x1 * 4294967296 + x0) * (y1 * 4294967296 + y0) / 18446744073709551616 := by
  rw [mul_parts]
  have b1 := mul_bd x0 y0 hx0 hx0' hy0 hy0'
  have b2 := mul_bd x1 y0 hx1 hx1' hy0 hy0'
  have b3 := mul_bd x0 y1 hx0 hx0' hy1 hy1'
  have b4 := mul_bd x1 y1 hx1 hx1' hy1 hy1'
  generalize x0 * y0 = P at *
  generalize x1 * y0 = Q at *
  generalize x0 * y1 = R at *
  generalize x1 * y1 = T at *
  omega
end Go.Proofs.Ytmdgikikiijjbaa
