/- Rdq, Tsb. -/
import Derived.Test.YtpfglmlpodjneaaGreatZ19
import Derived.Test.YtpfglmlpodjneaaGreatZ00
import Derived.Laws.BitsLemmas
set_option linter.unusedSimpArgs false
set_option linter.unusedVariables false
namespace Go.Proofs.YtpfglmlpodjneaaGreat
open Go.RowKit

theorem qread_any (W : World) (s : ByteArray) (hs0 : s.size ≤ 1000000) : Calls Tryz.prog 10 #[.string s] W (RdPost W (readV s)) := by
  cases hm : magicB s with
  | false => exact qread_a W s hs0 hm
  | true =>
    by_cases h22 : s.size < 22
    · exact qread_b W s hs0 hm h22
    · exact qread_c W s hs0 hm (by omega)
end Go.Proofs.YtpfglmlpodjneaaGreat
namespace Go.Proofs.YtpfglmlpodjneaaGreat
open Go.RowKit

theorem nat_and_pow (x k : Nat) : x &&& 2 ^ k = if x.testBit k then 2 ^ k else 0 := by
  apply Nat.eq_of_testBit_eq
  intro j
  rw [Nat.testBit_and, Nat.testBit_two_pow]
  by_cases h : k = j
  · subst h
    by_cases hx : x.testBit k = true
    · rw [if_pos hx, hx, Nat.testBit_two_pow]; simp
    · rw [if_neg hx]; simp at hx; simp [hx]
  · split
    · rw [Nat.testBit_two_pow]; simp [h]
    · simp [h]
def bitN (n : Int) (p : Int) : Bool := decide (n / p % 2 = 1)
theorem and_lit (k : Nat) (m : Int) (hk : k ≤ 32) (hm : (BitVec.ofInt 64 m).toNat = 2 ^ k) (hm2 : ((2 ^ k : Nat) : Int) = m) (n : Int) (he : n % 18446744073709551616 / m % 2 = n / m % 2) : bits .and .i64 n m = if bitN n m = true then m else 0 := by
  have h0 : 0 ≤ n % 18446744073709551616 := Int.emod_nonneg _ (by decide)
  have key : (BitVec.ofInt 64 n &&& BitVec.ofInt 64 m).toNat = if (n % 18446744073709551616).toNat.testBit k then 2 ^ k else 0 := by
    rw [BitVec.toNat_and, BitVec.toNat_ofInt, hm, nat_and_pow]; rfl
  show IntKind.i64.wrap ((BitVec.ofInt 64 n &&& BitVec.ofInt 64 m).toNat : Nat) = _
  have h2 : 2 ^ k ≤ 2 ^ 32 := Nat.pow_le_pow_right (by omega) hk
  have hd : (n % 18446744073709551616).toNat.testBit k = bitN n m := by
    unfold bitN
    rw [Nat.testBit_eq_decide_div_mod_eq, decide_eq_decide, ← he, ← hm2]
    have e1 : (((n % 18446744073709551616).toNat / 2 ^ k % 2 : Nat) : Int) = n % 18446744073709551616 / ((2 ^ k : Nat) : Int) % 2 := by
      rw [Int.natCast_emod, Int.natCast_ediv, Int.toNat_of_nonneg h0]; rfl
    omega
  rw [key, hd, IntKind.wrap_i64]
  cases bitN n m
  · simp
  · simp only [if_true]
    rw [hm2]
    have : m ≤ 4294967296 := by rw [← hm2]; have h3 : (2 : Nat) ^ 32 = 4294967296 := by decide
                                omega
    have h5 : 0 ≤ m := by rw [← hm2]; omega
    omega
theorem and_1 (n : Int) : bits .and .i64 n 1 = if bitN n 1 = true then 1 else 0 := and_lit 0 1 (by decide) (by decide) (by decide) n (by omega)
theorem and_2 (n : Int) : bits .and .i64 n 2 = if bitN n 2 = true then 2 else 0 := and_lit 1 2 (by decide) (by decide) (by decide) n (by omega)
theorem and_4 (n : Int) : bits .and .i64 n 4 = if bitN n 4 = true then 4 else 0 := and_lit 2 4 (by decide) (by decide) (by decide) n (by omega)
theorem and_8 (n : Int) : bits .and .i64 n 8 = if bitN n 8 = true then 8 else 0 := and_lit 3 8 (by decide) (by decide) (by decide) n (by omega)
theorem and_16 (n : Int) : bits .and .i64 n 16 = if bitN n 16 = true then 16 else 0 := and_lit 4 16 (by decide) (by decide) (by decide) n (by omega)
/-- What is wrong: of the rules (e), of the port. -/
def faultN (e port : Int) : Int := (if e = 0 then 0 else 1) + (if bitN port 1 = true then 2 else 0) + (if bitN port 2 = true then 4 else 0)
end Go.Proofs.YtpfglmlpodjneaaGreat
