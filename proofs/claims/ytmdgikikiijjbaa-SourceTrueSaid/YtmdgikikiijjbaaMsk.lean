/- Numbers of which the lowest bits are taken. -/
import Derived.Test.YtmdgikikiijjbaaHeap
import Derived.Laws.BitsLemmas
namespace Go.Proofs.Ytmdgikikiijjbaa
open Go.RowKit

theorem mask_i (k : Nat) (m : Int) (hk : k ≤ 32) (hm : (BitVec.ofInt 64 m).toNat = 2 ^ k - 1) (n : Int) : bits .and .i64 n m = n % ((2 ^ k : Nat) : Int) := by
  have key : (BitVec.ofInt 64 n &&& BitVec.ofInt 64 m).toNat = (n % ((2 ^ 64 : Nat) : Int)).toNat % 2 ^ k := by
    rw [BitVec.toNat_and, BitVec.toNat_ofInt, hm, Nat.and_two_pow_sub_one_eq_mod]
  show IntKind.i64.wrap ((BitVec.ofInt 64 n &&& BitVec.ofInt 64 m).toNat : Nat) = n % ((2 ^ k : Nat) : Int)
  rw [key, IntKind.wrap_i64]
  have h2 : 2 ^ k ≤ 2 ^ 32 := Nat.pow_le_pow_right (by omega) hk
  have hd : (2 ^ k : Nat) ∣ 2 ^ 64 := Nat.pow_dvd_pow 2 (by omega)
  have h0 : 0 ≤ n % ((2 ^ 64 : Nat) : Int) := Int.emod_nonneg _ (by decide)
  have hp : 0 < 2 ^ k := Nat.pow_pos (by omega)
  have e : (((n % ((2 ^ 64 : Nat) : Int)).toNat % 2 ^ k : Nat) : Int) = n % ((2 ^ k : Nat) : Int) := by
    rw [Int.natCast_emod, Int.toNat_of_nonneg h0]
    exact Int.emod_emod_of_dvd n (Int.natCast_dvd_natCast.2 hd)
  rw [e]
  have h3 := Int.emod_nonneg n (show ((2 ^ k : Nat) : Int) ≠ 0 by omega)
  have h4 := Int.emod_lt_of_pos n (show (0 : Int) < ((2 ^ k : Nat) : Int) by omega)
  generalize 2 ^ k = p at *
  omega
theorem mask16 (n : Int) : bits .and .i64 n 65535 = n % 65536 := mask_i 16 65535 (by decide) (by decide) n
theorem mask10 (n : Int) : bits .and .i64 n 1023 = n % 1024 := mask_i 10 1023 (by decide) (by decide) n
theorem mask12 (n : Int) : bits .and .i64 n 4095 = n % 4096 := mask_i 12 4095 (by decide) (by decide) n
theorem mask3 (n : Int) : bits .and .i64 n 7 = n % 8 := mask_i 3 7 (by decide) (by decide) n
theorem mask2 (n : Int) : bits .and .i64 n 3 = n % 4 := mask_i 2 3 (by decide) (by decide) n
theorem mask5 (n : Int) : bits .and .i64 n 31 = n % 32 := mask_i 5 31 (by decide) (by decide) n
end Go.Proofs.Ytmdgikikiijjbaa
