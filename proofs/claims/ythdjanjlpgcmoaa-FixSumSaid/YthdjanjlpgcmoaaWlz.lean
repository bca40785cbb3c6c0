/- bits.Len64, bits.LeadingZeros64. -/
import Derived.Test.YthdjanjlpgcmoaaWsq
import Derived.Lib.Strings
import Derived.Lib.Slices
import Derived.Lib.Small
import Derived.Lib.Walk
import Derived.Lib.BitFns
import Derived.Lib.ItoaNum
namespace Go.Proofs.Ythdjanjlpgcmoaa
open Go.RowKit

theorem len8_at (y : Int) (h : y.toNat < Lib.len8tab.size) : ((Lib.len8tab[y.toNat]'h).toNat : Int) = Lib.len8 y := by
  unfold Lib.len8
  rw [getElem?_pos Lib.len8tab y.toNat h]
  rfl
theorem lz_fin (x y k : Int) (h : y.toNat < Lib.len8tab.size) (h0 : 0 ≤ y) (h1 : y < 256) (hk : 0 ≤ k) (hk1 : k ≤ 56) (hx : (Lib.bitLen x.toNat : Int) = k + Lib.bitLen y.toNat) :
    wrap64 (k + wrap64 ((Lib.len8tab[y.toNat]'h).toNat : Int)) = Lib.bitLen x.toNat := by
  rw [len8_at, Lib.len8_of y h0 (by omega)]
  have l := Lib.bitLen_le8' y h0 (by omega)
  rw [hx]
  unfold wrap64
  omega
theorem lz_fin0 (x : Int) (h : x.toNat < Lib.len8tab.size) (h0 : 0 ≤ x) (h1 : x < 256) : wrap64 (wrap64 ((Lib.len8tab[x.toNat]'h).toNat : Int)) = Lib.bitLen x.toNat := by
  have e := lz_fin x x 0 h h0 h1 (by omega) (by omega) (by omega)
  rw [Int.zero_add] at e
  exact e
theorem lz_sh56 (x : Int) (h : 72057594037927936 ≤ x) (h1 : x ≤ 18446744073709551615) : (Lib.bitLen x.toNat : Int) = 56 + Lib.bitLen (x / 4294967296 / 65536 / 256).toNat := by
  have s := Lib.bitLen_shift56 x.toNat (by omega) (by omega)
  have e : (x / 4294967296 / 65536 / 256).toNat = x.toNat / 72057594037927936 := by omega
  rw [e, s]
  omega
theorem lz_sh48 (x : Int) (h : 281474976710656 ≤ x) (h1 : x ≤ 18446744073709551615) : (Lib.bitLen x.toNat : Int) = 48 + Lib.bitLen (x / 4294967296 / 65536).toNat := by
  have s := Lib.bitLen_shift48 x.toNat (by omega) (by omega)
  have e : (x / 4294967296 / 65536).toNat = x.toNat / 281474976710656 := by omega
  rw [e, s]
  omega
theorem lz_sh40 (x : Int) (h : 1099511627776 ≤ x) (h1 : x ≤ 18446744073709551615) : (Lib.bitLen x.toNat : Int) = 40 + Lib.bitLen (x / 4294967296 / 256).toNat := by
  have s := Lib.bitLen_shift40 x.toNat (by omega) (by omega)
  have e : (x / 4294967296 / 256).toNat = x.toNat / 1099511627776 := by omega
  rw [e, s]
  omega
theorem lz_sh32 (x : Int) (h : 4294967296 ≤ x) (h1 : x ≤ 18446744073709551615) : (Lib.bitLen x.toNat : Int) = 32 + Lib.bitLen (x / 4294967296).toNat := by
  have s := Lib.bitLen_shift32 x.toNat (by omega) (by omega)
  have e : (x / 4294967296).toNat = x.toNat / 4294967296 := by omega
  rw [e, s]
  omega
theorem lz_sh24 (x : Int) (h : 16777216 ≤ x) (h1 : x ≤ 18446744073709551615) : (Lib.bitLen x.toNat : Int) = 24 + Lib.bitLen (x / 65536 / 256).toNat := by
  have s := Lib.bitLen_shift24 x.toNat (by omega) (by omega)
  have e : (x / 65536 / 256).toNat = x.toNat / 16777216 := by omega
  rw [e, s]
  omega
theorem lz_sh16 (x : Int) (h : 65536 ≤ x) (h1 : x ≤ 18446744073709551615) : (Lib.bitLen x.toNat : Int) = 16 + Lib.bitLen (x / 65536).toNat := by
  have s := Lib.bitLen_shift16 x.toNat (by omega) (by omega)
  have e : (x / 65536).toNat = x.toNat / 65536 := by omega
  rw [e, s]
  omega
theorem lz_sh8 (x : Int) (h : 256 ≤ x) (h1 : x ≤ 18446744073709551615) : (Lib.bitLen x.toNat : Int) = 8 + Lib.bitLen (x / 256).toNat := by
  have s := Lib.bitLen_shift8 x.toNat (by omega) (by omega)
  have e : (x / 256).toNat = x.toNat / 256 := by omega
  rw [e, s]
  omega
set_option maxHeartbeats 4000000 in
set_option maxRecDepth 100000 in
theorem len64_any (w : World) (x : Int) (h0 : 0 ≤ x) (h1 : x ≤ 18446744073709551615) : Calls Try.prog 61 #[.int .u64 x] w fun e w' => e = .returned (.int .i64 (Lib.bitLen x.toNat)) ∧ w = w' := by
  have hsz : Lib.len8tab.size = 256 := by decide
  go_enter Try.func61, Try.ntmps61
  go_wp2
  all_goals go_returns
  · exact ⟨ret_int (lz_fin x (x / 4294967296 / 65536 / 256) 56 _ (by omega) (by omega) (by omega) (by omega) (lz_sh56 x (by omega) h1)), rfl⟩
  · exact ⟨ret_int (lz_fin x (x / 4294967296 / 65536) 48 _ (by omega) (by omega) (by omega) (by omega) (lz_sh48 x (by omega) h1)), rfl⟩
  · exact ⟨ret_int (lz_fin x (x / 4294967296 / 256) 40 _ (by omega) (by omega) (by omega) (by omega) (lz_sh40 x (by omega) h1)), rfl⟩
  · exact ⟨ret_int (lz_fin x (x / 4294967296) 32 _ (by omega) (by omega) (by omega) (by omega) (lz_sh32 x (by omega) h1)), rfl⟩
  · exact ⟨ret_int (lz_fin x (x / 65536 / 256) 24 _ (by omega) (by omega) (by omega) (by omega) (lz_sh24 x (by omega) h1)), rfl⟩
  · exact ⟨ret_int (lz_fin x (x / 65536) 16 _ (by omega) (by omega) (by omega) (by omega) (lz_sh16 x (by omega) h1)), rfl⟩
  · exact ⟨ret_int (lz_fin x (x / 256) 8 _ (by omega) (by omega) (by omega) (by omega) (lz_sh8 x (by omega) h1)), rfl⟩
  · exact ⟨ret_int (lz_fin0 x _ (by omega) (by omega)), rfl⟩
theorem bitLen_bd (x : Nat) (h0 : x ≠ 0) (h1 : x < 18446744073709551616) : 1 ≤ Lib.bitLen x ∧ Lib.bitLen x ≤ 64 ∧ 2 ^ (Lib.bitLen x - 1) ≤ x ∧ x < 2 ^ Lib.bitLen x := by
  obtain ⟨a, b, c⟩ := Lib.bitLenAux_bounds 64 x h1 h0
  exact ⟨a, Lib.bitLenAux_le 64 x 64 h1, b, c⟩
theorem lead64_any (w : World) (x : Int) (h0 : 0 < x) (h1 : x ≤ 18446744073709551615) : Calls Try.prog 59 #[.int .u64 x] w fun e w' => (∃ s : Nat, e = .returned (.int .i64 s) ∧ s ≤ 63 ∧ (2 : Int) ^ 63 ≤ x * 2 ^ s ∧ x * 2 ^ s < 2 ^ 64) ∧ w = w' := by
  have HL := fun w => len64_any w x (by omega) h1
  obtain ⟨b1, b2, b3, b4⟩ := bitLen_bd x.toNat (by omega) (by omega)
  generalize Lib.bitLen x.toNat = n at *
  have Hf := Lib.hid (show ∃ s : Nat, (64 : Int) - n = s ∧ s ≤ 63 ∧ (2 : Int) ^ 63 ≤ x * 2 ^ s ∧ x * 2 ^ s < 2 ^ 64 from by
    obtain ⟨m, rfl⟩ : ∃ m : Nat, x = (m : Int) := ⟨x.toNat, by omega⟩
    refine ⟨64 - n, by omega, by omega, ?_, ?_⟩
    · have e : 2 ^ (n - 1) * 2 ^ (64 - n) = 2 ^ 63 := by rw [← Nat.pow_add]; congr 1; omega
      have := Nat.mul_le_mul_right (2 ^ (64 - n)) b3
      rw [e] at this
      exact_mod_cast this
    · have e : 2 ^ n * 2 ^ (64 - n) = 2 ^ 64 := by rw [← Nat.pow_add]; congr 1; omega
      have := Nat.mul_lt_mul_of_pos_right b4 (Nat.pow_pos (by omega) : 0 < 2 ^ (64 - n))
      rw [e] at this
      exact_mod_cast this)
  clear b3 b4 h0 h1
  go_enter Try.func59, Try.ntmps59
  go_wp2_with fail
  refine (HL _).mono ?_; rintro e w' ⟨rfl, rfl⟩
  go_wp2_with fail
  go_returns
  obtain ⟨s, e, h⟩ := Hf.out
  refine ⟨⟨s, ret_int ?_, h⟩, rfl⟩
  first | exact e | (rw [← e]; unfold wrap64; omega)
end Go.Proofs.Ythdjanjlpgcmoaa
