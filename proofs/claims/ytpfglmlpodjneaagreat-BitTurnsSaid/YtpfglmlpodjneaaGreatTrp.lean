import Derived.Test.YtpfglmlpodjneaaGreatBrs
import Derived.Test.YtpfglmlpodjneaaGreatZ14
set_option linter.unusedSimpArgs false
set_option linter.unusedVariables false
namespace Go.Proofs.YtpfglmlpodjneaaGreat
open Go.RowKit

def x8 (a b : Int) : Int := bits .xor .u8 a b
theorem x8_nat (a b : Int) : x8 a b = (((BitVec.ofInt 8 a) ^^^ (BitVec.ofInt 8 b)).toNat : Int) := by
  show IntKind.u8.wrap ((BitVec.ofInt 8 a ^^^ BitVec.ofInt 8 b).toNat : Nat) = _
  have := (BitVec.ofInt 8 a ^^^ BitVec.ofInt 8 b).isLt
  rw [conv8]
  exact Int.emod_eq_of_lt (by omega) (by omega)
theorem x8_bd (a b : Int) : 0 ≤ x8 a b ∧ x8 a b ≤ 255 := by
  rw [x8_nat]
  have := (BitVec.ofInt 8 a ^^^ BitVec.ofInt 8 b).isLt
  omega
theorem bv8_int (n : Nat) (_h : n < 256) : (BitVec.ofInt 8 (n : Int)) = BitVec.ofNat 8 n := by
  apply BitVec.eq_of_toNat_eq
  simp only [BitVec.toNat_ofInt, BitVec.toNat_ofNat]
  omega
theorem x8_zero (a : Int) (h0 : 0 ≤ a) (h1 : a ≤ 255) : x8 a 0 = a := by
  obtain ⟨n, rfl⟩ := Int.eq_ofNat_of_zero_le h0
  rw [x8_nat]
  rw [show BitVec.ofInt 8 0 = 0#8 from rfl, BitVec.xor_zero]
  show ((BitVec.ofInt 8 (n : Int)).toNat : Int) = (n : Int)
  rw [bv8_int n (by omega), BitVec.toNat_ofNat, Nat.mod_eq_of_lt (by omega)]
theorem join_p : ∀ a : Fin 128, ∀ r : Fin 8, a.val < 2 ^ r.val → BitVec.ofNat 8 a.val ^^^ BitVec.ofNat 8 (2 ^ r.val) = BitVec.ofNat 8 (a.val + 2 ^ r.val) := by decide
theorem x8_join (x : Int) (a r : Nat) (hr : r < 8) (ha : a < 2 ^ r) : x8 (x8 x a) ((2 ^ r : Nat) : Int) = x8 x ((a + 2 ^ r : Nat) : Int) := by
  have h7 : 2 ^ r ≤ 2 ^ 7 := Nat.pow_le_pow_right (by omega) (by omega)
  have h7' : (2 : Nat) ^ 7 = 128 := by decide
  have hj := join_p ⟨a, by omega⟩ ⟨r, hr⟩ ha
  have e1 := x8_nat x a
  have hb := (BitVec.ofInt 8 x ^^^ BitVec.ofInt 8 (a : Int)).isLt
  rw [x8_nat (x8 x a), x8_nat x ((a + 2 ^ r : Nat) : Int), e1]
  rw [bv8_int _ (by omega), bv8_int (2 ^ r) (by omega), bv8_int (a + 2 ^ r) (by omega), BitVec.ofNat_toNat, BitVec.setWidth_eq, ← hj, bv8_int a (by omega), BitVec.xor_assoc]
def flipL (L : List Int) (q D : Nat) : List Int := L.mapIdx fun j x => if q ≤ j ∧ j < q + 4 then x8 x ((D / 256 ^ (j - q) % 256 : Nat) : Int) else x
theorem flipL_len (L : List Int) (q D : Nat) : (flipL L q D).length = L.length := by unfold flipL; simp
theorem flipL_get (L : List Int) (q D j : Nat) (x : Int) (h : L[j]? = some x) : (flipL L q D)[j]? = some (if q ≤ j ∧ j < q + 4 then x8 x ((D / 256 ^ (j - q) % 256 : Nat) : Int) else x) := by
  unfold flipL; rw [List.getElem?_mapIdx, h]; rfl
theorem flipL_byte {L : List Int} (h : byteL L) (q D : Nat) : byteL (flipL L q D) := by
  intro y hy
  obtain ⟨j, hj⟩ := List.getElem?_of_mem hy
  have hl : j < L.length := by rw [← flipL_len L q D]; exact (List.getElem?_eq_some_iff.1 hj).1
  have hx : L[j]? = some L[j] := List.getElem?_eq_getElem hl
  rw [flipL_get L q D j _ hx] at hj
  obtain rfl := Option.some.inj hj
  split
  · exact x8_bd _ _
  · exact h _ (List.getElem_mem hl)
theorem flipL_zero {L : List Int} (h : byteL L) (q : Nat) : flipL L q 0 = L := by
  apply List.ext_getElem?
  intro j
  by_cases hl : j < L.length
  · have hx : L[j]? = some L[j] := List.getElem?_eq_getElem hl
    rw [flipL_get L q 0 j _ hx, hx]
    have hb := h _ (List.getElem_mem hl)
    split
    · rw [Nat.zero_div]
      exact congrArg some (x8_zero _ hb.1 hb.2)
    · rfl
  · rw [List.getElem?_eq_none (by rw [flipL_len]; omega), List.getElem?_eq_none (by omega)]
theorem pow256 (m : Nat) : 256 ^ m = 2 ^ (8 * m) := by rw [show 256 = 2 ^ 8 from rfl, ← Nat.pow_mul]
/-- One more bit: its own byte. -/
theorem bit_own (D i : Nat) (h : D < 2 ^ i) : D / 256 ^ (i / 8) % 256 < 2 ^ (i % 8) ∧ (D + 2 ^ i) / 256 ^ (i / 8) % 256 = D / 256 ^ (i / 8) % 256 + 2 ^ (i % 8) := by
  have hi : 2 ^ i = 2 ^ (i % 8) * 256 ^ (i / 8) := by rw [pow256, ← Nat.pow_add]; congr 1; omega
  have hp : 0 < 256 ^ (i / 8) := Nat.pow_pos (by omega)
  have h7 : 2 ^ (i % 8) ≤ 2 ^ 7 := Nat.pow_le_pow_right (by omega) (by omega)
  have h7' : (2 : Nat) ^ 7 = 128 := by decide
  rw [hi] at h ⊢
  generalize 256 ^ (i / 8) = p at *
  generalize 2 ^ (i % 8) = u at *
  have hd : D / p < u := Nat.div_lt_of_lt_mul (by rw [Nat.mul_comm]; exact h)
  have ha : (D + u * p) / p = D / p + u := Nat.add_mul_div_right _ _ hp
  rw [ha]
  generalize D / p = d at *
  have e1 : d % 256 = d := Nat.mod_eq_of_lt (by omega)
  have e2 : (d + u) % 256 = d + u := Nat.mod_eq_of_lt (by omega)
  rw [e1, e2]
  exact ⟨hd, rfl⟩
/-- .. and the others. -/
theorem bit_other (D i m : Nat) (h : D < 2 ^ i) (hm : m ≠ i / 8) : (D + 2 ^ i) / 256 ^ m % 256 = D / 256 ^ m % 256 := by
  have hp : 0 < 256 ^ m := Nat.pow_pos (by omega)
  rcases Nat.lt_or_gt_of_ne hm with hlt | hgt
  · have hi : 2 ^ i = (2 ^ (i - 8 * (m + 1)) * 256) * 256 ^ m := by
      rw [pow256, show 256 = 2 ^ 8 from rfl, ← Nat.pow_add, ← Nat.pow_add]; congr 1; omega
    rw [hi, Nat.add_mul_div_right _ _ hp, Nat.add_mul_mod_self_right]
  · have hle : 2 * 2 ^ i ≤ 256 ^ m := by
      rw [pow256, ← Nat.pow_succ']; exact Nat.pow_le_pow_right (by omega) (by omega)
    rw [Nat.div_eq_of_lt (by omega), Nat.div_eq_of_lt (by omega)]
theorem flip_step {L : List Int} (q D i : Nat) (hi : i < 32) (h : D < 2 ^ i) (v : Int) (hv : (flipL L q D)[q + i / 8]? = some v) : (flipL L q D).set (q + i / 8) (x8 v ((2 ^ (i % 8) : Nat) : Int)) = flipL L q (D + 2 ^ i) := by
  apply List.ext_getElem?
  intro j
  obtain ⟨o1, o2⟩ := bit_own D i h
  by_cases hl : j < L.length
  · have hx : L[j]? = some L[j] := List.getElem?_eq_getElem hl
    rw [flipL_get L q (D + 2 ^ i) j _ hx, List.getElem?_set]
    by_cases hj : q + i / 8 = j
    · rw [if_pos hj, if_pos (by rw [flipL_len]; omega)]
      rw [hj, flipL_get L q D j _ hx] at hv
      have hc : q ≤ j ∧ j < q + 4 := by omega
      rw [if_pos hc] at hv ⊢
      obtain rfl := Option.some.inj hv
      rw [show j - q = i / 8 by omega, o2]
      exact congrArg some (x8_join _ _ _ (by omega) o1)
    · rw [if_neg hj, flipL_get L q D j _ hx]
      by_cases hc : q ≤ j ∧ j < q + 4
      · rw [if_pos hc, if_pos hc, bit_other D i (j - q) h (by omega)]
      · rw [if_neg hc, if_neg hc]
  · rw [List.getElem?_eq_none (by rw [List.length_set, flipL_len]; omega), List.getElem?_eq_none (by rw [flipL_len]; omega)]
theorem mod_step (t i : Nat) : t % 2 ^ (i + 1) = t % 2 ^ i + (if t / 2 ^ i % 2 = 1 then 2 ^ i else 0) := by
  rw [Nat.pow_succ, Nat.mod_mul]
  have := Nat.mod_two_eq_zero_or_one (t / 2 ^ i)
  rcases this with h | h <;> rw [h] <;> simp
end Go.Proofs.YtpfglmlpodjneaaGreat
