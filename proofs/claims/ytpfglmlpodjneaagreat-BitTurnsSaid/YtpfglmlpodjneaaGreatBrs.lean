import Derived.Test.YtpfglmlpodjneaaGreatZ07
set_option linter.unusedSimpArgs false
set_option linter.unusedVariables false
namespace Go.Proofs.YtpfglmlpodjneaaGreat
open Go.RowKit

theorem st_shl (v : BitVec 32) (hv : v.toNat < 16777216) (k : Nat) (hk : k < 8) : st32 (v <<< (k + 1)) = v <<< k := by
  rw [st32_lsb]
  have h0 : (v <<< (k + 1)).getLsbD 0 = false := by simp
  rw [h0]
  simp only [Bool.false_eq_true, if_false]
  apply BitVec.eq_of_getLsbD_eq
  intro i hi
  rw [BitVec.getLsbD_ushiftRight, BitVec.getLsbD_shiftLeft, BitVec.getLsbD_shiftLeft]
  by_cases h31 : i = 31
  · subst h31
    have hz : v.getLsbD (31 - k) = false := by
      rw [BitVec.getLsbD]
      apply Nat.testBit_lt_two_pow
      exact Nat.lt_of_lt_of_le hv (Nat.le_trans (by decide : 16777216 ≤ 2 ^ 24) (Nat.pow_le_pow_right (by omega) (by omega)))
    rw [hz]
    simp
  · by_cases hik : i < k
    · simp [hik, show 1 + i < k + 1 by omega]
    · have e1 : decide (1 + i < 32) = true := by simp; omega
      have e2 : decide (i < 32) = true := by simp; omega
      have e3 : decide (1 + i < k + 1) = false := by simp; omega
      have e4 : decide (i < k) = false := by simp; omega
      rw [e1, e2, e3, e4, show 1 + i - (k + 1) = i - k by omega]
theorem stn_shl8 (v : BitVec 32) (hv : v.toNat < 16777216) : stn 8 (v <<< 8) = v := by
  have e : ∀ (x : BitVec 32), stn 8 x = st32 (st32 (st32 (st32 (st32 (st32 (st32 (st32 x))))))) := fun x => rfl
  rw [e, st_shl v hv 7 (by omega), st_shl v hv 6 (by omega), st_shl v hv 5 (by omega), st_shl v hv 4 (by omega), st_shl v hv 3 (by omega), st_shl v hv 2 (by omega), st_shl v hv 1 (by omega), st_shl v hv 0 (by omega)]
  simp
theorem shl8_nat (e : BitVec 32) (he : e.toNat < 16777216) : (e <<< 8).toNat = e.toNat * 256 := by
  rw [BitVec.toNat_shiftLeft, Nat.shiftLeft_eq, show 2 ^ 8 = 256 from rfl]
  exact Nat.mod_eq_of_lt (by omega)
theorem back8 {a e : BitVec 32} (he : e.toNat < 16777216) (h : stn 8 a = e) : a = e <<< 8 := by
  have h2 : stn 8 (a ^^^ (e <<< 8)) = 0#32 := by rw [stn_xor, h, stn_shl8 e he, BitVec.xor_self]
  have h3 := stn_inj 8 h2
  exact BitVec.xor_eq_zero_iff.1 h3
def bv8 (d : UInt8) : BitVec 32 := BitVec.ofNat 32 d.toNat
theorem bv8_nat (d : UInt8) : (bv8 d).toNat = d.toNat := by
  have := d.toNat_lt
  unfold bv8; rw [BitVec.toNat_ofNat]; exact Nat.mod_eq_of_lt (by omega)
theorem join8 (d : UInt8) (e : BitVec 32) (n : Nat) (he : e.toNat < 2 ^ n) (hn : n + 8 ≤ 24) (h8 : 8 ≤ n + 8) : (bv8 d ^^^ (e <<< 8)).toNat < 2 ^ (n + 8) := by
  have hd := d.toNat_lt
  have h24 : 2 ^ n ≤ 2 ^ 16 := Nat.pow_le_pow_right (by omega) (by omega)
  have h24' : (2 : Nat) ^ 16 = 65536 := by decide
  rw [BitVec.toNat_xor, bv8_nat, shl8_nat e (by omega)]
  refine Nat.xor_lt_two_pow ?_ ?_
  · have : 2 ^ 8 ≤ 2 ^ (n + 8) := Nat.pow_le_pow_right (by omega) h8
    have h256 : (2 : Nat) ^ 8 = 256 := by decide
    omega
  · rw [Nat.pow_add, show 2 ^ 8 = 256 from rfl]; omega
theorem byte_shl {d : UInt8} {e : BitVec 32} (he : e.toNat < 16777216) (h : bv8 d = e <<< 8) : d = 0 ∧ e = 0#32 := by
  have h1 := congrArg BitVec.toNat h
  rw [bv8_nat, shl8_nat e he] at h1
  have hd := d.toNat_lt
  have e0 : e.toNat = 0 := by omega
  refine ⟨UInt8.toNat_inj.1 (by rw [h1, e0]; rfl), BitVec.eq_of_toNat_eq (by rw [e0]; rfl)⟩
theorem four_zero (d0 d1 d2 d3 : UInt8) (h : c32L [d0, d1, d2, d3] 0#32 = 0#32) : d0 = 0 ∧ d1 = 0 ∧ d2 = 0 ∧ d3 = 0 := by
  have h : stn 8 (stn 8 (stn 8 (stn 8 (0#32 ^^^ bv8 d0) ^^^ bv8 d1) ^^^ bv8 d2) ^^^ bv8 d3) = 0#32 := h
  have h3 := stn_inj 8 h
  have h3 := BitVec.xor_eq_zero_iff.1 h3
  have l3 := d3.toNat_lt; have l2 := d2.toNat_lt; have l1 := d1.toNat_lt
  have b3 : (bv8 d3).toNat < 2 ^ 8 := by rw [bv8_nat]; exact l3
  have h2 := back8 (by have : (2 : Nat) ^ 8 = 256 := by decide
                       omega) h3
  have h2 : stn 8 (stn 8 (0#32 ^^^ bv8 d0) ^^^ bv8 d1) = bv8 d2 ^^^ (bv8 d3 <<< 8) := by
    rw [BitVec.xor_comm (bv8 d2), ← h2, BitVec.xor_assoc, BitVec.xor_self, BitVec.xor_zero]
  have b2 := join8 d2 (bv8 d3) 8 b3 (by omega) (by omega)
  generalize hE2 : bv8 d2 ^^^ (bv8 d3 <<< 8) = E2 at *
  have h1 := back8 (by have : (2 : Nat) ^ (8 + 8) = 65536 := by decide
                       omega) h2
  have h1 : stn 8 (0#32 ^^^ bv8 d0) = bv8 d1 ^^^ (E2 <<< 8) := by
    rw [BitVec.xor_comm (bv8 d1), ← h1, BitVec.xor_assoc, BitVec.xor_self, BitVec.xor_zero]
  have b1 := join8 d1 E2 16 b2 (by omega) (by omega)
  generalize hE1 : bv8 d1 ^^^ (E2 <<< 8) = E1 at *
  have c1 : E1.toNat < 16777216 := by have : (2 : Nat) ^ (16 + 8) = 16777216 := by decide
                                      omega
  have h0 := back8 c1 h1
  rw [BitVec.zero_xor] at h0
  obtain ⟨r0, r1⟩ := byte_shl c1 h0
  rw [r1] at hE1
  have c2 : E2.toNat < 16777216 := by have : (2 : Nat) ^ (8 + 8) = 65536 := by decide
                                      omega
  obtain ⟨r2, r3⟩ := byte_shl c2 (BitVec.xor_eq_zero_iff.1 hE1)
  rw [r3] at hE2
  have c3 : (bv8 d3).toNat < 16777216 := by rw [bv8_nat]; omega
  obtain ⟨r4, r5⟩ := byte_shl c3 (BitVec.xor_eq_zero_iff.1 hE2)
  have r6 : d3 = 0 := by
    have := congrArg BitVec.toNat r5
    rw [bv8_nat] at this
    exact UInt8.toNat_inj.1 this
  exact ⟨r0, r2, r4, r6⟩
theorem c32_four (l r : List UInt8) (a0 a1 a2 a3 b0 b1 b2 b3 : UInt8) (x : BitVec 32) (h : c32L (l ++ (a0 :: a1 :: a2 :: a3 :: r)) x = c32L (l ++ (b0 :: b1 :: b2 :: b3 :: r)) x) : a0 = b0 ∧ a1 = b1 ∧ a2 = b2 ∧ a3 = b3 := by
  have h1 : c32L (l ++ (a0 :: a1 :: a2 :: a3 :: r)) x ^^^ c32L (l ++ (b0 :: b1 :: b2 :: b3 :: r)) x = 0#32 := by rw [h, BitVec.xor_self]
  rw [c32L_app, c32L_app] at h1
  have h2 := c32L_xor (a0 :: a1 :: a2 :: a3 :: r) (b0 :: b1 :: b2 :: b3 :: r) (c32L l x) (c32L l x) (by simp)
  rw [h1, BitVec.xor_self] at h2
  have hz : List.zipWith (fun x y : UInt8 => x ^^^ y) r r = List.replicate r.length 0 := by
    apply List.ext_getElem <;> simp
  have h3 : c32L ([a0 ^^^ b0, a1 ^^^ b1, a2 ^^^ b2, a3 ^^^ b3] ++ List.replicate r.length 0) 0#32 = 0#32 := by
    rw [← hz]; exact h2.symm
  rw [c32L_app] at h3
  obtain ⟨q0, q1, q2, q3⟩ := four_zero _ _ _ _ (c32L_inj _ _ (fun b hb => (List.mem_replicate.1 hb).2) h3)
  have key : ∀ {a b : UInt8}, a ^^^ b = 0 → a = b := by
    intro a b hh
    have := congrArg (fun y => y ^^^ b) hh
    simpa [UInt8.xor_assoc] using this
  exact ⟨key q0, key q1, key q2, key q3⟩
end Go.Proofs.YtpfglmlpodjneaaGreat
