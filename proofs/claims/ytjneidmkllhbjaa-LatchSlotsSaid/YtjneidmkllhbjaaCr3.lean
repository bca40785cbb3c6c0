/- The sum of 32 bits tells apart what differs within four bytes. -/
import Derived.Test.YtjneidmkllhbjaaCr2
namespace Go.Proofs.Ytjneidmkllhbjaa
open Go.RowKit

theorem ge_top {n k : Nat} {x : BitVec n} (h : x.getLsbD k = true) : x ≠ 0#n := by
  rintro rfl; simp at h
theorem st32_lsb (x : BitVec 32) : st32 x = if x.getLsbD 0 then (x >>> 1) ^^^ 3988292384#32 else x >>> 1 := by
  unfold st32
  have : x.getLsbD 0 = decide (x.toNat % 2 = 1) := by
    rw [BitVec.getLsbD, Nat.testBit_zero]
  rw [this]
  simp
theorem st32_xor (a b : BitVec 32) : st32 (a ^^^ b) = st32 a ^^^ st32 b := by
  rw [st32_lsb, st32_lsb, st32_lsb, BitVec.getLsbD_xor, BitVec.ushiftRight_xor_distrib]
  cases a.getLsbD 0 <;> cases b.getLsbD 0
  · simp
  · simp [BitVec.xor_assoc]
  · simp only [Bool.xor_false, if_true, Bool.false_eq_true, if_false]
    rw [BitVec.xor_assoc, BitVec.xor_assoc, BitVec.xor_comm (b >>> 1)]
  · simp only [Bool.false_eq_true, if_false, if_true, Bool.xor_self]
    rw [BitVec.xor_assoc (a >>> 1), BitVec.xor_comm (3988292384#32), BitVec.xor_assoc (b >>> 1), BitVec.xor_self, BitVec.xor_zero]
theorem st32_zero : st32 0#32 = 0#32 := rfl
theorem st32_inj {x : BitVec 32} (h : st32 x = 0#32) : x = 0#32 := by
  rw [st32_lsb] at h
  cases hb : x.getLsbD 0 with
  | true =>
    exfalso
    rw [hb, if_pos rfl] at h
    have h31 := congrArg (fun y : BitVec 32 => y.getLsbD 31) h
    simp at h31
  | false =>
    rw [hb] at h
    simp only [Bool.false_eq_true, if_false] at h
    apply BitVec.eq_of_getLsbD_eq
    intro i hi
    cases i with
    | zero => rw [hb]; simp
    | succ i =>
      have := congrArg (fun y : BitVec 32 => y.getLsbD i) h
      simp only [BitVec.getLsbD_ushiftRight] at this
      rw [Nat.add_comm] at this
      rw [this]; simp
theorem stn_xor : ∀ n (a b : BitVec 32), stn n (a ^^^ b) = stn n a ^^^ stn n b
  | 0, _, _ => rfl
  | n + 1, a, b => by show stn n (st32 (a ^^^ b)) = _; rw [st32_xor]; exact stn_xor n _ _
theorem stn_zero : ∀ n, stn n 0#32 = 0#32
  | 0 => rfl
  | n + 1 => by show stn n (st32 0#32) = _; rw [st32_zero]; exact stn_zero n
theorem stn_inj : ∀ n {x : BitVec 32}, stn n x = 0#32 → x = 0#32
  | 0, _, h => h
  | n + 1, x, h => st32_inj (stn_inj n (x := st32 x) h)
/-- The sums of two rows of bytes as far as they differ. -/
theorem c32L_xor : ∀ (l m : List UInt8) (x y : BitVec 32), l.length = m.length → c32L l x ^^^ c32L m y = c32L (List.zipWith (· ^^^ ·) l m) (x ^^^ y)
  | [], [], _, _, _ => rfl
  | a :: l, b :: m, x, y, h => by
    show c32L l _ ^^^ c32L m _ = c32L (List.zipWith _ l m) _
    rw [c32L_xor l m _ _ (by simpa using h), ← stn_xor]
    congr 2
    have e : BitVec.ofNat 32 (a ^^^ b).toNat = BitVec.ofNat 32 a.toNat ^^^ BitVec.ofNat 32 b.toNat := by
      rw [UInt8.toNat_xor]
      apply BitVec.eq_of_toNat_eq
      have h1 := a.toNat_lt; have h2 := b.toNat_lt
      rw [BitVec.toNat_xor, BitVec.toNat_ofNat, BitVec.toNat_ofNat, BitVec.toNat_ofNat, Nat.mod_eq_of_lt (a := a.toNat) (by omega), Nat.mod_eq_of_lt (a := b.toNat) (by omega)]
      exact Nat.mod_eq_of_lt (Nat.lt_of_lt_of_le (Nat.xor_lt_two_pow (n := 8) h1 h2) (by decide))
    rw [e, BitVec.xor_assoc, BitVec.xor_assoc, ← BitVec.xor_assoc (BitVec.ofNat 32 a.toNat), BitVec.xor_comm (BitVec.ofNat 32 a.toNat) y, BitVec.xor_assoc y]
theorem c32L_inj : ∀ (l : List UInt8) (x : BitVec 32), (∀ b ∈ l, b = 0) → c32L l x = 0#32 → x = 0#32
  | [], _, _, h => h
  | b :: l, x, hl, h => by
    have hb : b = 0 := hl b (by simp)
    subst hb
    have h2 := c32L_inj l _ (fun b hb => hl b (by simp [hb])) h
    have h3 := stn_inj 8 h2
    simpa using h3
theorem c32L_app (l m : List UInt8) : ∀ x, c32L (l ++ m) x = c32L m (c32L l x) := by
  induction l with
  | nil => intro x; rfl
  | cons b l ih => intro x; exact ih _
theorem c32L_zeros : ∀ l : List UInt8, (∀ b ∈ l, b = 0) → c32L l 0#32 = 0#32
  | [], _ => rfl
  | b :: l, h => by
    have hb : b = 0 := h b (by simp)
    subst hb
    show c32L l (stn 8 (0#32 ^^^ 0#32)) = _
    have e : stn 8 (0#32 ^^^ 0#32) = 0#32 := by decide
    rw [e]
    exact c32L_zeros l (fun b hb => h b (by simp [hb]))
/-- Two rows of bytes that differ in one byte alone have different sums. -/
theorem c32_one (l r : List UInt8) (a b : UInt8) (x : BitVec 32) (hab : a ≠ b) : c32L (l ++ a :: r) x ≠ c32L (l ++ b :: r) x := by
  intro h
  have h1 : c32L (l ++ a :: r) x ^^^ c32L (l ++ b :: r) x = 0#32 := by rw [h, BitVec.xor_self]
  rw [c32L_app, c32L_app] at h1
  have h2 := c32L_xor (a :: r) (b :: r) (c32L l x) (c32L l x) rfl
  rw [h1, BitVec.xor_self] at h2
  have hz : List.zipWith (fun x y : UInt8 => x ^^^ y) r r = List.replicate r.length 0 := by
    apply List.ext_getElem <;> simp
  have h3 : c32L (List.replicate r.length 0) (stn 8 (0#32 ^^^ BitVec.ofNat 32 (a ^^^ b).toNat)) = 0#32 := by
    rw [← hz]; exact h2.symm
  have h4 := stn_inj 8 (c32L_inj _ _ (fun b hb => (List.mem_replicate.1 hb).2) h3)
  rw [BitVec.zero_xor] at h4
  have h5 := congrArg BitVec.toNat h4
  have h6 := (a ^^^ b).toNat_lt
  rw [BitVec.toNat_ofNat, Nat.mod_eq_of_lt (by omega)] at h5
  have h7 : a ^^^ b = 0 := UInt8.toNat_inj.1 (by simpa using h5)
  exact hab (by simpa using h7)
end Go.Proofs.Ytjneidmkllhbjaa
