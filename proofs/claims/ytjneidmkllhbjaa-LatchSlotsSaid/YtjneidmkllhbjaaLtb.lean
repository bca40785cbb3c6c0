/- A record's bytes with one byte changed are none's. -/
import Derived.Test.YtjneidmkllhbjaaLtp
namespace Go.Proofs.Ytjneidmkllhbjaa
open Go.RowKit

theorem by_list (a : ByteArray) (k : Nat) (h : k < a.size) : (((a.data.toList[k]'(by simpa using h)).toNat : Nat) : Int) = by_ a k := by
  unfold by_
  rw [List.getD_eq_getElem?_getD, List.getElem?_eq_getElem (by simpa using h)]
  rfl
theorem list_same (a b : ByteArray) (k : Nat) (ha : k < a.size) (hb : k < b.size) (h : by_ a k = by_ b k) : a.data.toList[k]'(by simpa using ha) = b.data.toList[k]'(by simpa using hb) := by
  rw [← by_list a k ha, ← by_list b k hb] at h
  exact UInt8.toNat_inj.1 (by omega)
theorem sum32_one (a b : ByteArray) (hz : a.size = b.size) (j : Nat) (hj : j < a.size) (hne : by_ a j ≠ by_ b j) (hs : ∀ k, k < a.size → k ≠ j → by_ a k = by_ b k) : sum32 a ≠ sum32 b := by
  have hla : j < a.data.toList.length := by simpa using hj
  have hlb : j < b.data.toList.length := by simpa using (hz ▸ hj)
  have ea : a.data.toList = a.data.toList.take j ++ a.data.toList[j] :: a.data.toList.drop (j + 1) := by
    rw [← List.drop_eq_getElem_cons hla, List.take_append_drop]
  have eb : b.data.toList = b.data.toList.take j ++ b.data.toList[j] :: b.data.toList.drop (j + 1) := by
    rw [← List.drop_eq_getElem_cons hlb, List.take_append_drop]
  have ht : a.data.toList.take j = b.data.toList.take j := by
    apply List.ext_getElem
    · simp; omega
    · intro k h1 h2
      rw [List.getElem_take, List.getElem_take]
      have hk : k < j := by simp at h1; omega
      exact list_same a b k (by omega) (by omega) (hs k (by omega) (by omega))
  have hd : a.data.toList.drop (j + 1) = b.data.toList.drop (j + 1) := by
    apply List.ext_getElem
    · simp; omega
    · intro k h1 h2
      rw [List.getElem_drop, List.getElem_drop]
      have hk : j + 1 + k < a.size := by simp at h1; omega
      exact list_same a b (j + 1 + k) hk (by omega) (hs _ hk (by omega))
  have hx : a.data.toList[j] ≠ b.data.toList[j] := fun e => hne (by rw [← by_list a j hj, ← by_list b j (by omega), e])
  intro h
  unfold sum32 at h
  have h2 : c32L a.data.toList 4294967295#32 = c32L b.data.toList 4294967295#32 := by
    have := congrArg (fun x => x ^^^ 4294967295#32) h
    simpa [BitVec.xor_assoc] using this
  rw [ea, eb, ht, hd] at h2
  exact c32_one _ _ _ _ _ hx h2
theorem num4_one (a b : ByteArray) (k j : Nat) (h0 : k ≤ j) (h1 : j < k + 4) (hne : by_ a j ≠ by_ b j) (hs : ∀ i, k ≤ i → i < k + 4 → i ≠ j → by_ a i = by_ b i) : num4 a k ≠ num4 b k := by
  have := by_bd a k; have := by_bd a (k + 1); have := by_bd a (k + 2); have := by_bd a (k + 3)
  have := by_bd b k; have := by_bd b (k + 1); have := by_bd b (k + 2); have := by_bd b (k + 3)
  unfold num4
  have hj : j = k ∨ j = k + 1 ∨ j = k + 2 ∨ j = k + 3 := by omega
  rcases hj with rfl | rfl | rfl | rfl
  · rw [hs (j + 1) (by omega) (by omega) (by omega), hs (j + 2) (by omega) (by omega) (by omega), hs (j + 3) (by omega) (by omega) (by omega)]; omega
  · rw [hs k (by omega) (by omega) (by omega), hs (k + 2) (by omega) (by omega) (by omega), hs (k + 3) (by omega) (by omega) (by omega)]; omega
  · rw [hs k (by omega) (by omega) (by omega), hs (k + 1) (by omega) (by omega) (by omega), hs (k + 3) (by omega) (by omega) (by omega)]; omega
  · rw [hs k (by omega) (by omega) (by omega), hs (k + 1) (by omega) (by omega) (by omega), hs (k + 2) (by omega) (by omega) (by omega)]; omega
theorem num4_same (a b : ByteArray) (k : Nat) (hs : ∀ i, k ≤ i → i < k + 4 → by_ a i = by_ b i) : num4 a k = num4 b k := by
  unfold num4
  rw [hs k (by omega) (by omega), hs (k + 1) (by omega) (by omega), hs (k + 2) (by omega) (by omega), hs (k + 3) (by omega) (by omega)]
theorem isRec_one (a b : ByteArray) (h : isRec a = true) (hb : b.size = 24) (j : Nat) (hj : j < 24) (hne : by_ b j ≠ by_ a j) (hs : ∀ k, k ≠ j → by_ b k = by_ a k) : isRec b = false := by
  unfold isRec at h
  simp only [Bool.and_eq_true, decide_eq_true_eq] at h
  obtain ⟨⟨⟨ha, h1⟩, h2⟩, _⟩ := h
  rw [Bool.eq_false_iff]
  intro hh
  unfold isRec at hh
  simp only [Bool.and_eq_true, decide_eq_true_eq] at hh
  obtain ⟨⟨⟨_, g1⟩, g2⟩, _⟩ := hh
  rcases Nat.lt_or_ge j 16 with hc | hc
  · have e16 : num4 b 16 = num4 a 16 := num4_same b a 16 (fun i h0 h1 => hs i (by omega))
    have hx := sum32_one (b.extract 0 16) (a.extract 0 16) (by simp [ha, hb]) j (by simp; omega) (by rw [by_extract _ _ _ _ (by omega) (by omega), by_extract _ _ _ _ (by omega) (by omega), Nat.zero_add]; exact hne)
      (fun k hk hkj => by
        have hk16 : k < 16 := by simp at hk; omega
        rw [by_extract _ _ _ _ (by omega) (by omega), by_extract _ _ _ _ (by omega) (by omega), Nat.zero_add]; exact hs k hkj)
    exact hx (BitVec.eq_of_toNat_eq (by omega))
  · rcases Nat.lt_or_ge j 20 with hd | hd
    · have e : b.extract 0 16 = a.extract 0 16 := by
        refine by_ext (by simp [ha, hb]) (fun k hk => ?_)
        have hk16 : k < 16 := by simp at hk; omega
        rw [by_extract _ _ _ _ (by omega) (by omega), by_extract _ _ _ _ (by omega) (by omega)]
        exact hs _ (by omega)
      rw [e] at g1
      exact num4_one b a 16 j hc (by omega) hne (fun i _ _ hi => hs i hi) (by omega)
    · have e0 : num4 b 0 = num4 a 0 := num4_same b a 0 (fun i h0 h1 => hs i (by omega))
      exact num4_one b a 20 j hd (by omega) hne (fun i _ _ hi => hs i hi) (by omega)
end Go.Proofs.Ytjneidmkllhbjaa
