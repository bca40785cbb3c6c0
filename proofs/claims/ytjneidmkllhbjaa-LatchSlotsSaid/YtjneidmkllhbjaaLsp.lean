/- Two slots' bytes, and what is kept of them. -/
import Derived.Test.YtjneidmkllhbjaaLn9
import Derived.Test.YtjneidmkllhbjaaL08
namespace Go.Proofs.Ytjneidmkllhbjaa
open Go.RowKit

theorem app_by (a b : ByteArray) (j : Nat) : by_ (a ++ b) j = if j < a.size then by_ a j else by_ b (j - a.size) := by
  by_cases h : j < a.size
  · rw [if_pos h, ← by_get (a ++ b) j (by rw [ByteArray.size_append]; omega), ← by_get a j h, ByteArray.getElem_append_left h]
  · rw [if_neg h]
    by_cases h2 : j - a.size < b.size
    · rw [← by_get (a ++ b) j (by rw [ByteArray.size_append]; omega), ← by_get b _ h2, ByteArray.getElem_append_right (by omega)]
    · unfold by_
      rw [List.getD_eq_getElem?_getD, List.getD_eq_getElem?_getD, List.getElem?_eq_none (by simp; omega), List.getElem?_eq_none (by simp; omega)]
theorem two_slots (a b : ByteArray) (ha : a.size = 24) (hb : b.size = 24) : over (over (rep 48) 0 a) 24 b = a ++ b := by
  have h1 := over_size (rep 48) 0 a (by rw [rep_size]; omega)
  have h2 := over_size (over (rep 48) 0 a) 24 b (by rw [h1, rep_size]; omega)
  rw [rep_size] at h1
  refine by_ext (by rw [h2, h1, ByteArray.size_append]; omega) (fun i hi => ?_)
  rw [over_by _ 24 b (by omega) i (by omega), app_by]
  by_cases h : i < 24
  · rw [if_pos h, over_by _ 0 a (by rw [rep_size]; omega) i (by rw [rep_size]; omega), if_neg (by omega), if_pos (by omega), if_pos (by omega)]; rfl
  · rw [if_neg h, if_pos (by omega), if_neg (by omega), ha]
theorem slots_0 (a b : ByteArray) (ha : a.size = 24) : (a ++ b).extract 0 24 = a := by
  refine by_ext (by simp [ByteArray.size_append]; omega) (fun i hi => ?_)
  have hi2 : i < 24 := by simp [ByteArray.size_append] at hi; omega
  rw [by_extract _ _ _ _ (by omega) (by rw [ByteArray.size_append]; omega), Nat.zero_add, app_by, if_pos (by omega)]
theorem slots_1 (a b : ByteArray) (ha : a.size = 24) (hb : b.size = 24) : (a ++ b).extract 24 48 = b := by
  refine by_ext (by simp [ByteArray.size_append]; omega) (fun i hi => ?_)
  have hi2 : i < 24 := by simp [ByteArray.size_append] at hi; omega
  rw [by_extract _ _ _ _ (by omega) (by rw [ByteArray.size_append]; omega), app_by, if_neg (by omega), ha]
  congr 1
  omega
theorem over_1 (a b t : ByteArray) (ha : a.size = 24) (hb : b.size = 24) (ht : t.size = 24) : over (a ++ b) 24 t = a ++ t := by
  have hs : (a ++ b).size = 48 := by rw [ByteArray.size_append]; omega
  have h2 := over_size (a ++ b) 24 t (by omega)
  refine by_ext (by rw [h2, hs, ByteArray.size_append]; omega) (fun i hi => ?_)
  rw [over_by _ 24 t (by omega) i (by omega), app_by, app_by]
  by_cases h : i < 24
  · rw [if_pos h, if_pos (by omega), if_pos (by omega)]
  · rw [if_neg h, if_pos (by omega), if_neg (by omega), ha]
theorem over_0 (a b t : ByteArray) (ha : a.size = 24) (hb : b.size = 24) (ht : t.size = 24) : over (a ++ b) 0 t = t ++ b := by
  have hs : (a ++ b).size = 48 := by rw [ByteArray.size_append]; omega
  have h2 := over_size (a ++ b) 0 t (by omega)
  refine by_ext (by rw [h2, hs, ByteArray.size_append]; omega) (fun i hi => ?_)
  rw [over_by _ 0 t (by omega) i (by omega), app_by, app_by]
  by_cases h : i < 24
  · rw [if_neg (by omega), if_pos (by omega), if_pos (by omega)]; rfl
  · rw [if_neg (by omega), if_neg (by omega), if_neg (by omega), if_neg (by omega), ha, ht]
theorem rec_seq {s : ByteArray} (h : isRec s = true) : 1 ≤ (lread s).seq ∧ (lread s).seq ≤ 2147483648 := by
  have hr : (RcV.of s).right = true := by unfold isRec at h; simp only [Bool.and_eq_true, decide_eq_true_eq] at h; exact h.2
  have := (RcV.right_iff _).1 hr
  unfold lread
  rw [if_pos h]
  omega
theorem kept_open (a b : ByteArray) (ha : a.size = 24) (hb : b.size = 24) : LtV.open 0 (a ++ b) = ⟨0, if keptK a b = 0 then 0 else 1, keptR a b, decide (0 ≤ keptK a b)⟩ := by
  unfold LtV.open
  rw [show 0 + 24 = 24 from rfl, show 24 + 24 = 48 from rfl, slots_0 a b ha, slots_1 a b ha hb]
  unfold LtV.see keptK keptR
  have hz : RcV.zero.seq = 0 := rfl
  cases ra : isRec a with
  | true =>
    have qa := rec_seq ra
    cases rb : isRec b with
    | true =>
      have qb := rec_seq rb
      by_cases h : (lread b).seq ≤ (lread a).seq
      · have h2 : ¬ (lread a).seq < (lread b).seq := by omega
        have h3 : (0 : Int) < (lread a).seq := by omega
        simp [hz, h, h2, h3]
      · have h2 : (lread a).seq < (lread b).seq := by omega
        have h3 : (0 : Int) < (lread a).seq := by omega
        simp [hz, h, h2, h3]
    | false =>
      have h3 : (0 : Int) < (lread a).seq := by omega
      simp [hz, h3]
  | false =>
    cases rb : isRec b with
    | true =>
      have qb := rec_seq rb
      have h3 : (0 : Int) < (lread b).seq := by omega
      simp [hz, h3]
    | false => simp
theorem kept_seq (a b : ByteArray) : 0 ≤ (keptR a b).seq ∧ (keptR a b).seq ≤ 2147483648 := by
  unfold keptR
  split
  · rename_i h; have := rec_seq h.1; omega
  · split
    · rename_i h; have := rec_seq h; omega
    · exact ⟨by decide, by decide⟩
theorem kept_k (a b : ByteArray) : keptK a b = 0 ∨ keptK a b = 1 ∨ keptK a b = -1 := by
  unfold keptK
  split
  · exact .inl rfl
  · split
    · exact .inr (.inl rfl)
    · exact .inr (.inr rfl)
end Go.Proofs.Ytjneidmkllhbjaa
