/- Package apogeeref05: the frame that bytes begin with. -/
import Derived.Test.YtilgjjkppioblaaFrd
import Derived.RegionTactic
import Derived.BigRegion
import Derived.Deep.RegionWith
namespace Go.Proofs.Ytilgjjkppioblaa
open Go.RowKit

theorem size_ext (s : ByteArray) (a b : Nat) (h : a ≤ b) (hb : b ≤ s.size) : (s.extract a b).size = b - a := by simp; omega
theorem two_eq (s : ByteArray) (k : Nat) (hk : k + 2 ≤ s.size) : strOfNums [by_ s k, by_ s (k + 1)] = s.extract k (k + 2) := by
  have b0 := by_bd s k
  have b1 := by_bd s (k + 1)
  refine by_ext (by rw [strOfNums_size, size_ext _ _ _ (by omega) hk]; simp) fun i hi => ?_
  rw [strOfNums_size] at hi
  match i, hi with
  | 0, _ => rw [by_nums _ 0 _ rfl b0.1 b0.2, by_extract s k (k + 2) 0 (by omega) hk]; rfl
  | 1, _ => rw [by_nums _ 1 _ rfl b1.1 b1.2, by_extract s k (k + 2) 1 (by omega) hk]
  | n + 2, hi => simp at hi; omega
theorem ext_app (s : ByteArray) (a b c : Nat) (h1 : a ≤ b) (h2 : b ≤ c) (hc : c ≤ s.size) : s.extract a b ++ s.extract b c = s.extract a c := by
  refine by_ext (by rw [ByteArray.size_append, size_ext _ _ _ h1 (by omega), size_ext _ _ _ h2 hc, size_ext _ _ _ (by omega) hc]; omega) fun i hi => ?_
  rw [ByteArray.size_append, size_ext _ _ _ h1 (by omega), size_ext _ _ _ h2 hc] at hi
  by_cases h : i < b - a
  · rw [by_app_l _ _ _ (by rw [size_ext _ _ _ h1 (by omega)]; exact h), by_extract s a b i (by omega) (by omega), by_extract s a c i (by omega) hc]
  · rw [by_app_r _ _ _ (by rw [size_ext _ _ _ h1 (by omega)]; omega), size_ext _ _ _ h1 (by omega), by_extract s b c _ (by omega) hc, by_extract s a c i (by omega) hc]
    congr 1
    omega
/-- The frame that is read is printed as its bytes, just where the sum is right. -/
theorem print_frm (s : ByteArray) (hb : badF s = false) (hs : shortF s = false) : ((frmF s).print = s.extract 0 (6 + lenF s)) ↔ sumF s = true := by
  have h1 : ¬(s.size < 4 ∨ (s.size : Int) < 6 + by_ s 3) := fun h => by rw [(short_iff s).2 h] at hs; cases hs
  have hl := lenF_eq s
  have hn := bad_no hb
  have b2 := by_bd s 2
  have h6 : 6 + lenF s ≤ s.size := by omega
  have h64 : lenF s ≤ 64 := by omega
  have psz : (frmF s).p.size = lenF s := by
    show (s.extract 4 (4 + lenF s)).size = _
    rw [size_ext _ _ _ (by omega) (by omega)]; omega
  have hr : (frmF s).right = true := (frmF s).right_iff.2 ⟨b2.1, b2.2, by omega⟩
  have ht : (frmF s).text = s.extract 2 (4 + lenF s) := by
    unfold FV.text
    rw [psz, hl]
    show strOfNums [by_ s 2, by_ s (2 + 1)] ++ s.extract 4 (4 + lenF s) = _
    rw [two_eq s 2 (by omega)]
    exact ext_app s 2 4 (4 + lenF s) (by omega) (by omega) (by omega)
  have hw : (frmF s).print = strOfNums [165, 90] ++ s.extract 2 (4 + lenF s) ++ strOfNums [sum16 (s.extract 2 (4 + lenF s)) / 256, sum16 (s.extract 2 (4 + lenF s)) % 256] := by
    unfold FV.print
    rw [if_pos hr, FV.whole, ht]
  have e0 : strOfNums [165, 90] = s.extract 0 2 := by
    have a0 : by_ s 0 = 165 := by omega
    have a1 : by_ s (0 + 1) = 90 := by show by_ s 1 = 90; omega
    rw [← a0, ← a1]
    exact two_eq s 0 (by omega)
  rw [hw, e0, ext_app s 0 2 (4 + lenF s) (by omega) (by omega) (by omega), show s.extract 0 (6 + lenF s) = s.extract 0 (4 + lenF s) ++ s.extract (4 + lenF s) (6 + lenF s) from (ext_app s 0 _ _ (by omega) (by omega) h6).symm]
  have hsm := sum16_bd (s.extract 2 (4 + lenF s))
  have c0 := by_bd s (4 + lenF s)
  have c1 := by_bd s (5 + lenF s)
  unfold sumF
  generalize sum16 (s.extract 2 (4 + lenF s)) = sm at *
  rw [show 6 + lenF s = 4 + lenF s + 2 by omega, ← two_eq s (4 + lenF s) (by omega), show 4 + lenF s + 1 = 5 + lenF s by omega]
  rw [beq_iff_eq]
  constructor
  · intro h
    have e1 := congrArg (fun q => by_ q ((s.extract 0 (4 + lenF s)).size)) h
    have e2 := congrArg (fun q => by_ q ((s.extract 0 (4 + lenF s)).size + 1)) h
    rw [by_app_r _ _ _ (Nat.le_refl _), by_app_r _ _ _ (Nat.le_refl _), Nat.sub_self, by_nums _ 0 _ rfl (by omega) (by omega), by_nums _ 0 _ rfl c0.1 c0.2] at e1
    rw [by_app_r _ _ _ (by omega), by_app_r _ _ _ (by omega), Nat.add_sub_cancel_left, by_nums _ 1 _ rfl (by omega) (by omega), by_nums _ 1 _ rfl c1.1 c1.2] at e2
    omega
  · intro h
    have e1 : sm / 256 = by_ s (4 + lenF s) := by omega
    have e2 : sm % 256 = by_ s (5 + lenF s) := by omega
    rw [e1, e2]

end Go.Proofs.Ytilgjjkppioblaa
