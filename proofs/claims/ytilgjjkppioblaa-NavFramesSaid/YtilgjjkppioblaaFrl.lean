/- Frames: the plain laws: what is printed is read; more bytes behind; noise; pieces; sums. -/
import Derived.Test.YtilgjjkppioblaaFrf
namespace Go.Proofs.Ytilgjjkppioblaa
open Go.RowKit

theorem ext_app_l (s t : ByteArray) (a b : Nat) (h : a ≤ b) (hb : b ≤ s.size) : (s ++ t).extract a b = s.extract a b := by
  have hz : b ≤ (s ++ t).size := by rw [ByteArray.size_append]; omega
  refine by_ext (by rw [size_ext _ _ _ h hz, size_ext _ _ _ h hb]) fun i hi => ?_
  rw [size_ext _ _ _ h hz] at hi
  rw [by_extract _ _ _ _ (by omega) hz, by_extract _ _ _ _ (by omega) hb, by_app_l _ _ _ (by omega)]
theorem ext_app_from (s t : ByteArray) (n : Nat) (hn : n ≤ s.size) : (s ++ t).extract n (s ++ t).size = s.extract n s.size ++ t := by
  have hz : (s ++ t).size = s.size + t.size := ByteArray.size_append
  refine by_ext (by rw [size_ext _ _ _ (by omega) (Nat.le_refl _), ByteArray.size_append, ByteArray.size_append, size_ext _ _ _ hn (Nat.le_refl _)]; omega) fun i hi => ?_
  rw [size_ext _ _ _ (by omega) (Nat.le_refl _)] at hi
  rw [by_extract _ _ _ _ (by omega) (Nat.le_refl _)]
  by_cases h : n + i < s.size
  · rw [by_app_l _ _ _ h, by_app_l _ _ _ (by rw [size_ext _ _ _ hn (Nat.le_refl _)]; omega), by_extract _ _ _ _ (by omega) (Nat.le_refl _)]
  · rw [by_app_r _ _ _ (by omega), by_app_r _ _ _ (by rw [size_ext _ _ _ hn (Nat.le_refl _)]; omega), size_ext _ _ _ hn (Nat.le_refl _)]
    congr 1
    omega
theorem ext_right (s t : ByteArray) : (s ++ t).extract s.size (s ++ t).size = t := by
  rw [ext_app_from s t s.size (Nat.le_refl _)]
  refine by_ext (by rw [ByteArray.size_append, size_ext _ _ _ (Nat.le_refl _) (Nat.le_refl _)]; omega) fun i hi => ?_
  rw [by_app_r _ _ _ (by rw [size_ext _ _ _ (Nat.le_refl _) (Nat.le_refl _)]; omega), size_ext _ _ _ (Nat.le_refl _) (Nat.le_refl _), Nat.sub_self]
  rfl
theorem app_empty (s : ByteArray) : s ++ ByteArray.empty = s := by
  refine by_ext (by rw [ByteArray.size_append]; rfl) fun i hi => ?_
  rw [ByteArray.size_append] at hi
  rw [by_app_l _ _ _ (by simpa using hi)]
theorem empty_app (s : ByteArray) : ByteArray.empty ++ s = s := by
  refine by_ext (by rw [ByteArray.size_append]; exact Nat.zero_add _) fun i _ => ?_
  rw [by_app_r _ _ _ (Nat.zero_le _)]
  rfl
theorem size0 {s : ByteArray} (h : s.size = 0) : s = ByteArray.empty := by
  refine by_ext (by rw [h]; rfl) fun i hi => ?_
  omega

/-- What is printed is read as it was, whatever stands behind it. -/
theorem print_size (f : FV) (h : f.right = true) : f.print.size = f.p.size + 6 := by
  unfold FV.print
  rw [if_pos h, FV.whole, ByteArray.size_append, ByteArray.size_append, text_size, strOfNums_size, strOfNums_size]
  show 2 + (f.p.size + 2) + 2 = _
  omega
theorem fread_print (f : FV) (h : f.right = true) (more : ByteArray) : fread (f.print ++ more) = ⟨f, 6 + f.p.size, 0⟩ ∧ lenF (f.print ++ more) = f.p.size ∧ frmF (f.print ++ more) = f := by
  obtain ⟨h0, h1, h2⟩ := f.right_iff.1 h
  have hz := print_size f h
  have hts := text_size f
  have hs := sum16_bd f.text
  have e : f.print = strOfNums [165, 90] ++ (f.text ++ strOfNums [sum16 f.text / 256, sum16 f.text % 256]) := by
    unfold FV.print
    rw [if_pos h, FV.whole, ByteArray.append_assoc]
  have z2 : ∀ a b : Int, (strOfNums [a, b]).size = 2 := fun a b => by rw [strOfNums_size]; rfl
  have pt : ∀ k, k < f.p.size + 2 → by_ (f.print ++ more) (2 + k) = by_ f.text k := fun k hk => by
    rw [by_app_l _ _ _ (by omega), e, by_app_r _ _ _ (by rw [z2]; omega), z2, Nat.add_sub_cancel_left, by_app_l _ _ _ (by omega)]
  have ps : ∀ k, k < 2 → by_ (f.print ++ more) (4 + f.p.size + k) = by_ (strOfNums [sum16 f.text / 256, sum16 f.text % 256]) k := fun k hk => by
    rw [by_app_l _ _ _ (by omega), e, by_app_r _ _ _ (by rw [z2]; omega), z2, by_app_r _ _ _ (by omega), hts]
    congr 1
    omega
  have b0 : by_ (f.print ++ more) 0 = 165 := by
    rw [by_app_l _ _ _ (by omega), e, by_app_l _ _ _ (by rw [z2]; omega)]
    exact by_nums _ 0 165 rfl (by omega) (by omega)
  have b1 : by_ (f.print ++ more) 1 = 90 := by
    rw [by_app_l _ _ _ (by omega), e, by_app_l _ _ _ (by rw [z2]; omega)]
    exact by_nums _ 1 90 rfl (by omega) (by omega)
  have b2 : by_ (f.print ++ more) 2 = f.k := by
    rw [pt 0 (by omega), FV.text, by_app_l _ _ _ (by rw [z2]; omega)]
    exact by_nums _ 0 f.k rfl h0 h1
  have b3 : by_ (f.print ++ more) 3 = f.p.size := by
    rw [pt 1 (by omega), FV.text, by_app_l _ _ _ (by rw [z2]; omega)]
    exact by_nums _ 1 _ rfl (by omega) (by omega)
  have c0 : by_ (f.print ++ more) (4 + f.p.size) = sum16 f.text / 256 := (ps 0 (by omega)).trans (by_nums _ 0 _ rfl (by omega) (by omega))
  have c1 : by_ (f.print ++ more) (5 + f.p.size) = sum16 f.text % 256 := by
    rw [show 5 + f.p.size = 4 + f.p.size + 1 by omega, ps 1 (by omega)]
    exact by_nums _ 1 _ rfl (by omega) (by omega)
  have zs : f.p.size + 6 ≤ (f.print ++ more).size := by rw [ByteArray.size_append]; omega
  have hl : lenF (f.print ++ more) = f.p.size := by unfold lenF; rw [b3]; simp
  have hb : badF (f.print ++ more) = false := by
    unfold badF
    rw [b0, b1, b3]
    simp
    omega
  have hsh : shortF (f.print ++ more) = false := by
    apply Bool.eq_false_iff.2
    intro hh
    have := (short_iff _).1 hh
    rw [b3] at this
    omega
  have ht : (f.print ++ more).extract 2 (4 + f.p.size) = f.text := by
    refine by_ext (by rw [size_ext _ _ _ (by omega) (by omega)]; omega) fun i hi => ?_
    rw [size_ext _ _ _ (by omega) (by omega)] at hi
    rw [by_extract _ _ _ _ (by omega) (by omega), pt i (by omega)]
  have hp : (f.print ++ more).extract 4 (4 + f.p.size) = f.p := by
    refine by_ext (by rw [size_ext _ _ _ (by omega) (by omega)]; omega) fun i hi => ?_
    rw [size_ext _ _ _ (by omega) (by omega)] at hi
    rw [by_extract _ _ _ _ (by omega) (by omega), show 4 + i = 2 + (2 + i) by omega, pt (2 + i) (by omega), FV.text, by_app_r _ _ _ (by rw [z2]; omega), z2, Nat.add_sub_cancel_left]
  have hq : sumF (f.print ++ more) = true := by
    unfold sumF
    rw [hl, ht, c0, c1, beq_iff_eq]
    omega
  have hf : frmF (f.print ++ more) = f := by
    unfold frmF
    rw [hl, b2, hp]
  exact ⟨by rw [fread_ok hb hsh hq, hl, hf], hl, hf⟩
theorem scan_print (f : FV) (h : f.right = true) (more : ByteArray) : scan (f.print ++ more) = (f :: (scan more).1, (scan more).2.1, (scan more).2.2) := by
  obtain ⟨h1, h2, h3⟩ := fread_print f h more
  have hz := print_size f h
  rw [scan_frame (by rw [ByteArray.size_append]; omega) (by rw [h1]), h2, h3, show 6 + f.p.size = f.print.size by omega, ext_right]

/-- Noise that has no byte a5. -/
theorem scan_noise (n : Nat) : ∀ (a t : ByteArray), a.size = n → (∀ k, k < a.size → by_ a k ≠ 165) → scan (a ++ t) = ((scan t).1, (scan t).2.1, (scan t).2.2 + n) := by
  induction n with
  | zero =>
    intro a t hz _
    rw [size0 hz, empty_app]
    rfl
  | succ n ih =>
    intro a t hz hk
    have hs : (a ++ t).size = n + 1 + t.size := by rw [ByteArray.size_append, hz]
    have hb : badF (a ++ t) = true := by
      unfold badF
      refine decide_eq_true (Or.inl ⟨by omega, ?_⟩)
      rw [by_app_l _ _ _ (by omega)]
      exact hk 0 (by omega)
    have e := fread_bad hb
    rw [scan_drop (by omega) (by rw [e]; decide) (by rw [e]; decide), ext_app_from _ _ _ (by omega),
      ih (a.extract 1 a.size) t (by rw [size_ext _ _ _ (by omega) (Nat.le_refl _)]; omega) fun k h => by
        rw [size_ext _ _ _ (by omega) (Nat.le_refl _)] at h
        rw [by_extract _ _ _ _ (by omega) (Nat.le_refl _)]
        exact hk _ (by omega)]
    rfl

/-- More bytes behind change nothing of what was sure. -/
theorem fread_more (s t : ByteArray) (h : (fread s).e ≠ 5) : fread (s ++ t) = fread s ∧ ((fread s).e = 0 → lenF (s ++ t) = lenF s ∧ frmF (s ++ t) = frmF s) := by
  have hz : (s ++ t).size = s.size + t.size := ByteArray.size_append
  cases hb : badF s
  · cases hsh : shortF s
    · have h1 : ¬(s.size < 4 ∨ (s.size : Int) < 6 + by_ s 3) := fun h => by rw [(short_iff s).2 h] at hsh; cases hsh
      have hl := lenF_eq s
      have hn := bad_no hb
      have e0 := by_app_l s t 0 (by omega)
      have e1 := by_app_l s t 1 (by omega)
      have e2 := by_app_l s t 2 (by omega)
      have e3 := by_app_l s t 3 (by omega)
      have hle : lenF (s ++ t) = lenF s := by unfold lenF; rw [e3]
      have e4 := by_app_l s t (4 + lenF s) (by omega)
      have e5 := by_app_l s t (5 + lenF s) (by omega)
      have hb' : badF (s ++ t) = false := by
        apply Bool.eq_false_iff.2
        intro hh
        unfold badF at hh
        have := of_decide_eq_true hh
        rw [e0, e1, e3] at this
        omega
      have hs' : shortF (s ++ t) = false := by
        apply Bool.eq_false_iff.2
        intro hh
        have := (short_iff _).1 hh
        rw [e3] at this
        omega
      have hf : frmF (s ++ t) = frmF s := by
        unfold frmF
        rw [hle, e2, ext_app_l _ _ _ _ (by omega) (by omega)]
      have hq : sumF (s ++ t) = sumF s := by
        unfold sumF
        rw [hle, e4, e5, ext_app_l _ _ _ _ (by omega) (by omega)]
      refine ⟨?_, fun _ => ⟨hle, hf⟩⟩
      unfold fread
      rw [hb', hs', hq, hf, hle, hb, hsh]
    · exact absurd (by rw [fread_short hb hsh]) h
  · have hh : (0 < s.size ∧ by_ s 0 ≠ 165) ∨ (1 < s.size ∧ by_ s 1 ≠ 90) ∨ (3 < s.size ∧ 64 < by_ s 3) := by unfold badF at hb; exact of_decide_eq_true hb
    have hb' : badF (s ++ t) = true := by
      unfold badF
      refine decide_eq_true ?_
      rcases hh with ⟨a, b⟩ | ⟨a, b⟩ | ⟨a, b⟩
      · exact Or.inl ⟨by omega, by rw [by_app_l s t 0 a]; exact b⟩
      · exact Or.inr (Or.inl ⟨by omega, by rw [by_app_l s t 1 a]; exact b⟩)
      · exact Or.inr (Or.inr ⟨by omega, by rw [by_app_l s t 3 a]; exact b⟩)
    refine ⟨by rw [fread_bad hb, fread_bad hb'], fun h0 => ?_⟩
    rw [fread_bad hb] at h0
    cases h0
/-- In pieces as at once. -/
theorem scan_pieces (n : Nat) : ∀ (s t : ByteArray), s.size ≤ n → scan (s ++ t) = ((scan s).1 ++ (scan ((scan s).2.1 ++ t)).1, (scan ((scan s).2.1 ++ t)).2.1, (scan s).2.2 + (scan ((scan s).2.1 ++ t)).2.2) := by
  induction n with
  | zero =>
    intro s t h
    have h0 : s.size = 0 := by omega
    rw [scan_none h0]
    simp
  | succ n ih =>
    intro s t h
    by_cases hz : s.size = 0
    · rw [scan_none hz]; simp
    by_cases h5 : (fread s).e = 5
    · rw [scan_short h5]; simp
    have hz' : (s ++ t).size ≠ 0 := by rw [ByteArray.size_append]; omega
    obtain ⟨m1, m2⟩ := fread_more s t h5
    by_cases h0 : (fread s).e = 0
    · obtain ⟨m3, m4⟩ := m2 h0
      have hl := fread_len h0
      rw [scan_frame hz h0, scan_frame hz' (by rw [m1]; exact h0), m3, m4, ext_app_from _ _ _ hl.1, ih _ t (by rw [size_ext _ _ _ hl.1 (Nat.le_refl _)]; omega)]
      simp
    · rw [scan_drop hz h5 h0, scan_drop hz' (by rw [m1]; exact h5) (by rw [m1]; exact h0), ext_app_from _ _ _ (by omega), ih _ t (by rw [size_ext _ _ _ (by omega) (Nat.le_refl _)]; omega)]
      simp
      omega
theorem scan_more (s t : ByteArray) : scan (s ++ t) = ((scan s).1 ++ (scan ((scan s).2.1 ++ t)).1, (scan ((scan s).2.1 ++ t)).2.1, (scan s).2.2 + (scan ((scan s).2.1 ++ t)).2.2) := scan_pieces _ s t (Nat.le_refl _)

/-- All bytes are in frames, dropped, or wait; each frame may be. -/
def flen (L : List FV) : Nat := (L.map fun f => f.p.size + 6).sum
theorem flen_app (L M : List FV) : flen (L ++ M) = flen L + flen M := by unfold flen; rw [List.map_append, List.sum_append]
theorem frm_right {s : ByteArray} (h : (fread s).e = 0) : (frmF s).right = true ∧ (frmF s).p.size = lenF s := by
  have hl := fread_len h
  have b2 := by_bd s 2
  have psz : (frmF s).p.size = lenF s := by
    show (s.extract 4 (4 + lenF s)).size = _
    rw [size_ext _ _ _ (by omega) (by omega)]; omega
  exact ⟨(frmF s).right_iff.2 ⟨b2.1, b2.2, by omega⟩, psz⟩
theorem scan_all (n : Nat) : ∀ s : ByteArray, s.size ≤ n → s.size = flen (scan s).1 + (scan s).2.2 + (scan s).2.1.size ∧ ∀ f ∈ (scan s).1, f.right = true := by
  induction n with
  | zero => intro s h; rw [scan_none (by omega)]; exact ⟨by simp [flen], by simp⟩
  | succ n ih =>
    intro s h
    by_cases hz : s.size = 0
    · rw [scan_none hz]; exact ⟨by simp [flen], by simp⟩
    by_cases h5 : (fread s).e = 5
    · rw [scan_short h5]; exact ⟨by simp [flen], by simp⟩
    by_cases h0 : (fread s).e = 0
    · have hl := fread_len h0
      obtain ⟨r1, r2⟩ := frm_right h0
      obtain ⟨i1, i2⟩ := ih (s.extract (6 + lenF s) s.size) (by rw [size_ext _ _ _ hl.1 (Nat.le_refl _)]; omega)
      rw [size_ext _ _ _ hl.1 (Nat.le_refl _)] at i1
      rw [scan_frame hz h0]
      refine ⟨?_, ?_⟩
      · show s.size = flen (_ :: _) + _ + _
        have : flen (frmF s :: (scan (s.extract (6 + lenF s) s.size)).1) = lenF s + 6 + flen (scan (s.extract (6 + lenF s) s.size)).1 := by unfold flen; rw [List.map_cons, List.sum_cons, r2]
        rw [this]
        show s.size = _ + (scan (s.extract (6 + lenF s) s.size)).2.2 + (scan (s.extract (6 + lenF s) s.size)).2.1.size
        omega
      · intro f hf
        rcases List.mem_cons.1 hf with rfl | hf
        · exact r1
        · exact i2 f hf
    · obtain ⟨i1, i2⟩ := ih (s.extract 1 s.size) (by rw [size_ext _ _ _ (by omega) (Nat.le_refl _)]; omega)
      rw [size_ext _ _ _ (by omega) (Nat.le_refl _)] at i1
      rw [scan_drop hz h5 h0]
      exact ⟨by show s.size = flen (scan (s.extract 1 s.size)).1 + ((scan (s.extract 1 s.size)).2.2 + 1) + (scan (s.extract 1 s.size)).2.1.size; omega, i2⟩
theorem wait_size (s : ByteArray) : (scan s).2.1.size < 70 := by
  rcases scan_wait s.size s (Nat.le_refl _) with h | h
  · omega
  · exact short_size h
theorem scan_len (s : ByteArray) : (scan s).1.length ≤ s.size ∧ (scan s).2.2 ≤ s.size := by
  obtain ⟨h, -⟩ := scan_all s.size s (Nat.le_refl _)
  have : ∀ L : List FV, L.length ≤ flen L := fun L => by
    induction L with
    | nil => exact Nat.le_refl _
    | cons f l ih => unfold flen at *; rw [List.map_cons, List.sum_cons, List.length_cons]; omega
  have := this (scan s).1
  omega
end Go.Proofs.Ytilgjjkppioblaa
