/- Package apogeeref05: the frame that bytes begin with. -/
import Derived.Test.YtgdahhpenlbhoaaFrd
import Derived.RegionTactic
import Derived.BigRegion
import Derived.Deep.RegionWith
namespace Go.Proofs.Ytgdahhpenlbhoaa
open Go.RowKit

theorem size_ext (s : ByteArray) (a b : Nat) (h : a ≤ b) (hb : b ≤ s.size) : (s.extract a b).size = b - a := by simp; omega
theorem two_eq (s : ByteArray) (k : Nat) (hk : k + 2 ≤ s.size) : strOfNums [by_ s k, by_ s (k + 1)] = s.extract k (k + 2) := by
  have b0 := by_bd s k
  have b1 := by_bd s (k + 1)
  refine by_ext (by rw [strOfNums_size, size_ext _ _ _ (by omega) hk]; simp) fun i hi => ?_
  rw [strOfNums_size] at hi
  match i, hi with
  | 0, _ => rw [by_nums _ 0 _ rfl b0.1 b0.2, by_extract s k (k + 2) 0 (by omega) hk]; rfl
  | 1, _ => rw [by_nums _ 1 _ rfl b1.1 b1.2, by_extract s k (k + 2) 1 (by omega) hk]
  | n + 2, hi => simp at hi; omega
theorem ext_app (s : ByteArray) (a b c : Nat) (h1 : a ≤ b) (h2 : b ≤ c) (hc : c ≤ s.size) : s.extract a b ++ s.extract b c = s.extract a c := by
  refine by_ext (by rw [ByteArray.size_append, size_ext _ _ _ h1 (by omega), size_ext _ _ _ h2 hc, size_ext _ _ _ (by omega) hc]; omega) fun i hi => ?_
  rw [ByteArray.size_append, size_ext _ _ _ h1 (by omega), size_ext _ _ _ h2 hc] at hi
  by_cases h : i < b - a
  · rw [by_app_l _ _ _ (by rw [size_ext _ _ _ h1 (by omega)]; exact h), by_extract s a b i (by omega) (by omega), by_extract s a c i (by omega) hc]
  · rw [by_app_r _ _ _ (by rw [size_ext _ _ _ h1 (by omega)]; omega), size_ext _ _ _ h1 (by omega), by_extract s b c _ (by omega) hc, by_extract s a c i (by omega) hc]
    congr 1
    omega
/-- The frame that is read is printed as its bytes, just where the sum is right. -/
theorem print_frm (s : ByteArray) (hb : badF s = false) (hs : shortF s = false) : ((frmF s).print = s.extract 0 (6 + lenF s)) ↔ sumF s = true := by
  have h1 : ¬(s.size < 4 ∨ (s.size : Int) < 6 + by_ s 3) := fun h => by rw [(short_iff s).2 h] at hs; cases hs
  have hl := lenF_eq s
  have hn := bad_no hb
  have b2 := by_bd s 2
  have h6 : 6 + lenF s ≤ s.size := by omega
  have h64 : lenF s ≤ 64 := by omega
  have psz : (frmF s).p.size = lenF s := by
    show (s.extract 4 (4 + lenF s)).size = _
    rw [size_ext _ _ _ (by omega) (by omega)]; omega
  have hr : (frmF s).right = true := (frmF s).right_iff.2 ⟨b2.1, b2.2, by omega⟩
  have ht : (frmF s).text = s.extract 2 (4 + lenF s) := by
    unfold FV.text
    rw [psz, hl]
    show strOfNums [by_ s 2, by_ s (2 + 1)] ++ s.extract 4 (4 + lenF s) = _
    rw [two_eq s 2 (by omega)]
    exact ext_app s 2 4 (4 + lenF s) (by omega) (by omega) (by omega)
  have hw : (frmF s).print = strOfNums [165, 90] ++ s.extract 2 (4 + lenF s) ++ strOfNums [sum16 (s.extract 2 (4 + lenF s)) / 256, sum16 (s.extract 2 (4 + lenF s)) % 256] := by
    unfold FV.print
    rw [if_pos hr, FV.whole, ht]
  have e0 : strOfNums [165, 90] = s.extract 0 2 := by
    have a0 : by_ s 0 = 165 := by omega
    have a1 : by_ s (0 + 1) = 90 := by show by_ s 1 = 90; omega
    rw [← a0, ← a1]
    exact two_eq s 0 (by omega)
  rw [hw, e0, ext_app s 0 2 (4 + lenF s) (by omega) (by omega) (by omega), show s.extract 0 (6 + lenF s) = s.extract 0 (4 + lenF s) ++ s.extract (4 + lenF s) (6 + lenF s) from (ext_app s 0 _ _ (by omega) (by omega) h6).symm]
  have hsm := sum16_bd (s.extract 2 (4 + lenF s))
  have c0 := by_bd s (4 + lenF s)
  have c1 := by_bd s (5 + lenF s)
  unfold sumF
  generalize sum16 (s.extract 2 (4 + lenF s)) = sm at *
  rw [show 6 + lenF s = 4 + lenF s + 2 by omega, ← two_eq s (4 + lenF s) (by omega), show 4 + lenF s + 1 = 5 + lenF s by omega]
  rw [beq_iff_eq]
  constructor
  · intro h
    have e1 := congrArg (fun q => by_ q ((s.extract 0 (4 + lenF s)).size)) h
    have e2 := congrArg (fun q => by_ q ((s.extract 0 (4 + lenF s)).size + 1)) h
    rw [by_app_r _ _ _ (Nat.le_refl _), by_app_r _ _ _ (Nat.le_refl _), Nat.sub_self, by_nums _ 0 _ rfl (by omega) (by omega), by_nums _ 0 _ rfl c0.1 c0.2] at e1
    rw [by_app_r _ _ _ (by omega), by_app_r _ _ _ (by omega), Nat.add_sub_cancel_left, by_nums _ 1 _ rfl (by omega) (by omega), by_nums _ 1 _ rfl c1.1 c1.2] at e2
    omega
  · intro h
    have e1 : sm / 256 = by_ s (4 + lenF s) := by omega
    have e2 : sm % 256 = by_ s (5 + lenF s) := by omega
    rw [e1, e2]

set_option maxHeartbeats 2000000 in
theorem frread_any (w : World) (s : ByteArray) (hs : s.size ≤ maxLen) : Calls Try.prog 16 #[.string s] w fun e w' => e = .returned (.tuple #[.agg (fread s).f.cells, .int .i64 (fread s).n, .int .i64 (fread s).e]) ∧ Chg [] w w' := by
  unfold maxLen at hs
  have r3 := by_bd s 3
  have r0 := by_bd s 0
  have r1 := by_bd s 1
  cases hb : badF s
  · have hn := bad_no hb
    cases hsh : shortF s
    · have h1 : ¬(s.size < 4 ∨ (s.size : Int) < 6 + by_ s 3) := fun h => by rw [(short_iff s).2 h] at hsh; cases hsh
      have hl := lenF_eq s
      have Hf := Lib.hid (fread_sum hb hsh)
      have Hg := Lib.hid (fread_ok hb hsh)
      have HP := fun w => frprint_any w (frmF s)
      have hq := print_frm s hb hsh
      have Hv := Lib.hid (show frmF s = ⟨by_ s 2, s.extract 4 (4 + lenF s)⟩ from rfl)
      rw [show (frmF s).cells = #[.int .i64 (by_ s 2), .string (s.extract 4 (4 + lenF s))] from rfl] at HP
      clear hb hsh
      generalize (frmF s).print = pr at *
      generalize sumF s = q at *
      generalize fread s = res at *
      generalize frmF s = fv at *
      have h4 : 4 ≤ s.size := by omega
      have g3 := by_get s 3 h4
      have h6 : 6 + lenF s ≤ s.size := by omega
      have hl64 : lenF s ≤ 64 := by omega
      have e0 : by_ s 0 = 165 := by omega
      have e1 : by_ s 1 = 90 := by omega
      have z0 : 0 < s.size := by omega
      have z1 : 1 < s.size := by omega
      have g0 := by_get s 0 z0
      have g1 := by_get s 1 z1
      rw [← hl] at g3
      rw [e0] at g0
      rw [e1] at g1
      clear h1 hn hl e0 e1 r0 r1 r3
      generalize lenF s = n at *
      go_enter Try.func16, Try.ntmps16
      have S3 := fun w => slice_at w s (i := 4) (j := 4 + (n : Int)) (a := 4) (b := 4 + n) rfl (by omega) (by omega) (by omega)
      have S4 := fun w => slice_to w s (j := 6 + (n : Int)) (b := 6 + n) (by omega) h6
      have w1 : IntKind.i64.wrap (6 + (n : Int) - 2) = 4 + (n : Int) := by rw [i64_in _ (by omega) (by omega)]; omega
      have h2 : 2 < s.size := by omega
      have g2 := by_get s 2 h2
      have b2 := by_bd s 2
      go_wp2_with fail
      go_region
      have hA := ((At.new w FV.none.cells 27).alloc (.cells #[.int .i64 (by_ s 2), .string (s.extract 4 (4 + n))] 27)).drew
      have hB := (At.new (w.alloc (.cells FV.none.cells 27)) #[.int .i64 (by_ s 2), .string (s.extract 4 (4 + n))] 27).drew
      rw [show (w.alloc (.cells FV.none.cells 27)).heap.size = w.heap.size + 1 by simp] at hB
      have hX : Chg [] w ((w.alloc (.cells FV.none.cells 27)).alloc (.cells #[.int .i64 (by_ s 2), .string (s.extract 4 (4 + n))] 27)).drew := (((Chg.refl [] w).alloc _).alloc _).drew
      rw [none_cells] at hA hB hX
      have hzw : w.heap.size ≤ w.heap.size := Nat.le_refl _
      generalize hw1 : ((w.alloc (.cells #[.int .i64 0, .string ByteArray.empty] 27)).alloc (.cells #[.int .i64 (by_ s 2), .string (s.extract 4 (4 + n))] 27)).drew = w1 at *
      generalize hz : w.heap.size = z at hA hB hzw ⊢
      have c0 := hB.cell 0
      have c1 := hB.cell 1
      go_wp2_with fail
      go_region_with (go_at_call 14; (with_reducible refine (HP _).mono ?_); rintro e w' ⟨rfl, hX2⟩)
      subst hw1
      have hY : Chg [] w w' := hX.trans hX2.undrew
      have hA' : At w' z #[.int .i64 0, .string ByteArray.empty] := Chg.at hX2.undrew hA (by simp)
      have hB' : At w' (z + 1) #[.int .i64 (by_ s 2), .string (s.extract 4 (4 + n))] := Chg.at hX2.undrew hB (by simp)
      have hq2 : (pr.toList == (s.extract 0 (6 + n)).toList) = q := by rw [Bool.eq_iff_iff, str_beq]; exact hq
      generalize (pr.toList == (s.extract 0 (6 + n)).toList) = bq at hq2 ⊢
      subst hq2
      clear hX2 hX hA hB c0 c1 HP hq S3 S4
      have c0 := hA'.cell 0
      have c1 := hA'.cell 1
      have f0 := hA'.frozen 0
      have f1 := hA'.frozen 1
      have d0 := hB'.cell 0
      have d1 := hB'.cell 1
      cases bq
      · have hr := Hf.out rfl
        clear Hf Hg
        go_wp2_with fail
        have hB := (hA'.set 0 (.int .i64 0) rfl).set 1 (.string ByteArray.empty) rfl
        have hZ := (hY.setCell (p := ⟨z, 0, none⟩) (Or.inr (by simp; omega)) (.int .i64 0)).setCell (p := ⟨z, 1, none⟩) (Or.inr (by simp; omega)) (.string ByteArray.empty)
        clear c0 c1 d0 d1
        have d0 : ((w'.setCell ⟨z, 0, none⟩ (.int .i64 0)).setCell ⟨z, 1, none⟩ (.string ⟨#[]⟩)).cell? ⟨z, 0, none⟩ = some (.int .i64 0) := hB.cell 0
        have d1 : ((w'.setCell ⟨z, 0, none⟩ (.int .i64 0)).setCell ⟨z, 1, none⟩ (.string ⟨#[]⟩)).cell? ⟨z, 1, none⟩ = some (.string ByteArray.empty) := hB.cell 1
        exact bodyPost_ret (v := .tuple #[.agg #[.int .i64 0, .string ByteArray.empty], .int .i64 0, .int .i64 4]) (by simp [results, Try.results16, go_sem, d0, d1]) rfl ⟨by rw [hr]; rfl, hZ⟩
      · have hr := Hg.out rfl
        have hv := Hv.out
        clear Hf Hg Hv
        go_wp2_with fail
        have hB := (hA'.set 0 (.int .i64 (by_ s 2)) rfl).set 1 (.string (s.extract 4 (4 + n))) rfl
        have hZ := (hY.setCell (p := ⟨z, 0, none⟩) (Or.inr (by simp; omega)) (.int .i64 (by_ s 2))).setCell (p := ⟨z, 1, none⟩) (Or.inr (by simp; omega)) (.string (s.extract 4 (4 + n)))
        clear c0 c1 d0 d1
        have d0 := hB.cell 0
        have d1 := hB.cell 1
        have hn : (6 + (n : Int)) = ((6 + n : Nat) : Int) := by omega
        exact bodyPost_ret (v := .tuple #[.agg #[.int .i64 (by_ s 2), .string (s.extract 4 (4 + n))], .int .i64 (6 + n), .int .i64 0]) (by simp [results, Try.results16, go_sem, d0, d1]) rfl ⟨by rw [hr, hv, hn]; rfl, hZ⟩
    · have h1 := (short_iff s).1 hsh
      rw [fread_short hb hsh, none_cells]
      clear hb hsh
      have e3 : 3 < s.size → by_ s 3 ≤ 64 := fun h => by omega
      go_enter Try.func16, Try.ntmps16
      by_cases z0 : s.size = 0
      · go_wp2
        go_returns
        exact ⟨rfl, (Chg.refl _ _).alloc _⟩
      have g0 := by_get s 0 (by omega)
      have e0 : by_ s 0 = 165 := by omega
      rw [e0] at g0
      by_cases z1 : s.size = 1
      · go_wp2
        go_returns
        exact ⟨rfl, (Chg.refl _ _).alloc _⟩
      have y1 : 1 < s.size := by omega
      have g1 := by_get s 1 y1
      have e1 : by_ s 1 = 90 := by omega
      rw [e1] at g1
      by_cases z3 : s.size ≤ 3
      · go_wp2
        go_returns
        exact ⟨rfl, (Chg.refl _ _).alloc _⟩
      have y3 : 3 < s.size := by omega
      have g3 := by_get s 3 y3
      replace e3 := e3 y3
      have h2 : (s.size : Int) < 6 + by_ s 3 := by omega
      go_wp2
      go_returns
      exact ⟨rfl, (Chg.refl _ _).alloc _⟩
  · have hn : (0 < s.size ∧ by_ s 0 ≠ 165) ∨ (1 < s.size ∧ by_ s 1 ≠ 90) ∨ (3 < s.size ∧ 64 < by_ s 3) := by unfold badF at hb; exact of_decide_eq_true hb
    rw [fread_bad hb, none_cells]
    clear hb
    go_enter Try.func16, Try.ntmps16
    have z0 : 0 < s.size := by omega
    have g0 := by_get s 0 z0
    by_cases e0 : by_ s 0 = 165
    · rw [e0] at g0
      have z1 : 1 < s.size := by omega
      have g1 := by_get s 1 z1
      by_cases e1 : by_ s 1 = 90
      · rw [e1] at g1
        have z3 : 3 < s.size := by omega
        have g3 := by_get s 3 z3
        have e3 : 64 < by_ s 3 := by omega
        go_wp2
        go_returns
        exact ⟨rfl, (Chg.refl _ _).alloc _⟩
      · go_wp2
        go_returns
        exact ⟨rfl, (Chg.refl _ _).alloc _⟩
    · go_wp2
      go_returns
      exact ⟨rfl, (Chg.refl _ _).alloc _⟩
end Go.Proofs.Ytgdahhpenlbhoaa
