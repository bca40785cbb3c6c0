/- Package flash: Read, Write. -/
import Derived.Test.YtjneidmkllhbjaaFla
namespace Go.Proofs.Ytjneidmkllhbjaa
open Go.RowKit

theorem nums_extract (B : ByteArray) (a n : Nat) (h : a + n ≤ B.size) : strOfNums ((List.range n).map fun i => by_ B (a + i)) = B.extract a (a + n) := by
  have hz : (B.extract a (a + n)).size = n := by simp; omega
  refine by_ext (by rw [strOfNums_size, hz]; simp) fun i hi => ?_
  rw [strOfNums_size] at hi
  simp at hi
  have hb := by_bd B (a + i)
  rw [by_nums _ i (by_ B (a + i)) (by simp [hi]) hb.1 hb.2, by_extract _ _ _ _ (by omega) h]
theorem conv_piece {w : World} {r : Nat} {B : ByteArray} (h : Fr w r B) (a n cap : Nat) (hn : a + n ≤ B.size) : (convert 52 9 (.slice (some ⟨r, a, none⟩) n cap)).run Try.prog w = .ok (.string (B.extract a (a + n))) w := by
  rw [← nums_extract B a n hn]
  have hl : ((List.range n).map fun i => by_ B (a + i)).length = n := by simp
  have := run_convert_bytes_arg w 52 5 und_bytes und_u8 r a n cap ((List.range n).map fun i => by_ B (a + i)) hl (fun i hi => ?_) 9 und_str
  · exact this
  · rw [h.cell (a + i) (by omega)]
    simp [List.getD, hi]

theorem fl_read (w : World) (f r c : Nat) (s : FL) (h : FlA w f r c s) (ho : s.off = false) (a n : Nat) (hb : s.B.size ≤ 4096) (hn : a + n ≤ s.B.size) :
    Calls Try.prog 21 #[.pointer (some ⟨f, 0, none⟩), .int .i64 a, .int .i64 n] w fun e w' => e = .returned (.tuple #[.string (s.B.extract a (a + n)), .int .i64 0]) ∧ w = w' := by
  have c0 := h.at_.cell 0
  have HR := ready_ok w f r c s h ho a n hb hn
  have hcv := conv_piece h.row a n (s.B.size - a) hn
  have g1 : (a : Int) + n ≤ s.B.size := by omega
  by_cases he : s.B.size = a
  · obtain rfl : n = 0 := by omega
    have hcv0 := conv_piece h.row 0 0 0 (by omega)
    have hx : s.B.extract a (a + 0) = ByteArray.empty := by
      refine by_ext (by simp) fun i hi => ?_
      simp at hi
    have hx0 : s.B.extract 0 (0 + 0) = ByteArray.empty := by
      refine by_ext (by simp) fun i hi => ?_
      simp at hi
    rw [hx0] at hcv0
    rw [hx] at hcv ⊢
    go_enter Try.func21, Try.ntmps21
    go_wp2_with fail
    refine HR.mono ?_; rintro e w' ⟨rfl, rfl⟩
    go_wp2
    go_returns
    exact ⟨rfl, rfl⟩
  · have hx2 : ((a : Int) + n).toNat = a + n := by omega
    go_enter Try.func21, Try.ntmps21
    go_wp2_with fail
    refine HR.mono ?_; rintro e w' ⟨rfl, rfl⟩
    go_wp2
    go_returns
    exact ⟨rfl, rfl⟩
theorem fl_read_off (w : World) (f r c : Nat) (s : FL) (h : FlA w f r c s) (ho : s.off = true) (a n : Int) : Calls Try.prog 21 #[.pointer (some ⟨f, 0, none⟩), .int .i64 a, .int .i64 n] w fun e w' => e = .returned (.tuple #[.string ByteArray.empty, .int .i64 11]) ∧ w = w' := by
  go_enter Try.func21, Try.ntmps21
  go_wp2_with fail
  refine (ready_off _ f r c s h ho _ _).mono ?_; rintro e w' ⟨rfl, rfl⟩
  go_wp2
  go_returns
  exact ⟨rfl, rfl⟩
theorem fl_write_off (w : World) (f r c : Nat) (s : FL) (h : FlA w f r c s) (ho : s.off = true) (a : Int) (t : ByteArray) : Calls Try.prog 16 #[.pointer (some ⟨f, 0, none⟩), .int .i64 a, .string t] w fun e w' => e = .returned (.int .i64 11) ∧ w = w' := by
  go_enter Try.func16, Try.ntmps16
  go_wp2_with fail
  refine (ready_off _ f r c s h ho _ _).mono ?_; rintro e w' ⟨rfl, rfl⟩
  go_wp2
  go_returns
  exact ⟨rfl, rfl⟩
theorem fl_write_bad (w : World) (f r c : Nat) (s : FL) (h : FlA w f r c s) (ho : s.off = false) (a : Nat) (t : ByteArray) (hb : s.B.size ≤ 4096) (ha : a ≤ s.B.size) (hn : s.B.size < a + t.size) (ht : t.size ≤ 1000000) : Calls Try.prog 16 #[.pointer (some ⟨f, 0, none⟩), .int .i64 a, .string t] w fun e w' => e = .returned (.int .i64 2) ∧ w = w' := by
  have HR := ready_bad w f r c s h ho a t.size hb ha hn ht
  go_enter Try.func16, Try.ntmps16
  go_wp2_with fail
  refine HR.mono ?_; rintro e w' ⟨rfl, rfl⟩
  go_wp2
  go_returns
  exact ⟨rfl, rfl⟩

/-- 'copy(b[a:], t)' on such a row: what the machine answers, and the row behind it. -/
theorem copy_over {w : World} {r : Nat} {B : ByteArray} (h : Fr w r B) (a : Nat) (t : ByteArray) (hn : a + t.size ≤ B.size) (ty : TypeId) : ∃ w', (Builtin.copy_ #[52, 9] ty #[.slice (some ⟨r, a, none⟩) (B.size - a) (B.size - a), .string t]).run Try.prog w = .ok (goInt t.size) w' ∧ Fr w' r (over B a t) ∧ Chg [r] w w' := by
  obtain ⟨cur, T, hg, hz, hc⟩ := h
  refine ⟨_, Lib.run_copy_row_string w 52 9 ty 5 r a (B.size - a) (B.size - a) t cur T und_bytes info_u8s hg (by omega) (by omega), ?_, (Chg.refl [r] w).setRow (by simp) _⟩
  refine Fr.over hg hz hc a t hn _ (by simp [Lib.byteCells]) fun j hj => ?_
  have hj2 : j < t.data.toList.length := by simpa using hj
  unfold by_ Lib.byteCells
  rw [List.getElem?_map, List.getD_eq_getElem?_getD, List.getElem?_eq_getElem hj2]
  rfl
theorem copy_none {w : World} {d : Option Addr} {n cap : Nat} (ty : TypeId) : (Builtin.copy_ #[52, 9] ty #[.slice d n cap, .string ByteArray.empty]).run Try.prog w = .ok (goInt 0) w :=
  Lib.run_copy_empty_string w 52 9 ty 5 d n cap ByteArray.empty und_bytes (by rw [info_u8s]; rfl) rfl
theorem over_empty (B : ByteArray) (a : Nat) (h : a ≤ B.size) : over B a ByteArray.empty = B := by
  refine by_ext (over_size B a ByteArray.empty (by show a + 0 ≤ B.size; omega)) fun i hi => ?_
  rw [over_size B a ByteArray.empty (by show a + 0 ≤ B.size; omega)] at hi
  rw [over_by B a ByteArray.empty (by show a + 0 ≤ B.size; omega) i hi]
  split
  · rfl
  · rw [if_neg (by show ¬ i < a + 0; omega)]

set_option maxHeartbeats 1000000 in
theorem fl_write (w : World) (f r c : Nat) (s : FL) (h : FlA w f r c s) (ho : s.off = false) (ht : s.tears = false) (a : Nat) (t : ByteArray) (hb : s.B.size ≤ 4096) (hn : a + t.size ≤ s.B.size) (hw0 : 0 ≤ s.wr) (hw1 : s.wr ≤ 1000) :
    Calls Try.prog 16 #[.pointer (some ⟨f, 0, none⟩), .int .i64 a, .string t] w fun e w' => e = .returned (.int .i64 0) ∧ FlA w' f r c ⟨over s.B a t, false, s.tear, false, s.wr + 1⟩ ∧ Chg [r, c] w w' := by
  have HR := ready_ok w f r c s h ho a t.size hb hn
  have c4 := h.at_.cell 4
  have g2 : (a : Int) ≤ s.B.size := by omega
  go_enter Try.func16, Try.ntmps16
  go_wp2_with fail
  refine HR.mono ?_; rintro e w' ⟨rfl, rfl⟩
  go_wp2_with fail
  refine (cUp_any w c s.wr 1000000 h.ctr hw0 (by omega) (by omega)).mono ?_; rintro e w2 ⟨rfl, hC, hX⟩
  rw [show cAdd s.wr 1000000 1 = s.wr + 1 by unfold cAdd; omega] at hC
  have hA2 := hX.at h.at_ (by simpa using h.fc)
  have hF2 := h.row.keep hX (by simpa using h.rc)
  have hfr := h.fr
  have hfc := h.fc
  have hrc := h.rc
  clear c4 HR
  have d0 := hA2.cell 0
  have d1 := hA2.cell 1
  rw [ht] at d1
  by_cases he : s.B.size = a
  · have hte : t = ByteArray.empty := by
      refine by_ext (by show t.size = 0; omega) fun i hi => by omega
    subst hte
    have hcp := copy_none (w := w2) (d := some ⟨r, 0, none⟩) (n := 0) (cap := 0) 3
    have hz : s.B.size - a = 0 := by omega
    go_wp2
    go_returns
    refine ⟨rfl, ⟨?_, ?_, hC, hfr, hfc, hrc⟩, hX.mono (by simp)⟩
    · have h0 := hA2
      rw [ho, ht] at h0
      rw [over_empty s.B a (by omega)]
      exact h0
    · rw [over_empty s.B a (by omega)]
      exact hF2
  · obtain ⟨w3, hcp, hF3, hX3⟩ := copy_over hF2 a t hn 3
    have hA3 := hX3.at hA2 (by simpa using hfr)
    have hC3 := hC.keep hX3 (by simpa using Ne.symm hrc)
    go_wp2
    go_returns
    refine ⟨rfl, ⟨?_, hF3, hC3, hfr, hfc, hrc⟩, (hX.mono (by simp)).trans (hX3.mono (by simp))⟩
    have h0 := hA3
    rw [ho, ht] at h0
    rw [show (FL.mk (over s.B a t) false s.tear false (s.wr + 1)).B.size = s.B.size from over_size s.B a t hn]
    exact h0

set_option maxHeartbeats 2000000 in
theorem fl_write_torn (w : World) (f r c : Nat) (s : FL) (h : FlA w f r c s) (ho : s.off = false) (ht : s.tears = true) (a : Nat) (t : ByteArray) (hb : s.B.size ≤ 4096) (hn : a + t.size ≤ s.B.size) (hw0 : 0 ≤ s.wr) (hw1 : s.wr ≤ 1000) (m : Nat) (hm : min s.tear (t.size : Int) = m) (hmt : m ≤ t.size) :
    Calls Try.prog 16 #[.pointer (some ⟨f, 0, none⟩), .int .i64 a, .string t] w fun e w' => e = .returned (.int .i64 11) ∧ FlA w' f r c ⟨over s.B a (t.extract 0 m), false, s.tear, true, s.wr + 1⟩ ∧ Chg [f, r, c] w w' := by
  have HR := ready_ok w f r c s h ho a t.size hb hn
  have c4 := h.at_.cell 4
  have g2 : (a : Int) ≤ s.B.size := by omega
  have hme : (t.extract 0 m).size = m := by simp; omega
  go_enter Try.func16, Try.ntmps16
  go_wp2_with fail
  refine HR.mono ?_; rintro e w' ⟨rfl, rfl⟩
  go_wp2_with fail
  refine (cUp_any w c s.wr 1000000 h.ctr hw0 (by omega) (by omega)).mono ?_; rintro e w2 ⟨rfl, hCt, hX⟩
  rw [show cAdd s.wr 1000000 1 = s.wr + 1 by unfold cAdd; omega] at hCt
  have hA2 := hX.at h.at_ (by simpa using h.fc)
  have hF2 := h.row.keep hX (by simpa using h.rc)
  have hfr := h.fr
  have hfc := h.fc
  have hrc := h.rc
  clear c4 HR
  have d1 := hA2.cell 1
  rw [ht] at d1
  have hif : (if (t.size : Int) < s.tear then (t.size : Int) else s.tear) = (m : Int) := by rw [← hm]; split <;> omega
  have hmi : (m : Int) ≤ (t.size : Int) := by omega
  clear hm
  obtain ⟨wq, hcp, hFq, hXq⟩ : ∃ wq, (Builtin.copy_ #[52, 9] 3 #[.slice (if s.B.size = a then some (⟨r, 0, none⟩ : Addr) else some ⟨r, a, none⟩) (s.B.size - a) (s.B.size - a), .string (t.extract 0 m)]).run Try.prog w2.drew = .ok (goInt m) wq ∧ Fr wq r (over s.B a (t.extract 0 m)) ∧ Chg [r] w2.drew wq := by
    by_cases he : s.B.size = a
    · have hte : t.extract 0 m = ByteArray.empty := by
        refine by_ext (by show (t.extract 0 m).size = 0; omega) fun i hi => by omega
      rw [if_pos he, hte, over_empty s.B a (by omega)]
      have hm0 : m = 0 := by omega
      rw [hm0]
      exact ⟨w2.drew, copy_none 3, hF2.keep ((Chg.refl [] w2).drew) (by simp), Chg.refl _ _⟩
    · rw [if_neg he]
      have hF2' : Fr w2.drew r s.B := hF2.keep ((Chg.refl [] w2).drew) (by simp)
      obtain ⟨wq, h1, h2, h3⟩ := copy_over hF2' a (t.extract 0 m) (by omega) 3
      rw [hme] at h1
      exact ⟨wq, h1, h2, h3⟩
  go_wp2_with fail
  obtain ⟨wd, hwd⟩ : ∃ wd, wd = w2.drew := ⟨_, rfl⟩
  have d0 := hA2.drew.cell 0
  have d2 := hA2.drew.cell 2
  rw [← hwd] at hcp hXq d0 d2
  have Hwd := Lib.hid hwd
  clear hwd
  refine wp_region_stage (CRp wd wq) [15] [(0, 0, false), (0, 0, false), (0, 0, false), (0, 0, false), (0, 0, false), (0, 0, false), (0, 0, false), (0, 0, false), (0, 0, false), (0, 0, false), (0, 0, false), (0, 0, false), (0, 0, false), (0, 0, false), (0, 0, false), (0, 0, true)]
    (by kernel_rfl) (by kernel_rfl) (by kernel_rfl) (⟨fun _ => Hwd.out.symm, fun h => absurd h (by omega)⟩) ?_
  simp only [List.zip_cons_cons, List.zip_nil_right]
  refine wpStage_yes (by go_simp) ?_
  intro K hK
  apply Exists.intro
  refine ⟨fun kk ww hk1 hk2 hC => ?_, ?_⟩
  · go_simp
    with_reducible exact rfl
  go_simp
  refine hK _ ?_
  clear hK K
  refine wpStage_yes (by go_simp) ?_
  intro K hK
  apply Exists.intro
  refine ⟨fun kk ww hk1 hk2 hC => ?_, ?_⟩
  · go_simp
    with_reducible exact rfl
  go_simp
  refine hK _ ?_
  clear hK K
  refine wpStage_yes (by go_simp) ?_
  intro K hK
  apply Exists.intro
  refine ⟨fun kk ww hk1 hk2 hC => ?_, ?_⟩
  · go_simp
    with_reducible exact rfl
  go_simp
  refine hK _ ?_
  clear hK K
  refine wpStage_yes (by go_simp) ?_
  intro K hK
  apply Exists.intro
  refine ⟨fun kk ww hk1 hk2 hC => ?_, ?_⟩
  · obtain rfl : kk = 0 := by omega
    obtain rfl := hC.a rfl
    go_simp
    with_reducible exact rfl
  go_simp
  refine hK _ ?_
  clear hK K
  refine wpStage_yes (by go_simp) ?_
  intro K hK
  apply Exists.intro
  refine ⟨fun kk ww hk1 hk2 hC => ?_, ?_⟩
  · go_simp
    with_reducible exact rfl
  go_simp
  refine hK _ ?_
  clear hK K
  refine wpStage_yes (by go_simp) ?_
  intro K hK
  apply Exists.intro
  refine ⟨fun kk ww hk1 hk2 hC => ?_, ?_⟩
  · go_simp
    with_reducible exact rfl
  go_simp
  refine hK _ ?_
  clear hK K
  refine wpStage_yes (by go_simp) ?_
  intro K hK
  apply Exists.intro
  refine ⟨fun kk ww hk1 hk2 hC => ?_, ?_⟩
  · go_simp
    with_reducible exact rfl
  go_simp
  refine hK _ ?_
  clear hK K
  refine wpStage_yes (by go_simp) ?_
  intro K hK
  apply Exists.intro
  refine ⟨fun kk ww hk1 hk2 hC => ?_, ?_⟩
  · go_simp
    with_reducible exact rfl
  go_simp
  refine hK _ ?_
  clear hK K
  refine wpStage_yes (by go_simp) ?_
  intro K hK
  apply Exists.intro
  refine ⟨fun kk ww hk1 hk2 hC => ?_, ?_⟩
  · go_simp
    with_reducible exact rfl
  go_simp
  refine hK _ ?_
  clear hK K
  refine wpStage_yes (by go_simp) ?_
  intro K hK
  apply Exists.intro
  refine ⟨fun kk ww hk1 hk2 hC => ?_, ?_⟩
  · go_simp
    with_reducible exact rfl
  go_simp
  refine hK _ ?_
  clear hK K
  refine wpStage_yes (by go_simp) ?_
  intro K hK
  apply Exists.intro
  refine ⟨fun kk ww hk1 hk2 hC => ?_, ?_⟩
  · obtain rfl : kk = 0 := by omega
    obtain rfl := hC.a rfl
    go_simp
    with_reducible exact rfl
  go_simp
  refine hK _ ?_
  clear hK K
  refine wpStage_yes (by go_simp) ?_
  intro K hK
  apply Exists.intro
  refine ⟨fun kk ww hk1 hk2 hC => ?_, ?_⟩
  · go_simp
    with_reducible exact rfl
  go_simp
  refine hK _ ?_
  clear hK K
  refine wpStage_yes (by go_simp) ?_
  intro K hK
  apply Exists.intro
  refine ⟨fun kk ww hk1 hk2 hC => ?_, ?_⟩
  · go_simp
    with_reducible exact rfl
  go_simp
  refine hK _ ?_
  clear hK K
  refine wpStage_yes (by go_simp) ?_
  intro K hK
  apply Exists.intro
  refine ⟨fun kk ww hk1 hk2 hC => ?_, ?_⟩
  · go_simp
    with_reducible exact rfl
  go_simp
  refine hK _ ?_
  clear hK K
  refine wpStage_yes (by go_simp) ?_
  intro K hK
  apply Exists.intro
  refine ⟨fun kk ww hk1 hk2 hC => ?_, ?_⟩
  · go_simp
    with_reducible exact rfl
  go_simp
  refine hK _ ?_
  clear hK K
  refine wpStage_yes (by go_simp) ?_
  intro K hK
  apply Exists.intro
  refine ⟨fun kk ww hk1 hk2 hC => ?_, ?_⟩
  · obtain rfl : kk = 0 := by omega
    obtain rfl := hC.a rfl
    go_simp
    try rw [hcp]
    exact ⟨rfl, fun h => absurd h (by omega), fun _ => rfl⟩
  go_simp
  refine hK _ ?_
  clear hK K
  refine wpStage_nil (fun ww hC => ?_)
  obtain rfl := hC.b rfl
  clear hC hcp d0 d2 d1
  have hA3 := hXq.at (cs := _) (show At wd f _ by rw [Hwd.out]; exact hA2.drew) (by simpa using hfr)
  have hC3 := Ctr.keep hXq (show Ctr wd c _ _ by rw [Hwd.out]; exact hCt.drewN 1) (by simpa using Ne.symm hrc)
  have hX3 : Chg [r] w2 ww := by rw [Hwd.out] at hXq; exact hXq.undrew
  have d0 := hA3.cell 0
  have d1 := hA3.cell 1
  have d3 := hA3.cell 3
  have e1 := hA3.frozen 1
  have e3 := hA3.frozen 3
  have hA4 := (hA3.set 3 (.bool true) rfl).set 1 (.bool false) rfl
  have hF4 := (hFq.set (a := ⟨f, 3, none⟩) (Ne.symm hfr) (.bool true)).set (a := ⟨f, 1, none⟩) (Ne.symm hfr) (.bool false)
  have hC4 := At.other (At.other hC3 ⟨f, 3, none⟩ (.bool true) (Ne.symm hfc)) ⟨f, 1, none⟩ (.bool false) (Ne.symm hfc)
  have hX4 := (((hX.mono (S' := [f, r, c]) (by simp)).trans (hX3.mono (S' := [f, r, c]) (by simp))).setCell (p := ⟨f, 3, none⟩) (by simp) (.bool true)).setCell (p := ⟨f, 1, none⟩) (by simp) (.bool false)
  go_wp2
  all_goals
    go_returns
    refine ⟨rfl, ⟨?_, hF4, hC4, hfr, hfc, hrc⟩, hX4⟩
    rw [show (FL.mk (over s.B a (t.extract 0 m)) false s.tear true (s.wr + 1)).B.size = s.B.size from over_size s.B a (t.extract 0 m) (by omega)]
    exact hA4
end Go.Proofs.Ytjneidmkllhbjaa
