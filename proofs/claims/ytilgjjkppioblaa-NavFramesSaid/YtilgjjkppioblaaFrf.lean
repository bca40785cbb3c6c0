/- Package frame: the stream is fed; the reference scans. -/
import Derived.Test.YtilgjjkppioblaaFrs
namespace Go.Proofs.Ytilgjjkppioblaa
open Go.RowKit

theorem cAdd_cAdd (d : Int) (n : Nat) (_h1 : d ≤ 1000000) : cAdd (cAdd d 1000000 1) 1000000 n = cAdd d 1000000 ((n + 1 : Nat) : Int) := by unfold cAdd; omega
theorem cAdd_zero (d m : Int) (h : d ≤ m) : cAdd d m 0 = d := by unfold cAdd; omega
theorem ext_all (s : ByteArray) : s.extract 0 s.size = s := by
  refine by_ext (by simp) fun i hi => ?_
  simp at hi
  rw [by_extract s 0 s.size i (by omega) (Nat.le_refl _), Nat.zero_add]
theorem str_ne (s : ByteArray) : (!s.toList.isEmpty) = !decide (s.size = 0) := by rw [str_empty]

set_option maxHeartbeats 2000000 in
theorem ffeed_any (w : World) (x c : Nat) (s t : ByteArray) (d : Int) (h : Strm w x c s d) (hd : 0 ≤ d) (hd1 : d ≤ 1000000) (hs : s.size + t.size ≤ 500000) :
    Calls Try.prog 20 #[.pointer (some ⟨x, 0, none⟩), .string t] w fun e w' => ∃ v, e = .returned v ∧ FRow w' w.heap.size 38 v (scan (s ++ t)).1 ∧
      Strm w' x c (scan (s ++ t)).2.1 (cAdd d 1000000 (scan (s ++ t)).2.2) ∧ Chg [x, c] w w' := by
  have hxl := h.at_.lt
  have hcl := h.ctr.lt
  have c0 := h.at_.cell 0
  have f0 := h.at_.frozen 0
  have hB : Strm (w.setCell ⟨x, 0, none⟩ (.string (s ++ t))) x c (s ++ t) d := ⟨h.at_.set 0 (.string (s ++ t)) rfl, At.other h.ctr ⟨x, 0, none⟩ (.string (s ++ t)) (Ne.symm h.ne), h.ne⟩
  have hX : Chg [x, c] w (w.setCell ⟨x, 0, none⟩ (.string (s ++ t))) := (Chg.refl [x, c] w).setCell (p := ⟨x, 0, none⟩) (by simp) _
  have hst : (s ++ t).size ≤ 500000 := by rw [ByteArray.size_append]; omega
  have Hw := Lib.hid (scan_wait (s ++ t).size (s ++ t) (Nat.le_refl _))
  obtain ⟨l0, hl0⟩ : ∃ l, (scan (s ++ t)).1 = l := ⟨_, rfl⟩
  obtain ⟨r0, hr0⟩ : ∃ l, (scan (s ++ t)).2.1 = l := ⟨_, rfl⟩
  obtain ⟨k0, hk0⟩ : ∃ l, cAdd d 1000000 (scan (s ++ t)).2.2 = l := ⟨_, rfl⟩
  have H1 := Lib.hid (show ([] : List FV) ++ (scan (s ++ t)).1 = l0 from hl0)
  have H2 := Lib.hid hr0
  have H3 := Lib.hid hk0
  rw [hl0, hr0, hk0]
  rw [hr0] at Hw
  clear hl0 hr0 hk0
  go_enter Try.func20, Try.ntmps20
  go_wp2_with fail
  clear c0 f0 h
  generalize w.setCell ⟨x, 0, none⟩ (.string (s ++ t)) = w1 at *
  generalize hz : w.heap.size = z at *
  generalize hu : s ++ t = u at *
  clear hu
  go_loopg [4] u.size (fun g v wr => ∃ (L : List FV) (s' : ByteArray) (d' : Int), s'.size ≤ g ∧ g ≤ 500000 ∧ L.length + s'.size ≤ 500000 ∧ FRow wr z 38 v L ∧ Strm wr x c s' d' ∧ 0 ≤ d' ∧ d' ≤ 1000000 ∧ Chg [x, c] w wr ∧
    Hid (L ++ (scan s').1 = l0) ∧ Hid ((scan s').2.1 = r0) ∧ Hid (cAdd d' 1000000 (scan s').2.2 = k0))
  case atStart => exact ⟨[], u, d, Nat.le_refl _, hst, by simpa using hst, FRow.nil _ _ _, hB, hd, hd1, hX, H1, H2, H3⟩
  case round =>
    obtain ⟨L, s', d', hg, hg5, hL5, hR, hS, d0, d1, hX', H1', H2', H3'⟩ := hrel
    have c0 := hS.at_.cell 0
    have f0 := hS.at_.frozen 0
    have hne := hS.ne
    by_cases hz0 : s'.size = 0
    · have he : s'.toList.isEmpty = true := by rw [str_empty]; simpa using hz0
      have hd := scan_none hz0
      go_wp2_with fail
      refine (fdrop_any _ x c s' d' 0 hS d0 d1 (by omega) (by omega)).mono ?_; rintro e w2 ⟨rfl, hS2, hX3⟩
      go_wp2
      go_returns
      refine ⟨_, rfl, ?_, ?_, hX'.trans hX3⟩
      · rw [← H1'.out, hd, List.append_nil, hz]
        exact hR.keep hX3 (by simp; omega)
      · rw [← H2'.out, ← H3'.out, hd]
        rw [ext_all, show ((0 : Nat) : Int) = 0 from rfl, cAdd_zero _ _ d1] at hS2
        show Strm _ x c s' (cAdd d' 1000000 0)
        rw [cAdd_zero _ _ d1]
        exact hS2
    · have he : s'.toList.isEmpty = false := by rw [str_empty]; simpa using hz0
      have hk := fread_kinds s'
      have HR := fun w => fread_any w s' (by unfold maxLen; omega)
      rcases hk with ⟨e1, e2, e3⟩ | ⟨e1, e2, e3⟩ | ⟨e1, e2, e3⟩ | ⟨e1, e2, e3⟩
      · rw [e1, e2, e3, none_cells] at HR
        go_wp2_with fail
        refine (HR _).mono ?_; rintro e w2 ⟨rfl, hX2⟩
        have hSa := (hS.keep hX2 (by simp) (by simp)).alloc (.cells #[.int .i64 0, .string ByteArray.empty] 38)
        have hRa := (hR.keep hX2 (by simp)).alloc (.cells #[.int .i64 0, .string ByteArray.empty] 38)
        have hXa := (hX'.trans (hX2.mono (by simp))).alloc (.cells #[.int .i64 0, .string ByteArray.empty] 38)
        clear c0 f0
        have hd := scan_drop hz0 (by rw [e1]; decide) (by rw [e1]; decide)
        clear e1 e2 e3
        go_wp2_with fail
        refine (fdrop_any _ x c s' d' 1 hSa d0 d1 (by omega) (by omega)).mono ?_; rintro e w3 ⟨rfl, hS3, hX3⟩
        go_wp2_with fail
        go_roundg (gk - 1)
        case rel =>
          have hcb := cAdd_bd d' 1000000 ((1 : Nat) : Int) d1
          exact ⟨L, _, _, by simp; omega, by omega, by simp; omega, hRa.keep hX3 (by simp; omega), hS3, Int.le_trans d0 hcb.1, hcb.2, hXa.trans hX3, Lib.hid (by rw [← H1'.out, hd]), Lib.hid (by rw [← H2'.out, hd]), Lib.hid (by rw [← H3'.out, hd]; exact cAdd_cAdd _ _ d1)⟩
        case measure => omega
      · have hd := scan_short e1
        have h70 := short_size e1
        rw [e1, e2, e3, none_cells] at HR
        clear e1 e2 e3
        go_wp2_with fail
        refine (HR _).mono ?_; rintro e w2 ⟨rfl, hX2⟩
        have hSa := (hS.keep hX2 (by simp) (by simp)).alloc (.cells #[.int .i64 0, .string ByteArray.empty] 38)
        have hRa := (hR.keep hX2 (by simp)).alloc (.cells #[.int .i64 0, .string ByteArray.empty] 38)
        have hXa := (hX'.trans (hX2.mono (by simp))).alloc (.cells #[.int .i64 0, .string ByteArray.empty] 38)
        clear c0 f0
        have c0 := hSa.at_.cell 0
        go_wp2_with fail
        refine (fdrop_any _ x c s' d' 0 hSa d0 d1 (by omega) (by omega)).mono ?_; rintro e w3 ⟨rfl, hS2, hX3⟩
        go_wp2
        go_returns
        refine ⟨_, rfl, ?_, ?_, hXa.trans hX3⟩
        · rw [← H1'.out, hd, List.append_nil, hz]
          exact hRa.keep hX3 (by simp; omega)
        · rw [← H2'.out, ← H3'.out, hd]
          rw [ext_all, show ((0 : Nat) : Int) = 0 from rfl, cAdd_zero _ _ d1] at hS2
          show Strm _ x c s' (cAdd d' 1000000 0)
          rw [cAdd_zero _ _ d1]
          exact hS2
      · rw [e1, e2, e3, none_cells] at HR
        go_wp2_with fail
        refine (HR _).mono ?_; rintro e w2 ⟨rfl, hX2⟩
        have hSa := (hS.keep hX2 (by simp) (by simp)).alloc (.cells #[.int .i64 0, .string ByteArray.empty] 38)
        have hRa := (hR.keep hX2 (by simp)).alloc (.cells #[.int .i64 0, .string ByteArray.empty] 38)
        have hXa := (hX'.trans (hX2.mono (by simp))).alloc (.cells #[.int .i64 0, .string ByteArray.empty] 38)
        clear c0 f0
        have hd := scan_drop hz0 (by rw [e1]; decide) (by rw [e1]; decide)
        clear e1 e2 e3
        go_wp2_with fail
        refine (fdrop_any _ x c s' d' 1 hSa d0 d1 (by omega) (by omega)).mono ?_; rintro e w3 ⟨rfl, hS3, hX3⟩
        go_wp2_with fail
        go_roundg (gk - 1)
        case rel =>
          have hcb := cAdd_bd d' 1000000 ((1 : Nat) : Int) d1
          exact ⟨L, _, _, by simp; omega, by omega, by simp; omega, hRa.keep hX3 (by simp; omega), hS3, Int.le_trans d0 hcb.1, hcb.2, hXa.trans hX3, Lib.hid (by rw [← H1'.out, hd]), Lib.hid (by rw [← H2'.out, hd]), Lib.hid (by rw [← H3'.out, hd]; exact cAdd_cAdd _ _ d1)⟩
        case measure => omega
      · have hd := scan_frame hz0 e1
        have hn := fread_len e1
        have hn6 : 6 ≤ 6 + lenF s' := by omega
        rw [e1, e2, e3] at HR
        clear e1 e2 e3
        generalize frmF s' = fv at *
        rw [show fv.cells = #[.int .i64 fv.k, .string fv.p] from rfl] at HR
        generalize 6 + lenF s' = n at *
        have S := fun w => slice_from w s' (i := (n : Int)) rfl hn.1
        go_wp2_with fail
        refine (HR _).mono ?_; rintro e w2 ⟨rfl, hX2⟩
        have hA := At.new w2 #[.int .i64 fv.k, .string fv.p] 38
        have hSa := (hS.keep hX2 (by simp) (by simp)).alloc (.cells #[.int .i64 fv.k, .string fv.p] 38)
        have hRa := (hR.keep hX2 (by simp)).alloc (.cells #[.int .i64 fv.k, .string fv.p] 38)
        have hXa := (hX'.trans (hX2.mono (by simp))).alloc (.cells #[.int .i64 fv.k, .string fv.p] 38)
        clear c0 f0
        have c0 := hSa.at_.cell 0
        have a0 := hA.cell 0
        have a1 := hA.cell 1
        have hN : At ((w2.alloc (.cells #[.int .i64 fv.k, .string fv.p] 38)).alloc (.cells #[.int .i64 fv.k, .string fv.p] 38)) (w2.heap.size + 1) fv.cells := by
          have h := At.new (w2.alloc (.cells #[.int .i64 fv.k, .string fv.p] 38)) fv.cells 38
          rw [show (w2.alloc (.cells #[.int .i64 fv.k, .string fv.p] 38)).heap.size = w2.heap.size + 1 by simp] at h
          exact h
        have hzw : z ≤ w2.heap.size := by have := hXa.size; have := hX2.size; have := hX'.size; omega
        go_wp2_with (at_builtin; refine wpList_fapp rfl (.tmp 38) (.tmp 40) und_fr info_fr rfl rfl (hRa.alloc _) rfl hN (by omega) (by simp; omega) ?_; intro v' w3 h1 h2; have hS3 : Strm w3 x c s' d' := ⟨FRow.far (hRa.alloc _) h2 (hSa.alloc _).at_ (by omega), FRow.far (hRa.alloc _) h2 (hSa.alloc _).ctr (by omega), hne⟩; have hX3 : Chg [x, c] w w3 := FRow.grown (hRa.alloc _) (hXa.alloc _) h2 (by omega); have g0 := hS3.at_.cell 0; have gf0 := hS3.at_.frozen 0)
        clear h2 c0 a0 a1
        go_roundg (gk - 1)
        case rel =>
          refine ⟨L ++ [fv], s'.extract n s'.size, d', by simp; omega, by omega, by simp; omega, h1.set (by simp; omega) _, ⟨hS3.at_.set 0 _ rfl, At.other hS3.ctr _ _ (Ne.symm hne), hne⟩, d0, d1, hX3.setCell (by simp) _, Lib.hid (by rw [← H1'.out, hd, List.append_assoc]; rfl), Lib.hid (by rw [← H2'.out, hd]), Lib.hid (by rw [← H3'.out, hd])⟩
        case measure => omega

end Go.Proofs.Ytilgjjkppioblaa
