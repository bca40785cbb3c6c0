/- Walk of the law FrameStream: whatever the pieces in which bytes come, the frames, what waits, and how many are dropped, are those of all bytes at once. -/
import Derived.Test.YtgdahhpenlbhoaaFA05
import Derived.Laws.AppendOwnNone
namespace Go.Proofs.Ytgdahhpenlbhoaa
open Go.RowKit

/-- The value v is a slice of these bytes. -/
structure USl (W : World) (v : Value) (M : List Int) : Prop where
  intro ::
  out : ∃ ad cap, v = .slice ad M.length cap ∧ M.length ≤ maxLen ∧ ∀ k s, M[k]? = some s → ∃ b off, ad = some ⟨b, off, none⟩ ∧ b < W.heap.size ∧ W.cell? ⟨b, off + k, none⟩ = some (.int .u8 s) ∧ 0 ≤ s ∧ s ≤ 255
theorem bytes_of {W : World} {v : Value} {l : List (Sh.int .u8).T} (h : (Sh.slice (.int .u8)).rep W l [v]) : ∃ M, USl W v M := by
  rcases h with ⟨rfl, a, cap, h⟩ | ⟨b, off, cap, h, h0, h1, h2, h3, h4⟩
  · exact ⟨[], ⟨a, cap, (List.cons.inj h).1, Nat.zero_le _, fun k f hk => by simp at hk⟩⟩
  · refine ⟨l, ⟨some ⟨b, off, none⟩, cap, (List.cons.inj h).1, by have : @List.length Int l ≤ cap := h1; omega, fun k s hs => ⟨b, off, rfl, h3, ?_⟩⟩⟩
    have hk : k < l.length := (List.getElem?_eq_some_iff.1 hs).1
    obtain ⟨cs, hl, hc, hr⟩ := h4 k hk
    have es : l.get ⟨k, hk⟩ = s := (List.getElem?_eq_some_iff.1 hs).2
    rw [es] at hr
    obtain ⟨rfl, hz⟩ := hr
    have g0 := hc 0 (by decide)
    rw [show (Sh.int .u8).sz = 1 from rfl, Nat.mul_one, Nat.add_zero] at g0
    have := bounds_u8 hz
    exact ⟨g0, this.1, by omega⟩
/-- A row of frames behind another one. -/
theorem wpList_fapps {ops : Array Oper} {rest : List Oper} {o : Oper} {a : Act} {Q : Exit → Act → World → Prop} {w : World} (hgd : o.guard = none) (s x : Operand) {t e : TypeId}
    (ht : Try.prog.underlying t = some (.slice e)) (hinfo : (Try.prog.info? e).map (fun i => (i.zero, i.size, i.bytes)) = some (some (.agg #[.int .i64 0, .string ByteArray.empty]), 2, 24))
    (ho : o.op = .call { callee := .builtin .append, args := #[s, x], argTypes := #[t, t] })
    {base base1 : Nat} {v v1 : Value} {L M : List FV} (hs : a.eval s = v) (hr : FRow w base e v L) (hx : a.eval x = v1) (hr1 : FRow w base1 e v1 M)
    (h63 : L.length + M.length ≤ 1000000) (hb : base ≤ w.heap.size)
    (h : ∀ v' w', FRow w' base e v' (L ++ M) → w.grownBy w' v.ownBlock → wpList Try.prog ops Q rest (a.put o.dst v') w') : wpList Try.prog ops Q (o :: rest) a w := by
  obtain ⟨i, hi, hz, hz1, hz2⟩ := info_parts hinfo
  by_cases h0 : 0 < M.length
  · obtain ⟨g, cap, rfl⟩ := Joins.ownsRow_form hr1 h0
    refine wpList_append_own w hgd s x t ho base e i (.agg #[.int .i64 0, .string ByteArray.empty]) 2 24 ht hi hz hz1 hz2 rfl (by decide) v L.length (fcells L) hs hr ⟨g, 0, none⟩ M.length cap (fcells M) hx (fcells_len M) ?_ ?_ (by unfold maxLen; omega) (by omega) hb ?_
    · intro j u hu
      have hadd : (⟨g, 0, none⟩ : Addr).add j = ⟨g, j, none⟩ := by unfold Addr.add; split <;> simp_all
      have hj : j < M.length * 2 := by have := (List.getElem?_eq_some_iff.1 hu).1; rw [fcells_len] at this; exact this
      rw [hadd, World.ownsRow.cellAt hr1 j hj]
      exact hu
    · intro u hu
      unfold fcells at hu
      simp only [List.mem_flatMap, List.mem_cons, List.not_mem_nil, or_false] at hu
      obtain ⟨f, -, rfl | rfl⟩ := hu <;> rfl
    · intro v' w' h1 h2 _
      refine h v' w' ?_ h2
      unfold FRow
      rw [List.length_append, fcells_app]
      exact h1
  · have hM : M = [] := by cases M with
      | nil => rfl
      | cons f l => simp at h0
    subst hM
    rcases Joins.ownsRow_forms hr1 with ⟨rfl, -⟩ | ⟨g, cap, rfl⟩
    · refine wpList_append_own_none hgd s x t ho base e i 2 ht hi v L.length (fcells L) hs hr hx ?_
      refine h v w ?_ ⟨rfl, rfl, rfl, Nat.le_refl _, fun _ _ _ => rfl⟩
      rw [List.append_nil]
      exact hr
    · refine wpList_append_own w hgd s x t ho base e i (.agg #[.int .i64 0, .string ByteArray.empty]) 2 24 ht hi hz hz1 hz2 rfl (by decide) v L.length (fcells L) hs hr ⟨g, 0, none⟩ 0 cap [] hx rfl (by simp) (by simp) (by unfold maxLen; omega) (by omega) hb ?_
      intro v' w' h1 h2 _
      refine h v' w' ?_ h2
      rw [List.append_nil]
      rw [List.append_nil] at h1
      exact h1
theorem min_piece (s : ByteArray) (c : Int) (h0 : 0 ≤ c) : ∃ k : Nat, min c (s.size : Int) = k ∧ k ≤ s.size := ⟨(min c (s.size : Int)).toNat, by omega, by omega⟩
theorem cut_at (s : ByteArray) (k : Nat) (h : k ≤ s.size) : s.extract 0 k ++ s.extract k s.size = s := by rw [ext_app s 0 k s.size (by omega) h (Nat.le_refl _), ext_all]

theorem len_flen (L : List FV) : L.length ≤ flen L := by
  induction L with
  | nil => exact Nat.le_refl _
  | cons f l ih => unfold flen at *; rw [List.map_cons, List.sum_cons, List.length_cons]; omega
theorem grown_below {B : Nat} {W w w' : World} {e : TypeId} {v : Value} {L : List FV} (h : Below W.heap.size W w) (hr : FRow w B e v L) (g : w.grownBy w' v.ownBlock) (hb : W.heap.size ≤ B) : Below W.heap.size W w' :=
  ⟨g.os.trans h.os, g.tape.trans h.tape, g.output.trans h.output, Nat.le_trans h.size g.size,
    fun k hk => (g.block k (Nat.lt_of_lt_of_le hk h.size) (fun e => by have := (World.ownsRow.lt hr k e.symm).1; omega)).trans (h.block k hk)⟩
structure C6 (W : World) (g1 g2 i : Nat) (f : FV) (k : Nat) (w : World) : Prop where
  a0 : w.cell? ⟨g1, i, none⟩ = some (.int .i64 f.k)
  a1 : w.cell? ⟨g1, i + 1, none⟩ = some (.string f.p)
  b0 : w.cell? ⟨g2, i, none⟩ = some (.int .i64 f.k)
  b1 : w.cell? ⟨g2, i + 1, none⟩ = some (.string f.p)
  x : Chg [] W w
theorem C6.step {W : World} {g1 g2 i : Nat} {f : FV} {k j : Nat} {w w' : World} (h : C6 W g1 g2 i f k w) (hX : Chg [] w w') : C6 W g1 g2 i f j w' :=
  ⟨hX.cell h.a0 (by simp), hX.cell h.a1 (by simp), hX.cell h.b0 (by simp), hX.cell h.b1 (by simp), h.x.trans hX⟩

set_option maxRecDepth 100000 in
set_option maxHeartbeats 1000000 in
theorem FrameStream_walk (W : World) (s : ByteArray) (hs : s.size ≤ maxLen) (v : Value) (l : List (Sh.int .u8).T) (h : (Sh.slice (.int .u8)).rep W l [v]) :
    Calls Try.prog 5 #[.string s, v] W fun e w' => e = .returned (.bool true) ∧ Below W.heap.size W w' := by
  obtain ⟨M, hM⟩ := bytes_of h
  clear h
  obtain ⟨ad, cap, rfl, hlen, hcell⟩ := hM.out
  unfold maxLen at hlen hs
  clear hM
  go_enter Try.func5, Try.ntmps5
  go_wp2_with fail
  refine (awake05 _).mono ?_; rintro e w1 ⟨rfl, hX⟩
  by_cases hb1 : 900 < s.size
  · go_wp2_with fail
    refine (awake05 _).mono ?_; rintro e w2 ⟨rfl, hX2⟩
    go_wp2
    go_returns
    exact ⟨rfl, Chg.to_below (hX.trans hX2)⟩
  by_cases hb2 : 200 < M.length
  · go_wp2_with fail
    refine (awake05 _).mono ?_; rintro e w2 ⟨rfl, hX2⟩
    go_wp2
    go_returns
    exact ⟨rfl, Chg.to_below (hX.trans hX2)⟩
  go_wp2_with fail
  have hB := Chg.to_below hX
  clear hX
  refine (fnew_any _).mono ?_; rintro e w2 ⟨x, c, rfl, hx, hc, hS, hX1⟩
  have hBx := Chg.below hB hX1 hB.size (by simp)
  have hxW : W.heap.size ≤ x := by have := hB.size; omega
  have hcW : W.heap.size ≤ c := by have := hB.size; omega
  have hxb := hS.at_.lt
  have hcb := hS.ctr.lt
  obtain ⟨B, hBe⟩ : ∃ B, w2.heap.size = B := ⟨_, rfl⟩
  rw [hBe] at hxb hcb
  have hWB : W.heap.size ≤ B := by omega
  have hB2 : B ≤ w2.heap.size := by omega
  clear hX1 hx hc hB hBe
  have H1 := Lib.hid (show [] ++ (scan (ByteArray.empty ++ s)).1 = (scan s).1 by rw [empty_app]; rfl)
  have H2 := Lib.hid (show (scan (ByteArray.empty ++ s)).2.1 = (scan s).2.1 by rw [empty_app])
  have H3 := Lib.hid (show 0 + (scan (ByteArray.empty ++ s)).2.2 = (scan s).2.2 by rw [empty_app]; omega)
  go_wp2_with fail
  go_loopg [6, 7, 32] M.length (fun g av rv i wr => ∃ (k : Nat) (L : List FV) (r wt : ByteArray) (d : Nat), k + g = M.length ∧ i = .int .i64 k ∧ rv = .string r ∧ FRow wr B 23 av L ∧ Strm wr x c wt (d : Int) ∧ Below W.heap.size W wr ∧ B ≤ wr.heap.size ∧ L.length + d + wt.size + r.size ≤ 900 ∧
    Hid (L ++ (scan (wt ++ r)).1 = (scan s).1) ∧ Hid ((scan (wt ++ r)).2.1 = (scan s).2.1) ∧ Hid (d + (scan (wt ++ r)).2.2 = (scan s).2.2))
  case atStart => exact ⟨0, [], s, ByteArray.empty, 0, by omega, rfl, rfl, FRow.nil _ _ _, hS, hBx, hB2, by show 0 + 0 + 0 + s.size ≤ 900; omega, H1, H2, H3⟩
  case round =>
    obtain ⟨k, L, r, wt, d, hk, rfl, rfl, hR, hSr, hBr, hBz, hsum, H1', H2', H3'⟩ := hrel
    by_cases hlt : k < M.length
    · obtain ⟨u, hu⟩ : ∃ u, M[k]? = some u := ⟨_, List.getElem?_eq_getElem hlt⟩
      obtain ⟨b, off, rfl, hb, c0, u0, u1⟩ := hcell k u hu
      replace c0 := (hBr.cell (p := ⟨b, off + k, none⟩) hb).trans c0
      have Hk := Lib.hid hk
      clear hcell hk hu
      by_cases hu2 : u ≤ r.size
      · have hPs : (r.extract 0 u.toNat).size + (r.extract u.toNat r.size).size = r.size := by rw [size_ext r 0 u.toNat (Nat.zero_le _) (by omega), size_ext r u.toNat r.size (by omega) (Nat.le_refl _)]; omega
        have hPQ : r.extract 0 u.toNat ++ r.extract u.toNat r.size = r := cut_at r _ (by omega)
        go_wp2_with fail
        have HH := ffeed_any wr x c wt (r.extract 0 u.toNat) d hSr (by omega) (by omega) (by omega)
        refine HH.mono ?_; clear HH; rintro e w6 ⟨v1, rfl, hF1, hS1, hX1⟩
        obtain ⟨hall, -⟩ := scan_all (wt ++ (r.extract 0 u.toNat)).size (wt ++ (r.extract 0 u.toNat)) (Nat.le_refl _)
        have hln := scan_len (wt ++ (r.extract 0 u.toNat))
        have hfl : (scan (wt ++ (r.extract 0 u.toNat))).1.length ≤ flen (scan (wt ++ (r.extract 0 u.toNat))).1 := len_flen _
        have hmore := scan_more (wt ++ (r.extract 0 u.toNat)) (r.extract u.toNat r.size)
        rw [ByteArray.append_assoc, hPQ] at hmore
        rw [ByteArray.size_append] at hall hln
        have H1n := Lib.hid ((congrArg (fun q : List FV × ByteArray × Nat => L ++ q.1) hmore).symm.trans H1'.out)
        have H2n := Lib.hid ((congrArg (fun q : List FV × ByteArray × Nat => q.2.1) hmore).symm.trans H2'.out)
        have H3n := Lib.hid ((congrArg (fun q : List FV × ByteArray × Nat => d + q.2.2) hmore).symm.trans H3'.out)
        clear hmore
        have hcd : cAdd (d : Int) 1000000 (((scan (wt ++ (r.extract 0 u.toNat))).2.2 : Nat) : Int) = ((d + (scan (wt ++ (r.extract 0 u.toNat))).2.2 : Nat) : Int) := by unfold cAdd; omega
        rw [hcd] at hS1
        clear hcd
        have hB6 := Chg.below hBr hX1 hBr.size (by simp; omega)
        have hR6 := hR.keep hX1 (by simp; omega)
        have hB6z : B ≤ w6.heap.size := by have := hX1.size; omega
        generalize scan (wt ++ (r.extract 0 u.toNat)) = q at *
        obtain ⟨L1, wt1, d1⟩ := q
        simp only at hall hln hfl hF1 hS1
        clear hX1 hR hSr c0
        go_wp2_with (at_builtin; refine wpList_fapps rfl (.tmp 41) (.tmp 46) und_fr info_fr rfl rfl hR6 rfl hF1 (by omega) hB6z ?_; intro v' w7 h1 h2; have hS7 : Strm w7 x c wt1 ((d + d1 : Nat) : Int) := ⟨FRow.far hR6 h2 hS1.at_ hxb, FRow.far hR6 h2 hS1.ctr hcb, hS1.ne⟩; have hB7 : Below W.heap.size W w7 := grown_below hB6 hR6 h2 hWB)
        go_roundg (gk - 1)
        case rel =>
          have hk := Hk.out
          exact ⟨k + 1, L ++ L1, (r.extract u.toNat r.size), wt1, d + d1, by omega, by go_num, rfl, h1, hS7, hB7, Nat.le_trans hB6z h2.size, by rw [List.length_append]; omega, Lib.hid (by rw [List.append_assoc]; exact H1n.out), Lib.hid H2n.out, Lib.hid (by rw [Nat.add_assoc]; exact H3n.out)⟩
        case measure => have hk := Hk.out; omega
      · have hPs : r.size + ByteArray.empty.size = r.size := rfl
        have hPQ : r ++ ByteArray.empty = r := app_empty r
        go_wp2_with fail
        have HH := ffeed_any wr x c wt r d hSr (by omega) (by omega) (by omega)
        refine HH.mono ?_; clear HH; rintro e w6 ⟨v1, rfl, hF1, hS1, hX1⟩
        obtain ⟨hall, -⟩ := scan_all (wt ++ r).size (wt ++ r) (Nat.le_refl _)
        have hln := scan_len (wt ++ r)
        have hfl : (scan (wt ++ r)).1.length ≤ flen (scan (wt ++ r)).1 := len_flen _
        have hmore := scan_more (wt ++ r) ByteArray.empty
        rw [ByteArray.append_assoc, hPQ] at hmore
        rw [ByteArray.size_append] at hall hln
        have H1n := Lib.hid ((congrArg (fun q : List FV × ByteArray × Nat => L ++ q.1) hmore).symm.trans H1'.out)
        have H2n := Lib.hid ((congrArg (fun q : List FV × ByteArray × Nat => q.2.1) hmore).symm.trans H2'.out)
        have H3n := Lib.hid ((congrArg (fun q : List FV × ByteArray × Nat => d + q.2.2) hmore).symm.trans H3'.out)
        clear hmore
        have hcd : cAdd (d : Int) 1000000 (((scan (wt ++ r)).2.2 : Nat) : Int) = ((d + (scan (wt ++ r)).2.2 : Nat) : Int) := by unfold cAdd; omega
        rw [hcd] at hS1
        clear hcd
        have hB6 := Chg.below hBr hX1 hBr.size (by simp; omega)
        have hR6 := hR.keep hX1 (by simp; omega)
        have hB6z : B ≤ w6.heap.size := by have := hX1.size; omega
        generalize scan (wt ++ r) = q at *
        obtain ⟨L1, wt1, d1⟩ := q
        simp only at hall hln hfl hF1 hS1
        clear hX1 hR hSr c0
        go_wp2_with (at_builtin; refine wpList_fapps rfl (.tmp 41) (.tmp 46) und_fr info_fr rfl rfl hR6 rfl hF1 (by omega) hB6z ?_; intro v' w7 h1 h2; have hS7 : Strm w7 x c wt1 ((d + d1 : Nat) : Int) := ⟨FRow.far hR6 h2 hS1.at_ hxb, FRow.far hR6 h2 hS1.ctr hcb, hS1.ne⟩; have hB7 : Below W.heap.size W w7 := grown_below hB6 hR6 h2 hWB)
        go_roundg (gk - 1)
        case rel =>
          have hk := Hk.out
          exact ⟨k + 1, L ++ L1, ByteArray.empty, wt1, d + d1, by omega, by go_num, rfl, h1, hS7, hB7, Nat.le_trans hB6z h2.size, by rw [List.length_append]; omega, Lib.hid (by rw [List.append_assoc]; exact H1n.out), Lib.hid H2n.out, Lib.hid (by rw [Nat.add_assoc]; exact H3n.out)⟩
        case measure => have hk := Hk.out; omega
    · clear hcell
      go_wp2_with fail
      have HH := ffeed_any wr x c wt r d hSr (by omega) (by omega) (by omega)
      refine HH.mono ?_; clear HH; rintro e w6 ⟨v1, rfl, hF1, hS1, hX1⟩
      have hln := scan_len (wt ++ r)
      rw [ByteArray.size_append] at hln
      have hcd : cAdd (d : Int) 1000000 (((scan (wt ++ r)).2.2 : Nat) : Int) = ((d + (scan (wt ++ r)).2.2 : Nat) : Int) := by unfold cAdd; omega
      rw [hcd, H2'.out, H3'.out] at hS1
      have hLl := congrArg List.length H1'.out
      rw [List.length_append] at hLl
      have hB6 := Chg.below hBr hX1 hBr.size (by simp; omega)
      have hR6 := hR.keep hX1 (by simp; omega)
      have hB6z : B ≤ w6.heap.size := by have := hX1.size; omega
      clear hcd hX1 hR hSr hBr
      have h1e := H1'.out
      clear H1' H2' H3' H1 H2 H3
      go_wp2_with (at_builtin; refine wpList_fapps rfl (.tmp 52) (.tmp 55) und_fr info_fr rfl rfl hR6 rfl hF1 (by omega) hB6z ?_; intro v' w7 h1 h2; have hS7 : Strm w7 x c (scan s).2.1 (((scan s).2.2 : Nat) : Int) := ⟨FRow.far hR6 h2 hS1.at_ hxb, FRow.far hR6 h2 hS1.ctr hcb, hS1.ne⟩; have hB7 : Below W.heap.size W w7 := grown_below hB6 hR6 h2 hWB)
      rw [h1e] at h1
      clear h2 hR6 hF1 hS1 hB6
      refine (fscan_any w7 s (by omega)).mono ?_; rintro e w8 ⟨v2, rfl, hF2, hX2⟩
      have hS8 := hS7.keep hX2 (by simp) (by simp)
      have hR8 := h1.keep hX2 (by simp)
      have hB8 := Chg.below hB7 hX2 hB7.size (by simp)
      have hl9 := scan_len s
      clear hX2 hS7 h1 hB7 hLl h1e
      obtain ⟨ad1, cap1, rfl, hc1⟩ := hR8.at
      obtain ⟨ad2, cap2, rfl, hc2⟩ := hF2.at
      clear hR8 hF2
      generalize (scan s).1 = T at *
      generalize (scan s).2.1 = wt2 at *
      generalize (scan s).2.2 = dd at *
      have hT9 : T.length ≤ 900 := by omega
      have hd9 : dd ≤ 900 := by omega
      go_wp2_with (first
        | (go_at_call 20; (with_reducible refine (fleft_any _ x c _ _ hS8).mono ?_); rintro e w' ⟨rfl, rfl⟩)
        | (go_at_call 21; (with_reducible refine (fdropped_any _ x c _ _ hS8).mono ?_); rintro e w' ⟨rfl, rfl⟩))
      go_loopg [83] T.length (fun g i wr => ∃ k : Nat, k + g = T.length ∧ i = .int .i64 k ∧ Chg [] w8 wr)
      case atStart => exact ⟨0, by omega, rfl, Chg.refl _ _⟩
      case round =>
        obtain ⟨i, hi, rfl, hXr⟩ := hrel
        by_cases hlt : i < T.length
        · obtain ⟨f, hf⟩ : ∃ f, T[i]? = some f := ⟨_, List.getElem?_eq_getElem hlt⟩
          obtain ⟨g1, rfl, -, -, a0, a1⟩ := hc1 i f hf
          obtain ⟨g2, rfl, -, -, b0, b1⟩ := hc2 i f hf
          have Hi := Lib.hid hi
          have HL : ∀ w, Calls Try.prog 12 #[.agg #[.int .i64 f.k, .string f.p]] w fun e w' => e = .returned (.agg #[.int .i64 f.k, .string f.p]) ∧ Chg [] w w' := fun w => flike_any w f
          have hC0 : C6 w8 g1 g2 (i * 2) f 0 wr.drew := ⟨hXr.drew.cell a0 (by simp), hXr.drew.cell a1 (by simp), hXr.drew.cell b0 (by simp), hXr.drew.cell b1 (by simp), hXr.drew⟩
          clear hc1 hc2 hi hf a0 a1 b0 b1
          go_wp2_with fail
          refine wp_region_stage (C6 w8 g1 g2 (i * 2) f) [4] [(0, 0, false), (0, 0, false), (0, 0, false), (0, 0, false), (0, 0, true), (0, 1, false), (0, 1, false), (0, 1, false), (0, 1, false), (1, 1, false)]
            (by kernel_rfl) (by kernel_rfl) (by kernel_rfl) (hC0) ?_
          simp only [List.zip_cons_cons, List.zip_nil_right]
          refine wpStage_yes (by go_simp) ?_
          intro K hK
          apply Exists.intro
          refine ⟨fun kk wz hk1 hk2 hC => ?_, ?_⟩
          · go_simp
            with_reducible exact rfl
          go_simp
          refine hK _ ?_
          clear hK K
          refine wpStage_yes (by go_simp) ?_
          intro K hK
          apply Exists.intro
          refine ⟨fun kk wz hk1 hk2 hC => ?_, ?_⟩
          · go_simp
            with_reducible exact rfl
          go_simp
          refine hK _ ?_
          clear hK K
          refine wpStage_yes (by go_simp) ?_
          intro K hK
          apply Exists.intro
          refine ⟨fun kk wz hk1 hk2 hC => ?_, ?_⟩
          · go_simp
            with_reducible exact rfl
          go_simp
          refine hK _ ?_
          clear hK K
          refine wpStage_yes (by go_simp) ?_
          intro K hK
          apply Exists.intro
          refine ⟨fun kk wz hk1 hk2 hC => ?_, ?_⟩
          · have a0 := hC.a0; have a1 := hC.a1
            go_simp
            with_reducible exact rfl
          go_simp
          refine hK _ ?_
          clear hK K
          refine wpStage_yes (by go_simp) ?_
          intro K hK
          apply Exists.intro
          refine ⟨fun kk wz hk1 hk2 hC => ?_, ?_⟩
          · go_simp
            go_at_call 12; refine (HL _).mono ?_; rintro e w' ⟨rfl, hX⟩
            exact ⟨rfl, hC.step hX⟩
          go_simp
          refine hK _ ?_
          clear hK K
          refine wpStage_yes (by go_simp) ?_
          intro K hK
          apply Exists.intro
          refine ⟨fun kk wz hk1 hk2 hC => ?_, ?_⟩
          · go_simp
            with_reducible exact rfl
          go_simp
          refine hK _ ?_
          clear hK K
          refine wpStage_yes (by go_simp) ?_
          intro K hK
          apply Exists.intro
          refine ⟨fun kk wz hk1 hk2 hC => ?_, ?_⟩
          · go_simp
            with_reducible exact rfl
          go_simp
          refine hK _ ?_
          clear hK K
          refine wpStage_yes (by go_simp) ?_
          intro K hK
          apply Exists.intro
          refine ⟨fun kk wz hk1 hk2 hC => ?_, ?_⟩
          · go_simp
            with_reducible exact rfl
          go_simp
          refine hK _ ?_
          clear hK K
          refine wpStage_yes (by go_simp) ?_
          intro K hK
          apply Exists.intro
          refine ⟨fun kk wz hk1 hk2 hC => ?_, ?_⟩
          · have b0 := hC.b0; have b1 := hC.b1
            go_simp
            with_reducible exact rfl
          go_simp
          refine hK _ ?_
          clear hK K
          refine wpStage_yes (by go_simp) ?_
          intro K hK
          apply Exists.intro
          refine ⟨fun kk wz hk1 hk2 hC => ?_, ?_⟩
          · go_simp
            with_reducible exact rfl
          go_simp
          refine hK _ ?_
          clear hK K
          refine wpStage_nil (fun wz hC => ?_)
          clear hC0
          go_wp2_with fail
          go_roundg (gk - 1)
          case rel => have hi := Hi.out; exact ⟨i + 1, by omega, by go_num, hC.x⟩
          case measure => have hi := Hi.out; omega
        · go_wp2
          go_returns
          exact ⟨rfl, Chg.below hB8 hXr hB8.size (by simp)⟩
end Go.Proofs.Ytgdahhpenlbhoaa
