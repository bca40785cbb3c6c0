/- Walk of the law FrameCounts: all bytes that came are in frames that were told, were dropped, or wait; never do more wait than may. -/
import Derived.Test.YtgdahhpenlbhoaaFA05
namespace Go.Proofs.Ytgdahhpenlbhoaa
open Go.RowKit

/-- The value v is a slice of these strings. -/
structure SSl (W : World) (v : Value) (M : List ByteArray) : Prop where
  intro ::
  out : ∃ ad cap, v = .slice ad M.length cap ∧ M.length ≤ maxLen ∧ ∀ k s, M[k]? = some s → ∃ b off, ad = some ⟨b, off, none⟩ ∧ b < W.heap.size ∧ W.cell? ⟨b, off + k, none⟩ = some (.string s) ∧ s.size ≤ maxLen
theorem strings_of {W : World} {v : Value} {l : List Sh.str.T} (h : (Sh.slice .str).rep W l [v]) : ∃ M, SSl W v M := by
  rcases h with ⟨rfl, a, cap, h⟩ | ⟨b, off, cap, h, h0, h1, h2, h3, h4⟩
  · exact ⟨[], ⟨a, cap, (List.cons.inj h).1, Nat.zero_le _, fun k f hk => by simp at hk⟩⟩
  · refine ⟨l, ⟨some ⟨b, off, none⟩, cap, (List.cons.inj h).1, by have : @List.length ByteArray l ≤ cap := h1; omega, fun k s hs => ⟨b, off, rfl, h3, ?_⟩⟩⟩
    have hk : k < l.length := (List.getElem?_eq_some_iff.1 hs).1
    obtain ⟨cs, hl, hc, hr⟩ := h4 k hk
    have es : l.get ⟨k, hk⟩ = s := (List.getElem?_eq_some_iff.1 hs).2
    rw [es] at hr
    obtain ⟨rfl, hz⟩ := hr
    have g0 := hc 0 (by decide)
    rw [show Sh.str.sz = 1 from rfl, Nat.mul_one, Nat.add_zero] at g0
    exact ⟨g0, hz⟩
theorem flen_take (L : List FV) (j : Nat) (f : FV) (h : L[j]? = some f) : flen (L.take (j + 1)) = flen (L.take j) + (f.p.size + 6) := by
  rw [List.take_add_one, h, flen_app]
  simp [flen]

set_option maxRecDepth 100000 in
set_option maxHeartbeats 4000000 in
theorem FrameCounts_walk (W : World) (v : Value) (l : List Sh.str.T) (h : (Sh.slice .str).rep W l [v]) :
    Calls Try.prog 8 #[v] W fun e w' => e = .returned (.bool true) ∧ Below W.heap.size W w' := by
  obtain ⟨M, hM⟩ := strings_of h
  clear h
  obtain ⟨ad, cap, rfl, hlen, hcell⟩ := hM.out
  unfold maxLen at hlen
  clear hM
  go_enter Try.func8, Try.ntmps8
  go_wp2_with fail
  refine (awake05 _).mono ?_; rintro e w1 ⟨rfl, hX⟩
  by_cases hb2 : 60 < M.length
  · go_wp2_with fail
    refine (awake05 _).mono ?_; rintro e w2 ⟨rfl, hX2⟩
    go_wp2
    go_returns
    exact ⟨rfl, Chg.to_below (hX.trans hX2)⟩
  go_wp2_with fail
  have hB := Chg.to_below hX
  clear hX
  refine (fnew_any _).mono ?_; rintro e w2 ⟨x, c, rfl, hx, hc, hS, hX1⟩
  have hBx := Chg.below hB hX1 hB.size (by simp)
  have hxW : W.heap.size ≤ x := by have := hB.size; omega
  have hcW : W.heap.size ≤ c := by have := hB.size; omega
  clear hX1 hx hc hB
  go_wp2_with fail
  go_loopg [4, 5, 22] M.length (fun g cv tv i wr => ∃ (k came told : Nat) (d : Nat) (s : ByteArray), k + g = M.length ∧ i = .int .i64 k ∧ cv = .int .i64 came ∧ tv = .int .i64 told ∧ came ≤ 400 * k ∧ came = told + d + s.size ∧ Below W.heap.size W wr ∧ Strm wr x c s (d : Int) ∧ s.size < 70)
  case atStart => exact ⟨0, 0, 0, 0, ByteArray.empty, by omega, rfl, rfl, rfl, by omega, rfl, hBx, hS, by decide⟩
  case round =>
    obtain ⟨k, came, told, d, s, hk, rfl, rfl, rfl, hc4, hcm, hBr, hSr, hs70⟩ := hrel
    have Hcm := Lib.hid hcm
    have hdb : d + told ≤ 24000 := by have : k ≤ 60 ∨ 60 < k := by omega
                                      omega
    clear hcm
    by_cases hlt : k < M.length
    · obtain ⟨t, ht⟩ : ∃ t, M[k]? = some t := ⟨_, List.getElem?_eq_getElem hlt⟩
      obtain ⟨b, off, rfl, hb, c0, hp⟩ := hcell k t ht
      unfold maxLen at hp
      replace c0 := (hBr.cell (p := ⟨b, off + k, none⟩) hb).trans c0
      have Hk := Lib.hid hk
      clear hcell hk ht
      by_cases h4 : 400 < t.size
      · go_wp2
        go_returns
        exact ⟨rfl, hBr⟩
      have hcb : came + t.size ≤ 400 * (k + 1) := by omega
      have hcb2 : came + t.size ≤ 24400 := by omega
      go_wp2_with fail
      refine (ffeed_any _ x c s t d hSr (by omega) (by omega) (by omega)).mono ?_; rintro e w6 ⟨v1, rfl, hF1, hS1, hX1⟩
      have hall := scan_all (s ++ t).size (s ++ t) (Nat.le_refl _)
      have hw70 := wait_size (s ++ t)
      have hln := scan_len (s ++ t)
      obtain ⟨hsum, hright⟩ := hall
      rw [ByteArray.size_append] at hsum hln
      rw [show cAdd (d : Int) 1000000 (((scan (s ++ t)).2.2 : Nat) : Int) = ((d + (scan (s ++ t)).2.2 : Nat) : Int) by unfold cAdd; omega] at hS1
      have hB2 := Chg.below hBr hX1 hBr.size (by simp; omega)
      obtain ⟨ad2, cap2, rfl, hcell2⟩ := hF1.at
      clear hF1 hSr hX1 c0
      generalize (scan (s ++ t)).1 = L at *
      generalize (scan (s ++ t)).2.1 = s2 at *
      generalize (scan (s ++ t)).2.2 = d2 at *
      have hL5 : L.length ≤ 500 := by omega
      generalize gk = gout at *
      go_wp2_with fail
      go_loopg [5, 37] L.length (fun g tv i wr => ∃ (j told2 : Nat), j + g = L.length ∧ i = .int .i64 j ∧ tv = .int .i64 told2 ∧ told2 = told + flen (L.take j) ∧ Chg [] w6 wr)
      case atStart => exact ⟨0, told, by omega, rfl, rfl, by simp [flen], Chg.refl _ _⟩
      case round =>
        obtain ⟨j, told2, hj, rfl, rfl, htd, hXr⟩ := hrel
        have hfl : flen L = flen (L.take j) + flen (L.drop j) := by rw [← flen_app, List.take_append_drop]
        by_cases hlt2 : j < L.length
        · obtain ⟨f, hf⟩ : ∃ f, L[j]? = some f := ⟨_, List.getElem?_eq_getElem hlt2⟩
          obtain ⟨g, rfl, hg0, hg1, d0, d1⟩ := hcell2 j f hf
          replace d0 := hXr.cell d0 (by simp)
          replace d1 := hXr.cell d1 (by simp)
          have hrt := hright f (List.mem_of_getElem? hf)
          have h64 := (f.right_iff.1 hrt).2.2
          have hft := flen_take L j f hf
          have HU : ∀ w, Calls Try.prog 15 #[.agg #[.int .i64 f.k, .string f.p]] w fun e w' => e = .returned (.bool true) ∧ Chg [] w w' := fun w => by
            have := fright_any w f
            rw [hrt] at this
            exact this
          have Hj := Lib.hid hj
          have ht5 : told2 ≤ 25000 := by omega
          have hA := At.new wr #[.int .i64 f.k, .string f.p] 23
          have hXa := hXr.alloc (.cells #[.int .i64 f.k, .string f.p] 23)
          have a0 := hA.cell 0
          have a1 := hA.cell 1
          have Htd := Lib.hid htd
          have Hft := Lib.hid hft
          clear hcell2 hj hright hf hrt hfl htd hft
          go_wp2_with fail
          refine (HU _).mono ?_; rintro e w7 ⟨rfl, hX1⟩
          clear a0 a1 d0 d1
          go_wp2_with fail
          go_roundg (gk - 1)
          case rel => have hj := Hj.out; exact ⟨j + 1, told2 + (f.p.size + 6), by omega, by go_num, by go_num, by have h1 := Htd.out; have h2 := Hft.out; omega, hXa.trans hX1⟩
          case measure => have hj := Hj.out; omega
        · obtain rfl : j = L.length := by omega
          rw [List.take_length] at htd
          have hB3 := Chg.below hB2 hXr hB2.size (by simp)
          have hS3 := hS1.keep hXr (by simp) (by simp)
          have hfin : came + t.size = told2 + (d + d2) + s2.size := by have := Hcm.out; omega
          have hfin2 : ((came : Int) + t.size) = (told2 : Int) + ((d + d2 : Nat) : Int) + s2.size := by omega
          have hs2z : (s2.size : Int) ≤ 1024 := by omega
          have ht5 : told2 ≤ 25000 := by omega
          have hd5 : d + d2 ≤ 25000 := by omega
          have Hfin := Lib.hid hfin
          clear hcell2 hright hfin htd hsum hfl
          go_wp2_with (first
            | (go_at_call 20; (with_reducible refine (fleft_any _ x c _ _ hS3).mono ?_); rintro e w' ⟨rfl, rfl⟩)
            | (go_at_call 21; (with_reducible refine (fdropped_any _ x c _ _ hS3).mono ?_); rintro e w' ⟨rfl, rfl⟩))
          go_roundg (gout - 1)
          case rel =>
            have hk := Hk.out
            exact ⟨k + 1, came + t.size, told2, d + d2, s2, by omega, by go_num, by go_num, rfl, hcb, by have := Hfin.out; omega, hB3, hS3, hw70⟩
          case measure => have hk := Hk.out; omega
    · go_wp2_with (first
        | (go_at_call 18; (with_reducible refine (ffeed_nil _ _).mono ?_); rintro e w' ⟨rfl, rfl⟩)
        | (go_at_call 20; (with_reducible refine (fleft_nil _).mono ?_); rintro e w' ⟨rfl, rfl⟩)
        | (go_at_call 21; (with_reducible refine (fdropped_nil _).mono ?_); rintro e w' ⟨rfl, rfl⟩))
      go_returns
      exact ⟨rfl, hBr⟩
end Go.Proofs.Ytgdahhpenlbhoaa
