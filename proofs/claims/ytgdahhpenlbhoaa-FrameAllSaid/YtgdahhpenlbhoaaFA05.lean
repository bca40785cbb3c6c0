/- Walk of the law FrameAll: frames one behind the other, without noise, are all told, in order; nothing waits, and nothing is dropped. -/
import Derived.Test.YtgdahhpenlbhoaaFP05
import Derived.LoopTactic
import Derived.Deep.LoopGhost
namespace Go.Proofs.Ytgdahhpenlbhoaa
open Go.RowKit

/-- The value v is a slice of these frames. -/
structure FSl (W : World) (v : Value) (M : List FV) : Prop where
  intro ::
  out : ∃ ad cap, v = .slice ad M.length cap ∧ M.length ≤ maxLen ∧ ∀ k f, M[k]? = some f → ∃ b off, ad = some ⟨b, off, none⟩ ∧ b < W.heap.size ∧ W.cell? ⟨b, off + k * 2, none⟩ = some (.int .i64 f.k) ∧ W.cell? ⟨b, off + k * 2 + 1, none⟩ = some (.string f.p) ∧ f.p.size ≤ maxLen
theorem frames_of {W : World} {v : Value} {l : List shFV.T} (h : (Sh.slice shFV).rep W l [v]) : ∃ M, FSl W v M := by
  rcases h with ⟨rfl, a, cap, h⟩ | ⟨b, off, cap, h, h0, h1, h2, h3, h4⟩
  · exact ⟨[], ⟨a, cap, (List.cons.inj h).1, Nat.zero_le _, fun k f hk => by simp at hk⟩⟩
  · refine ⟨List.map toFV l, ⟨some ⟨b, off, none⟩, cap, by rw [List.length_map]; exact (List.cons.inj h).1, by rw [List.length_map]; have : l.length ≤ cap := h1; omega, fun k f hf => ⟨b, off, rfl, h3, ?_⟩⟩⟩
    have hk : k < l.length := by have := (List.getElem?_eq_some_iff.1 hf).1; simpa using this
    obtain ⟨cs, hl, hc, hr⟩ := h4 k hk
    have e := fv_of (W := W) (c := cs.toArray) (x := l.get ⟨k, hk⟩) (by simpa using hr)
    have ef : toFV (l.get ⟨k, hk⟩) = f := by
      rw [List.getElem?_map, List.getElem?_eq_getElem hk] at hf
      simpa using hf
    rw [ef] at e
    have ec : cs = f.cells.toList := by rw [← e.1]
    have g0 := hc 0 (by decide)
    have g1 := hc 1 (by decide)
    rw [ec, show shFV.sz = 2 from rfl] at g0 g1
    exact ⟨g0, g1, e.2.2⟩
/-- A row that Feed has told, as a slice. -/
theorem FRow.at {w : World} {base : Nat} {e : TypeId} {v : Value} {L : List FV} (h : FRow w base e v L) : ∃ ad cap, v = .slice ad L.length cap ∧ ∀ k f, L[k]? = some f → ∃ g, ad = some ⟨g, 0, none⟩ ∧ base ≤ g ∧ g < w.heap.size ∧ w.cell? ⟨g, k * 2, none⟩ = some (.int .i64 f.k) ∧ w.cell? ⟨g, k * 2 + 1, none⟩ = some (.string f.p) := by
  by_cases h0 : 0 < L.length
  · obtain ⟨g, cap, rfl, h1, h2, h3⟩ := h.out h0
    exact ⟨_, cap, rfl, fun k f hf => ⟨g, rfl, h1, h2, h3 k f hf⟩⟩
  · obtain ⟨p, cap, rfl⟩ := h.form
    exact ⟨p, cap, rfl, fun k f hf => by have := (List.getElem?_eq_some_iff.1 hf).1; omega⟩
theorem ret_true_of {b : Bool} (h : b = true) : Ending.returned (.bool b) = .returned (.bool true) := by rw [h]

set_option maxRecDepth 100000 in
set_option maxHeartbeats 4000000 in
theorem FrameAll_walk (W : World) (v : Value) (l : List shFV.T) (h : (Sh.slice shFV).rep W l [v]) :
    Calls Try.prog 6 #[v] W fun e w' => e = .returned (.bool true) ∧ Below W.heap.size W w' := by
  obtain ⟨M, hM⟩ := frames_of h
  clear h
  obtain ⟨ad, cap, rfl, hlen, hcell⟩ := hM.out
  unfold maxLen at hlen
  clear hM
  go_enter Try.func6, Try.ntmps6
  go_wp2_with fail
  refine (awake05 _).mono ?_; rintro e w1 ⟨rfl, hX⟩
  by_cases hbig : 40 < M.length
  · go_wp2_with fail
    refine (awake05 _).mono ?_; rintro e w2 ⟨rfl, hX2⟩
    go_wp2
    go_returns
    exact ⟨rfl, Chg.to_below (hX.trans hX2)⟩
  go_wp2_with fail
  have hB := Chg.to_below hX
  clear hX
  have H0 := Lib.hid (show ∀ t, scan (ByteArray.empty ++ t) = (M.take 0 ++ (scan t).1, (scan t).2.1, (scan t).2.2) from fun t => by rw [empty_app]; simp)
  go_loopg [3, 19] M.length (fun g sv i wr => ∃ (k : Nat) (s : ByteArray), k + g = M.length ∧ i = .int .i64 k ∧ sv = .string s ∧ s.size ≤ 70 * k ∧ Below W.heap.size W wr ∧ Hid (∀ t, scan (s ++ t) = (M.take k ++ (scan t).1, (scan t).2.1, (scan t).2.2)))
  case atStart => exact ⟨0, ByteArray.empty, by omega, rfl, rfl, by simp, hB, H0⟩
  case round =>
    obtain ⟨k, s, hk, rfl, rfl, hs, hBr, Hs⟩ := hrel
    by_cases hlt : k < M.length
    · obtain ⟨f, hf⟩ : ∃ f, M[k]? = some f := ⟨_, List.getElem?_eq_getElem hlt⟩
      obtain ⟨b, off, rfl, hb, c0, c1, hp⟩ := hcell k f hf
      unfold maxLen at hp
      replace c0 := (hBr.cell (p := ⟨b, off + k * 2, none⟩) hb).trans c0
      replace c1 := (hBr.cell (p := ⟨b, off + k * 2 + 1, none⟩) hb).trans c1
      have Hk := Lib.hid hk
      clear hcell hk
      have HL : ∀ w, Calls Try.prog 12 #[.agg #[.int .i64 f.k, .string f.p]] w fun e w' => e = .returned (.agg #[.int .i64 f.k, .string f.p]) ∧ Chg [] w w' := fun w => flike_any w f
      have HU : ∀ w, Calls Try.prog 11 #[.agg #[.int .i64 f.k, .string f.p]] w fun e w' => e = .returned (.bool f.right) ∧ Chg [] w w' := fun w => frright_any w f
      have HP : ∀ w, Calls Try.prog 10 #[.agg #[.int .i64 f.k, .string f.p]] w fun e w' => e = .returned (.string f.print) ∧ Chg [] w w' := fun w => fprint_any w f
      have Hpr := Lib.hid (fun hr : f.right = true => print_size f hr)
      have Hsc := Lib.hid (fun (hr : f.right = true) t => scan_print f hr t)
      have Hri := Lib.hid (f.right_iff.1)
      go_wp2_with fail
      refine (HL _).mono ?_; rintro e w2 ⟨rfl, hX1⟩
      have hA := hX1.at (At.new wr #[.int .i64 f.k, .string f.p] 23) (by simp)
      have hB2 := Chg.below (hBr.alloc hBr.size (.cells #[.int .i64 f.k, .string f.p] 23)) hX1 (by simp; have := hBr.size; omega) (by simp)
      clear hX1 c0 c1
      go_wp2_with fail
      refine (HU _).mono ?_; rintro e w3 ⟨rfl, hX1⟩
      replace hA := hX1.at hA (by simp)
      replace hB2 := Chg.below hB2 hX1 hB2.size (by simp)
      clear hX1
      cases hr : f.right
      · go_wp2
        go_returns
        exact ⟨rfl, hB2⟩
      · have c0 := hA.cell 0
        have c1 := hA.cell 1
        go_wp2_with fail
        refine (HP _).mono ?_; rintro e w4 ⟨rfl, hX1⟩
        replace hB2 := Chg.below hB2 hX1 hB2.size (by simp)
        clear hX1 c0 c1
        have hz := Hpr.out hr
        have h64 := (Hri.out hr).2.2
        clear HL HU HP Hpr Hri
        have hsz : (s ++ f.print).size ≤ 70 * (k + 1) := by rw [ByteArray.size_append]; omega
        go_wp2_with fail
        go_roundg (gk - 1)
        case rel =>
          have hk := Hk.out
          refine ⟨k + 1, s ++ f.print, by omega, by go_num, rfl, hsz, hB2, Lib.hid fun t => ?_⟩
          rw [ByteArray.append_assoc, Hs.out, Hsc.out hr, List.take_add_one, hf]
          simp
        case measure => have hk := Hk.out; omega
    · obtain rfl : gk = 0 := by omega
      obtain rfl : k = M.length := by omega
      have hsc : scan s = (M, ByteArray.empty, 0) := by
        have := Hs.out ByteArray.empty
        rw [app_empty, List.take_length, scan_none (s := ByteArray.empty) rfl] at this
        simpa using this
      clear Hs H0
      go_wp2_with fail
      refine (fnew_any _).mono ?_; rintro e w6 ⟨x, c, rfl, hx, hc, hS, hX1⟩
      have hBx := Chg.below hBr hX1 hBr.size (by simp)
      have hxW : W.heap.size ≤ x := by have := hBr.size; omega
      have hcW : W.heap.size ≤ c := by have := hBr.size; omega
      clear hX1 hx hc
      go_wp2_with fail
      refine (ffeed_any _ x c ByteArray.empty s 0 hS (by omega) (by omega) (by have : ByteArray.empty.size = 0 := rfl; omega)).mono ?_; rintro e w7 ⟨v1, rfl, hF1, hS1, hX1⟩
      rw [empty_app, hsc] at hF1 hS1
      rw [show cAdd 0 1000000 ((0 : Nat) : Int) = 0 from rfl] at hS1
      replace hBx := Chg.below hBx hX1 hBx.size (by simp; omega)
      obtain ⟨ad2, cap2, rfl, hcell2⟩ := hF1.at
      clear hF1 hS hX1
      go_wp2_with (first
        | (go_at_call 20; (with_reducible refine (fleft_any _ x c _ _ hS1).mono ?_); rintro e w' ⟨rfl, rfl⟩)
        | (go_at_call 21; (with_reducible refine (fdropped_any _ x c _ _ hS1).mono ?_); rintro e w' ⟨rfl, rfl⟩))
      go_loopg [53] M.length (fun g i wr => ∃ k : Nat, k + g = M.length ∧ i = .int .i64 k ∧ Chg [] w7 wr)
      case atStart => exact ⟨0, by omega, rfl, Chg.refl _ _⟩
      case round =>
        obtain ⟨k, hk, rfl, hXr⟩ := hrel
        by_cases hlt : k < M.length
        · obtain ⟨f, hf⟩ : ∃ f, M[k]? = some f := ⟨_, List.getElem?_eq_getElem hlt⟩
          obtain ⟨b, off, rfl, hb, c0, c1, -⟩ := hcell k f hf
          obtain ⟨g, rfl, -, -, d0, d1⟩ := hcell2 k f hf
          replace c0 := hXr.cell ((hBx.cell (p := ⟨b, off + k * 2, none⟩) hb).trans c0) (by simp)
          replace c1 := hXr.cell ((hBx.cell (p := ⟨b, off + k * 2 + 1, none⟩) hb).trans c1) (by simp)
          replace d0 := hXr.cell d0 (by simp)
          replace d1 := hXr.cell d1 (by simp)
          have Hk := Lib.hid hk
          clear hcell hcell2 hk
          go_wp2_with fail
          go_quiet (fail)
          go_wp2_with fail
          go_roundg (gk - 1)
          case rel => have hk := Hk.out; exact ⟨k + 1, by omega, by go_num, hXr.drewN _⟩
          case measure => have hk := Hk.out; omega
        · go_wp2
          go_returns
          exact ⟨rfl, Chg.below hBx hXr hBx.size (by simp)⟩
end Go.Proofs.Ytgdahhpenlbhoaa
