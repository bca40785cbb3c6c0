/- A list of a sequencer's inputs that came in as an argument, by its cells; and the walks of the laws SeqrPlays and SeqrFlight. -/
import Derived.Test.YtdeckpbeclionaaC22
import Derived.LoopTactic
import Derived.Test.YtdeckpbeclionaaStage
import Derived.Deep.LoopGhost
namespace Go.Proofs.Ytdeckpbeclionaa
open Go.RowKit

/-- The value v is a slice of 'len' inputs: F k. -/
structure Inputs (W : World) (v : Value) (len : Nat) (F : Nat → SI) : Prop where
  intro ::
  out : ∃ ad cap, v = .slice ad len cap ∧ len ≤ maxLen ∧ ∀ k, k < len → ∃ b off, ad = some ⟨b, off, none⟩ ∧ b < W.heap.size ∧
    ∀ j, j < 9 → W.cell? ⟨b, off + k * 9 + j, none⟩ = (F k).cells[j]?

theorem inputs_of {W : World} {v : Value} {l : List shSI.T} (h : (Sh.slice shSI).rep W l [v]) : ∃ F, Inputs W v l.length F := by
  rcases h with ⟨rfl, a, cap, h⟩ | ⟨b, off, cap, h, h0, h1, h2, h3, h4⟩
  · exact ⟨fun _ => ⟨0, false, 0, 0, 0, 0, false, false, 0⟩, ⟨a, cap, (List.cons.inj h).1, Nat.zero_le _, fun k hk => absurd hk (Nat.not_lt_zero _)⟩⟩
  · refine ⟨fun k => if hk : k < l.length then toSI (List.get (α := shSI.T) l ⟨k, hk⟩) else ⟨0, false, 0, 0, 0, 0, false, false, 0⟩, ⟨some ⟨b, off, none⟩, cap, (List.cons.inj h).1, by have : l.length ≤ cap := h1; omega, fun k hk => ⟨b, off, rfl, h3, ?_⟩⟩⟩
    obtain ⟨cs, hl, hc, hr⟩ := h4 k hk
    have e := si_of hr
    intro j hj
    have g := hc j hj
    rw [e, show shSI.sz = 9 from rfl] at g
    rw [dif_pos hk]
    simpa using g

theorem sqNext_ok {q : SQ} (h : q.ok) (i : SI) : (sqNext q i).ok := by
  have h1 := h.one
  have h2 := h.st
  unfold sqNext
  split
  · split
    · exact ⟨Or.inr (Or.inl rfl), by simp⟩
    · exact ⟨h2, by simp⟩
  · split
    · split
      · exact ⟨Or.inr (Or.inr rfl), by simp⟩
      · split
        · exact ⟨h2, by simp⟩
        · split
          · exact ⟨Or.inl rfl, by simp⟩
          · exact ⟨h2, by simp⟩
    · exact h
theorem sqCycle_ok {q : SQ} (h : q.ok) (i : SI) : (sqCycle q i).ok := by
  unfold sqCycle
  split
  · exact h
  · unfold sqEnd
    have := sqNext_ok (sqCmd_ok h i.cmd) i
    split
    · exact ⟨this.st, by simp⟩
    · exact this
theorem sqCycle_locked (q : SQ) (i : SI) : (sqCycle q i).locked = q.locked := by
  have h1 : ∀ c, (sqCmd q c).locked = q.locked := by intro c; unfold sqCmd; split <;> (try split) <;> rfl
  have h2 : ∀ r : SQ, (sqNext r i).locked = r.locked := by intro r; unfold sqNext; repeat (first | rfl | split)
  unfold sqCycle
  split
  · rfl
  · unfold sqEnd
    split <;> simp [h1, h2]

/-- The worlds of SeqrPlays' test, by its stages: the program's cycle, the input turned, the reference's cycle. -/
structure C10 (W : World) (x y z : Nat) (q : SQ) (i : SI) (k : Nat) (w : World) : Prop where
  z : At w z i.cells
  b : Below W.heap.size W w
  x0 : k = 0 → At w x q.cells
  x1 : 1 ≤ k → At w x (sqCycle q i).cells
  y0 : k ≤ 2 → At w y q.rcells
  y1 : 3 ≤ k → At w y (sqCycle q i).rcells

set_option maxRecDepth 100000 in
set_option maxHeartbeats 2000000 in
theorem SeqrPlays_walk (W : World) (a : Int) (_w0 : (Lit.int .i64 a).wf = true) (lk : Bool) (v2 : Value) (l : List shSI.T) (h2 : (Sh.slice shSI).rep W l [v2]) :
    Calls Try.prog 3 #[.int .i64 a, .bool lk, v2] W fun e w' => e = .returned (.bool true) ∧ Below W.heap.size W w' := by
  obtain ⟨F, hp⟩ := inputs_of h2
  clear h2
  generalize l.length = len at hp
  obtain ⟨ad, cap, rfl, hlen, hcell⟩ := hp.out
  unfold maxLen at hlen
  clear hp
  go_enter Try.func3, Try.ntmps3
  by_cases hbig : 300 < len
  · go_wp2_with (first
      | (go_at_call 7; refine (awake22 _).mono ?_; rintro e w' ⟨rfl, hX⟩))
    go_ret
    exact ⟨rfl, Chg.to_below (Chg.trans (by assumption) (by assumption))⟩
  · go_wp2_with (first
      | (go_at_call 7; refine (awake22 _).mono ?_; rintro e w0 ⟨rfl, hX0⟩))
    refine (sNew _ _ _).mono ?_; rintro e w1 ⟨x, rfl, hx, hS, hX1⟩
    go_wp2_with fail
    have hB1 : Below W.heap.size W w1 := Chg.below (Chg.to_below hX0) hX1 (by have := hX0.size; omega) (by simp)
    have hxW : W.heap.size ≤ x := by have := hX0.size; omega
    have hxl := hS.lt
    replace hS := hS.alloc (.cells #[.int .i64 a, .int .i64 0, .bool lk, .bool false, .bool false] 28)
    replace hB1 := hB1.alloc hB1.size (.cells #[.int .i64 a, .int .i64 0, .bool lk, .bool false, .bool false] 28)
    have hR := At.new w1 (SQ.rcells ⟨a, 0, false, false, lk⟩) 28
    have hyW : W.heap.size ≤ w1.heap.size := by have := hX0.size; have := hX1.size; omega
    generalize hy : w1.heap.size = y at *
    clear hX0 hX1 hx
    have hxy : x ≠ y := by omega
    go_loopg [28] len (fun g i wr => ∃ (k : Nat) (q : SQ), k + g = len ∧ i = .int .i64 k ∧ Below W.heap.size W wr ∧ q.ok ∧ q.locked = lk ∧ At wr x q.cells ∧ At wr y q.rcells)
    case atStart => exact ⟨0, ⟨a, 0, false, false, lk⟩, by omega, rfl, hB1, ⟨Or.inl rfl, by simp⟩, rfl, hS, hR⟩
    case round =>
      obtain ⟨k, q, hk, rfl, hB, hq, hl, hQ, hR'⟩ := hrel
      have hk' : k ≤ len := by omega
      by_cases hlt : k < len
      · obtain ⟨b', off, rfl, hb, hc⟩ := hcell k hlt
        have Hk := Lib.hid hk
        have Hl := Lib.hid hl
        clear hcell hk hl
        have c0 := (hB.cell (p := ⟨b', off + k * 9, none⟩) hb).trans (hc 0 (by omega))
        have c1 := (hB.cell (p := ⟨b', off + k * 9 + 1, none⟩) hb).trans (hc 1 (by omega))
        have c2 := (hB.cell (p := ⟨b', off + k * 9 + 2, none⟩) hb).trans (hc 2 (by omega))
        have c3 := (hB.cell (p := ⟨b', off + k * 9 + 3, none⟩) hb).trans (hc 3 (by omega))
        have c4 := (hB.cell (p := ⟨b', off + k * 9 + 4, none⟩) hb).trans (hc 4 (by omega))
        have c5 := (hB.cell (p := ⟨b', off + k * 9 + 5, none⟩) hb).trans (hc 5 (by omega))
        have c6 := (hB.cell (p := ⟨b', off + k * 9 + 6, none⟩) hb).trans (hc 6 (by omega))
        have c7 := (hB.cell (p := ⟨b', off + k * 9 + 7, none⟩) hb).trans (hc 7 (by omega))
        have c8 := (hB.cell (p := ⟨b', off + k * 9 + 8, none⟩) hb).trans (hc 8 (by omega))
        clear hc
        generalize F k = i at *
        simp only [SI.cells] at c0 c1 c2 c3 c4 c5 c6 c7 c8
        go_wp2_with fail
        have hI := At.new wr i.cells 32
        have hXa : Chg [] wr (wr.alloc (.cells i.cells 32)) := (Chg.refl _ _).alloc _
        refine (right22 _ i).mono ?_; rintro e wa ⟨rfl, hX2⟩
        replace hXa := hXa.trans hX2
        replace hI := hX2.at hI (by simp)
        have hQa := hXa.at hQ (by simp)
        have hRa := hXa.at hR' (by simp)
        have hBa := Chg.below hB hXa hB.size (by simp)
        have hzx : x ≠ wr.heap.size := by have := hQ.lt; omega
        have hzy : y ≠ wr.heap.size := by have := hR'.lt; omega
        have hzW := hB.size
        clear hX2 c0 c1 c2 c3 c4 c5 c6 c7 c8 hQ hR' hB hXa
        have hB0 := Lib.hid hb
        clear hb
        generalize hz : wr.heap.size = z at *
        clear hz
        by_cases hr : i.right = true
        · have hr' := hr
          simp [SI.right] at hr'
          obtain ⟨p1, p2, p3, p4⟩ := hr'
          have d0 := hI.cell 0
          have d1 := hI.cell 1
          have d2 := hI.cell 2
          have d3 := hI.cell 3
          have d4 := hI.cell 4
          have d5 := hI.cell 5
          have d6 := hI.cell 6
          have d7 := hI.cell 7
          have d8 := hI.cell 8
          simp only [SI.cells] at d0 d1 d2 d3 d4 d5 d6 d7 d8
          go_upto_region 10 with fail
          go_cut [64] (fun v w => v = .bool false ∧ At w x (sqCycle q i).cells ∧ At w y (sqCycle q i).rcells ∧ Below W.heap.size W w)
          case first =>
            have hlk : (sqCycle q i).locked = lk := (sqCycle_locked q i).trans Hl.out
            have hsz := hBa.size
            refine wp_region_stage (C10 W x y z q i) [2, 5, 6] [(0, 0, false), (0, 0, false), (0, 0, true), (0, 2, false), (0, 1, false), (1, 1, true), (2, 2, true), (3, 3, false), (3, 3, false), (3, 3, false), (3, 3, false), (3, 3, false), (3, 3, false), (3, 3, false), (3, 3, false), (3, 3, false), (3, 3, false), (3, 3, false), (3, 3, false), (3, 3, false), (3, 3, false), (3, 3, false), (3, 3, false), (3, 3, false), (3, 3, false), (3, 3, false), (3, 3, false), (3, 3, false), (3, 3, false), (3, 3, false)]
              (by kernel_rfl) (by kernel_rfl) (by kernel_rfl) ⟨hI, hBa.drew, fun _ => hQa, fun h => absurd h (by omega), fun _ => hRa, fun h => absurd h (by omega)⟩ ?_
            simp only [List.zip_cons_cons, List.zip_nil_right]
            clear hQa hRa hI hBa d0 d1 d2 d3 d4 d5 d6 d7 d8 hr
            repeat
              first
              | (refine wpStage_yes (by go_simp) ?_
                 intro K hK
                 apply Exists.intro
                 refine ⟨fun kk w hk1 hk2 hC => ?_, ?_⟩
                 · first
                   | (go_simp; exact rfl)
                   | (have hz := hC.z; have d0 := hz.cell 0; have d1 := hz.cell 1; have d2 := hz.cell 2; have d3 := hz.cell 3; have d4 := hz.cell 4; have d5 := hz.cell 5; have d6 := hz.cell 6; have d7 := hz.cell 7; have d8 := hz.cell 8; simp only [SI.cells] at d0 d1 d2 d3 d4 d5 d6 d7 d8; go_simp; exact rfl)
                   | (have hy := hC.y1 hk1; have r1 := hy.cell 1; simp only [SQ.rcells] at r1; go_simp; exact rfl)
                   | (go_simp; go_at_call 10; refine (cycle_any w x q i (hC.x0 (by omega)) hq p3 p4).mono ?_; rintro e w' ⟨rfl, hA, hX⟩; exact ⟨rfl, hX.at hC.z (by simpa using hzx.symm), Chg.below hC.b hX hC.b.size (by simpa using hxW), fun h => absurd h (by omega), fun _ => hA, fun _ => hX.at (hC.y0 (by omega)) (by simpa using hxy.symm), fun h => absurd h (by omega)⟩)
                   | (go_simp; go_at_call 12; refine (like22 w i).mono ?_; rintro e w' ⟨rfl, hX⟩; exact ⟨rfl, hX.at hC.z (by simp), Chg.below hC.b hX hC.b.size (by simp), fun h => absurd h (by omega), fun _ => hX.at (hC.x1 (by omega)) (by simp), fun _ => hX.at (hC.y0 (by omega)) (by simp), fun h => absurd h (by omega)⟩)
                   | (go_simp; go_at_call 11; refine (rCycle22 w y q i (hC.y0 (by omega)) hq p3 p4).mono ?_; rintro e w' ⟨rfl, hA, hX⟩; exact ⟨rfl, hX.at hC.z (by simpa using hzy.symm), Chg.below hC.b hX hC.b.size (by simpa using hyW), fun h => absurd h (by omega), fun _ => hX.at (hC.x1 (by omega)) (by simpa using hxy), fun h => absurd h (by omega), fun _ => hA⟩)
                   | (go_simp; go_at_call 13; refine (sState_any w x _ (hC.x1 (by omega))).mono ?_; rintro e w' ⟨rfl, rfl⟩; exact ⟨rfl, hC⟩)
                   | (go_simp; go_at_call 14; refine (sWish_any w x _ (hC.x1 (by omega))).mono ?_; rintro e w' ⟨rfl, rfl⟩; exact ⟨rfl, hC⟩)
                   | (go_simp; go_at_call 15; refine (rWish22 w y _ (hC.y1 (by omega))).mono ?_; rintro e w' ⟨rfl, rfl⟩; exact ⟨rfl, hC⟩)
                   | (go_simp; go_at_call 16; refine (sLocked_any w x _ (hC.x1 (by omega))).mono ?_; rintro e w' ⟨rfl, rfl⟩; exact ⟨rfl, hC⟩)
                 go_simp
                 refine hK _ ?_
                 clear hK K)
            refine wpStage_nil (fun w' hC => ?_)
            go_wp2_with fail
            go_meet
            exact ⟨rfl, hC.x1 (by simp), hC.y1 (by simp), hC.b⟩
          obtain ⟨rfl, hQ, hR', hB⟩ := hcut
          go_wp2
          go_roundg (gk - 1)
          case measure => have := Hk.out; omega
          case rel => exact ⟨k + 1, _, by have := Hk.out; omega, by go_num, hB, sqCycle_ok hq i, (sqCycle_locked q i).trans Hl.out, hQ, hR'⟩
        · have hr' : i.right = false := by simpa using hr
          go_wp2
          go_ret
          exact ⟨rfl, hBa⟩
      · clear hcell
        go_wp2
        go_ret
        exact ⟨rfl, hB⟩
end Go.Proofs.Ytdeckpbeclionaa
