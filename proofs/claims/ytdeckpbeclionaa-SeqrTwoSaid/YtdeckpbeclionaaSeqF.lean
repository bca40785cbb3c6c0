/- The walk of the law SeqrFlight. -/
import Derived.Test.YtdeckpbeclionaaSeqL
import Derived.RegionTactic
import Derived.BigRegion
namespace Go.Proofs.Ytdeckpbeclionaa
open Go.RowKit

theorem u64_bd (a : Int) : 0 ≤ IntKind.u64.wrap a ∧ IntKind.u64.wrap a ≤ 18446744073709551615 := Go.bounds_u64 (wf_wrap .u64 a)
theorem umod_bd (a d : Int) (h0 : 0 < d) (h1 : d ≤ 1000000) : 0 ≤ wrap64 ((IntKind.u64.wrap a).tmod d) ∧ wrap64 ((IntKind.u64.wrap a).tmod d) < d := by
  obtain ⟨h2, h3⟩ := u64_bd a
  have e : (IntKind.u64.wrap a).tmod d = IntKind.u64.wrap a % d := Int.tmod_eq_emod_of_nonneg h2
  have h4 := Int.emod_nonneg (IntKind.u64.wrap a) (show d ≠ 0 by omega)
  have h5 := Int.emod_lt_of_pos (IntKind.u64.wrap a) h0
  rw [e, IntWalk.wrap64_in _ ⟨by omega, by omega⟩]
  exact ⟨h4, h5⟩

/-- In flight, below safing, one that isn't safe isn't made safe. -/
theorem flight_stays {q : SQ} {i : SI} (h0 : q.state ≠ 0) (hl : q.locked = false) (hf : i.flight = true) (hp : i.phase < q.safing) : (sqCycle q i).state ≠ 0 := by
  have h1 : (sqCmd q i.cmd).state = q.state := sqCmd_state q i.cmd
  have h2 : (sqCmd q i.cmd).safing = q.safing := by unfold sqCmd; split <;> (try split) <;> rfl
  have key : (sqNext (sqCmd q i.cmd) i).state ≠ 0 := by
    unfold sqNext
    rw [h1, h2, if_neg h0]
    split
    · split
      · show (2 : Int) ≠ 0
        decide
      · split
        · exact h0
        · split
          · rename_i h3 h4 h5
            simp [hf, hp] at h4
            simp [h4] at h5
          · exact h0
    · rw [h1]; exact h0
  unfold sqCycle
  rw [hl]
  simp only [Bool.false_eq_true, if_false]
  unfold sqEnd
  split <;> exact key
theorem sqCycle_safing (q : SQ) (i : SI) : (sqCycle q i).safing = q.safing := by
  have h1 : ∀ c, (sqCmd q c).safing = q.safing := by intro c; unfold sqCmd; split <;> (try split) <;> rfl
  have h2 : ∀ r : SQ, (sqNext r i).safing = r.safing := by intro r; unfold sqNext; repeat (first | rfl | split)
  unfold sqCycle
  split
  · rfl
  · unfold sqEnd
    split <;> simp [h1, h2]

set_option maxRecDepth 100000 in
set_option maxHeartbeats 2000000 in
theorem SeqrFlight_walk (W : World) (a : Int) (_w0 : (Lit.int .i64 a).wf = true) (v2 : Value) (l : List shSI.T) (h2 : (Sh.slice shSI).rep W l [v2]) :
    Calls Try.prog 4 #[.int .i64 a, v2] W fun e w' => e = .returned (.bool true) ∧ Below W.heap.size W w' := by
  obtain ⟨F, hp⟩ := inputs_of h2
  clear h2
  generalize l.length = len at hp
  obtain ⟨ad, cap, rfl, hlen, hcell⟩ := hp.out
  unfold maxLen at hlen
  clear hp
  have bm := umod_bd a 4 (by omega) (by omega)
  go_enter Try.func4, Try.ntmps4
  by_cases hbig : 300 < len
  · go_wp2_with (first
      | (go_at_call 7; refine (awake22 _).mono ?_; rintro e w' ⟨rfl, hX⟩))
    go_ret
    exact ⟨rfl, Chg.to_below (Chg.trans (by assumption) (by assumption))⟩
  · go_wp2_with (first
      | (go_at_call 7; refine (awake22 _).mono ?_; rintro e w0 ⟨rfl, hX0⟩))
    generalize wrap64 ((IntKind.u64.wrap a).tmod 4) = m' at *
    refine (sNew _ _ _).mono ?_; rintro e w1 ⟨x, rfl, hx, hS, hX1⟩
    go_wp2_with fail
    refine (sSet_any _ x _ 1 hS).mono ?_; rintro e w2 ⟨rfl, hS2, hX2⟩
    go_wp2_with fail
    have hB : Below W.heap.size W w2 := Chg.below (Chg.below (Chg.to_below hX0) hX1 (by have := hX0.size; omega) (by simp)) hX2 (by have := hX0.size; have := hX1.size; omega) (by have := hX0.size; simp; omega)
    have hxW : W.heap.size ≤ x := by have := hX0.size; omega
    have hs : sqSet ⟨1 + m', 0, false, false, false⟩ 1 = ⟨1 + m', 1, false, false, false⟩ := by simp [sqSet, sqSetOk]
    rw [hs] at hS2
    clear hs hX0 hX1 hX2 hx hS
    go_loopg [27] len (fun g i wr => ∃ (k : Nat) (q : SQ), k + g = len ∧ i = .int .i64 k ∧ Below W.heap.size W wr ∧ q.ok ∧ q.locked = false ∧ q.safing = 1 + m' ∧ q.state ≠ 0 ∧ At wr x q.cells)
    case atStart => exact ⟨0, ⟨1 + m', 1, false, false, false⟩, by omega, rfl, hB, ⟨Or.inr (Or.inl rfl), by simp⟩, rfl, rfl, by simp, hS2⟩
    case round =>
      obtain ⟨k, q, hk, rfl, hB, hq, hl, hs, hst, hQ⟩ := hrel
      have hk' : k ≤ len := by omega
      by_cases hlt : k < len
      · obtain ⟨b', off, rfl, hb, hc⟩ := hcell k hlt
        have Hk := Lib.hid hk
        have Hl := Lib.hid hl
        have Hs := Lib.hid hs
        clear hcell hk hl hs
        have c0 := (hB.cell (p := ⟨b', off + k * 9, none⟩) hb).trans (hc 0 (by omega))
        have c1 := (hB.cell (p := ⟨b', off + k * 9 + 1, none⟩) hb).trans (hc 1 (by omega))
        have c2 := (hB.cell (p := ⟨b', off + k * 9 + 2, none⟩) hb).trans (hc 2 (by omega))
        have c3 := (hB.cell (p := ⟨b', off + k * 9 + 3, none⟩) hb).trans (hc 3 (by omega))
        have c4 := (hB.cell (p := ⟨b', off + k * 9 + 4, none⟩) hb).trans (hc 4 (by omega))
        have c5 := (hB.cell (p := ⟨b', off + k * 9 + 5, none⟩) hb).trans (hc 5 (by omega))
        have c6 := (hB.cell (p := ⟨b', off + k * 9 + 6, none⟩) hb).trans (hc 6 (by omega))
        have c7 := (hB.cell (p := ⟨b', off + k * 9 + 7, none⟩) hb).trans (hc 7 (by omega))
        have c8 := (hB.cell (p := ⟨b', off + k * 9 + 8, none⟩) hb).trans (hc 8 (by omega))
        clear hc
        generalize F k = i at *
        simp only [SI.cells] at c0 c1 c2 c3 c4 c5 c6 c7 c8
        go_wp2_with fail
        have hI := At.new wr i.cells 32
        have hXa : Chg [] wr (wr.alloc (.cells i.cells 32)) := (Chg.refl _ _).alloc _
        refine (right22 _ i).mono ?_; rintro e wa ⟨rfl, hX2⟩
        replace hXa := hXa.trans hX2
        replace hI := hX2.at hI (by simp)
        have hQa := hXa.at hQ (by simp)
        have hBa := Chg.below hB hXa hB.size (by simp)
        have hzx : x ≠ wr.heap.size := by have := hQ.lt; omega
        have hzW := hB.size
        clear hX2 c0 c1 c2 c3 c4 c5 c6 c7 c8 hQ hB hXa
        have hB0 := Lib.hid hb
        clear hb
        generalize hz : wr.heap.size = z at *
        clear hz
        by_cases hr : i.right = true
        · have hr' := hr
          simp [SI.right] at hr'
          obtain ⟨p1, p2, p3, p4⟩ := hr'
          have d5 := hI.cell 6
          have d8 := hI.cell 8
          have f5 := hI.frozen 6
          have f8 := hI.frozen 8
          simp only [SI.cells] at d5 d8
          go_upto_region 11 with fail
          go_cut [] (fun w => ∃ i' : SI, At w z i'.cells ∧ At w x q.cells ∧ Below W.heap.size W w ∧ 0 ≤ i'.pw ∧ i'.pw ≤ 15 ∧ i'.flight = true ∧ i'.phase < q.safing)
          case first =>
            go_region
            go_wp2_with fail
            go_meet
            have hph := umod_bd i.phase (1 + m') (by omega) (by omega)
            generalize wrap64 ((IntKind.u64.wrap i.phase).tmod (1 + m')) = ph at *
            exact ⟨⟨i.cmd, i.heard, i.pc, i.pp, i.ps, i.pw, true, i.fires, ph⟩, ((hI.set 6 (.bool true) rfl).set 8 (.int .i64 ph) rfl).drew, ((hQa.other _ _ (by simpa using hzx)).other _ _ (by simpa using hzx)).drew, ((hBa.setCell (by simpa using hzW) _).setCell (by simpa using hzW) _).drew, p3, p4, rfl, by rw [Hs.out]; exact hph.2⟩
          obtain ⟨i', hI', hQ', hB', p5, p6, p7, p8⟩ := hcut
          have e0 := hI'.cell 0
          have e1 := hI'.cell 1
          have e2 := hI'.cell 2
          have e3 := hI'.cell 3
          have e4 := hI'.cell 4
          have e5 := hI'.cell 5
          have e6 := hI'.cell 6
          have e7 := hI'.cell 7
          have e8 := hI'.cell 8
          simp only [SI.cells] at e0 e1 e2 e3 e4 e5 e6 e7 e8
          have hst' := flight_stays (i := i') hst Hl.out p7 p8
          have hret : sqRet q i' = (sqCycle q i').state := by simp [sqRet, Hl.out]
          have hne : ((sqCycle q i').state == 0) = false := by simpa using hst'
          clear d5 d8 f5 f8 hI hQa hBa hr p7 p8
          go_wp2_with (go_at_call 10; refine (cycle_any _ x q i' hQ' hq p5 p6).mono ?_; rintro e w3 ⟨rfl, hQ3, hX3⟩)
          go_roundg (gk - 1)
          case measure => have := Hk.out; omega
          case rel => exact ⟨k + 1, _, by have := Hk.out; omega, by go_num, Chg.below hB' hX3 hB'.size (by simpa using hxW), sqCycle_ok hq i', (sqCycle_locked q i').trans Hl.out, (sqCycle_safing q i').trans Hs.out, hst', hQ3⟩
        · have hr' : i.right = false := by simpa using hr
          go_wp2
          go_ret
          exact ⟨rfl, hBa⟩
      · clear hcell
        go_wp2
        go_ret
        exact ⟨rfl, hB⟩
end Go.Proofs.Ytdeckpbeclionaa
