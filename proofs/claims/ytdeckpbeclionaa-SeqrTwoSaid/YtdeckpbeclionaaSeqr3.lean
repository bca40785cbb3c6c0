/- The reference's sequencer, over the same model; and what the laws of layer 22 call besides. -/
import Derived.Test.YtdeckpbeclionaaSeqr2
namespace Go.Proofs.Ytdeckpbeclionaa
open Go.RowKit

theorem rWish22 (w : World) (b : Nat) (q : SQ) (hQ : At w b q.rcells) :
    Calls Try.prog 15 #[.pointer (some ⟨b, 0, none⟩)] w fun e w' => e = .returned (.int .i64 (wishOf q)) ∧ w = w' := by
  have c3 := hQ.cell 3
  have c4 := hQ.cell 4
  simp only [SQ.rcells] at c3 c4
  obtain ⟨sf, st, arm, safe, lk⟩ := q
  cases arm <;> cases safe
  all_goals
    go_enter Try.func15, Try.ntmps15
    go_wp2
    go_ret
    exact ⟨rfl, rfl⟩

set_option maxRecDepth 100000 in
set_option maxHeartbeats 1000000 in
theorem rCycle22 (w : World) (b : Nat) (q : SQ) (i : SI) (hQ : At w b q.rcells) (hq : q.ok) (h2 : 0 ≤ i.pw) (h3 : i.pw ≤ 15) :
    Calls Try.prog 11 #[.pointer (some ⟨b, 0, none⟩), .agg i.rcells] w fun e w' =>
      e = .returned (.int .i64 (sqRet q i)) ∧ At w' b (sqCycle q i).rcells ∧ Chg [b] w w' := by
  have hQa := hQ.alloc (.cells i.rcells 37)
  by_cases hl : q.locked = true
  · have E : sqCycle q i = q := by simp [sqCycle, hl]
    have R : sqRet q i = 0 := by simp [sqRet, hl]
    rw [E, R]
    clear E R
    have hlt := hQ.lt
    have c2 := hQ.cell 2
    simp only [SQ.rcells, hl] at c2
    unfold SI.rcells
    go_enter Try.func11, Try.ntmps11
    go_wp2_with fail
    go_ret
    exact ⟨rfl, hQ.alloc _, (Chg.refl _ _).alloc _⟩
  · have E : sqCycle q i = sqEnd q (sqNext (sqCmd q i.cmd) i) := by simp [sqCycle, hl]
    have R : sqRet q i = (sqEnd q (sqNext (sqCmd q i.cmd) i)).state := by simp [sqRet, hl, E]
    rw [E, R]
    clear E R
    have hl' : q.locked = false := by simpa using hl
    have hlt := hQ.lt
    have c2 := hQ.cell 2
    simp only [SQ.rcells, hl'] at c2
    have hq1 := sqCmd_ok hq i.cmd
    have hs1 := sqCmd_state q i.cmd
    have ec : ∀ (w1 : World), ((i.cmd = 1 → At w1 b (SQ.rcells { q with arm := true, safe := false })) ∧ (¬ i.cmd = 1 → i.cmd = 2 → At w1 b (SQ.rcells { q with arm := false, safe := true })) ∧ (¬ i.cmd = 1 → ¬ i.cmd = 2 → At w1 b q.rcells)) → At w1 b (sqCmd q i.cmd).rcells := by
      intro w1 h
      unfold sqCmd
      split
      · exact h.1 ‹_›
      · split
        · exact h.2.1 ‹_› ‹_›
        · exact h.2.2 ‹_› ‹_›
    have EC := Lib.hid ec
    have HS := Lib.hid hs1
    clear ec hs1 hl
    generalize hq1e : sqCmd q i.cmd = q1 at *
    clear hq1e
    unfold SI.rcells at hQa ⊢
    go_enter Try.func11, Try.ntmps11
    go_upto_block 0 with fail
    have hI0 := At.new w #[.int .i64 i.cmd, .bool i.heard, .int .i64 i.ps, .int .i64 i.pw, .bool i.flight, .bool i.fires, .int .i64 i.phase] 37
    have hX0 : Chg [b] w (w.alloc (.cells #[.int .i64 i.cmd, .bool i.heard, .int .i64 i.ps, .int .i64 i.pw, .bool i.flight, .bool i.fires, .int .i64 i.phase] 37)) := (Chg.refl _ _).alloc _
    go_cut [] (fun w1 => At w1 b q1.rcells ∧ At w1 w.heap.size i.rcells ∧ Chg [b] w w1)
    case first =>
      generalize hw : w.alloc (.cells #[.int .i64 i.cmd, .bool i.heard, .int .i64 i.ps, .int .i64 i.pw, .bool i.flight, .bool i.fires, .int .i64 i.phase] 37) = wa at *
      clear hw
      have c3 := hQa.cell 3
      have f3 := hQa.frozen 3
      have c4 := hQa.cell 4
      have f4 := hQa.frozen 4
      simp only [SQ.rcells] at c3 c4
      by_cases h1 : i.cmd = 1
      · go_wp2
        go_meet
        exact ⟨EC.out _ ⟨fun _ => (hQa.set 3 (.bool true) rfl).set 4 (.bool false) rfl, fun h => absurd h1 h, fun h => absurd h1 h⟩, (hI0.other _ _ (by simp; omega)).other _ _ (by simp; omega), (hX0.setCell (by simp) _).setCell (by simp) _⟩
      · have h1' : (i.cmd == 1) = false := by simpa using h1
        by_cases h2 : i.cmd = 2
        · go_wp2
          go_meet
          exact ⟨EC.out _ ⟨fun h => absurd h h1, fun _ _ => (hQa.set 3 (.bool false) rfl).set 4 (.bool true) rfl, fun _ h => absurd h2 h⟩, (hI0.other _ _ (by simp; omega)).other _ _ (by simp; omega), (hX0.setCell (by simp) _).setCell (by simp) _⟩
        · have h2' : (i.cmd == 2) = false := by simpa using h2
          go_wp2
          go_meet
          exact ⟨EC.out _ ⟨fun h => absurd h h1, fun _ h => absurd h h2, fun _ _ => hQa⟩, hI0, hX0⟩
    clear hQa hI0 hX0 c2 hl'
    obtain ⟨hA1, hI1, hX1⟩ := hcut
    have d1 := hA1.cell 1
    simp only [SQ.rcells] at d1
    go_upto_block 1 with fail
    go_cut [] (fun w2 => At w2 b (sqNext q1 i).rcells ∧ Chg [b] w w2)
    case first =>
      have j1 := hI1.cell 1
      have j2 := hI1.cell 2
      have j3 := hI1.cell 3
      have j0 := hI1.cell 0
      have j4 := hI1.cell 4
      have j5 := hI1.cell 5
      have j6 := hI1.cell 6
      simp only [SI.rcells] at j0 j1 j2 j3 j4 j5 j6
      have k0 := hA1.cell 0
      have k3 := hA1.cell 3
      have k4 := hA1.cell 4
      have f1 := hA1.frozen 1
      have f3 := hA1.frozen 3
      have f4 := hA1.frozen 4
      simp only [SQ.rcells] at k0 k3 k4
      have hne : b ≠ w.heap.size := by omega
      have hne' : w.heap.size ≠ b := by omega
      clear EC HS hQ hq
      obtain ⟨sf, st, arm, safe, lk⟩ := q1
      obtain ⟨cmd, heard, pc, pp, ps, pw, flight, fires, phase⟩ := i
      simp only at j0 j1 j2 j3 j4 j5 j6 h2 h3 k0 k3 k4 d1
      rcases hq1.st with hst | hst | hst
      · obtain rfl : st = 0 := hst
        clear hq1
        have e0 : ∀ r : SQ, sqNext ⟨sf, 0, arm, safe, lk⟩ ⟨cmd, heard, pc, pp, ps, pw, flight, fires, phase⟩ = r → ∀ w2, At w2 b r.rcells → Chg [b] w w2 → (At w2 b (sqNext ⟨sf, 0, arm, safe, lk⟩ ⟨cmd, heard, pc, pp, ps, pw, flight, fires, phase⟩).rcells ∧ Chg [b] w w2) := fun r h w2 h1 h2 => ⟨h ▸ h1, h2⟩
        have E0 := Lib.hid e0
        clear e0
        cases arm
        · go_wp2
          go_meet
          exact E0.out ⟨sf, 0, false, false, lk⟩ (by simp [sqNext]) _ (hA1.set 4 _ rfl) (hX1.setCell (by simp) _)
        · cases heard
          · go_wp2
            go_meet
            exact E0.out ⟨sf, 0, true, false, lk⟩ (by simp [sqNext, fArm]) _ (hA1.set 4 _ rfl) (hX1.setCell (by simp) _)
          · by_cases hp : pw % 2 = 1
            · go_wp2
              go_meet
              exact E0.out ⟨sf, 1, true, false, lk⟩ (by simp [sqNext, fArm, hp]) _ ((hA1.set 4 (.bool false) rfl).set 1 (.int .i64 1) rfl) ((hX1.setCell (by simp) _).setCell (by simp) _)
            · have hp' : (pw % 2 == 1) = false := by simpa using hp
              by_cases hs : 1 ≤ ps
              · go_wp2
                go_meet
                exact E0.out ⟨sf, 1, true, false, lk⟩ (by simp [sqNext, fArm, hs]) _ ((hA1.set 4 (.bool false) rfl).set 1 (.int .i64 1) rfl) ((hX1.setCell (by simp) _).setCell (by simp) _)
              · have hs' : decide (1 ≤ ps) = false := by simpa using hs
                go_wp2
                go_meet
                exact E0.out ⟨sf, 0, true, false, lk⟩ (by simp [sqNext, fArm, hp, hs']) _ (hA1.set 4 _ rfl) (hX1.setCell (by simp) _)
      · obtain rfl : st = 1 := hst
        clear hq1
        have e0 : ∀ r : SQ, sqNext ⟨sf, 1, arm, safe, lk⟩ ⟨cmd, heard, pc, pp, ps, pw, flight, fires, phase⟩ = r → ∀ w2, At w2 b r.rcells → Chg [b] w w2 → (At w2 b (sqNext ⟨sf, 1, arm, safe, lk⟩ ⟨cmd, heard, pc, pp, ps, pw, flight, fires, phase⟩).rcells ∧ Chg [b] w w2) := fun r h w2 h1 h2 => ⟨h ▸ h1, h2⟩
        have E0 := Lib.hid e0
        clear e0
        by_cases hc : cmd = 3
        · subst hc
          go_wp2
          go_meet
          exact E0.out ⟨sf, 2, false, safe, lk⟩ (by simp [sqNext]) _ ((hA1.set 3 (.bool false) rfl).set 1 (.int .i64 2) rfl) ((hX1.setCell (by simp) _).setCell (by simp) _)
        · have hc' : (cmd == 3) = false := by simpa using hc
          cases fires
          · cases safe
            · go_wp2_with fail
              go_quiet (fail)
              go_wp2
              go_meet
              exact E0.out ⟨sf, 1, false, false, lk⟩ (by simp [sqNext, hc]) _ ((hA1.set 3 (.bool false) rfl).drewN _) ((hX1.setCell (by simp) _).drewN _)
            · have key : fSafe ⟨cmd, heard, pc, pp, ps, pw, flight, false, phase⟩ = (heard && (decide (pw / 2 % 2 = 1) || decide (ps = 0))) := rfl
              cases flight
              · have HK := Lib.hid key
                clear key
                cases heard
                · go_wp2_with fail
                  go_quiet (fail)
                  go_wp2
                  go_meet
                  exact E0.out ⟨sf, 1, false, true, lk⟩ (by simp [sqNext, HK.out, *]) _ ((hA1.set 3 (.bool false) rfl).drewN _) ((hX1.setCell (by simp) _).drewN _)
                · by_cases hp : pw / 2 % 2 = 1
                  · go_wp2_with fail
                    go_quiet (fail)
                    go_wp2
                    go_meet
                    exact E0.out ⟨sf, 0, false, true, lk⟩ (by simp [sqNext, HK.out, *]) _ (((hA1.set 3 (.bool false) rfl).set 1 (.int .i64 0) rfl).drewN _) (((hX1.setCell (by simp) _).setCell (by simp) _).drewN _)
                  · have hp' : (pw / 2 % 2 == 1) = false := by simpa using hp
                    by_cases hs : ps = 0
                    · subst hs
                      go_wp2_with fail
                      go_quiet (fail)
                      go_wp2
                      go_meet
                      exact E0.out ⟨sf, 0, false, true, lk⟩ (by simp [sqNext, HK.out, *]) _ (((hA1.set 3 (.bool false) rfl).set 1 (.int .i64 0) rfl).drewN _) (((hX1.setCell (by simp) _).setCell (by simp) _).drewN _)
                    · have hs' : (ps == 0) = false := by simpa using hs
                      go_wp2_with fail
                      go_quiet (fail)
                      go_wp2
                      go_meet
                      exact E0.out ⟨sf, 1, false, true, lk⟩ (by simp [sqNext, HK.out, *]) _ ((hA1.set 3 (.bool false) rfl).drewN _) ((hX1.setCell (by simp) _).drewN _)
              · by_cases hph : phase < sf
                · go_wp2_with fail
                  go_quiet (fail)
                  go_wp2
                  go_meet
                  exact E0.out ⟨sf, 1, false, false, lk⟩ (by simp [sqNext, hc, hph]) _ (((hA1.set 3 (.bool false) rfl).set 4 (.bool false) rfl).drewN _) (((hX1.setCell (by simp) _).setCell (by simp) _).drewN _)
                · have hd : decide (phase < sf) = false := by simpa using hph
                  have HK := Lib.hid key
                  clear key
                  cases heard
                  · go_wp2_with fail
                    go_quiet (fail)
                    go_wp2
                    go_meet
                    exact E0.out ⟨sf, 1, false, true, lk⟩ (by simp [sqNext, HK.out, *]) _ ((hA1.set 3 (.bool false) rfl).drewN _) ((hX1.setCell (by simp) _).drewN _)
                  · by_cases hp : pw / 2 % 2 = 1
                    · go_wp2_with fail
                      go_quiet (fail)
                      go_wp2
                      go_meet
                      exact E0.out ⟨sf, 0, false, true, lk⟩ (by simp [sqNext, HK.out, *]) _ (((hA1.set 3 (.bool false) rfl).set 1 (.int .i64 0) rfl).drewN _) (((hX1.setCell (by simp) _).setCell (by simp) _).drewN _)
                    · have hp' : (pw / 2 % 2 == 1) = false := by simpa using hp
                      by_cases hs : ps = 0
                      · subst hs
                        go_wp2_with fail
                        go_quiet (fail)
                        go_wp2
                        go_meet
                        exact E0.out ⟨sf, 0, false, true, lk⟩ (by simp [sqNext, HK.out, *]) _ (((hA1.set 3 (.bool false) rfl).set 1 (.int .i64 0) rfl).drewN _) (((hX1.setCell (by simp) _).setCell (by simp) _).drewN _)
                      · have hs' : (ps == 0) = false := by simpa using hs
                        go_wp2_with fail
                        go_quiet (fail)
                        go_wp2
                        go_meet
                        exact E0.out ⟨sf, 1, false, true, lk⟩ (by simp [sqNext, HK.out, *]) _ ((hA1.set 3 (.bool false) rfl).drewN _) ((hX1.setCell (by simp) _).drewN _)
          · go_wp2
            go_meet
            exact E0.out ⟨sf, 2, false, safe, lk⟩ (by simp [sqNext]) _ ((hA1.set 3 (.bool false) rfl).set 1 (.int .i64 2) rfl) ((hX1.setCell (by simp) _).setCell (by simp) _)
      · obtain rfl : st = 2 := hst
        go_wp2
        go_meet
        exact ⟨hA1, hX1⟩
    clear hA1 hI1 hX1 d1 hQ hq
    obtain ⟨hA2, hX⟩ := hcut
    have hs2 : ∀ x, sqEnd q x = (if x.state ≠ q1.state ∨ x.state = 2 then { x with arm := false, safe := false } else x) := by intro x; rw [HS.out]; rfl
    generalize hq2 : sqNext q1 i = q2 at *
    have HQ2 := Lib.hid hq2
    clear hq2
    have HE := Lib.hid (hs2 q2)
    clear hs2
    have d1 := hA2.cell 1
    have d3 := hA2.cell 3
    have d4 := hA2.cell 4
    have g3 := hA2.frozen 3
    have g4 := hA2.frozen 4
    simp only [SQ.rcells] at d1 d3 d4
    by_cases hc : q2.state ≠ q1.state ∨ q2.state = 2
    · have e3 := HE.out
      rw [if_pos hc] at e3
      have H3 := Lib.hid e3
      clear e3 HE
      by_cases h4 : q2.state = q1.state
      · have h5 : q2.state = 2 := by rcases hc with h | h; exact absurd h4 h; exact h
        have hb : (q2.state != q1.state) = false := by simpa using h4
        have hb2 : (q2.state == 2) = true := by simpa using h5
        clear hc h4 h5
        go_wp2_with fail
        go_ret
        exact ⟨ret_int (by rw [HQ2.out, H3.out]), by rw [HQ2.out, H3.out]; exact (hA2.set 3 (.bool false) rfl).set 4 (.bool false) rfl, (hX.setCell (by simp) _).setCell (by simp) _⟩
      · have hb : (q2.state != q1.state) = true := by simpa using h4
        clear hc h4
        go_wp2_with fail
        go_ret
        exact ⟨ret_int (by rw [HQ2.out, H3.out]), by rw [HQ2.out, H3.out]; exact (hA2.set 3 (.bool false) rfl).set 4 (.bool false) rfl, (hX.setCell (by simp) _).setCell (by simp) _⟩
    · have e3 := HE.out
      rw [if_neg hc] at e3
      have h4 : q2.state = q1.state := by apply Classical.byContradiction; intro h; exact hc (Or.inl h)
      have h5 : ¬ q2.state = 2 := fun h => hc (Or.inr h)
      have hb : (q2.state != q1.state) = false := by simpa using h4
      have hb2 : (q2.state == 2) = false := by simpa using h5
      have H3 := Lib.hid e3
      clear hc h4 h5 e3 HE
      go_wp2_with fail
      go_ret
      exact ⟨ret_int (by rw [HQ2.out, H3.out]), by rw [HQ2.out, H3.out]; exact hA2, hX⟩
end Go.Proofs.Ytdeckpbeclionaa
