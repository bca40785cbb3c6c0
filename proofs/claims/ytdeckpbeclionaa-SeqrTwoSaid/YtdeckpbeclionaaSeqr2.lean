/- Package seqr: a whole cycle; and the reference's functions, over the same model. -/
import Derived.Test.YtdeckpbeclionaaSeqr
namespace Go.Proofs.Ytdeckpbeclionaa
open Go.RowKit

set_option maxHeartbeats 1000000 in
theorem next_any (w : World) (b bi : Nat) (q : SQ) (i : SI) (hQ : At w b q.cells) (hI : At w bi i.cells) (hne : b ≠ bi) (hq : q.ok) (h2 : 0 ≤ i.pw) (h3 : i.pw ≤ 15) :
    Calls Try.prog 19 #[.pointer (some ⟨b, 0, none⟩), .pointer (some ⟨bi, 0, none⟩)] w fun e w' =>
      e = .returned (.int .i64 (sqNext q i).state) ∧ At w' b (SQ.cells { sqNext q i with state := q.state }) ∧ Chg [b] w w' := by
  have c1 := hQ.cell 1
  have c2 := hQ.cell 2
  have f2 := hQ.frozen 2
  simp only [SQ.cells] at c1 c2
  rcases hq.st with h | h | h
  · obtain ⟨sf, st, arm, safe, lk⟩ := q
    obtain rfl : st = 0 := h
    have one := hq.one
    have hA : ∀ v, Calls Try.prog 20 #[.pointer (some ⟨bi, 0, none⟩)] (w.setCell ⟨b, 2, none⟩ v) fun e w' => e = .returned (.bool (fArm i)) ∧ w.setCell ⟨b, 2, none⟩ v = w' :=
      fun v => forArming_any _ bi _ (hI.other _ _ (by simpa using hne.symm)) h2 h3
    have n02 : bits BinOp.andNot IntKind.i64 0 2 = 0 := by decide
    have n12 : bits BinOp.andNot IntKind.i64 1 2 = 1 := by decide
    have n22 : bits BinOp.andNot IntKind.i64 2 2 = 0 := by decide
    have HQ := Lib.hid hQ
    generalize hf : fArm i = fa at hA
    have HF := Lib.hid hf
    clear hf hQ hI hq
    cases arm <;> cases safe <;> simp [wishOf] at c2 one
    · go_enter Try.func19, Try.ntmps19
      go_wp2_with fail
      go_ret
      exact ⟨ret_int (by simp [sqNext]), by simp only [sqNext]; exact HQ.out.set 2 _ rfl, (Chg.refl _ _).setCell (by simp) _⟩
    · go_enter Try.func19, Try.ntmps19
      go_wp2_with fail
      go_ret
      exact ⟨ret_int (by simp [sqNext]), by simp only [sqNext]; exact HQ.out.set 2 _ rfl, (Chg.refl _ _).setCell (by simp) _⟩
    · cases fa
      · go_enter Try.func19, Try.ntmps19
        go_wp2_with (go_at_call 20; ((with_reducible refine (hA _).mono ?_); rintro e w' ⟨rfl, rfl⟩))
        go_ret
        have E : sqNext ⟨sf, 0, true, false, lk⟩ i = ⟨sf, 0, true, false, lk⟩ := by simp [sqNext, HF.out]
        exact ⟨ret_int (by rw [E]), by rw [E]; exact HQ.out.set 2 _ rfl, (Chg.refl _ _).setCell (by simp) _⟩
      · go_enter Try.func19, Try.ntmps19
        go_wp2_with (go_at_call 20; ((with_reducible refine (hA _).mono ?_); rintro e w' ⟨rfl, rfl⟩))
        go_ret
        have E : sqNext ⟨sf, 0, true, false, lk⟩ i = ⟨sf, 1, true, false, lk⟩ := by simp [sqNext, HF.out]
        exact ⟨ret_int (by rw [E]), by rw [E]; exact HQ.out.set 2 _ rfl, (Chg.refl _ _).setCell (by simp) _⟩
  · have hA := armed_any w b bi q i hQ hI hne hq h h2 h3
    have HA := Lib.hid hA
    clear hA
    rw [h] at c1
    have HH := Lib.hid h
    clear h
    go_enter Try.func19, Try.ntmps19
    go_wp2_with (go_at_call 21; ((with_reducible refine HA.out.mono ?_); rintro e w' ⟨rfl, hB, hC⟩))
    go_ret
    exact ⟨rfl, hB, hC⟩
  · have E : sqNext q i = q := by simp [sqNext, h]
    rw [h] at c1
    have e2 : q.state = (sqNext q i).state := by rw [E]
    have HE := Lib.hid E
    have HH := Lib.hid h
    clear E h e2
    go_enter Try.func19, Try.ntmps19
    go_wp2_with fail
    go_ret
    exact ⟨ret_int (by rw [HE.out, HH.out]), by rw [HE.out]; exact hQ, Chg.refl _ _⟩

theorem cycle_nil (w : World) (i : SI) : Calls Try.prog 10 #[.pointer none, .agg i.cells] w fun e w' => e = .returned (.int .i64 0) ∧ Chg [] w w' := by
  unfold SI.cells
  go_enter Try.func10, Try.ntmps10
  go_wp2_with (go_at_call 16; ((with_reducible refine (sLocked_nil _).mono ?_); rintro e w' ⟨rfl, rfl⟩))
  go_ret
  exact ⟨rfl, (Chg.refl _ _).alloc _⟩

theorem sqCmd_ok {q : SQ} (h : q.ok) (c : Int) : (sqCmd q c).ok := by
  unfold sqCmd
  split
  · exact ⟨h.st, by simp⟩
  · split
    · exact ⟨h.st, by simp⟩
    · exact h
theorem sqCmd_state (q : SQ) (c : Int) : (sqCmd q c).state = q.state := by unfold sqCmd; split <;> (try split) <;> rfl
def sqRet (q : SQ) (i : SI) : Int := if q.locked then 0 else (sqCycle q i).state

set_option maxRecDepth 100000 in
set_option maxHeartbeats 1000000 in
theorem cycle_any (w : World) (b : Nat) (q : SQ) (i : SI) (hQ : At w b q.cells) (hq : q.ok) (h2 : 0 ≤ i.pw) (h3 : i.pw ≤ 15) :
    Calls Try.prog 10 #[.pointer (some ⟨b, 0, none⟩), .agg i.cells] w fun e w' =>
      e = .returned (.int .i64 (sqRet q i)) ∧ At w' b (sqCycle q i).cells ∧ Chg [b] w w' := by
  by_cases hl : q.locked = true
  · have E : sqCycle q i = q := by simp [sqCycle, hl]
    have R : sqRet q i = 0 := by simp [sqRet, hl]
    rw [E, R]
    clear E R
    unfold SI.cells
    go_enter Try.func10, Try.ntmps10
    go_wp2_with (go_at_call 16; ((with_reducible refine (sLocked_any _ b q (hQ.alloc _)).mono ?_); rintro e w' ⟨rfl, rfl⟩))
    go_ret
    exact ⟨rfl, hQ.alloc _, (Chg.refl _ _).alloc _⟩
  · have E : sqCycle q i = sqEnd q (sqNext (sqCmd q i.cmd) i) := by simp [sqCycle, hl]
    have R : sqRet q i = (sqEnd q (sqNext (sqCmd q i.cmd) i)).state := by simp [sqRet, hl, E]
    rw [E, R]
    clear E R
    have hl' : q.locked = false := by simpa using hl
    have hlt := hQ.lt
    have f2 := hQ.frozen 2
    have hq1 := sqCmd_ok hq i.cmd
    have hs1 := sqCmd_state q i.cmd
    have ec : ∀ (w1 : World), ((i.cmd = 1 → At w1 b (SQ.cells { q with arm := true, safe := false })) ∧ (¬ i.cmd = 1 → i.cmd = 2 → At w1 b (SQ.cells { q with arm := false, safe := true })) ∧ (¬ i.cmd = 1 → ¬ i.cmd = 2 → At w1 b q.cells)) → At w1 b (sqCmd q i.cmd).cells := by
      intro w1 h
      unfold sqCmd
      split
      · exact h.1 ‹_›
      · split
        · exact h.2.1 ‹_› ‹_›
        · exact h.2.2 ‹_› ‹_›
    have EC := Lib.hid ec
    have HS := Lib.hid hs1
    clear ec hs1 hl
    generalize hq1e : sqCmd q i.cmd = q1 at *
    clear hq1e
    unfold SI.cells
    go_enter Try.func10, Try.ntmps10
    go_upto_block 0 with (go_at_call 16; ((with_reducible refine (sLocked_any _ b q (hQ.alloc _)).mono ?_); rintro e w' ⟨rfl, rfl⟩))
    have hA0 := hQ.alloc (.cells #[.int .i64 i.cmd, .bool i.heard, .int .i64 i.pc, .int .i64 i.pp, .int .i64 i.ps, .int .i64 i.pw, .bool i.flight, .bool i.fires, .int .i64 i.phase] 32)
    have hI0 := At.new w #[.int .i64 i.cmd, .bool i.heard, .int .i64 i.pc, .int .i64 i.pp, .int .i64 i.ps, .int .i64 i.pw, .bool i.flight, .bool i.fires, .int .i64 i.phase] 32
    have hX0 : Chg [b] w (w.alloc (.cells #[.int .i64 i.cmd, .bool i.heard, .int .i64 i.pc, .int .i64 i.pp, .int .i64 i.ps, .int .i64 i.pw, .bool i.flight, .bool i.fires, .int .i64 i.phase] 32)) := (Chg.refl _ _).alloc _
    go_cut [] (fun w1 => At w1 b q1.cells ∧ At w1 w.heap.size i.cells ∧ Chg [b] w w1)
    case first =>
      generalize hw : w.alloc (.cells #[.int .i64 i.cmd, .bool i.heard, .int .i64 i.pc, .int .i64 i.pp, .int .i64 i.ps, .int .i64 i.pw, .bool i.flight, .bool i.fires, .int .i64 i.phase] 32) = wa at *
      clear hw
      have c2 := hA0.cell 2
      have f2' := hA0.frozen 2
      simp only [SQ.cells] at c2
      by_cases h1 : i.cmd = 1
      · go_wp2
        go_meet
        exact ⟨EC.out _ ⟨fun _ => hA0.set 2 _ rfl, fun h => absurd h1 h, fun h => absurd h1 h⟩, hI0.other _ _ (by simp; omega), hX0.setCell (by simp) _⟩
      · have h1' : (i.cmd == 1) = false := by simpa using h1
        by_cases h2 : i.cmd = 2
        · go_wp2
          go_meet
          exact ⟨EC.out _ ⟨fun h => absurd h h1, fun _ _ => hA0.set 2 _ rfl, fun _ h => absurd h2 h⟩, hI0.other _ _ (by simp; omega), hX0.setCell (by simp) _⟩
        · have h2' : (i.cmd == 2) = false := by simpa using h2
          go_wp2
          go_meet
          exact ⟨EC.out _ ⟨fun h => absurd h h1, fun _ h => absurd h h2, fun _ _ => hA0⟩, hI0, hX0⟩
    obtain ⟨hA1, hI1, hX1⟩ := hcut
    go_wp2_with fail
    refine (next_any _ b _ q1 i hA1 hI1 (by omega) hq1 h2 h3).mono ?_
    rintro e w2 ⟨rfl, hA2, hX2⟩
    have hs2 : ∀ x, sqEnd q x = (if x.state ≠ q1.state ∨ x.state = 2 then { x with arm := false, safe := false } else x) := by intro x; rw [HS.out]; rfl
    generalize hq2 : sqNext q1 i = q2 at *
    have HQ2 := Lib.hid hq2
    clear hq2
    have e2 := hs2 q2
    clear hs2
    have HE := Lib.hid e2
    clear e2
    have d1 := hA2.cell 1
    have d2 := hA2.cell 2
    have g1 := hA2.frozen 1
    have g2 := hA2.frozen 2
    simp only [SQ.cells] at d1 d2
    have hX := hX1.trans hX2
    by_cases hc : q2.state ≠ q1.state ∨ q2.state = 2
    · have e3 := HE.out
      rw [if_pos hc] at e3
      have H3 := Lib.hid e3
      clear e3 HE
      by_cases h4 : q2.state = q1.state
      · have h5 : q2.state = 2 := by rcases hc with h | h; exact absurd h4 h; exact h
        have hb : (q2.state != q1.state) = false := by simpa using h4
        have hb2 : (q2.state == 2) = true := by simpa using h5
        clear hc h4 h5
        go_wp2_with fail
        go_ret
        exact ⟨ret_int (by rw [HQ2.out, H3.out]), by rw [HQ2.out, H3.out]; exact (hA2.set 1 (.int .i64 q2.state) rfl).set 2 (.int .i64 0) rfl, (hX.setCell (by simp) _).setCell (by simp) _⟩
      · have hb : (q2.state != q1.state) = true := by simpa using h4
        clear hc h4
        go_wp2_with fail
        go_ret
        exact ⟨ret_int (by rw [HQ2.out, H3.out]), by rw [HQ2.out, H3.out]; exact (hA2.set 1 (.int .i64 q2.state) rfl).set 2 (.int .i64 0) rfl, (hX.setCell (by simp) _).setCell (by simp) _⟩
    · have e3 := HE.out
      rw [if_neg hc] at e3
      have h4 : q2.state = q1.state := by apply Classical.byContradiction; intro h; exact hc (Or.inl h)
      have h5 : ¬ q2.state = 2 := fun h => hc (Or.inr h)
      have hb : (q2.state != q1.state) = false := by simpa using h4
      have hb2 : (q2.state == 2) = false := by simpa using h5
      have H4 := Lib.hid h4
      have H3 := Lib.hid e3
      clear hc h4 h5 e3 HE
      go_wp2_with fail
      go_ret
      exact ⟨ret_int (by rw [HQ2.out, H3.out, H4.out]), by rw [HQ2.out, H3.out]; rw [← H4.out] at hA2; exact hA2, hX⟩
end Go.Proofs.Ytdeckpbeclionaa
