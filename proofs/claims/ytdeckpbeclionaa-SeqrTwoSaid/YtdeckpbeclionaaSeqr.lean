/- Package seqr and its reference: one model of a sequencer, and the contracts of both packages' functions over it. -/
import Derived.Test.YtdeckpbeclionaaRows
import Derived.Test.YtdeckpbeclionaaHeap
import Derived.WalkLawsBesides
import Derived.WalkSpells
import Derived.BigQuiet
import Derived.StillTailTactics
import Derived.Deep.DeepCutAuto
import Derived.Deep.CutBlock
namespace Go.Proofs.Ytdeckpbeclionaa
open Go.RowKit

structure SI where
  cmd : Int
  heard : Bool
  pc : Int
  pp : Int
  ps : Int
  pw : Int
  flight : Bool
  fires : Bool
  phase : Int
def SI.cells (i : SI) : Array Value := #[.int .i64 i.cmd, .bool i.heard, .int .i64 i.pc, .int .i64 i.pp, .int .i64 i.ps, .int .i64 i.pw, .bool i.flight, .bool i.fires, .int .i64 i.phase]
def SI.rcells (i : SI) : Array Value := #[.int .i64 i.cmd, .bool i.heard, .int .i64 i.ps, .int .i64 i.pw, .bool i.flight, .bool i.fires, .int .i64 i.phase]
/-- The peer's word is one that may be. -/
def SI.right (i : SI) : Bool := decide (0 ≤ i.ps) && (decide (i.ps ≤ 2) && (decide (0 ≤ i.pw) && decide (i.pw ≤ 15)))
def fArm (i : SI) : Bool := i.heard && (decide (i.pw % 2 = 1) || decide (1 ≤ i.ps))
def fSafe (i : SI) : Bool := i.heard && (decide (i.pw / 2 % 2 = 1) || decide (i.ps = 0))

structure SQ where
  safing : Int
  state : Int
  arm : Bool
  safe : Bool
  locked : Bool
def wishOf (q : SQ) : Int := (if q.arm then 1 else 0) + (if q.safe then 2 else 0)
def SQ.cells (q : SQ) : Array Value := #[.int .i64 q.safing, .int .i64 q.state, .int .i64 (wishOf q), .bool q.locked]
def SQ.rcells (q : SQ) : Array Value := #[.int .i64 q.safing, .int .i64 q.state, .bool q.locked, .bool q.arm, .bool q.safe]
structure SQ.ok (q : SQ) : Prop where
  st : q.state = 0 ∨ q.state = 1 ∨ q.state = 2
  one : ¬(q.arm = true ∧ q.safe = true)

def sqCmd (q : SQ) (c : Int) : SQ := if c = 1 then { q with arm := true, safe := false } else if c = 2 then { q with arm := false, safe := true } else q
def sqNext (q : SQ) (i : SI) : SQ :=
  if q.state = 0 then (if q.arm && fArm i then { q with state := 1, safe := false } else { q with safe := false })
  else if q.state = 1 then
    (if decide (i.cmd = 3) || i.fires then { q with state := 2, arm := false }
     else if q.safe && i.flight && decide (i.phase < q.safing) then { q with arm := false, safe := false }
     else if q.safe && fSafe i then { q with state := 0, arm := false } else { q with arm := false })
  else q
def sqEnd (q q1 : SQ) : SQ := if q1.state ≠ q.state ∨ q1.state = 2 then { q1 with arm := false, safe := false } else q1
def sqCycle (q : SQ) (i : SI) : SQ := if q.locked then q else sqEnd q (sqNext (sqCmd q i.cmd) i)

theorem band1 (x : Int) (h0 : 0 ≤ x) (h1 : x ≤ 15) : bits BinOp.and IntKind.i64 x 1 = x % 2 := by
  have key : ∀ n : Fin 16, bits BinOp.and IntKind.i64 (n.val : Int) 1 = (n.val : Int) % 2 := by decide
  obtain ⟨n, rfl⟩ := Int.eq_ofNat_of_zero_le h0
  exact key ⟨n, by omega⟩
theorem band2 (x : Int) (h0 : 0 ≤ x) (h1 : x ≤ 15) : bits BinOp.and IntKind.i64 x 2 = 2 * (x / 2 % 2) := by
  have key : ∀ n : Fin 16, bits BinOp.and IntKind.i64 (n.val : Int) 2 = 2 * ((n.val : Int) / 2 % 2) := by decide
  obtain ⟨n, rfl⟩ := Int.eq_ofNat_of_zero_le h0
  exact key ⟨n, by omega⟩

theorem forArming_any (w : World) (b : Nat) (i : SI) (hI : At w b i.cells) (h0 : 0 ≤ i.pw) (h1 : i.pw ≤ 15) :
    Calls Try.prog 20 #[.pointer (some ⟨b, 0, none⟩)] w fun e w' => e = .returned (.bool (fArm i)) ∧ w = w' := by
  have c1 := hI.cell 1
  have c4 := hI.cell 4
  have c5 := hI.cell 5
  simp only [SI.cells] at c1 c4 c5
  have E := Lib.hid (band1 i.pw h0 h1)
  go_enter Try.func20, Try.ntmps20
  go_wp2
  all_goals
    go_ret
    have e := E.out
    refine ⟨ret_bool ?_, rfl⟩
    unfold fArm
    by_cases hh : i.heard = true <;> by_cases hp : 1 ≤ i.ps <;> by_cases hq : i.pw % 2 = 1 <;> simp_all <;> omega

theorem forSafe_any (w : World) (b : Nat) (i : SI) (hI : At w b i.cells) (h0 : 0 ≤ i.pw) (h1 : i.pw ≤ 15) :
    Calls Try.prog 22 #[.pointer (some ⟨b, 0, none⟩)] w fun e w' => e = .returned (.bool (fSafe i)) ∧ w = w' := by
  have c1 := hI.cell 1
  have c4 := hI.cell 4
  have c5 := hI.cell 5
  simp only [SI.cells] at c1 c4 c5
  have E := Lib.hid (band2 i.pw h0 h1)
  go_enter Try.func22, Try.ntmps22
  go_wp2
  all_goals
    go_ret
    have e := E.out
    refine ⟨ret_bool ?_, rfl⟩
    unfold fSafe
    by_cases hh : i.heard = true <;> by_cases hp : i.ps = 0 <;> by_cases hq : i.pw / 2 % 2 = 1 <;> simp_all <;> omega

theorem sLocked_nil (w : World) : Calls Try.prog 16 #[.pointer none] w fun e w' => e = .returned (.bool true) ∧ w = w' := by
  go_enter Try.func16, Try.ntmps16
  go_wp2
  go_ret
  exact ⟨rfl, rfl⟩
theorem sLocked_any (w : World) (b : Nat) (q : SQ) (hQ : At w b q.cells) :
    Calls Try.prog 16 #[.pointer (some ⟨b, 0, none⟩)] w fun e w' => e = .returned (.bool q.locked) ∧ w = w' := by
  have c3 := hQ.cell 3
  simp only [SQ.cells] at c3
  go_enter Try.func16, Try.ntmps16
  go_wp2
  go_ret
  exact ⟨rfl, rfl⟩
theorem sState_nil (w : World) : Calls Try.prog 13 #[.pointer none] w fun e w' => e = .returned (.int .i64 0) ∧ w = w' := by
  go_enter Try.func13, Try.ntmps13
  go_wp2
  go_ret
  exact ⟨rfl, rfl⟩
theorem sState_any (w : World) (b : Nat) (q : SQ) (hQ : At w b q.cells) :
    Calls Try.prog 13 #[.pointer (some ⟨b, 0, none⟩)] w fun e w' => e = .returned (.int .i64 q.state) ∧ w = w' := by
  have c1 := hQ.cell 1
  simp only [SQ.cells] at c1
  go_enter Try.func13, Try.ntmps13
  go_wp2
  go_ret
  exact ⟨rfl, rfl⟩
theorem sWish_nil (w : World) : Calls Try.prog 14 #[.pointer none] w fun e w' => e = .returned (.int .i64 0) ∧ w = w' := by
  go_enter Try.func14, Try.ntmps14
  go_wp2
  go_ret
  exact ⟨rfl, rfl⟩
theorem sWish_any (w : World) (b : Nat) (q : SQ) (hQ : At w b q.cells) :
    Calls Try.prog 14 #[.pointer (some ⟨b, 0, none⟩)] w fun e w' => e = .returned (.int .i64 (wishOf q)) ∧ w = w' := by
  have c2 := hQ.cell 2
  simp only [SQ.cells] at c2
  go_enter Try.func14, Try.ntmps14
  go_wp2
  go_ret
  exact ⟨rfl, rfl⟩
theorem sNew (w : World) (k : Int) (l : Bool) : Calls Try.prog 8 #[.int .i64 k, .bool l] w fun e w' =>
    ∃ b, e = .returned (.pointer (some ⟨b, 0, none⟩)) ∧ w.heap.size ≤ b ∧ At w' b (SQ.cells ⟨k, 0, false, false, l⟩) ∧ Chg [] w w' := by
  go_enter Try.func8, Try.ntmps8
  go_wp2
  go_ret
  exact ⟨_, rfl, Nat.le_refl _, At.new w _ _, (Chg.refl _ _).alloc _⟩
theorem sSet_nil (w : World) (k : Int) : Calls Try.prog 17 #[.pointer none, .int .i64 k] w fun e w' => e = .returned (.bool false) ∧ w = w' := by
  go_enter Try.func17, Try.ntmps17
  go_wp2_with (go_at_call 16; refine (sLocked_nil _).mono ?_; rintro e w' ⟨rfl, rfl⟩)
  go_ret
  exact ⟨rfl, rfl⟩
def sqSetOk (q : SQ) (k : Int) : Bool := !q.locked && (decide (0 ≤ k) && decide (k ≤ 2))
def sqSet (q : SQ) (k : Int) : SQ := if sqSetOk q k then { q with state := k, arm := false, safe := false } else q
theorem sSet_any (w : World) (b : Nat) (q : SQ) (k : Int) (hQ : At w b q.cells) :
    Calls Try.prog 17 #[.pointer (some ⟨b, 0, none⟩), .int .i64 k] w fun e w' => e = .returned (.bool (sqSetOk q k)) ∧ At w' b (sqSet q k).cells ∧ Chg [b] w w' := by
  have c1 := hQ.cell 1
  have c2 := hQ.cell 2
  have f1 := hQ.frozen 1
  have f2 := hQ.frozen 2
  simp only [SQ.cells] at c1 c2
  by_cases hk : sqSetOk q k = true
  · have h := hk
    simp [sqSetOk] at h
    obtain ⟨h1, h2, h3⟩ := h
    have e : sqSet q k = { q with state := k, arm := false, safe := false } := by simp [sqSet, hk]
    have E := Lib.hid e
    have HK := Lib.hid hk
    clear e hk
    go_enter Try.func17, Try.ntmps17
    go_wp2_with (go_at_call 16; refine (sLocked_any _ b q hQ).mono ?_; rintro e w' ⟨rfl, rfl⟩)
    go_ret
    exact ⟨ret_bool HK.out.symm, by rw [E.out]; exact (hQ.set 1 (.int .i64 k) rfl).set 2 (.int .i64 0) rfl, ((Chg.refl _ _).setCell (by simp) _).setCell (by simp) _⟩
  · have h := hk
    simp [sqSetOk] at h
    have e : sqSet q k = q := by simp [sqSet, hk]
    have E := Lib.hid e
    have HK := Lib.hid (show sqSetOk q k = false by simpa using hk)
    clear e hk
    go_enter Try.func17, Try.ntmps17
    go_wp2_with (go_at_call 16; refine (sLocked_any _ b q hQ).mono ?_; rintro e w' ⟨rfl, rfl⟩)
    all_goals
      go_ret
      exact ⟨ret_bool HK.out.symm, by rw [E.out]; exact hQ, Chg.refl _ _⟩

set_option maxHeartbeats 1000000 in
theorem armed_any (w : World) (b bi : Nat) (q : SQ) (i : SI) (hQ : At w b q.cells) (hI : At w bi i.cells) (hne : b ≠ bi) (hq : q.ok) (h1 : q.state = 1) (h2 : 0 ≤ i.pw) (h3 : i.pw ≤ 15) :
    Calls Try.prog 21 #[.pointer (some ⟨b, 0, none⟩), .pointer (some ⟨bi, 0, none⟩)] w fun e w' =>
      e = .returned (.int .i64 (sqNext q i).state) ∧ At w' b (SQ.cells { sqNext q i with state := q.state }) ∧ Chg [b] w w' := by
  obtain ⟨sf, st, arm, safe, lk⟩ := q
  obtain ⟨cmd, heard, pc, pp, ps, pw, flight, fires, phase⟩ := i
  obtain rfl : st = 1 := h1
  have one := hq.one
  have c0 := hQ.cell 0
  have c2 := hQ.cell 2
  have f2 := hQ.frozen 2
  have i0 := hI.cell 0
  have i3 := hI.cell 6
  have i4 := hI.cell 7
  have i5 := hI.cell 8
  have hS : ∀ (v : Value), Calls Try.prog 22 #[.pointer (some ⟨bi, 0, none⟩)] (w.setCell ⟨b, 2, none⟩ v) fun e w' => e = .returned (.bool (fSafe ⟨cmd, heard, pc, pp, ps, pw, flight, fires, phase⟩)) ∧ w.setCell ⟨b, 2, none⟩ v = w' :=
    fun v => forSafe_any _ bi _ (hI.other _ _ (by simpa using hne.symm)) h2 h3
  have hS2 : ∀ (v : Value) (n : Nat), Calls Try.prog 22 #[.pointer (some ⟨bi, 0, none⟩)] ((w.setCell ⟨b, 2, none⟩ v).drewN n) fun e w' => e = .returned (.bool (fSafe ⟨cmd, heard, pc, pp, ps, pw, flight, fires, phase⟩)) ∧ (w.setCell ⟨b, 2, none⟩ v).drewN n = w' :=
    fun v n => forSafe_any _ bi _ ((hI.other _ _ (by simpa using hne.symm)).drewN n) h2 h3
  generalize hf : fSafe ⟨cmd, heard, pc, pp, ps, pw, flight, fires, phase⟩ = fs at hS hS2
  have HF := Lib.hid hf
  clear hf
  simp [SQ.cells, SI.cells, wishOf] at c0 c2 i0 i3 i4 i5
  have HQ := Lib.hid hQ
  have HI := Lib.hid hI
  clear hQ hI hq
  have fin : ∀ (q' : SQ) (w' : World), sqNext ⟨sf, 1, arm, safe, lk⟩ ⟨cmd, heard, pc, pp, ps, pw, flight, fires, phase⟩ = q' → At w' b (SQ.cells { q' with state := 1 }) → Chg [b] w w' → 
      ∀ k, k = q'.state → (Ending.returned (.int .i64 k) = .returned (.int .i64 (sqNext ⟨sf, 1, arm, safe, lk⟩ ⟨cmd, heard, pc, pp, ps, pw, flight, fires, phase⟩).state) ∧
      At w' b (SQ.cells { sqNext ⟨sf, 1, arm, safe, lk⟩ ⟨cmd, heard, pc, pp, ps, pw, flight, fires, phase⟩ with state := 1 }) ∧ Chg [b] w w') := by
    intro q' w' h1 h2 h3 k hk
    rw [h1]
    exact ⟨ret_int hk, h2, h3⟩
  have X := Lib.hid fin
  clear fin
  have n01 : bits BinOp.andNot IntKind.i64 0 1 = 0 := by decide
  have n11 : bits BinOp.andNot IntKind.i64 1 1 = 0 := by decide
  have n21 : bits BinOp.andNot IntKind.i64 2 1 = 2 := by decide
  by_cases hc : cmd = 3
  · subst hc
    cases safe
    · go_enter Try.func21, Try.ntmps21
      cases arm <;> simp at c2 one
      all_goals
        go_wp2_with fail
        go_ret
        exact X.out ⟨sf, 2, false, false, lk⟩ _ (by have := HF.out; simp [sqNext, *]) (HQ.out.set 2 _ rfl) ((Chg.refl _ _).setCell (by simp) _) _ rfl
    · obtain rfl : arm = false := by simpa using one
      simp at c2 one
      go_enter Try.func21, Try.ntmps21
      go_wp2_with fail
      go_ret
      exact X.out ⟨sf, 2, false, true, lk⟩ _ (by have := HF.out; simp [sqNext, *]) (HQ.out.set 2 _ rfl) ((Chg.refl _ _).setCell (by simp) _) _ rfl
  · have hc' : (cmd == 3) = false := by simpa using hc
    cases fires
    · cases safe
      · go_enter Try.func21, Try.ntmps21
        cases arm <;> simp at c2 one
        all_goals
          go_wp2_with fail
          go_quiet (fail)
          go_wp2_with fail
          go_ret
          exact X.out ⟨sf, 1, false, false, lk⟩ _ (by have := HF.out; simp [sqNext, *]) ((HQ.out.set 2 _ rfl).drewN _) (((Chg.refl _ _).setCell (by simp) _).drewN _) _ rfl
      · obtain rfl : arm = false := by simpa using one
        simp at c2 one
        cases flight
        · go_enter Try.func21, Try.ntmps21
          go_wp2_with fail
          go_quiet (fail)
          cases fs
          · go_wp2_with (go_at_call 22; ((with_reducible refine (hS2 _ _).mono ?_); rintro e w' ⟨rfl, rfl⟩))
            go_ret
            exact X.out ⟨sf, 1, false, true, lk⟩ _ (by have := HF.out; simp [sqNext, *]) ((HQ.out.set 2 _ rfl).drewN _) (((Chg.refl _ _).setCell (by simp) _).drewN _) _ rfl
          · go_wp2_with (go_at_call 22; ((with_reducible refine (hS2 _ _).mono ?_); rintro e w' ⟨rfl, rfl⟩))
            go_ret
            exact X.out ⟨sf, 0, false, true, lk⟩ _ (by have := HF.out; simp [sqNext, *]) ((HQ.out.set 2 _ rfl).drewN _) (((Chg.refl _ _).setCell (by simp) _).drewN _) _ rfl
        · by_cases hp : phase < sf
          · go_enter Try.func21, Try.ntmps21
            go_wp2_with fail
            go_quiet (fail)
            go_wp2_with fail
            go_ret
            exact X.out ⟨sf, 1, false, false, lk⟩ _ (by have := HF.out; simp [sqNext, *]) (((HQ.out.set 2 _ rfl).set 2 _ rfl).drewN _) ((((Chg.refl _ _).setCell (by simp) _).setCell (by simp) _).drewN _) _ rfl
          · have hd : decide (phase < sf) = false := by simpa using hp
            go_enter Try.func21, Try.ntmps21
            go_wp2_with fail
            go_quiet (fail)
            cases fs
            · go_wp2_with (go_at_call 22; ((with_reducible refine (hS2 _ _).mono ?_); rintro e w' ⟨rfl, rfl⟩))
              go_ret
              exact X.out ⟨sf, 1, false, true, lk⟩ _ (by have := HF.out; simp [sqNext, *]) ((HQ.out.set 2 _ rfl).drewN _) (((Chg.refl _ _).setCell (by simp) _).drewN _) _ rfl
            · go_wp2_with (go_at_call 22; ((with_reducible refine (hS2 _ _).mono ?_); rintro e w' ⟨rfl, rfl⟩))
              go_ret
              exact X.out ⟨sf, 0, false, true, lk⟩ _ (by have := HF.out; simp [sqNext, *]) ((HQ.out.set 2 _ rfl).drewN _) (((Chg.refl _ _).setCell (by simp) _).drewN _) _ rfl
    · cases safe
      · go_enter Try.func21, Try.ntmps21
        cases arm <;> simp at c2 one
        all_goals
          go_wp2_with fail
          go_ret
          exact X.out ⟨sf, 2, false, false, lk⟩ _ (by have := HF.out; simp [sqNext, *]) (HQ.out.set 2 _ rfl) ((Chg.refl _ _).setCell (by simp) _) _ rfl
      · obtain rfl : arm = false := by simpa using one
        simp at c2 one
        go_enter Try.func21, Try.ntmps21
        go_wp2_with fail
        go_ret
        exact X.out ⟨sf, 2, false, true, lk⟩ _ (by have := HF.out; simp [sqNext, *]) (HQ.out.set 2 _ rfl) ((Chg.refl _ _).setCell (by simp) _) _ rfl
end Go.Proofs.Ytdeckpbeclionaa
