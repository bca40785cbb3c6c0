/- Package apogeelaw03: the reference's counter, 'awake', and the walks of the laws on counters. -/
import Derived.Test.YtmlfhefijhcpgaaCount
import Derived.Test.YtmlfhefijhcpgaaSh
import Derived.LoopTactic
import Derived.Deep.LoopGhost
import Derived.Deep.QuietTactic
namespace Go.Proofs.Ytmlfhefijhcpgaa
open Go.RowKit

theorem rNew (w : World) (k : Int) : Calls Try.prog 10 #[.int .i64 k] w fun e w' =>
    ∃ b, e = .returned (.pointer (some ⟨b, 0, none⟩)) ∧ w.heap.size ≤ b ∧ Ctr w' b 0 (cSet 1000000 k) ∧ Chg [] w w' := by
  go_enter Try.func10, Try.ntmps10
  go_wp2
  all_goals
    go_ret
    refine ⟨_, rfl, Nat.le_refl _, ?_, (Chg.refl _ _).alloc _⟩
    exact At.new' w _ _ _ (by have e : ∀ x y : Int, x = y → #[Value.int .i64 0, Value.int .i64 x] = #[Value.int .i64 0, Value.int .i64 y] := fun x y h => by rw [h]
                              exact e _ _ (by unfold cSet; omega))

set_option maxHeartbeats 400000 in
theorem rAdd (w : World) (b : Nat) (n m k : Int) (hC : Ctr w b n m) (hn : 0 ≤ n) (hnm : n ≤ m) (hm : m ≤ 1000000) :
    Calls Try.prog 12 #[.pointer (some ⟨b, 0, none⟩), .int .i64 k] w fun e w' => e = .returned (.int .i64 (cAdd n m k)) ∧ Ctr w' b (cAdd n m k) m ∧ Chg [b] w w' := by
  go_enter Try.func12, Try.ntmps12
  go_wp2_with fail
  go_loopw [5] (fun i wr => ∃ j : Nat, i = .int .i64 j ∧ (j : Int) ≤ max k 0 ∧ (j : Int) ≤ m - n ∧ Ctr wr b (n + j) m ∧ Chg [b] w wr) (fun i _ => (m - n - intOf i).toNat)
  case atStart => exact ⟨0, rfl, by omega, by omega, by simpa using hC, Chg.refl _ _⟩
  case round =>
    obtain ⟨j, rfl, hj1, hj2, hC', hX⟩ := hrel
    have h0 := hC'.c0
    have h1 := hC'.c1
    have f0 := hC'.f0
    by_cases hk : (j : Int) < k
    · go_wp2_with fail
      go_quiet (fail)
      go_wp2
      · go_roundw
        case rel => exact ⟨j + 1, by go_num, by omega, by omega, Ctr.set (w := wr.drewN nq) hC' (by omega), (hX.drewN _).setCell (by simp) _⟩
        case measure => simp [intOf]; omega
      · have e : n + (j : Int) = cAdd n m k := by unfold cAdd; omega
        go_ret
        exact ⟨ret_int e, e ▸ hC', hX.drewN _⟩
    · have hd : decide ((j : Int) < k) = false := by simpa using hk
      go_wp2_with fail
      go_quiet (fail)
      go_wp2
      have e : n + (j : Int) = cAdd n m k := by unfold cAdd; omega
      go_ret
      exact ⟨ret_int e, e ▸ hC', hX.drewN _⟩

theorem rSet (w : World) (b : Nat) (n m k : Int) (hC : Ctr w b n m) :
    Calls Try.prog 15 #[.pointer (some ⟨b, 0, none⟩), .int .i64 k] w fun e w' => e = .returned (.tuple #[]) ∧ Ctr w' b (cSet m k) m ∧ Chg [b] w w' := by
  have h0 := hC.c0
  have h1 := hC.c1
  have f0 := hC.f0
  go_enter Try.func15, Try.ntmps15
  go_wp2
  all_goals
    go_end0
    exact ⟨rfl, hC.set (by unfold cSet; omega), (Chg.refl _ _).setCell (by simp) _⟩

theorem awake03 (w : World) : Calls Try.prog 8 #[] w fun e w' => e = .returned (.bool true) ∧ Chg [] w w' := by
  have e1 : cAdd 0 2 1 = 1 := by decide
  have e2 : cAdd 1 2 1 = 2 := by decide
  have e3 : cAdd 2 2 1 = 2 := by decide
  have e4 : cAdd 1 2 9 = 2 := by decide
  go_enter Try.func8, Try.ntmps8
  go_wp2_with fail
  refine (cNew _ _).mono ?_; rintro e w1 ⟨b, rfl, hb, hC, hX⟩
  replace hC : Ctr w1 b 0 2 := hC
  go_wp2_with fail
  refine (cUp_any _ b 0 2 hC (by omega) (by omega) (by omega)).mono ?_; rintro e w2 ⟨rfl, hC2, hX2⟩
  replace hC2 : Ctr w2 b 1 2 := hC2
  go_wp2_with fail
  refine (cUp_any _ b 1 2 hC2 (by omega) (by omega) (by omega)).mono ?_; rintro e w3 ⟨rfl, hC3, hX3⟩
  replace hC3 : Ctr w3 b 2 2 := hC3
  go_wp2_with fail
  refine (cUp_any _ b 2 2 hC3 (by omega) (by omega) (by omega)).mono ?_; rintro e w4 ⟨rfl, hC4, hX4⟩
  replace hC4 : Ctr w4 b 2 2 := hC4
  go_wp2_with fail
  refine (cFull_any _ b 2 2 hC4).mono ?_; rintro e w4 ⟨rfl, rfl⟩
  go_wp2_with fail
  refine (cSet_any _ b 2 2 _ hC4).mono ?_; rintro e w5 ⟨rfl, hC5, hX5⟩
  replace hC5 : Ctr w5 b 1 2 := hC5
  go_wp2_with fail
  refine (cAdd_any _ b 1 2 _ hC5 (by omega) (by omega) (by omega)).mono ?_; rintro e w6 ⟨rfl, hC6, hX6⟩
  replace hC6 : Ctr w6 b 2 2 := hC6
  go_wp2_with fail
  refine (cReset_any _ b 2 2 hC6).mono ?_; rintro e w7 ⟨rfl, hC7, hX7⟩
  replace hC7 : Ctr w7 b 0 2 := hC7
  go_wp2_with fail
  refine (cValue_any _ b 0 2 hC7).mono ?_; rintro e w7 ⟨rfl, rfl⟩
  go_wp2_with fail
  refine (cMost_any _ b 0 2 hC7).mono ?_; rintro e w7 ⟨rfl, rfl⟩
  go_wp2_with fail
  refine (cNew _ _).mono ?_; rintro e w8 ⟨b', rfl, hb', hC', hX8⟩
  replace hC' : Ctr w8 b' 0 0 := hC'
  go_wp2_with fail
  refine (cFull_any _ b' 0 0 hC').mono ?_; rintro e w8 ⟨rfl, rfl⟩
  go_wp2
  go_ret
  have hn : ∀ x ∈ [b], x < w.heap.size → x ∈ ([] : List Nat) := fun x hx hl => by simp at hx; omega
  exact ⟨rfl, ((((((((hX.then hX2 hn).then hX3 hn).then hX4 hn).then hX5 hn).then hX6 hn).then hX7 hn).then hX8 (by simp)))⟩

theorem CountNil_walk (w : World) (n : Int) (_w0 : (Lit.int .i64 n).wf = true) : Calls Try.prog 7 #[.int .i64 n] w fun e w' => e = .returned (.bool true) ∧ Below w.heap.size w w' := by
  go_enter Try.func7, Try.ntmps7
  go_wp2_with (first
    | (go_at_call 16; refine (cReset_nil _).mono ?_; rintro e w' ⟨rfl, rfl⟩)
    | (go_at_call 14; refine (cSet_nil _ _).mono ?_; rintro e w' ⟨rfl, rfl⟩)
    | (go_at_call 11; refine (cUp_nil _).mono ?_; rintro e w' ⟨rfl, rfl⟩)
    | (go_at_call 13; refine (cAdd_nil _ _).mono ?_; rintro e w' ⟨rfl, rfl⟩)
    | (go_at_call 17; refine (cValue_nil _).mono ?_; rintro e w' ⟨rfl, rfl⟩)
    | (go_at_call 19; refine (cFull_nil _).mono ?_; rintro e w' ⟨rfl, rfl⟩)
    | (go_at_call 18; refine (cMost_nil _).mono ?_; rintro e w' ⟨rfl, rfl⟩)
    | (go_at_call 8; refine (awake03 _).mono ?_; rintro e w' ⟨rfl, hX⟩))
  go_ret
  exact ⟨rfl, hX.to_below⟩
end Go.Proofs.Ytmlfhefijhcpgaa
