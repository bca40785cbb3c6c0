/- Package apogeelaw03: the reference's counter, 'awake', and the walks of the laws on counters. -/
import Derived.Test.YtmlfhefijhcpgaaCount
import Derived.Test.YtmlfhefijhcpgaaSh
namespace Go.Proofs.Ytmlfhefijhcpgaa
open Go.RowKit

theorem awake03 (w : World) : Calls Try.prog 8 #[] w fun e w' => e = .returned (.bool true) ∧ Chg [] w w' := by
  have e1 : cAdd 0 2 1 = 1 := by decide
  have e2 : cAdd 1 2 1 = 2 := by decide
  have e3 : cAdd 2 2 1 = 2 := by decide
  have e4 : cAdd 1 2 9 = 2 := by decide
  go_enter Try.func8, Try.ntmps8
  go_wp2_with fail
  refine (cNew _ _).mono ?_; rintro e w1 ⟨b, rfl, hb, hC, hX⟩
  replace hC : Ctr w1 b 0 2 := hC
  go_wp2_with fail
  refine (cUp_any _ b 0 2 hC (by omega) (by omega) (by omega)).mono ?_; rintro e w2 ⟨rfl, hC2, hX2⟩
  replace hC2 : Ctr w2 b 1 2 := hC2
  go_wp2_with fail
  refine (cUp_any _ b 1 2 hC2 (by omega) (by omega) (by omega)).mono ?_; rintro e w3 ⟨rfl, hC3, hX3⟩
  replace hC3 : Ctr w3 b 2 2 := hC3
  go_wp2_with fail
  refine (cUp_any _ b 2 2 hC3 (by omega) (by omega) (by omega)).mono ?_; rintro e w4 ⟨rfl, hC4, hX4⟩
  replace hC4 : Ctr w4 b 2 2 := hC4
  go_wp2_with fail
  refine (cFull_any _ b 2 2 hC4).mono ?_; rintro e w4 ⟨rfl, rfl⟩
  go_wp2_with fail
  refine (cSet_any _ b 2 2 _ hC4).mono ?_; rintro e w5 ⟨rfl, hC5, hX5⟩
  replace hC5 : Ctr w5 b 1 2 := hC5
  go_wp2_with fail
  refine (cAdd_any _ b 1 2 _ hC5 (by omega) (by omega) (by omega)).mono ?_; rintro e w6 ⟨rfl, hC6, hX6⟩
  replace hC6 : Ctr w6 b 2 2 := hC6
  go_wp2_with fail
  refine (cReset_any _ b 2 2 hC6).mono ?_; rintro e w7 ⟨rfl, hC7, hX7⟩
  replace hC7 : Ctr w7 b 0 2 := hC7
  go_wp2_with fail
  refine (cValue_any _ b 0 2 hC7).mono ?_; rintro e w7 ⟨rfl, rfl⟩
  go_wp2_with fail
  refine (cMost_any _ b 0 2 hC7).mono ?_; rintro e w7 ⟨rfl, rfl⟩
  go_wp2_with fail
  refine (cNew _ _).mono ?_; rintro e w8 ⟨b', rfl, hb', hC', hX8⟩
  replace hC' : Ctr w8 b' 0 0 := hC'
  go_wp2_with fail
  refine (cFull_any _ b' 0 0 hC').mono ?_; rintro e w8 ⟨rfl, rfl⟩
  go_wp2
  go_ret
  have hn : ∀ x ∈ [b], x < w.heap.size → x ∈ ([] : List Nat) := fun x hx hl => by simp at hx; omega
  exact ⟨rfl, ((((((((hX.then hX2 hn).then hX3 hn).then hX4 hn).then hX5 hn).then hX6 hn).then hX7 hn).then hX8 (by simp)))⟩

theorem CountNil_walk (w : World) (n : Int) (_w0 : (Lit.int .i64 n).wf = true) : Calls Try.prog 7 #[.int .i64 n] w fun e w' => e = .returned (.bool true) ∧ Below w.heap.size w w' := by
  go_enter Try.func7, Try.ntmps7
  go_wp2_with (first
    | (go_at_call 16; refine (cReset_nil _).mono ?_; rintro e w' ⟨rfl, rfl⟩)
    | (go_at_call 14; refine (cSet_nil _ _).mono ?_; rintro e w' ⟨rfl, rfl⟩)
    | (go_at_call 11; refine (cUp_nil _).mono ?_; rintro e w' ⟨rfl, rfl⟩)
    | (go_at_call 13; refine (cAdd_nil _ _).mono ?_; rintro e w' ⟨rfl, rfl⟩)
    | (go_at_call 17; refine (cValue_nil _).mono ?_; rintro e w' ⟨rfl, rfl⟩)
    | (go_at_call 19; refine (cFull_nil _).mono ?_; rintro e w' ⟨rfl, rfl⟩)
    | (go_at_call 18; refine (cMost_nil _).mono ?_; rintro e w' ⟨rfl, rfl⟩)
    | (go_at_call 8; refine (awake03 _).mono ?_; rintro e w' ⟨rfl, hX⟩))
  go_ret
  exact ⟨rfl, hX.to_below⟩
end Go.Proofs.Ytmlfhefijhcpgaa
