/- The walk of the law NavKinds. -/
import Derived.Test.YtilgjjkppioblaaN06
namespace Go.Proofs.Ytilgjjkppioblaa
open Go.RowKit

set_option maxHeartbeats 1000000 in
theorem NavKinds_walk (W : World) (k : Int) (hk : (Lit.int .i64 k).wf = true) (s : ByteArray) (_hs : s.size ≤ maxLen) :
    Calls Try.prog 6 #[.int .i64 k, .string s] W fun e w' => e = .returned (.bool true) ∧ Below W.heap.size W w' := by
  have hb : i64b k := bounds_i64 hk
  by_cases hbig : 64 < s.size
  · go_enter Try.func6, Try.ntmps6
    go_wp2_with (go_at_call 11; refine (awake06 _).mono ?_; rintro e w' ⟨rfl, hX⟩)
    go_ret
    exact ⟨rfl, Chg.to_below (Chg.trans (by assumption) (by assumption))⟩
  · have KA := fun w => kind_any w k hb
    have KB0 := fun w => kind_any w 0 (by unfold i64b; omega)
    have KB1 := fun w => kind_any w 1 (by unfold i64b; omega)
    rw [show kindOf 0 = 16 from rfl] at KB0
    rw [show kindOf 1 = 17 from rfl] at KB1
    by_cases h16 : k = 16
    · obtain rfl := h16
      have S := fun w => source_yes w 16 (.string s) (Or.inl rfl)
      rw [show kindOf 16 = -1 from rfl] at KA
      have KB := KB0
      go_enter Try.func6, Try.ntmps6
      go_wp2_with (first
        | (go_at_call 11; refine (awake06 _).mono ?_; rintro e w0 ⟨rfl, hX0⟩)
        | (go_at_call 17; (with_reducible refine (S _).mono ?_); rintro e w1 ⟨rfl, hX1⟩)
        | (go_at_call 18; (with_reducible refine (KA _).mono ?_); rintro e w' ⟨rfl, rfl⟩)
        | (go_at_call 18; (with_reducible refine (KB _).mono ?_); rintro e w' ⟨rfl, rfl⟩))
      go_ret
      exact ⟨rfl, Chg.to_below (hX0.trans hX1)⟩
    · by_cases h17 : k = 17
      · obtain rfl := h17
        have S := fun w => source_yes w 17 (.string s) (Or.inr rfl)
        rw [show kindOf 17 = -1 from rfl] at KA
        have KB := KB1
        go_enter Try.func6, Try.ntmps6
        go_wp2_with (first
        | (go_at_call 11; refine (awake06 _).mono ?_; rintro e w0 ⟨rfl, hX0⟩)
        | (go_at_call 17; (with_reducible refine (S _).mono ?_); rintro e w1 ⟨rfl, hX1⟩)
        | (go_at_call 18; (with_reducible refine (KA _).mono ?_); rintro e w' ⟨rfl, rfl⟩)
        | (go_at_call 18; (with_reducible refine (KB _).mono ?_); rintro e w' ⟨rfl, rfl⟩))
        go_ret
        exact ⟨rfl, Chg.to_below (hX0.trans hX1)⟩
      · have S := fun w => source_no w k (.string s) hb (by omega)
        have KB := KB0
        by_cases h0 : k = 0
        · obtain rfl := h0
          rw [show kindOf 0 = 16 from rfl] at KA
          go_enter Try.func6, Try.ntmps6
          go_wp2_with (first
        | (go_at_call 11; refine (awake06 _).mono ?_; rintro e w0 ⟨rfl, hX0⟩)
        | (go_at_call 17; (with_reducible refine (S _).mono ?_); rintro e w1 ⟨rfl, hX1⟩)
        | (go_at_call 18; (with_reducible refine (KA _).mono ?_); rintro e w' ⟨rfl, rfl⟩)
        | (go_at_call 18; (with_reducible refine (KB _).mono ?_); rintro e w' ⟨rfl, rfl⟩))
          go_ret
          exact ⟨rfl, Chg.to_below (hX0.trans hX1)⟩
        · by_cases h1 : k = 1
          · obtain rfl := h1
            rw [show kindOf 1 = 17 from rfl] at KA
            go_enter Try.func6, Try.ntmps6
            go_wp2_with (first
        | (go_at_call 11; refine (awake06 _).mono ?_; rintro e w0 ⟨rfl, hX0⟩)
        | (go_at_call 17; (with_reducible refine (S _).mono ?_); rintro e w1 ⟨rfl, hX1⟩)
        | (go_at_call 18; (with_reducible refine (KA _).mono ?_); rintro e w' ⟨rfl, rfl⟩)
        | (go_at_call 18; (with_reducible refine (KB _).mono ?_); rintro e w' ⟨rfl, rfl⟩))
            go_ret
            exact ⟨rfl, Chg.to_below (hX0.trans hX1)⟩
          · rw [show kindOf k = -1 by unfold kindOf; rw [if_neg h0, if_neg h1]] at KA
            have b0 : (k == 0) = false := by simpa using h0
            have b1 : (k == 1) = false := by simpa using h1
            have b2 : (k == 16) = false := by simpa using h16
            have b3 : (k == 17) = false := by simpa using h17
            go_enter Try.func6, Try.ntmps6
            go_wp2_with (first
        | (go_at_call 11; refine (awake06 _).mono ?_; rintro e w0 ⟨rfl, hX0⟩)
        | (go_at_call 17; (with_reducible refine (S _).mono ?_); rintro e w1 ⟨rfl, hX1⟩)
        | (go_at_call 18; (with_reducible refine (KA _).mono ?_); rintro e w' ⟨rfl, rfl⟩)
        | (go_at_call 18; (with_reducible refine (KB _).mono ?_); rintro e w' ⟨rfl, rfl⟩))
            go_ret
            exact ⟨rfl, Chg.to_below (hX0.trans hX1)⟩
end Go.Proofs.Ytilgjjkppioblaa
