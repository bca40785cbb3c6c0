/- Package nav: Kind and Source. -/
import Derived.Test.YtilgjjkppioblaaNavN
namespace Go.Proofs.Ytilgjjkppioblaa
open Go.RowKit

def kindOf (s : Int) : Int := if s = 0 then 16 else if s = 1 then 17 else -1
theorem kind_any (w : World) (s : Int) (_hs : i64b s) : Calls Try.prog 18 #[.int .i64 s] w fun e w' => e = .returned (.int .i64 (kindOf s)) ∧ w = w' := by
  go_enter Try.func18, Try.ntmps18
  by_cases h : s = 0 ∨ s = 1
  · rcases h with rfl | rfl
    · go_wp2
      go_returns
      exact ⟨rfl, rfl⟩
    · go_wp2
      go_returns
      exact ⟨rfl, rfl⟩
  · have e := Lib.hid (show kindOf s = -1 by unfold kindOf; rw [if_neg (by omega), if_neg (by omega)])
    by_cases h0 : s < 0
    · go_wp2
      go_returns
      exact ⟨ret_int e.out.symm, rfl⟩
    · have h2 : 2 ≤ s := by omega
      go_wp2
      go_returns
      exact ⟨ret_int e.out.symm, rfl⟩

theorem source_yes (w : World) (k : Int) (p : Value) (h : k = 16 ∨ k = 17) : Calls Try.prog 17 #[.agg #[.int .i64 k, p]] w fun e w' => e = .returned (.tuple #[.int .i64 (k - 16), .bool true]) ∧ Chg [] w w' := by
  go_enter Try.func17, Try.ntmps17
  rcases h with rfl | rfl
  · go_wp2_with fail
    refine (kind_any _ 0 (by unfold i64b; omega)).mono ?_; rintro e w' ⟨rfl, rfl⟩
    rw [show kindOf 0 = 16 from rfl]
    go_wp2
    go_returns
    exact ⟨rfl, (Chg.refl _ _).alloc _⟩
  · go_wp2_with fail
    refine (kind_any _ 1 (by unfold i64b; omega)).mono ?_; rintro e w' ⟨rfl, rfl⟩
    rw [show kindOf 1 = 17 from rfl]
    go_wp2
    go_returns
    exact ⟨rfl, (Chg.refl _ _).alloc _⟩

theorem source_no (w : World) (k : Int) (p : Value) (hk : i64b k) (h : ¬(k = 16 ∨ k = 17)) : Calls Try.prog 17 #[.agg #[.int .i64 k, p]] w fun e w' => e = .returned (.tuple #[.int .i64 0, .bool false]) ∧ Chg [] w w' := by
  have hb : i64b (wrap64 (k - 16)) := by unfold i64b wrap64; omega
  have hw : kindOf (wrap64 (k - 16)) = -1 := by
    unfold i64b at hk
    have : wrap64 (k - 16) ≠ 0 ∧ wrap64 (k - 16) ≠ 1 := by
      unfold wrap64
      omega
    unfold kindOf
    rw [if_neg this.1, if_neg this.2]
  go_enter Try.func17, Try.ntmps17
  go_wp2_with fail
  refine (kind_any _ (wrap64 (k - 16)) hb).mono ?_; rintro e w' ⟨rfl, rfl⟩
  rw [hw]
  go_wp2
  go_returns
  exact ⟨rfl, (Chg.refl _ _).alloc _⟩
end Go.Proofs.Ytilgjjkppioblaa
