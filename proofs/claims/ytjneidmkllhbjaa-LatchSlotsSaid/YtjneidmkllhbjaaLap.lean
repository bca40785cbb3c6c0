/- Package latch: Open, where it is refused. -/
import Derived.Test.YtjneidmkllhbjaaLat2
import Derived.Test.YtjneidmkllhbjaaFlw
namespace Go.Proofs.Ytjneidmkllhbjaa
open Go.RowKit

theorem lopen_nil (w : World) (base : Int) : Calls Try.prog 17 #[.pointer none, .int .i64 base] w fun e w' => e = .returned (.tuple #[.pointer none, .int .i64 9]) ∧ Chg [] w w' := by
  go_enter Try.func17, Try.ntmps17
  go_wp2
  go_returns
  exact ⟨rfl, (Chg.refl _ _).alloc _⟩
theorem lopen_down (w : World) (f r c : Nat) (s : FL) (h : FlA w f r c s) (ho : s.off = true) (base : Int) : Calls Try.prog 17 #[.pointer (some ⟨f, 0, none⟩), .int .i64 base] w fun e w' => e = .returned (.tuple #[.pointer none, .int .i64 11]) ∧ Chg [] w w' := by
  have HD := fun w' (hX : Chg [] w w') => fl_down w' f r c s (h.keep hX (by simp) (by simp) (by simp))
  rw [ho] at HD
  go_enter Try.func17, Try.ntmps17
  go_wp2_with fail
  refine (HD _ ((Chg.refl _ _).alloc _)).mono ?_; rintro e w' ⟨rfl, rfl⟩
  go_wp2
  go_returns
  exact ⟨rfl, (Chg.refl _ _).alloc _⟩
theorem lopen_range (w : World) (f r c : Nat) (s : FL) (h : FlA w f r c s) (ho : s.off = false) (hb : s.B.size ≤ 4096) (base : Int) (hr : base < 0 ∨ (s.B.size : Int) - 48 < base) : Calls Try.prog 17 #[.pointer (some ⟨f, 0, none⟩), .int .i64 base] w fun e w' => e = .returned (.tuple #[.pointer none, .int .i64 2]) ∧ Chg [] w w' := by
  have HD := fun w' (hX : Chg [] w w') => fl_down w' f r c s (h.keep hX (by simp) (by simp) (by simp))
  have HS := fun w' (hX : Chg [] w w') => fl_size w' f r c s (h.keep hX (by simp) (by simp) (by simp))
  rw [ho] at HD
  have hsz : 0 ≤ (s.B.size : Int) ∧ (s.B.size : Int) ≤ 4096 := by omega
  generalize (s.B.size : Int) = n at *
  clear hb
  by_cases h0 : base < 0
  · clear hr
    go_enter Try.func17, Try.ntmps17
    go_wp2_with fail
    refine (HD _ ((Chg.refl _ _).alloc _)).mono ?_; rintro e w' ⟨rfl, rfl⟩
    go_wp2
    go_returns
    exact ⟨rfl, (Chg.refl _ _).alloc _⟩
  · have h1 : n - 48 < base := by omega
    clear hr
    go_enter Try.func17, Try.ntmps17
    go_wp2_with fail
    refine (HD _ ((Chg.refl _ _).alloc _)).mono ?_; rintro e w' ⟨rfl, rfl⟩
    go_wp2_with fail
    refine (HS _ ((Chg.refl _ _).alloc _)).mono ?_; rintro e w' ⟨rfl, rfl⟩
    go_wp2
    go_returns
    exact ⟨rfl, (Chg.refl _ _).alloc _⟩
end Go.Proofs.Ytjneidmkllhbjaa
