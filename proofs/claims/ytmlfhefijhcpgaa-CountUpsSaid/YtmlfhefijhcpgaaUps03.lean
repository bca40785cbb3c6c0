/- The walk of the law CountUps. -/
import Derived.Test.YtmlfhefijhcpgaaOps03
namespace Go.Proofs.Ytmlfhefijhcpgaa
open Go.RowKit

theorem u64_bd (a : Int) : 0 ≤ IntKind.u64.wrap a ∧ IntKind.u64.wrap a ≤ 18446744073709551615 := Go.bounds_u64 (wf_wrap .u64 a)
theorem umod_bd (a d : Int) (h0 : 0 < d) (h1 : d ≤ 1000000) : 0 ≤ wrap64 ((IntKind.u64.wrap a).tmod d) ∧ wrap64 ((IntKind.u64.wrap a).tmod d) < d := by
  obtain ⟨h2, h3⟩ := u64_bd a
  have e : (IntKind.u64.wrap a).tmod d = IntKind.u64.wrap a % d := Int.tmod_eq_emod_of_nonneg h2
  have h4 := Int.emod_nonneg (IntKind.u64.wrap a) (show d ≠ 0 by omega)
  have h5 := Int.emod_lt_of_pos (IntKind.u64.wrap a) h0
  rw [e, IntWalk.wrap64_in _ ⟨by omega, by omega⟩]
  exact ⟨h4, h5⟩

set_option maxHeartbeats 1000000 in
theorem CountUps_walk (W : World) (a : Int) (w0 : (Lit.int .i64 a).wf = true) (b : Int) (w1 : (Lit.int .i64 b).wf = true) :
    Calls Try.prog 4 #[.int .i64 a, .int .i64 b] W fun e w' => e = .returned (.bool true) ∧ Below W.heap.size W w' := by
  have ha := bounds_i64 w0
  have hb := bounds_i64 w1
  go_enter Try.func4, Try.ntmps4
  go_wp2_with fail
  refine (cNew _ _).mono ?_; rintro e w1 ⟨x, rfl, hx, hCx, hX1⟩
  go_wp2_with fail
  refine (cNew _ _).mono ?_; rintro e w2 ⟨y, rfl, hy, hCy, hX2⟩
  go_wp2_with fail
  have bm := umod_bd a 300 (by omega) (by omega)
  have bn := umod_bd b 500 (by omega) (by omega)
  generalize wrap64 ((IntKind.u64.wrap a).tmod 300) = m at *
  generalize wrap64 ((IntKind.u64.wrap b).tmod 500) = n at *
  have em : cSet 1000000 m = m := by unfold cSet; omega
  rw [em] at hCx hCy
  clear em
  have hxy : x ≠ y := by have := hCx.lt; omega
  replace hCx := hCx.keep hX2 (by simp)
  have hxW : W.heap.size ≤ x := hx
  have hyW : W.heap.size ≤ y := by have := hX1.size; omega
  have hB2 : Below W.heap.size W w2 := Chg.below (Chg.to_below hX1) hX2 (by have := hX1.size; omega) (by simp)
  clear hX1 hX2 hx hy
  have key : ∀ (k : Int), 0 ≤ k → k < n → cAdd (min k m) m 1 = (if m < k + 1 then m else k + 1) := by intro k h0 h1; unfold cAdd; omega
  go_loopw [21] (fun i wr => ∃ k : Nat, (k : Int) ≤ n ∧ i = .int .i64 k ∧ Below W.heap.size W wr ∧ Ctr wr x (min k m) m ∧ Ctr wr y 0 m) (fun i _ => (n - intOf i).toNat)
  case atStart => exact ⟨0, by omega, rfl, hB2, by rw [show min ((0 : Nat) : Int) m = 0 from by omega]; exact hCx, hCy⟩
  case round =>
    obtain ⟨k, hk, rfl, hB, hCx', hCy'⟩ := hrel
    by_cases hlt : (k : Int) < n
    · have e1 := key k (by omega) hlt
      clear key
      have hle : (if m < (k : Int) + 1 then m else (k : Int) + 1) = min (((k + 1 : Nat) : Int)) m := by omega
      have Hle := Lib.hid hle
      clear hle
      go_wp2_with (go_at_call 11; refine (cUp_any _ x _ m hCx' (by omega) (by omega) (by omega)).mono ?_; rintro e w' ⟨rfl, hA, hX⟩)
      all_goals
        go_roundw
        case rel => exact ⟨k + 1, by omega, by go_num, Chg.below hB hX hB.size (by simp; omega), by rw [← Hle.out, ← e1]; exact hA, hCy'.keep hX (by simp; omega)⟩
        case measure => simp [intOf]; omega
    · have hkn : (k : Int) = n := by omega
      rw [hkn] at hCx'
      clear hkn key hk
      rcases Int.lt_trichotomy n m with h | h | h
      · have e1 : cAdd 0 m n = n := by unfold cAdd; omega
        have e2 : min n m = n := by omega
        have e3 : (n == m) = false := by simp; omega
        have e4 : decide (m ≤ n) = false := by simp; omega
        rw [e2] at hCx'
        clear e2
        go_wp2_with (first
          | (go_at_call 8; refine (awake03 _).mono ?_; rintro e w' ⟨rfl, hX⟩)
          | (go_at_call 13; refine (cAdd_any _ y 0 m n (hCy'.keep hX (by simp)) (by omega) (by omega) (by omega)).mono ?_; rintro e w'' ⟨rfl, hA, hX2⟩; have hCx2 := (hCx'.keep hX (by simp)).keep hX2 (by simp; omega); rw [e1] at hA)
          | (go_at_call 17; refine (cValue_any _ _ n m (by first | exact hCx2 | exact hA)).mono ?_; rintro e w' ⟨rfl, rfl⟩)
          | (go_at_call 19; refine (cFull_any _ x n m hCx2).mono ?_; rintro e w' ⟨rfl, rfl⟩))
        go_ret
        exact ⟨rfl, Chg.below (Chg.below hB hX hB.size (by simp)) hX2 (by have := hB.size; have := hX.size; omega) (by simp; omega)⟩
      · subst h
        have e1 : cAdd 0 n n = n := by unfold cAdd; omega
        have e2 : min n n = n := by omega
        rw [e2] at hCx'
        clear e2
        go_wp2_with (first
          | (go_at_call 8; refine (awake03 _).mono ?_; rintro e w' ⟨rfl, hX⟩)
          | (go_at_call 13; refine (cAdd_any _ y 0 n n (hCy'.keep hX (by simp)) (by omega) (by omega) (by omega)).mono ?_; rintro e w'' ⟨rfl, hA, hX2⟩; have hCx2 := (hCx'.keep hX (by simp)).keep hX2 (by simp; omega); rw [e1] at hA)
          | (go_at_call 17; refine (cValue_any _ _ n n (by first | exact hCx2 | exact hA)).mono ?_; rintro e w' ⟨rfl, rfl⟩)
          | (go_at_call 19; refine (cFull_any _ x n n hCx2).mono ?_; rintro e w' ⟨rfl, rfl⟩))
        go_ret
        exact ⟨rfl, Chg.below (Chg.below hB hX hB.size (by simp)) hX2 (by have := hB.size; have := hX.size; omega) (by simp; omega)⟩
      · have e1 : cAdd 0 m n = m := by unfold cAdd; omega
        have e2 : min n m = m := by omega
        have e4 : decide (m ≤ n) = true := by simp; omega
        rw [e2] at hCx'
        clear e2
        go_wp2_with (first
          | (go_at_call 8; refine (awake03 _).mono ?_; rintro e w' ⟨rfl, hX⟩)
          | (go_at_call 13; refine (cAdd_any _ y 0 m n (hCy'.keep hX (by simp)) (by omega) (by omega) (by omega)).mono ?_; rintro e w'' ⟨rfl, hA, hX2⟩; have hCx2 := (hCx'.keep hX (by simp)).keep hX2 (by simp; omega); rw [e1] at hA)
          | (go_at_call 17; refine (cValue_any _ _ m m (by first | exact hCx2 | exact hA)).mono ?_; rintro e w' ⟨rfl, rfl⟩)
          | (go_at_call 19; refine (cFull_any _ x m m hCx2).mono ?_; rintro e w' ⟨rfl, rfl⟩))
        go_ret
        exact ⟨rfl, Chg.below (Chg.below hB hX hB.size (by simp)) hX2 (by have := hB.size; have := hX.size; omega) (by simp; omega)⟩
end Go.Proofs.Ytmlfhefijhcpgaa
