/- Package apogeelaw20: 'limits', 'awake', and the walk of TallyNil. -/
import Derived.Test.YtnjakhmkpaeifaaTally2
import Derived.Test.YtnjakhmkpaeifaaTallyN
import Derived.Test.YtnjakhmkpaeifaaPairs
import Derived.Laws.ResultCell
namespace Go.Proofs.Ytnjakhmkpaeifaa
open Go.RowKit

def lim (n d g : Int) : Array Value := #[.slice none 0 0, .int .i64 n, .int .i64 d, .int .i64 g, .int .i64 0, .int .i64 0, .int .i64 0, .int .i64 0, .int .i64 0]

theorem limits20 (w : World) (n d g : Int) : Calls Try.prog 8 #[.int .i64 n, .int .i64 d, .int .i64 g] w fun e w' => e = .returned (.agg (lim n d g)) ∧ Chg [] w w' := by
  unfold lim
  go_enter Try.func8, Try.ntmps8
  go_wp2
  exact bodyPost_ret (v := .agg (lim n d g)) (by simp [results, Try.results8, go_sem, lim]) rfl ⟨rfl, (Chg.refl _ _).alloc _⟩

theorem new20 (w : World) (n d g : Int) (hn : 1 ≤ n) (hd : 1 ≤ d) (hg : 1 ≤ g) :
    Calls Try.prog 7 #[.agg (lim n d g)] w fun e w' =>
      ∃ B : TB, e = .returned (.pointer (some ⟨B.t, 0, none⟩)) ∧ Tal w' B ⟨0, 0, 0, cSet 1000000 n, cSet 1000000 d, cSet 1000000 g⟩ ∧ Chg [] w w' ∧ ∀ b ∈ B.all, w.heap.size ≤ b := tNew_any w _ _ _ _ _ _ n d g hn hd hg
theorem new20_none (w : World) (n d g : Int) (h : n < 1 ∨ d < 1 ∨ g < 1) : Calls Try.prog 7 #[.agg (lim n d g)] w fun e w' => e = .returned (.pointer none) ∧ Chg [] w w' := tNew_none w _ _ _ _ _ _ n d g h

theorem ts_ok (v d g : Int) (h : 0 ≤ v ∧ v ≤ 2 ∧ 0 ≤ d ∧ d ≤ 3 ∧ 0 ≤ g ∧ g ≤ 2) : TS.ok ⟨v, d, g, 2, 3, 2⟩ := ⟨by simp; omega, by simp; omega, by simp; omega⟩

set_option maxRecDepth 100000 in
set_option maxHeartbeats 1000000 in
theorem awake20 (w : World) : Calls Try.prog 6 #[] w fun e w' => e = .returned (.bool true) ∧ Chg [] w w' := by
  go_enter Try.func6, Try.ntmps6
  go_wp2_with fail
  refine (limits20 _ _ _ _).mono ?_; rintro e w1 ⟨rfl, hX1⟩
  go_wp2_with fail
  refine (new20 _ _ _ _ (by decide) (by decide) (by decide)).mono ?_; rintro e w2 ⟨B, rfl, hT, hX2, hB⟩
  replace hT : Tal w2 B ⟨0, 0, 0, 2, 3, 2⟩ := hT
  go_wp2_with fail
  refine (limits20 _ _ _ _).mono ?_; rintro e w3 ⟨rfl, hX3⟩
  go_wp2_with fail
  refine (new20_none _ _ _ _ (by decide)).mono ?_; rintro e w4 ⟨rfl, hX4⟩
  have hbw : ∀ b ∈ B.all, w.heap.size ≤ b := fun b hb => by have := hB b hb; have := hX1.size; omega
  replace hT := Tal.keep (hX3.trans hX4) hT (by simp)
  have hX : Chg B.cs w w4 := ((hX1.trans hX2).trans (hX3.trans hX4)).mono (by simp)
  clear hX1 hX2 hX3 hX4 hB
  go_wp2_with fail
  refine (tCycle_any _ B _ 3 4 hT (ts_ok _ _ _ (by decide))).mono ?_; rintro e w5 ⟨rfl, hT1, hX1⟩
  replace hT1 : Tal w5 B ⟨1, 0, 0, 2, 3, 2⟩ := hT1
  replace hX := hX.trans hX1
  clear hX1 hT
  go_wp2_with fail
  refine (tCycle_any _ B _ 3 1 hT1 (ts_ok _ _ _ (by decide))).mono ?_; rintro e w6 ⟨rfl, hT2, hX1⟩
  replace hT2 : Tal w6 B ⟨1, 1, 0, 2, 3, 2⟩ := hT2
  replace hX := hX.trans hX1
  clear hX1 hT1
  go_wp2_with fail
  refine (tCounts_any _ B _ hT2).mono ?_; rintro e w7 ⟨rfl, hX1⟩
  replace hT := Tal.keep hX1 hT2 (by simp)
  replace hX := hX.trans (hX1.mono (by simp))
  clear hX1 hT2
  go_wp2_with fail
  refine (tFires_any _ B _ hT).mono ?_; rintro e w8 ⟨rfl, hX1⟩
  replace hT := Tal.keep hX1 hT (by simp)
  replace hX := hX.trans (hX1.mono (by simp))
  clear hX1
  have r : (TS.why ⟨1, 1, 0, 2, 3, 2⟩ != 0) = false := by decide
  rw [r]
  clear r
  go_wp2_with fail
  refine (tCycle_any _ B _ 4 3 hT (ts_ok _ _ _ (by decide))).mono ?_; rintro e w9 ⟨rfl, hT1, hX1⟩
  replace hT1 : Tal w9 B ⟨2, 1, 0, 2, 3, 2⟩ := hT1
  replace hX := hX.trans hX1
  clear hX1 hT
  go_wp2_with fail
  refine (tFires_any _ B _ hT1).mono ?_; rintro e w10 ⟨rfl, hX1⟩
  replace hT := Tal.keep hX1 hT1 (by simp)
  replace hX := hX.trans (hX1.mono (by simp))
  clear hX1 hT1
  have r : (TS.why ⟨2, 1, 0, 2, 3, 2⟩ != 0) = true := by decide
  rw [r]
  clear r
  go_wp2_with fail
  refine (tWhy_any _ B _ hT).mono ?_; rintro e w11 ⟨rfl, hX1⟩
  replace hT := Tal.keep hX1 hT (by simp)
  replace hX := hX.trans (hX1.mono (by simp))
  clear hX1
  have r : TS.why ⟨2, 1, 0, 2, 3, 2⟩ = 1 := by decide
  rw [r]
  clear r
  go_wp2_with fail
  refine (tCycle_any _ B _ 2 4 hT (ts_ok _ _ _ (by decide))).mono ?_; rintro e w12 ⟨rfl, hT1, hX1⟩
  replace hT1 : Tal w12 B ⟨0, 0, 0, 2, 3, 2⟩ := hT1
  replace hX := hX.trans hX1
  clear hX1 hT
  go_wp2_with fail
  refine (tCounts_any _ B _ hT1).mono ?_; rintro e w13 ⟨rfl, hX1⟩
  replace hT := Tal.keep hX1 hT1 (by simp)
  replace hX := hX.trans (hX1.mono (by simp))
  clear hX1 hT1
  go_wp2_with fail
  refine (tSet_any _ B _ 9 1 (-1) hT).mono ?_; rintro e w14 ⟨rfl, hT1, hX1⟩
  replace hT1 : Tal w14 B ⟨2, 1, 0, 2, 3, 2⟩ := hT1
  replace hX := hX.trans hX1
  clear hX1 hT
  go_wp2_with fail
  refine (tCounts_any _ B _ hT1).mono ?_; rintro e w15 ⟨rfl, hX1⟩
  replace hX := hX.trans (hX1.mono (by simp))
  clear hX1 hT1
  go_wp2
  go_returns
  exact ⟨rfl, hX.mono (fun b hb hl => absurd (hbw b (by simp [TB.cs, TB.all] at hb ⊢; simp [hb])) (by omega))⟩

theorem TallyNil_walk (W : World) (a : Int) (_w0 : (Lit.int .i64 a).wf = true) (b : Int) (_w1 : (Lit.int .i64 b).wf = true) :
    Calls Try.prog 5 #[.int .i64 a, .int .i64 b] W fun e w' => e = .returned (.bool true) ∧ Below W.heap.size W w' := by
  go_enter Try.func5, Try.ntmps5
  go_wp2_with (first
    | (go_at_call 9; refine (tCycle_nil _ _ _).mono ?_; rintro e w' ⟨rfl, rfl⟩)
    | (go_at_call 12; refine (tSet_nil _ _ _ _).mono ?_; rintro e w' ⟨rfl, rfl⟩)
    | (go_at_call 10; refine (tCounts_nil _).mono ?_; rintro e w' ⟨rfl, rfl⟩)
    | (go_at_call 13; refine (tWhy_nil _).mono ?_; rintro e w' ⟨rfl, rfl⟩)
    | (go_at_call 11; refine (tFires_nil _).mono ?_; rintro e w' ⟨rfl, rfl⟩)
    | (go_at_call 6; refine (awake20 _).mono ?_; rintro e w1 ⟨rfl, hX⟩))
  go_returns
  exact ⟨rfl, Chg.to_below hX⟩
end Go.Proofs.Ytnjakhmkpaeifaa
