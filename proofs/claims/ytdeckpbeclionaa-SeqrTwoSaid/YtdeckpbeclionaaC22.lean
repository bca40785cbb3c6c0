/- Package apogeelaw22: its helpers, 'awake', and the walks of its laws. -/
import Derived.Test.YtdeckpbeclionaaSeqr3
import Derived.Test.YtdeckpbeclionaaSh
import Derived.Laws.ResultCell
namespace Go.Proofs.Ytdeckpbeclionaa
open Go.RowKit

theorem like22 (w : World) (i : SI) : Calls Try.prog 12 #[.agg i.cells] w fun e w' => e = .returned (.agg i.rcells) ∧ Chg [] w w' := by
  unfold SI.cells SI.rcells
  go_enter Try.func12, Try.ntmps12
  go_wp2
  exact bodyPost_ret (v := .agg #[.int .i64 i.cmd, .bool i.heard, .int .i64 i.ps, .int .i64 i.pw, .bool i.flight, .bool i.fires, .int .i64 i.phase]) (by simp [results, Try.results12, go_sem]) rfl ⟨rfl, ((Chg.refl _ _).alloc _).alloc _⟩

theorem right22 (w : World) (i : SI) : Calls Try.prog 9 #[.agg i.cells] w fun e w' => e = .returned (.bool i.right) ∧ Chg [] w w' := by
  unfold SI.cells SI.right
  go_enter Try.func9, Try.ntmps9
  by_cases h1 : 0 ≤ i.ps
  · by_cases h2 : i.ps ≤ 2
    · by_cases h3 : 0 ≤ i.pw
      · by_cases h4 : i.pw ≤ 15
        · go_wp2
          go_ret
          exact ⟨ret_bool (by simp [*] <;> omega), (Chg.refl _ _).alloc _⟩
        · go_wp2
          go_ret
          exact ⟨ret_bool (by simp [*] <;> omega), (Chg.refl _ _).alloc _⟩
      · go_wp2
        go_ret
        exact ⟨ret_bool (by simp [*] <;> omega), (Chg.refl _ _).alloc _⟩
    · go_wp2
      go_ret
      exact ⟨ret_bool (by simp [*] <;> omega), (Chg.refl _ _).alloc _⟩
  · go_wp2
    go_ret
    exact ⟨ret_bool (by simp [*] <;> omega), (Chg.refl _ _).alloc _⟩

def si (cmd : Int) (heard : Bool) (ps pw : Int) (flight fires : Bool) : SI := ⟨cmd, heard, 0, 0, ps, pw, flight, fires, 0⟩
def sq (state : Int) (arm safe locked : Bool) : SQ := ⟨1, state, arm, safe, locked⟩
theorem sq_ok (st : Int) (a s l : Bool) (h : st = 0 ∨ st = 1 ∨ st = 2) (h2 : ¬(a = true ∧ s = true)) : (sq st a s l).ok := ⟨h, h2⟩

set_option maxRecDepth 100000 in
set_option maxHeartbeats 1000000 in
theorem awake22 (w : World) : Calls Try.prog 7 #[] w fun e w' => e = .returned (.bool true) ∧ Chg [] w w' := by
  go_enter Try.func7, Try.ntmps7
  go_wp2_with fail
  refine (sNew _ _ _).mono ?_; rintro e w1 ⟨b, rfl, hb, hS1, hX1⟩
  replace hS1 : At w1 b (sq 0 false false false).cells := hS1
  go_wp2_with fail
  refine (sNew _ _ _).mono ?_; rintro e w2 ⟨c, rfl, hc, hL, hX2⟩
  replace hL : At w2 c (sq 0 false false true).cells := hL
  have hbc : b ≠ c := by have := hS1.lt; omega
  replace hS1 := hX2.at hS1 (by simp)
  have hX : Chg [] w w2 := hX1.trans hX2
  have hcw : w.heap.size ≤ c := by have := hX1.size; omega
  clear hX1 hX2 hc
  go_wp2_with fail
  refine (cycle_any _ b (sq 0 false false false) (si 1 false 0 0 false false) hS1 (sq_ok _ _ _ _ (by decide) (by decide)) (by decide) (by decide)).mono ?_
  rintro e w3 ⟨rfl, hS3, hX3⟩
  replace hS3 : At w3 b (sq 0 true false false).cells := hS3
  have r3 : sqRet (sq 0 false false false) (si 1 false 0 0 false false) = 0 := by decide
  rw [r3]
  clear r3
  go_wp2_with fail
  refine (sWish_any _ b (sq 0 true false false) hS3).mono ?_; rintro e w3 ⟨rfl, rfl⟩
  have r3 : wishOf (sq 0 true false false) = 1 := by decide
  rw [r3]
  clear r3
  go_wp2_with fail
  refine (cycle_any _ b (sq 0 true false false) (si 0 true 0 1 false false) hS3 (sq_ok _ _ _ _ (by decide) (by decide)) (by decide) (by decide)).mono ?_
  rintro e w4 ⟨rfl, hS4, hX4⟩
  replace hS4 : At w4 b (sq 1 false false false).cells := hS4
  have r3 : sqRet (sq 0 true false false) (si 0 true 0 1 false false) = 1 := by decide
  rw [r3]
  clear r3
  go_wp2_with fail
  refine (cycle_any _ b (sq 1 false false false) (si 2 true 0 0 true false) hS4 (sq_ok _ _ _ _ (by decide) (by decide)) (by decide) (by decide)).mono ?_
  rintro e w5 ⟨rfl, hS5, hX5⟩
  replace hS5 : At w5 b (sq 1 false false false).cells := hS5
  have r3 : sqRet (sq 1 false false false) (si 2 true 0 0 true false) = 1 := by decide
  rw [r3]
  clear r3
  go_wp2_with fail
  refine (cycle_any _ b (sq 1 false false false) (si 0 false 0 0 false true) hS5 (sq_ok _ _ _ _ (by decide) (by decide)) (by decide) (by decide)).mono ?_
  rintro e w6 ⟨rfl, hS6, hX6⟩
  replace hS6 : At w6 b (sq 2 false false false).cells := hS6
  have r3 : sqRet (sq 1 false false false) (si 0 false 0 0 false true) = 2 := by decide
  rw [r3]
  clear r3
  go_wp2_with fail
  refine (cycle_any _ b (sq 2 false false false) (si 2 true 0 0 false false) hS6 (sq_ok _ _ _ _ (by decide) (by decide)) (by decide) (by decide)).mono ?_
  rintro e w7 ⟨rfl, hS7, hX7⟩
  replace hS7 : At w7 b (sq 2 false false false).cells := hS7
  have r3 : sqRet (sq 2 false false false) (si 2 true 0 0 false false) = 2 := by decide
  rw [r3]
  clear r3
  have hXs : Chg [b] w2 w7 := (((hX3.trans hX4).trans hX5).trans hX6).trans hX7
  replace hL := hXs.at hL (by simp; omega)
  go_wp2_with fail
  refine (cycle_any _ c (sq 0 false false true) (si 1 true 1 0 false false) hL (sq_ok _ _ _ _ (by decide) (by decide)) (by decide) (by decide)).mono ?_
  rintro e w8 ⟨rfl, hL8, hX8⟩
  replace hL8 : At w8 c (sq 0 false false true).cells := hL8
  replace hS7 := hX8.at hS7 (by simp; omega)
  go_wp2_with fail
  refine (sWish_any _ b _ hS7).mono ?_; rintro e w8 ⟨rfl, rfl⟩
  have r3 : wishOf (sq 2 false false false) = 0 := by decide
  rw [r3]
  clear r3
  go_wp2_with fail
  refine (sState_any _ c _ hL8).mono ?_; rintro e w8 ⟨rfl, rfl⟩
  have r3 : (sq 0 false false true).state = 0 := rfl
  rw [r3]
  clear r3
  go_wp2_with fail
  refine (sLocked_any _ c _ hL8).mono ?_; rintro e w8 ⟨rfl, rfl⟩
  have r3 : (sq 0 false false true).locked = true := rfl
  rw [r3]
  clear r3
  go_wp2_with fail
  refine (sSet_any _ c _ 1 hL8).mono ?_; rintro e w9 ⟨rfl, hL9, hX9⟩
  have r3 : sqSetOk (sq 0 false false true) 1 = false := by decide
  rw [r3]
  clear r3
  replace hS7 := hX9.at hS7 (by simp; omega)
  go_wp2_with fail
  refine (sSet_any _ b _ 0 hS7).mono ?_; rintro e w10 ⟨rfl, hS10, hX10⟩
  have r3 : sqSetOk (sq 2 false false false) 0 = true := by decide
  rw [r3]
  clear r3
  replace hS10 : At w10 b (sq 0 false false false).cells := hS10
  go_wp2_with fail
  refine (sState_any _ b _ hS10).mono ?_; rintro e w10 ⟨rfl, rfl⟩
  have r3 : (sq 0 false false false).state = 0 := rfl
  rw [r3]
  clear r3
  go_wp2_with fail
  refine (sSet_any _ b _ 3 hS10).mono ?_; rintro e w11 ⟨rfl, hS11, hX11⟩
  have r3 : sqSetOk (sq 0 false false false) 3 = false := by decide
  rw [r3]
  clear r3
  go_wp2
  go_ret
  have hn : ∀ x ∈ [b], x < w.heap.size → x ∈ ([] : List Nat) := fun x hx hl => by simp at hx; omega
  have hn2 : ∀ x ∈ [c], x < w.heap.size → x ∈ ([] : List Nat) := fun x hx hl => by simp at hx; omega
  exact ⟨rfl, ((((hX.then hXs hn).then hX8 hn2).then hX9 hn2).then hX10 hn).then hX11 hn⟩

abbrev shSI : Sh := .prod (.int .i64) (.prod .bool (.prod (.prod (.int .i64) (.prod (.int .i64) (.prod (.int .i64) (.prod (.int .i64) .unit)))) (.prod .bool (.prod .bool (.prod (.int .i64) .unit)))))
def toSI (x : shSI.T) : SI := ⟨x.1, x.2.1, x.2.2.1.1, x.2.2.1.2.1, x.2.2.1.2.2.1, x.2.2.1.2.2.2.1, x.2.2.2.1, x.2.2.2.2.1, x.2.2.2.2.2.1⟩
theorem si_of {W : World} {x : shSI.T} {cs : List Value} (h : shSI.rep W x cs) : cs = (toSI x).cells.toList := by
  obtain ⟨a1, b1, rfl, _, ⟨rfl, _⟩, a2, b2, rfl, _, rfl, a3, b3, rfl, _, ⟨a4, b4, rfl, _, ⟨rfl, _⟩, a5, b5, rfl, _, ⟨rfl, _⟩, a6, b6, rfl, _, ⟨rfl, _⟩, a7, b7, rfl, _, ⟨rfl, _⟩, rfl⟩,
    a8, b8, rfl, _, rfl, a9, b9, rfl, _, rfl, a10, b10, rfl, _, ⟨rfl, _⟩, rfl⟩ := h
  rfl

theorem SeqrNil_walk (W : World) (c : Array Value) (x : shSI.T) (h : shSI.rep W x c.toList) :
    Calls Try.prog 6 #[.agg c] W fun e w' => e = .returned (.bool true) ∧ Below W.heap.size W w' := by
  obtain rfl : c = (toSI x).cells := by have := si_of h; cases c; simp_all
  clear h
  generalize toSI x = i
  unfold SI.cells
  go_enter Try.func6, Try.ntmps6
  go_wp2_with fail
  have hI := At.new W i.cells 32
  have hX : Chg [] W (W.alloc (.cells i.cells 32)) := (Chg.refl _ _).alloc _
  refine (awake22 _).mono ?_; rintro e w1 ⟨rfl, hX1⟩
  replace hI := hX1.at hI (by simp)
  replace hX := hX.trans hX1
  have d0 := hI.cell 0
  have d1 := hI.cell 1
  have d2 := hI.cell 2
  have d3 := hI.cell 3
  have d4 := hI.cell 4
  have d5 := hI.cell 5
  have d6 := hI.cell 6
  have d7 := hI.cell 7
  have d8 := hI.cell 8
  simp only [SI.cells] at d0 d1 d2 d3 d4 d5 d6 d7 d8
  clear hI
  go_wp2_with (first
    | (go_at_call 10; refine (cycle_nil _ i).mono ?_; rintro e w2 ⟨rfl, hX2⟩)
    | (go_at_call 13; refine (sState_nil _).mono ?_; rintro e w' ⟨rfl, rfl⟩)
    | (go_at_call 14; refine (sWish_nil _).mono ?_; rintro e w' ⟨rfl, rfl⟩)
    | (go_at_call 16; refine (sLocked_nil _).mono ?_; rintro e w' ⟨rfl, rfl⟩)
    | (go_at_call 17; refine (sSet_nil _ _).mono ?_; rintro e w' ⟨rfl, rfl⟩))
  go_ret
  exact ⟨rfl, Chg.to_below (hX.trans hX2)⟩
end Go.Proofs.Ytdeckpbeclionaa
