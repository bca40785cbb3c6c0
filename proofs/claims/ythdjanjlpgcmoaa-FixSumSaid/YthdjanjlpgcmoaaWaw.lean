/- Package wide's awake: the concrete answers. -/
import Derived.Test.YthdjanjlpgcmoaaWdv
namespace Go.Proofs.Ythdjanjlpgcmoaa
open Go.RowKit

/-- What memory keeps on a way that writes nothing else. -/
structure CL (W : World) (L : List (Nat × Array Value)) (k : Nat) (w : World) : Prop where
  A : ∀ p ∈ L, At w p.1 p.2
  x : Chg [] W w
theorem CL.step {W : World} {L : List (Nat × Array Value)} {k j : Nat} {w w' : World} (h : CL W L k w) (hX : Chg [] w w') : CL W L j w' := ⟨fun p hp => hX.at (h.A p hp) (by simp), h.x.trans hX⟩
theorem CL.drew {W : World} {L : List (Nat × Array Value)} {k : Nat} {w : World} (h : CL W L k w) : CL W L k w.drew := ⟨fun p hp => (h.A p hp).drew, h.x.drew⟩
theorem CL.get {W : World} {L : List (Nat × Array Value)} {k : Nat} {w : World} (h : CL W L k w) (i : Nat) {p : Nat × Array Value} (hp : L[i]? = some p) : At w p.1 p.2 := h.A p (List.mem_of_getElem? hp)
theorem CL.push {W : World} {L : List (Nat × Array Value)} {k : Nat} {w : World} (h : CL W L k w) (cs : Array Value) (T : TypeId) : CL W ((w.heap.size, cs) :: L) k (w.alloc (.cells cs T)) := by
  refine ⟨fun p hp => ?_, h.x.alloc _⟩
  rcases List.mem_cons.1 hp with rfl | hp
  · exact At.new w cs T
  · exact (h.A p hp).alloc _
theorem CL.new (W : World) (k : Nat) : CL W [] k W := ⟨fun _ h => absurd h (by simp), Chg.refl _ _⟩
theorem ofV_ok (n : Int) (h0 : -170141183460469231731687303715884105728 ≤ n) (h1 : n ≤ 170141183460469231731687303715884105727) : (ofV n).ok := by
  unfold ofV
  exact ⟨by simp only; omega, by simp only; omega, by simp only; omega, by simp only; omega⟩
theorem ofV_val' (n : Int) : (ofV n).val = n := by
  unfold ofV WV.val
  simp only
  omega
theorem aw_of_m5 (w : World) : Calls Try.prog 30 #[.int .i64 (-5)] w fun e w' => e = .returned (.agg #[.int .i64 (-1), .int .u64 18446744073709551611]) ∧ Chg [] w w' := wof_any w (-5) (by decide) (by decide)
theorem aw_of_3 (w : World) : Calls Try.prog 30 #[.int .i64 3] w fun e w' => e = .returned (.agg #[.int .i64 0, .int .u64 3]) ∧ Chg [] w w' := wof_any w 3 (by decide) (by decide)
theorem aw_of_1 (w : World) : Calls Try.prog 30 #[.int .i64 1] w fun e w' => e = .returned (.agg #[.int .i64 0, .int .u64 1]) ∧ Chg [] w w' := wof_any w 1 (by decide) (by decide)
theorem aw_of_m7 (w : World) : Calls Try.prog 30 #[.int .i64 (-7)] w fun e w' => e = .returned (.agg #[.int .i64 (-1), .int .u64 18446744073709551609]) ∧ Chg [] w w' := wof_any w (-7) (by decide) (by decide)
theorem aw_of_7 (w : World) : Calls Try.prog 30 #[.int .i64 7] w fun e w' => e = .returned (.agg #[.int .i64 0, .int .u64 7]) ∧ Chg [] w w' := wof_any w 7 (by decide) (by decide)
theorem aw_of_24 (w : World) : Calls Try.prog 30 #[.int .i64 24] w fun e w' => e = .returned (.agg #[.int .i64 0, .int .u64 24]) ∧ Chg [] w w' := wof_any w 24 (by decide) (by decide)
theorem aw_of_m1 (w : World) : Calls Try.prog 30 #[.int .i64 (-1)] w fun e w' => e = .returned (.agg #[.int .i64 (-1), .int .u64 18446744073709551615]) ∧ Chg [] w w' := wof_any w (-1) (by decide) (by decide)
theorem aw_of_m9 (w : World) : Calls Try.prog 30 #[.int .i64 (-9)] w fun e w' => e = .returned (.agg #[.int .i64 (-1), .int .u64 18446744073709551607]) ∧ Chg [] w w' := wof_any w (-9) (by decide) (by decide)
theorem aw_of_m2 (w : World) : Calls Try.prog 30 #[.int .i64 (-2)] w fun e w' => e = .returned (.agg #[.int .i64 (-1), .int .u64 18446744073709551614]) ∧ Chg [] w w' := wof_any w (-2) (by decide) (by decide)
theorem aw_of_m4 (w : World) : Calls Try.prog 30 #[.int .i64 (-4)] w fun e w' => e = .returned (.agg #[.int .i64 (-1), .int .u64 18446744073709551612]) ∧ Chg [] w w' := wof_any w (-4) (by decide) (by decide)
theorem aw_of_2 (w : World) : Calls Try.prog 30 #[.int .i64 2] w fun e w' => e = .returned (.agg #[.int .i64 0, .int .u64 2]) ∧ Chg [] w w' := wof_any w 2 (by decide) (by decide)
theorem aw_add1 (w : World) : Calls Try.prog 14 #[.agg #[.int .i64 (-1), .int .u64 18446744073709551611], .agg #[.int .i64 0, .int .u64 3]] w fun e w' => e = .returned (.tuple #[.agg #[.int .i64 (-1), .int .u64 18446744073709551614], .bool true]) ∧ Chg [] w w' := by
  have H := wadd_any w (ofV (-5)) (ofV 3) (ofV_ok _ (by decide) (by decide)) (ofV_ok _ (by decide) (by decide))
  rw [ofV_val', ofV_val', show (ofV (-5)).cells = #[.int .i64 (-1), .int .u64 18446744073709551611] from rfl, show (ofV 3).cells = #[.int .i64 0, .int .u64 3] from rfl, show fitsV (-5 + 3) = true by decide, show addV (-5 + 3) = ofV (-2) from if_pos (by decide), show (ofV (-2)).cells = #[.int .i64 (-1), .int .u64 18446744073709551614] from rfl] at H
  exact H
theorem aw_add2 (w : World) : Calls Try.prog 14 #[.agg #[.int .i64 9223372036854775807, .int .u64 18446744073709551615], .agg #[.int .i64 0, .int .u64 1]] w fun e w' => e = .returned (.tuple #[.agg #[.int .i64 0, .int .u64 0], .bool false]) ∧ Chg [] w w' := by
  have H := wadd_any w (ofV 170141183460469231731687303715884105727) (ofV 1) (ofV_ok _ (by decide) (by decide)) (ofV_ok _ (by decide) (by decide))
  rw [ofV_val', ofV_val', show (ofV 170141183460469231731687303715884105727).cells = #[.int .i64 9223372036854775807, .int .u64 18446744073709551615] from rfl, show (ofV 1).cells = #[.int .i64 0, .int .u64 1] from rfl, show fitsV (170141183460469231731687303715884105727 + 1) = false by decide, show addV (170141183460469231731687303715884105727 + 1) = WV.zero from if_neg (by decide)] at H
  exact H
theorem aw_div1 (w : World) : Calls Try.prog 31 #[.agg #[.int .i64 (-1), .int .u64 18446744073709551609], .int .i64 2] w fun e w' => e = .returned (.tuple #[.agg #[.int .i64 (-1), .int .u64 18446744073709551612], .int .i64 1, .bool true]) ∧ Chg [] w w' := by
  have H := wdiv_any w (ofV (-7)) (ofV_ok _ (by decide) (by decide)) 2 (by decide) (by decide)
  rw [show divQ (ofV (-7)) 2 = ofV (-4) by unfold divQ; rw [if_pos (by decide), ofV_val']; rfl, show divR (ofV (-7)) 2 = 1 by unfold divR; rw [if_pos (by decide), ofV_val']; rfl, show (ofV (-7)).cells = #[.int .i64 (-1), .int .u64 18446744073709551609] from rfl, show (ofV (-4)).cells = #[.int .i64 (-1), .int .u64 18446744073709551612] from rfl, show decide ((0 : Int) < 2) = true by decide] at H
  exact H
theorem aw_div2 (w : World) : Calls Try.prog 31 #[.agg #[.int .i64 0, .int .u64 7], .int .i64 0] w fun e w' => e = .returned (.tuple #[.agg #[.int .i64 0, .int .u64 0], .int .i64 0, .bool false]) ∧ Chg [] w w' := by
  have H := wdiv_any w (ofV 7) (ofV_ok _ (by decide) (by decide)) 0 (by decide) (by decide)
  rw [show divQ (ofV 7) 0 = WV.zero from if_neg (by decide), show divR (ofV 7) 0 = 0 from if_neg (by decide), show (ofV 7).cells = #[.int .i64 0, .int .u64 7] from rfl, show decide ((0 : Int) < 0) = false by decide] at H
  exact H
theorem aw_sqrt1 (w : World) : Calls Try.prog 58 #[.agg #[.int .i64 0, .int .u64 24]] w fun e w' => e = .returned (.tuple #[.int .u64 4, .bool true]) ∧ Chg [] w w' := by
  have H := wsqrt_any w (ofV 24) (ofV_ok _ (by decide) (by decide))
  refine H.mono ?_
  rintro e w' ⟨h | h, hX⟩
  · exact absurd h.1 (by decide)
  · obtain ⟨-, r, rfl, h1, h2, h3⟩ := h
    rw [ofV_val'] at h2 h3
    have : r < 5 := by
      apply Classical.byContradiction
      intro hr
      have := sq_le 5 (r : Int) (by omega) (by omega)
      omega
    have : 4 ≤ r := by
      apply Classical.byContradiction
      intro hr
      have := sq_le ((r + 1 : Nat) : Int) 4 (by omega) (by omega)
      omega
    obtain rfl : r = 4 := by omega
    exact ⟨rfl, hX⟩
theorem aw_sqrt2 (w : World) : Calls Try.prog 58 #[.agg #[.int .i64 (-1), .int .u64 18446744073709551615]] w fun e w' => e = .returned (.tuple #[.int .u64 0, .bool false]) ∧ Chg [] w w' := by
  have H := wsqrt_any w (ofV (-1)) (ofV_ok _ (by decide) (by decide))
  refine H.mono ?_
  rintro e w' ⟨h | h, hX⟩
  · exact ⟨h.2, hX⟩
  · exact absurd h.1 (by decide)
theorem aw_int (w : World) : Calls Try.prog 34 #[.agg #[.int .i64 (-1), .int .u64 18446744073709551607]] w fun e w' => e = .returned (.tuple #[.int .i64 (-9), .bool true]) ∧ Chg [] w w' := by
  have H := wint_any w (ofV (-9)) (ofV_ok _ (by decide) (by decide))
  rw [ofV_val', show int64V (-9) = -9 from if_pos (by decide), show fits64 (-9) = true by decide, show (ofV (-9)).cells = #[.int .i64 (-1), .int .u64 18446744073709551607] from rfl] at H
  exact H
theorem aw_mul (w : World) : Calls Try.prog 11 #[.int .i64 4611686018427387904, .int .i64 4] w fun e w' => e = .returned (.agg #[.int .i64 1, .int .u64 0]) ∧ Chg [] w w' := by
  have H := wmul_any w 4611686018427387904 4 (by decide) (by decide) (by decide) (by decide)
  rw [show (4611686018427387904 : Int) * 4 = 18446744073709551616 by decide, show (ofV 18446744073709551616).cells = #[.int .i64 1, .int .u64 0] from rfl] at H
  exact H
theorem aw_sign (w : World) : Calls Try.prog 51 #[.agg #[.int .i64 (-1), .int .u64 18446744073709551615]] w fun e w' => e = .returned (.int .i64 (-1)) ∧ Chg [] w w' := by
  have H := wsign_any w (ofV (-1)) (ofV_ok _ (by decide) (by decide))
  rw [ofV_val', show (ofV (-1)).cells = #[.int .i64 (-1), .int .u64 18446744073709551615] from rfl, show cmpI (-1) 0 = -1 by decide] at H
  exact H
theorem aw_cmp (w : World) : Calls Try.prog 12 #[.agg #[.int .i64 0, .int .u64 1], .agg #[.int .i64 0, .int .u64 2]] w fun e w' => e = .returned (.int .i64 (-1)) ∧ Chg [] w w' := by
  have H := wcmp_any w (ofV 1) (ofV 2) (ofV_ok _ (by decide) (by decide)) (ofV_ok _ (by decide) (by decide))
  rw [show cmpV (ofV 1) (ofV 2) = -1 by unfold cmpV; rw [ofV_val', ofV_val']; decide, show (ofV 1).cells = #[.int .i64 0, .int .u64 1] from rfl, show (ofV 2).cells = #[.int .i64 0, .int .u64 2] from rfl] at H
  exact H
end Go.Proofs.Ythdjanjlpgcmoaa
