/- A list of two-integer structs that came in as an argument, by its cells; and the walks of the laws on counters over such lists. -/
import Derived.Test.YtmlfhefijhcpgaaC03
import Derived.LoopTactic
import Derived.Deep.LoopGhost
namespace Go.Proofs.Ytmlfhefijhcpgaa
open Go.RowKit

/-- The value v is a slice of 'len' pairs of integers: K k and N k. -/
structure Pairs (W : World) (v : Value) (len : Nat) (K N : Nat → Int) : Prop where
  intro ::
  out : ∃ ad cap, v = .slice ad len cap ∧ len ≤ maxLen ∧ ∀ k, k < len → ∃ b off, ad = some ⟨b, off, none⟩ ∧ b < W.heap.size ∧
    W.cell? ⟨b, off + k * 2, none⟩ = some (.int .i64 (K k)) ∧ W.cell? ⟨b, off + k * 2 + 1, none⟩ = some (.int .i64 (N k)) ∧
    (-9223372036854775808 ≤ K k ∧ K k ≤ 9223372036854775807) ∧ (-9223372036854775808 ≤ N k ∧ N k ≤ 9223372036854775807)

theorem pairs_of {W : World} {v : Value} {l : List (Int × Int × Unit)} (h : (Sh.slice (.prod (.int .i64) (.prod (.int .i64) .unit))).rep W l [v]) :
    Pairs W v l.length (fun k => (l.getD k (0, 0, ())).1) (fun k => (l.getD k (0, 0, ())).2.1) := by
  rcases h with ⟨rfl, a, cap, h⟩ | ⟨b, off, cap, h, h0, h1, h2, h3, h4⟩
  · exact ⟨a, cap, (List.cons.inj h).1, Nat.zero_le _, fun k hk => absurd hk (Nat.not_lt_zero _)⟩
  · refine ⟨some ⟨b, off, none⟩, cap, (List.cons.inj h).1, by have : l.length ≤ cap := h1; omega, fun k hk => ⟨b, off, rfl, h3, ?_⟩⟩
    obtain ⟨cs, hl, hc, c1, c2, rfl, _, ⟨rfl, hw1⟩, c3, c4, rfl, _, ⟨rfl, hw2⟩, rfl⟩ := h4 k hk
    have e : l.getD k (0, 0, ()) = List.get (α := Int × Int × Unit) l ⟨k, hk⟩ := by simp [List.getD, hk]
    simp only [e]
    have g0 := hc 0 (by decide)
    have g1 := hc 1 (by decide)
    exact ⟨g0, g1, bounds_i64 hw1, bounds_i64 hw2⟩

set_option maxHeartbeats 1000000 in
theorem CountMany_walk (W : World) (a : Int) (_w0 : (Lit.int .i64 a).wf = true) (b : Int) (_w1 : (Lit.int .i64 b).wf = true) (v2 : Value) (l : List (Int × Int × Unit))
    (h2 : (Sh.slice (.prod (.int .i64) (.prod (.int .i64) .unit))).rep W l [v2]) :
    Calls Try.prog 6 #[.int .i64 a, .int .i64 b, v2] W fun e w' => e = .returned (.bool true) ∧ Below W.heap.size W w' := by
  have hp := pairs_of h2
  clear h2
  generalize l.length = len at hp
  generalize (fun k => (l.getD k (0, 0, ())).1) = K at hp
  generalize (fun k => (l.getD k (0, 0, ())).2.1) = N at hp
  obtain ⟨ad, cap, rfl, hlen, hcell⟩ := hp.out
  unfold maxLen at hlen
  clear hp
  go_enter Try.func6, Try.ntmps6
  by_cases hbig : 300 < len
  · go_wp2_with (first
      | (go_at_call 8; refine (awake03 _).mono ?_; rintro e w' ⟨rfl, hX⟩))
    go_ret
    exact ⟨rfl, Chg.to_below (Chg.trans (by assumption) (by assumption))⟩
  · go_wp2_with (first
      | (go_at_call 8; refine (awake03 _).mono ?_; rintro e w0 ⟨rfl, hX0⟩))
    refine (cNew _ _).mono ?_; rintro e w1 ⟨x, rfl, hx, hCx, hX1⟩
    go_wp2_with fail
    refine (cNew _ _).mono ?_; rintro e w2 ⟨y, rfl, hy, hCy, hX2⟩
    go_wp2_with fail
    refine (cSet_any _ y _ _ _ hCy).mono ?_; rintro e w3 ⟨rfl, hCy3, hX3⟩
    go_wp2_with fail
    refine (cValue_any _ y _ _ hCy3).mono ?_; rintro e w3 ⟨rfl, rfl⟩
    go_wp2_with fail
    have hCx3 := (hCx.keep hX2 (by simp)).keep hX3 (by have := hCx.lt; simp; omega)
    have bx := cSet_bd 1000000 a (by omega)
    have by_ := cSet_bd 1000000 b (by omega)
    have hB3 : Below W.heap.size W w3 := Chg.below (Chg.below (Chg.below (Chg.to_below hX0) hX1 (by have := hX0.size; omega) (by simp)) hX2 (by have := hX0.size; have := hX1.size; omega) (by simp)) hX3 (by have := hX0.size; have := hX1.size; have := hX2.size; omega) (by have := hX0.size; have := hX1.size; have := hX2.size; simp; omega)
    have hxW : W.heap.size ≤ x := by have := hX0.size; omega
    have hxy : x ≠ y := by have := hCx.lt; omega
    generalize cSet 1000000 a = mx at *
    generalize cSet 1000000 b = my at *
    generalize cSet my 3 = vy at *
    go_loopw [30] (fun i wr => ∃ k : Nat, k ≤ len ∧ i = .int .i64 k ∧ Below W.heap.size W wr ∧ Ctr wr y vy my ∧ ∃ n, 0 ≤ n ∧ n ≤ mx ∧ Ctr wr x n mx) (fun i _ => len - (intOf i).toNat)
    case atStart => exact ⟨0, Nat.zero_le _, rfl, hB3, hCy3, 0, by omega, by omega, hCx3⟩
    case round =>
      obtain ⟨k, hk, rfl, hB, hCy', n, hn0, hn1, hC⟩ := hrel
      by_cases hlt : k < len
      · obtain ⟨b', off, rfl, hb, c0, c1, _, hN⟩ := hcell k hlt
        replace c0 := (hB.cell (p := ⟨b', off + k * 2, none⟩) hb).trans c0
        replace c1 := (hB.cell (p := ⟨b', off + k * 2 + 1, none⟩) hb).trans c1
        clear hcell
        go_wp2_with (first
          | (go_at_call 11; refine (cUp_any _ x n mx (hC.alloc _) hn0 hn1 bx.2).mono ?_; rintro e w' ⟨rfl, hA, hX⟩; have hn' := cAdd_bd n mx 1 hn1)
          | (go_at_call 13; refine (cAdd_any _ x n mx _ (hC.alloc _) hn0 hn1 bx.2).mono ?_; rintro e w' ⟨rfl, hA, hX⟩; have hn' := cAdd_bd n mx (N k) hn1)
          | (go_at_call 14; refine (cSet_any _ x n mx _ (hC.alloc _)).mono ?_; rintro e w' ⟨rfl, hA, hX⟩; have hn' := cSet_bd mx (N k) bx.1)
          | (go_at_call 16; refine (cReset_any _ x n mx (hC.alloc _)).mono ?_; rintro e w' ⟨rfl, hA, hX⟩; have hn' := cSet_bd mx 0 bx.1))
        all_goals
          go_roundw
          case rel => exact ⟨k + 1, by omega, by go_num, Chg.below (hB.alloc hB.size _) hX (by have := hB.size; simp; omega) (by simp; omega), (hCy'.alloc _).keep hX (by simp; omega), _, by omega, by omega, hA⟩
          case measure => simp [intOf]; omega
      · clear hcell
        go_wp2_with (go_at_call 17; refine (cValue_any _ y vy my hCy').mono ?_; rintro e w' ⟨rfl, rfl⟩)
        go_ret
        exact ⟨rfl, hB⟩

set_option maxHeartbeats 1000000 in
theorem CountRises_walk (W : World) (a : Int) (_w0 : (Lit.int .i64 a).wf = true) (v2 : Value) (l : List (Int × Int × Unit))
    (h2 : (Sh.slice (.prod (.int .i64) (.prod (.int .i64) .unit))).rep W l [v2]) :
    Calls Try.prog 5 #[.int .i64 a, v2] W fun e w' => e = .returned (.bool true) ∧ Below W.heap.size W w' := by
  have hp := pairs_of h2
  clear h2
  generalize l.length = len at hp
  generalize (fun k => (l.getD k (0, 0, ())).1) = K at hp
  generalize (fun k => (l.getD k (0, 0, ())).2.1) = N at hp
  obtain ⟨ad, cap, rfl, hlen, hcell⟩ := hp.out
  unfold maxLen at hlen
  clear hp
  go_enter Try.func5, Try.ntmps5
  by_cases hbig : 300 < len
  · go_wp2_with (first
      | (go_at_call 8; refine (awake03 _).mono ?_; rintro e w' ⟨rfl, hX⟩))
    go_ret
    exact ⟨rfl, Chg.to_below (Chg.trans (by assumption) (by assumption))⟩
  · go_wp2_with (first
      | (go_at_call 8; refine (awake03 _).mono ?_; rintro e w0 ⟨rfl, hX0⟩))
    refine (cNew _ _).mono ?_; rintro e w1 ⟨x, rfl, hx, hCx, hX1⟩
    go_wp2_with fail
    have bx := cSet_bd 1000000 a (by omega)
    have hB1 : Below W.heap.size W w1 := Chg.below (Chg.to_below hX0) hX1 (by have := hX0.size; omega) (by simp)
    have hxW : W.heap.size ≤ x := by have := hX0.size; omega
    generalize cSet 1000000 a = mx at *
    have e0 : cSet mx 0 = 0 := by unfold cSet; omega
    go_loopw [21] (fun i wr => ∃ k : Nat, k ≤ len ∧ i = .int .i64 k ∧ Below W.heap.size W wr ∧ ∃ n, 0 ≤ n ∧ n ≤ mx ∧ Ctr wr x n mx) (fun i _ => len - (intOf i).toNat)
    case atStart => exact ⟨0, Nat.zero_le _, rfl, hB1, 0, by omega, by omega, hCx⟩
    case round =>
      obtain ⟨k, hk, rfl, hB, n, hn0, hn1, hC⟩ := hrel
      by_cases hlt : k < len
      · obtain ⟨b', off, rfl, hb, c0, c1, _, hN⟩ := hcell k hlt
        replace c0 := (hB.cell (p := ⟨b', off + k * 2, none⟩) hb).trans c0
        replace c1 := (hB.cell (p := ⟨b', off + k * 2 + 1, none⟩) hb).trans c1
        clear hcell
        go_wp2_with (first
          | (go_at_call 17; refine (cValue_any _ x _ mx (by first | assumption | exact hC.alloc _)).mono ?_; rintro e w' ⟨rfl, rfl⟩)
          | (go_at_call 11; refine (cUp_any _ x n mx (hC.alloc _) hn0 hn1 bx.2).mono ?_; rintro e w' ⟨rfl, hA, hX⟩; have hn' := cAdd_bd n mx 1 hn1)
          | (go_at_call 13; refine (cAdd_any _ x n mx _ (hC.alloc _) hn0 hn1 bx.2).mono ?_; rintro e w' ⟨rfl, hA, hX⟩; have hn' := cAdd_bd n mx (N k) hn1)
          | (go_at_call 14; refine (cSet_any _ x n mx _ (hC.alloc _)).mono ?_; rintro e w' ⟨rfl, hA, hX⟩; have hn' := cSet_bd mx (N k) bx.1)
          | (go_at_call 16; refine (cReset_any _ x n mx (hC.alloc _)).mono ?_; rintro e w' ⟨rfl, hA, hX⟩; have hn' := cSet_bd mx 0 bx.1))
        all_goals
          go_roundw
          case rel => exact ⟨k + 1, by omega, by go_num, Chg.below (hB.alloc hB.size _) hX (by have := hB.size; simp; omega) (by simp; omega), _, by omega, by omega, hA⟩
          case measure => simp [intOf]; omega
      · clear hcell
        go_wp2
        go_ret
        exact ⟨rfl, hB⟩
end Go.Proofs.Ytmlfhefijhcpgaa
