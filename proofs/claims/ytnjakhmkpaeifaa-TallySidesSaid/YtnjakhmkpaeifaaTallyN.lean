/- Package tally: New: a region that draws its order, in stages. -/
import Derived.Test.YtnjakhmkpaeifaaTally
namespace Go.Proofs.Ytnjakhmkpaeifaa
open Go.RowKit

theorem cNew' (w : World) (k : Int) : Calls Try.prog 14 #[.int .i64 k] w fun e w' =>
    e = .returned (.pointer (some ⟨w.heap.size, 0, none⟩)) ∧ Ctr w' w.heap.size 0 (cSet 1000000 k) ∧ w'.heap.size = w.heap.size + 1 ∧ Chg [] w w' := by
  go_enter Try.func14, Try.ntmps14
  go_wp2
  all_goals
    go_ret
    refine ⟨rfl, ?_, by simp, (Chg.refl _ _).alloc _⟩
    exact At.new' w _ _ _ (by have e : ∀ x y : Int, x = y → #[Value.int .i64 0, Value.int .i64 x] = #[Value.int .i64 0, Value.int .i64 y] := fun x y h => by rw [h]
                              exact e _ _ (by unfold cSet; omega))

structure CNew (W : World) (z s : Nat) (rc : Array Value) (n d g : Int) (k : Nat) (w : World) : Prop where
  r : At w z rc
  x : Chg [] W w
  size : w.heap.size = s + k
  v : 1 ≤ k → Ctr w s 0 (cSet 1000000 n)
  d : 2 ≤ k → Ctr w (s + 1) 0 (cSet 1000000 d)
  g : 3 ≤ k → Ctr w (s + 2) 0 (cSet 1000000 g)
  t : 4 ≤ k → At w (s + 3) #[.pointer (some ⟨s, 0, none⟩), .pointer (some ⟨s + 1, 0, none⟩), .pointer (some ⟨s + 2, 0, none⟩)]

theorem tNew_none (w : World) (v0 v4 v5 v6 v7 v8 : Value) (n d g : Int) (h : n < 1 ∨ d < 1 ∨ g < 1) :
    Calls Try.prog 7 #[.agg #[v0, .int .i64 n, .int .i64 d, .int .i64 g, v4, v5, v6, v7, v8]] w fun e w' => e = .returned (.pointer none) ∧ Chg [] w w' := by
  go_enter Try.func7, Try.ntmps7
  go_wp2
  all_goals
    go_ret
    exact ⟨rfl, (Chg.refl _ _).alloc _⟩

set_option maxHeartbeats 8000000 in
theorem tNew_any (w : World) (v0 v4 v5 v6 v7 v8 : Value) (n d g : Int) (hn : 1 ≤ n) (hd : 1 ≤ d) (hg : 1 ≤ g) :
    Calls Try.prog 7 #[.agg #[v0, .int .i64 n, .int .i64 d, .int .i64 g, v4, v5, v6, v7, v8]] w fun e w' =>
      ∃ B : TB, e = .returned (.pointer (some ⟨B.t, 0, none⟩)) ∧ Tal w' B ⟨0, 0, 0, cSet 1000000 n, cSet 1000000 d, cSet 1000000 g⟩ ∧ Chg [] w w' ∧ ∀ b ∈ B.all, w.heap.size ≤ b := by
  go_enter Try.func7, Try.ntmps7
  go_wp2_with fail
  all_goals
    have hZ := At.new w #[v0, .int .i64 n, .int .i64 d, .int .i64 g, v4, v5, v6, v7, v8] 29
    have hX : Chg [] w (w.alloc (.cells #[v0, .int .i64 n, .int .i64 d, .int .i64 g, v4, v5, v6, v7, v8] 29)) := (Chg.refl _ _).alloc _
    have hsz : (w.alloc (.cells #[v0, .int .i64 n, .int .i64 d, .int .i64 g, v4, v5, v6, v7, v8] 29)).heap.size = w.heap.size + 1 := by simp
    generalize hz : w.heap.size = z at *
    generalize (w.alloc (.cells #[v0, .int .i64 n, .int .i64 d, .int .i64 g, v4, v5, v6, v7, v8] 29)) = w1 at *
    refine wp_region_stage (CNew w z (z + 1) #[v0, .int .i64 n, .int .i64 d, .int .i64 g, v4, v5, v6, v7, v8] n d g) [2, 5, 8, 10] [(0, 0, false), (0, 0, false), (0, 0, true), (0, 1, false), (0, 1, false), (1, 1, true), (0, 2, false), (0, 2, false), (2, 2, true), (3, 3, false), (3, 3, true), (4, 4, false)]
      (by kernel_rfl) (by kernel_rfl) (by kernel_rfl) ⟨hZ, hX.drew, by simpa using hsz, fun h => absurd h (by omega), fun h => absurd h (by omega), fun h => absurd h (by omega), fun h => absurd h (by omega)⟩ ?_
    simp only [List.zip_cons_cons, List.zip_nil_right]
    clear hZ hX hsz
    repeat
      (refine wpStage_yes (by go_simp) ?_
       intro K hK
       apply Exists.intro
       refine ⟨fun kk w2 hk1 hk2 hC => ?_, ?_⟩
       · first
         | (go_simp; exact rfl)
         | (have r1 := hC.r.cell 1; have r2 := hC.r.cell 2; have r3 := hC.r.cell 3; go_simp; exact rfl)
         | (obtain rfl : kk = 0 := by omega
            have hs := hC.size
            go_simp; go_at_call 14; refine (cNew' w2 n).mono ?_; rw [hs]; rintro e w' ⟨rfl, hA, hS, hX⟩
            exact ⟨rfl, hX.at hC.r (by simp), hC.x.trans hX, by omega, fun _ => hA, fun h => absurd h (by omega), fun h => absurd h (by omega), fun h => absurd h (by omega)⟩)
         | (obtain rfl : kk = 1 := by omega
            have hs := hC.size
            go_simp; go_at_call 14; refine (cNew' w2 d).mono ?_; rw [hs]; rintro e w' ⟨rfl, hA, hS, hX⟩
            exact ⟨rfl, hX.at hC.r (by simp), hC.x.trans hX, by omega, fun _ => (hC.v (by omega)).keep hX (by simp), fun _ => hA, fun h => absurd h (by omega), fun h => absurd h (by omega)⟩)
         | (obtain rfl : kk = 2 := by omega
            have hs := hC.size
            go_simp; go_at_call 14; refine (cNew' w2 g).mono ?_; rw [hs]; rintro e w' ⟨rfl, hA, hS, hX⟩
            exact ⟨rfl, hX.at hC.r (by simp), hC.x.trans hX, by omega, fun _ => (hC.v (by omega)).keep hX (by simp), fun _ => (hC.d (by omega)).keep hX (by simp), fun _ => hA, fun h => absurd h (by omega)⟩)
         | (obtain rfl : kk = 3 := by omega
            have hs := hC.size
            have hA := At.new w2 #[.pointer (some ⟨z + 1, 0, none⟩), .pointer (some ⟨z + 1 + 1, 0, none⟩), .pointer (some ⟨z + 1 + 2, 0, none⟩)] 43
            rw [hs] at hA
            go_simp
            exact ⟨rfl, hC.r.alloc _, hC.x.alloc _, by simp [hs], fun _ => (hC.v (by omega)).alloc _, fun _ => (hC.d (by omega)).alloc _, fun _ => (hC.g (by omega)).alloc _, fun _ => hA⟩)
       go_simp
       refine hK _ ?_
       clear hK K)
    refine wpStage_nil (fun w' hC => ?_)
    go_wp2
    go_ret
    exact ⟨⟨z + 1 + 3, z + 1, z + 1 + 1, z + 1 + 2⟩, rfl, ⟨hC.t (by simp), hC.v (by simp), hC.d (by simp), hC.g (by simp), by simp, by simp, by simp, by simp, by simp, by simp⟩, hC.x, by simp [TB.all]; omega⟩
end Go.Proofs.Ytnjakhmkpaeifaa
