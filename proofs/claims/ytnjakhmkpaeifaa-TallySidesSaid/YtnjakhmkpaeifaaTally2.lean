/- Package tally: Counts, Why and Fires. -/
import Derived.Test.YtnjakhmkpaeifaaTally
namespace Go.Proofs.Ytnjakhmkpaeifaa
open Go.RowKit

theorem tCounts_any (w : World) (B : TB) (s : TS) (hT : Tal w B s) :
    Calls Try.prog 10 #[.pointer (some ⟨B.t, 0, none⟩)] w fun e w' => e = .returned (.tuple #[.int .i64 s.v, .int .i64 s.d, .int .i64 s.g]) ∧ Chg [] w w' := by
  have c0 := hT.c0
  have c1 := hT.c1
  have c2 := hT.c2
  go_enter Try.func10, Try.ntmps10
  go_wp2_with fail
  go_quiet (first
    | (with_reducible refine quiet_same (cValue_any _ B.v _ _ (hT.v.drewN _)))
    | (with_reducible refine quiet_same (cValue_any _ B.d _ _ (hT.d.drewN _)))
    | (with_reducible refine quiet_same (cValue_any _ B.g _ _ (hT.g.drewN _))))
  go_wp2
  go_returns
  exact ⟨rfl, (Chg.refl _ _).drewN _⟩

structure CWhy (W : World) (B : TB) (s : TS) (z : Nat) (k : Nat) (w : World) : Prop where
  T : Tal w B s
  x : Chg [] W w
  size : k = 0 → w.heap.size = z
  l : 1 ≤ k → At w z B.cells

set_option maxHeartbeats 2000000 in
theorem tWhy_any (w : World) (B : TB) (s : TS) (hT : Tal w B s) :
    Calls Try.prog 13 #[.pointer (some ⟨B.t, 0, none⟩)] w fun e w' => e = .returned (.int .i64 s.why) ∧ Chg [] w w' := by
  have E : s.why = (if s.v == s.mv then 1 else 0) + (if s.d == s.md then 2 else 0) + (if s.g == s.mg then 4 else 0) := rfl
  rw [E]
  clear E
  have V : ∀ w, Tal w B s → Calls Try.prog 20 #[.pointer (some ⟨B.v, 0, none⟩)] w fun e w' => e = .returned (.bool (s.v == s.mv)) ∧ w = w' := fun w h => cFull_any w _ _ _ h.v
  have D : ∀ w, Tal w B s → Calls Try.prog 20 #[.pointer (some ⟨B.d, 0, none⟩)] w fun e w' => e = .returned (.bool (s.d == s.md)) ∧ w = w' := fun w h => cFull_any w _ _ _ h.d
  have G : ∀ w, Tal w B s → Calls Try.prog 20 #[.pointer (some ⟨B.g, 0, none⟩)] w fun e w' => e = .returned (.bool (s.g == s.mg)) ∧ w = w' := fun w h => cFull_any w _ _ _ h.g
  generalize (s.v == s.mv) = fv at *
  generalize (s.d == s.md) = fd at *
  generalize (s.g == s.mg) = fg at *
  go_enter Try.func13, Try.ntmps13
  go_wp2_with fail
  refine wp_region_stage (CWhy w B s w.heap.size) [12] [(0, 0, false), (0, 0, false), (0, 0, false), (0, 0, false), (0, 0, false), (0, 0, false), (0, 0, false), (0, 0, false), (0, 0, false), (0, 0, false), (0, 0, false), (0, 0, false), (0, 0, true), (1, 1, false), (0, 1, false)]
    (by kernel_rfl) (by kernel_rfl) (by kernel_rfl) ⟨hT.keep ((Chg.refl [] _).drew) (by simp), (Chg.refl [] _).drew, fun _ => rfl, fun h => absurd h (by omega)⟩ ?_
  simp only [List.zip_cons_cons, List.zip_nil_right]
  clear hT
  generalize w.heap.size = z at *
  repeat
    (refine wpStage_yes (by go_simp) ?_
     intro K hK
     apply Exists.intro
     refine ⟨fun kk w2 hk1 hk2 hC => ?_, ?_⟩
     · first
       | (go_simp; exact rfl)
       | (have c0 := hC.T.c0; have c1 := hC.T.c1; have c2 := hC.T.c2; go_simp; exact rfl)
       | (obtain rfl : kk = 0 := by omega
          have hs := hC.size rfl
          have hA := At.new w2 B.cells 40
          rw [hs] at hA
          go_simp
          exact ⟨rfl, hC.T.alloc _, hC.x.alloc _, fun h => absurd h (by omega), fun _ => hA⟩)
     go_simp
     refine hK _ ?_
     clear hK K)
  refine wpStage_nil (fun w' hC => ?_)
  have hT := hC.T
  have hL := hC.l (by simp)
  have hX := hC.x
  have l0 := hL.cell 0
  have l1 := hL.cell 1
  have l2 := hL.cell 2
  simp only [TB.cells] at l0 l1 l2
  clear hL hC
  go_wp2_with fail
  refine wp_loop_rounds 4 ?_
  cases fv <;> cases fd <;> cases fg
  all_goals
    rw [rounds_succ]
    go_wp2_with (go_at_call 20; (with_reducible refine (V _ hT).mono ?_); rintro e w' ⟨rfl, rfl⟩)
    rw [rounds_succ]
    go_wp2_with (go_at_call 20; (with_reducible refine (D _ hT).mono ?_); rintro e w' ⟨rfl, rfl⟩)
    rw [rounds_succ]
    go_wp2_with (go_at_call 20; (with_reducible refine (G _ hT).mono ?_); rintro e w' ⟨rfl, rfl⟩)
    rw [rounds_succ]
    go_wp2
    go_returns
    exact ⟨rfl, hX⟩

theorem tFires_any (w : World) (B : TB) (s : TS) (hT : Tal w B s) :
    Calls Try.prog 11 #[.pointer (some ⟨B.t, 0, none⟩)] w fun e w' => e = .returned (.bool (s.why != 0)) ∧ Chg [] w w' := by
  go_enter Try.func11, Try.ntmps11
  go_wp2_with (go_at_call 13; refine (tWhy_any _ B s hT).mono ?_; rintro e w1 ⟨rfl, hX⟩)
  go_returns
  exact ⟨rfl, hX⟩
end Go.Proofs.Ytnjakhmkpaeifaa
