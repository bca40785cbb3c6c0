/- Contracts of package count: what each function does to a counter's block. -/
import Derived.Test.YtjneidmkllhbjaaRows
import Derived.Test.YtjneidmkllhbjaaHeap
import Derived.WalkLawsBesides
import Derived.WalkSpells
import Derived.BigQuiet
import Derived.StillTailTactics
namespace Go.Proofs.Ytjneidmkllhbjaa
open Go.RowKit

/-- A counter of n, up to m, at block b. -/
def Ctr (w : World) (b : Nat) (n m : Int) : Prop := At w b #[.int .i64 n, .int .i64 m]
def cAdd (n m k : Int) : Int := n + min (max k 0) (m - n)
def cSet (m k : Int) : Int := min (max k 0) m
theorem Ctr.set {w : World} {b : Nat} {n m n' v : Int} (h : Ctr w b n m) (hv : v = n') : Ctr (w.setCell ⟨b, 0, none⟩ (.int .i64 v)) b n' m := by
  subst hv; exact At.set h 0 _ rfl
theorem Ctr.c0 {w : World} {b : Nat} {n m : Int} (h : Ctr w b n m) : w.cell? ⟨b, 0, none⟩ = some (.int .i64 n) := At.cell h 0
theorem Ctr.c1 {w : World} {b : Nat} {n m : Int} (h : Ctr w b n m) : w.cell? ⟨b, 1, none⟩ = some (.int .i64 m) := At.cell h 1
theorem Ctr.f0 {w : World} {b : Nat} {n m : Int} (h : Ctr w b n m) : w.frozen? ⟨b, 0, none⟩ = false := At.frozen h 0

theorem Ctr.keep {S : List Nat} {w w' : World} {b : Nat} {n m : Int} (h : Chg S w w') (hc : Ctr w b n m) (hn : b ∉ S) : Ctr w' b n m := h.at hc hn
theorem Ctr.lt {w : World} {b : Nat} {n m : Int} (h : Ctr w b n m) : b < w.heap.size := At.lt h
theorem Ctr.alloc {w : World} {b : Nat} {n m : Int} (h : Ctr w b n m) (o : Obj) : Ctr (w.alloc o) b n m := At.alloc h o
theorem Ctr.drewN {w : World} {b : Nat} {n m : Int} (h : Ctr w b n m) (k : Nat) : Ctr (w.drewN k) b n m := h
theorem cSet_bd (m k : Int) (hm : 0 ≤ m) : 0 ≤ cSet m k ∧ cSet m k ≤ m := by unfold cSet; omega
theorem cAdd_bd (n m k : Int) (h : n ≤ m) : n ≤ cAdd n m k ∧ cAdd n m k ≤ m := by unfold cAdd; omega

theorem aLoad (b : Nat) (n : Int) (w : World) (h0 : w.cell? ⟨b, 0, none⟩ = some (.int .i64 n)) :
    Calls Try.prog 45 #[.pointer (some ⟨b, 0, none⟩)] w fun e w' => e = .returned (.int .i64 n) ∧ w = w' := by
  have hl := run_call_load (P := Try.prog) Try.func47 (by kernel_rfl) (by kernel_rfl) (by kernel_rfl) .i64 (by kernel_rfl) h0
  go_enter Try.func45, Try.ntmps45
  go_wp2
  go_ret
  exact ⟨rfl, rfl⟩
theorem aCas (b : Nat) (n m : Int) (w : World) (h0 : w.cell? ⟨b, 0, none⟩ = some (.int .i64 n)) (f0 : w.frozen? ⟨b, 0, none⟩ = false) :
    Calls Try.prog 46 #[.pointer (some ⟨b, 0, none⟩), .int .i64 n, .int .i64 m] w fun e w' => e = .returned (.bool true) ∧ w.setCell ⟨b, 0, none⟩ (.int .i64 m) = w' := by
  have hl := run_call_cas_hit (P := Try.prog) Try.func48 (by kernel_rfl) (by kernel_rfl) (by kernel_rfl) .i64 (by kernel_rfl) (y := m) h0 f0
  go_enter Try.func46, Try.ntmps46
  go_wp2
  go_ret
  exact ⟨rfl, rfl⟩
theorem cNew (w : World) (k : Int) : Calls Try.prog 33 #[.int .i64 k] w fun e w' =>
    ∃ b, e = .returned (.pointer (some ⟨b, 0, none⟩)) ∧ w.heap.size ≤ b ∧ Ctr w' b 0 (cSet 1000000 k) ∧ Chg [] w w' := by
  go_enter Try.func33, Try.ntmps33
  go_wp2
  all_goals
    go_ret
    refine ⟨_, rfl, Nat.le_refl _, ?_, (Chg.refl _ _).alloc _⟩
    exact At.new' w _ _ _ (by have e : ∀ x y : Int, x = y → #[Value.int .i64 0, Value.int .i64 x] = #[Value.int .i64 0, Value.int .i64 y] := fun x y h => by rw [h]
                              exact e _ _ (by unfold cSet; omega))

theorem cAdd_nil (w : World) (k : Int) : Calls Try.prog 42 #[.pointer none, .int .i64 k] w fun e w' => e = .returned (.int .i64 0) ∧ w = w' := by
  go_enter Try.func42, Try.ntmps42
  go_wp2
  go_ret
  exact ⟨rfl, rfl⟩

set_option maxHeartbeats 400000 in
theorem cAdd_any (w : World) (b : Nat) (n m k : Int) (hC : Ctr w b n m) (hn : 0 ≤ n) (hnm : n ≤ m) (hm : m ≤ 1000000) :
    Calls Try.prog 42 #[.pointer (some ⟨b, 0, none⟩), .int .i64 k] w fun e w' => e = .returned (.int .i64 (cAdd n m k)) ∧ Ctr w' b (cAdd n m k) m ∧ Chg [b] w w' := by
  have h0 := hC.c0
  have h1 := hC.c1
  have f0 := hC.f0
  go_enter Try.func42, Try.ntmps42
  go_wp2_with fail
  refine wp_loop_rounds 1 ?_; rw [rounds_succ]
  go_wp2_with (first | (go_at_call 45; refine (aLoad b n _ h0).mono ?_; rintro e w' ⟨rfl, rfl⟩) | (go_at_call 46; refine (aCas b n _ _ h0 f0).mono ?_; rintro e w' ⟨rfl, rfl⟩))
  all_goals
    go_ret
    exact ⟨ret_int (by unfold cAdd; omega), hC.set (by unfold cAdd; omega), (Chg.refl _ _).setCell (by simp) _⟩

theorem cUp_nil (w : World) : Calls Try.prog 35 #[.pointer none] w fun e w' => e = .returned (.int .i64 0) ∧ w = w' := by
  go_enter Try.func35, Try.ntmps35
  go_wp2_with (go_at_call 42; refine (cAdd_nil _ _).mono ?_; rintro e w' ⟨rfl, rfl⟩)
  go_ret
  exact ⟨rfl, rfl⟩
theorem cUp_any (w : World) (b : Nat) (n m : Int) (hC : Ctr w b n m) (hn : 0 ≤ n) (hnm : n ≤ m) (hm : m ≤ 1000000) :
    Calls Try.prog 35 #[.pointer (some ⟨b, 0, none⟩)] w fun e w' => e = .returned (.int .i64 (cAdd n m 1)) ∧ Ctr w' b (cAdd n m 1) m ∧ Chg [b] w w' := by
  go_enter Try.func35, Try.ntmps35
  go_wp2_with (go_at_call 42; refine (cAdd_any _ b n m 1 hC hn hnm hm).mono ?_; rintro e w' ⟨rfl, hA, hB⟩)
  go_ret
  exact ⟨rfl, hA, hB⟩
end Go.Proofs.Ytjneidmkllhbjaa
