/- Contracts of package count: what each function does to a counter's block. -/
import Derived.Test.YtmdgikikiijjbaaRows
import Derived.Test.YtmdgikikiijjbaaHeap
import Derived.WalkLawsBesides
import Derived.WalkSpells
import Derived.BigQuiet
import Derived.StillTailTactics
namespace Go.Proofs.Ytmdgikikiijjbaa
open Go.RowKit

/-- A counter of n, up to m, at block b. -/
def Ctr (w : World) (b : Nat) (n m : Int) : Prop := At w b #[.int .i64 n, .int .i64 m]
def cAdd (n m k : Int) : Int := n + min (max k 0) (m - n)
def cSet (m k : Int) : Int := min (max k 0) m
theorem Ctr.set {w : World} {b : Nat} {n m n' v : Int} (h : Ctr w b n m) (hv : v = n') : Ctr (w.setCell ⟨b, 0, none⟩ (.int .i64 v)) b n' m := by
  subst hv; exact At.set h 0 _ rfl
theorem Ctr.c0 {w : World} {b : Nat} {n m : Int} (h : Ctr w b n m) : w.cell? ⟨b, 0, none⟩ = some (.int .i64 n) := At.cell h 0
theorem Ctr.c1 {w : World} {b : Nat} {n m : Int} (h : Ctr w b n m) : w.cell? ⟨b, 1, none⟩ = some (.int .i64 m) := At.cell h 1
theorem Ctr.f0 {w : World} {b : Nat} {n m : Int} (h : Ctr w b n m) : w.frozen? ⟨b, 0, none⟩ = false := At.frozen h 0

theorem Ctr.keep {S : List Nat} {w w' : World} {b : Nat} {n m : Int} (h : Chg S w w') (hc : Ctr w b n m) (hn : b ∉ S) : Ctr w' b n m := h.at hc hn
theorem Ctr.lt {w : World} {b : Nat} {n m : Int} (h : Ctr w b n m) : b < w.heap.size := At.lt h
theorem Ctr.alloc {w : World} {b : Nat} {n m : Int} (h : Ctr w b n m) (o : Obj) : Ctr (w.alloc o) b n m := At.alloc h o
theorem Ctr.drewN {w : World} {b : Nat} {n m : Int} (h : Ctr w b n m) (k : Nat) : Ctr (w.drewN k) b n m := h
theorem cSet_bd (m k : Int) (hm : 0 ≤ m) : 0 ≤ cSet m k ∧ cSet m k ≤ m := by unfold cSet; omega
theorem cAdd_bd (n m k : Int) (h : n ≤ m) : n ≤ cAdd n m k ∧ cAdd n m k ≤ m := by unfold cAdd; omega

theorem aLoad (b : Nat) (n : Int) (w : World) (h0 : w.cell? ⟨b, 0, none⟩ = some (.int .i64 n)) :
    Calls Try.prog 28 #[.pointer (some ⟨b, 0, none⟩)] w fun e w' => e = .returned (.int .i64 n) ∧ w = w' := by
  have hl := run_call_load (P := Try.prog) Try.func33 (by kernel_rfl) (by kernel_rfl) (by kernel_rfl) .i64 (by kernel_rfl) h0
  go_enter Try.func28, Try.ntmps28
  go_wp2
  go_ret
  exact ⟨rfl, rfl⟩
theorem aCas (b : Nat) (n m : Int) (w : World) (h0 : w.cell? ⟨b, 0, none⟩ = some (.int .i64 n)) (f0 : w.frozen? ⟨b, 0, none⟩ = false) :
    Calls Try.prog 32 #[.pointer (some ⟨b, 0, none⟩), .int .i64 n, .int .i64 m] w fun e w' => e = .returned (.bool true) ∧ w.setCell ⟨b, 0, none⟩ (.int .i64 m) = w' := by
  have hl := run_call_cas_hit (P := Try.prog) Try.func39 (by kernel_rfl) (by kernel_rfl) (by kernel_rfl) .i64 (by kernel_rfl) (y := m) h0 f0
  go_enter Try.func32, Try.ntmps32
  go_wp2
  go_ret
  exact ⟨rfl, rfl⟩
theorem aStore (b : Nat) (n m : Int) (w : World) (h0 : w.cell? ⟨b, 0, none⟩ = some (.int .i64 n)) (f0 : w.frozen? ⟨b, 0, none⟩ = false) :
    Calls Try.prog 31 #[.pointer (some ⟨b, 0, none⟩), .int .i64 m] w fun e w' => e = .returned (.tuple #[]) ∧ w.setCell ⟨b, 0, none⟩ (.int .i64 m) = w' := by
  have hl := run_call_store (P := Try.prog) Try.func38 (by kernel_rfl) (by kernel_rfl) (by kernel_rfl) (by kernel_rfl) (k := .i64) (y := m) h0 f0
  go_enter Try.func31, Try.ntmps31
  go_wp2
  go_end0
  exact ⟨rfl, rfl⟩

theorem cNew (w : World) (k : Int) : Calls Try.prog 16 #[.int .i64 k] w fun e w' =>
    ∃ b, e = .returned (.pointer (some ⟨b, 0, none⟩)) ∧ w.heap.size ≤ b ∧ Ctr w' b 0 (cSet 1000000 k) ∧ Chg [] w w' := by
  go_enter Try.func16, Try.ntmps16
  go_wp2
  all_goals
    go_ret
    refine ⟨_, rfl, Nat.le_refl _, ?_, (Chg.refl _ _).alloc _⟩
    exact At.new' w _ _ _ (by have e : ∀ x y : Int, x = y → #[Value.int .i64 0, Value.int .i64 x] = #[Value.int .i64 0, Value.int .i64 y] := fun x y h => by rw [h]
                              exact e _ _ (by unfold cSet; omega))

theorem cAdd_nil (w : World) (k : Int) : Calls Try.prog 26 #[.pointer none, .int .i64 k] w fun e w' => e = .returned (.int .i64 0) ∧ w = w' := by
  go_enter Try.func26, Try.ntmps26
  go_wp2
  go_ret
  exact ⟨rfl, rfl⟩

set_option maxHeartbeats 400000 in
theorem cAdd_any (w : World) (b : Nat) (n m k : Int) (hC : Ctr w b n m) (hn : 0 ≤ n) (hnm : n ≤ m) (hm : m ≤ 1000000) :
    Calls Try.prog 26 #[.pointer (some ⟨b, 0, none⟩), .int .i64 k] w fun e w' => e = .returned (.int .i64 (cAdd n m k)) ∧ Ctr w' b (cAdd n m k) m ∧ Chg [b] w w' := by
  have h0 := hC.c0
  have h1 := hC.c1
  have f0 := hC.f0
  go_enter Try.func26, Try.ntmps26
  go_wp2_with fail
  refine wp_loop_rounds 1 ?_; rw [rounds_succ]
  go_wp2_with (first | (go_at_call 28; refine (aLoad b n _ h0).mono ?_; rintro e w' ⟨rfl, rfl⟩) | (go_at_call 32; refine (aCas b n _ _ h0 f0).mono ?_; rintro e w' ⟨rfl, rfl⟩))
  all_goals
    go_ret
    exact ⟨ret_int (by unfold cAdd; omega), hC.set (by unfold cAdd; omega), (Chg.refl _ _).setCell (by simp) _⟩

theorem cSet_nil (w : World) (k : Int) : Calls Try.prog 25 #[.pointer none, .int .i64 k] w fun e w' => e = .returned (.tuple #[]) ∧ w = w' := by
  go_enter Try.func25, Try.ntmps25
  go_wp2
  go_end0
  exact ⟨rfl, rfl⟩
set_option maxRecDepth 100000 in
theorem cSet_any (w : World) (b : Nat) (n m k : Int) (hC : Ctr w b n m) :
    Calls Try.prog 25 #[.pointer (some ⟨b, 0, none⟩), .int .i64 k] w fun e w' => e = .returned (.tuple #[]) ∧ Ctr w' b (cSet m k) m ∧ Chg [b] w w' := by
  have h0 := hC.c0
  have h1 := hC.c1
  have f0 := hC.f0
  go_enter Try.func25, Try.ntmps25
  go_wp2_with fail
  go_still_tail 10, (by kernel_rfl)
  change wpList _ _ _ _ _ w.drew
  have h0' : w.drew.cell? ⟨b, 0, none⟩ = some (.int .i64 n) := h0
  have f0' : w.drew.frozen? ⟨b, 0, none⟩ = false := f0
  go_wp2_with (go_at_call 31; refine (aStore b n _ _ h0' f0').mono ?_; rintro e w' ⟨rfl, rfl⟩)
  all_goals
    go_end0
    exact ⟨rfl, Ctr.set (w := w.drew) hC (by unfold cSet; omega), ((Chg.refl _ _).drew).setCell (by simp) _⟩

theorem cUp_nil (w : World) : Calls Try.prog 19 #[.pointer none] w fun e w' => e = .returned (.int .i64 0) ∧ w = w' := by
  go_enter Try.func19, Try.ntmps19
  go_wp2_with (go_at_call 26; refine (cAdd_nil _ _).mono ?_; rintro e w' ⟨rfl, rfl⟩)
  go_ret
  exact ⟨rfl, rfl⟩
theorem cUp_any (w : World) (b : Nat) (n m : Int) (hC : Ctr w b n m) (hn : 0 ≤ n) (hnm : n ≤ m) (hm : m ≤ 1000000) :
    Calls Try.prog 19 #[.pointer (some ⟨b, 0, none⟩)] w fun e w' => e = .returned (.int .i64 (cAdd n m 1)) ∧ Ctr w' b (cAdd n m 1) m ∧ Chg [b] w w' := by
  go_enter Try.func19, Try.ntmps19
  go_wp2_with (go_at_call 26; refine (cAdd_any _ b n m 1 hC hn hnm hm).mono ?_; rintro e w' ⟨rfl, hA, hB⟩)
  go_ret
  exact ⟨rfl, hA, hB⟩
theorem cReset_nil (w : World) : Calls Try.prog 18 #[.pointer none] w fun e w' => e = .returned (.tuple #[]) ∧ w = w' := by
  go_enter Try.func18, Try.ntmps18
  go_wp2_with (go_at_call 25; refine (cSet_nil _ _).mono ?_; rintro e w' ⟨rfl, rfl⟩)
  go_end0
  exact ⟨rfl, rfl⟩
theorem cReset_any (w : World) (b : Nat) (n m : Int) (hC : Ctr w b n m) :
    Calls Try.prog 18 #[.pointer (some ⟨b, 0, none⟩)] w fun e w' => e = .returned (.tuple #[]) ∧ Ctr w' b (cSet m 0) m ∧ Chg [b] w w' := by
  go_enter Try.func18, Try.ntmps18
  go_wp2_with (go_at_call 25; refine (cSet_any _ b n m 0 hC).mono ?_; rintro e w' ⟨rfl, hA, hB⟩)
  go_end0
  exact ⟨rfl, hA, hB⟩
theorem cValue_nil (w : World) : Calls Try.prog 22 #[.pointer none] w fun e w' => e = .returned (.int .i64 0) ∧ w = w' := by
  go_enter Try.func22, Try.ntmps22
  go_wp2
  go_ret
  exact ⟨rfl, rfl⟩
theorem cValue_any (w : World) (b : Nat) (n m : Int) (hC : Ctr w b n m) :
    Calls Try.prog 22 #[.pointer (some ⟨b, 0, none⟩)] w fun e w' => e = .returned (.int .i64 n) ∧ w = w' := by
  have h0 := hC.c0
  go_enter Try.func22, Try.ntmps22
  go_wp2_with (go_at_call 28; refine (aLoad b n _ h0).mono ?_; rintro e w' ⟨rfl, rfl⟩)
  go_ret
  exact ⟨rfl, rfl⟩
end Go.Proofs.Ytmdgikikiijjbaa
