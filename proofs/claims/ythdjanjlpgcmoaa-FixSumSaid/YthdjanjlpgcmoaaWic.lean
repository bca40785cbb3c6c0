/- Package wide: Cmp, Sign. -/
import Derived.Test.YthdjanjlpgcmoaaWid
import Derived.Test.YthdjanjlpgcmoaaStage
import Derived.LoopTactic
namespace Go.Proofs.Ythdjanjlpgcmoaa
open Go.RowKit

structure CRp (w1 w2 : World) (q : Nat) (w : World) : Prop where
  a : q = 0 → w = w1
  b : q = 1 → w = w2
def cmpI (x y : Int) : Int := if x < y then -1 else if y < x then 1 else 0
theorem nanI (w : World) (x : Int) : Calls Try.prog 56 #[.int .i64 x] w fun e w' => e = .returned (.bool false) ∧ w = w' := by
  go_enter Try.func56, Try.ntmps56
  go_wp2
  go_returns
  exact ⟨ret_bool (by simp), rfl⟩
theorem nanU (w : World) (x : Int) : Calls Try.prog 57 #[.int .u64 x] w fun e w' => e = .returned (.bool false) ∧ w = w' := by
  go_enter Try.func57, Try.ntmps57
  go_wp2
  go_returns
  exact ⟨ret_bool (by simp), rfl⟩
theorem compI (w : World) (x y : Int) : Calls Try.prog 41 #[.int .i64 x, .int .i64 y] w fun e w' => e = .returned (.int .i64 (cmpI x y)) ∧ w = w' := by
  have Hr := Lib.hid (show cmpI x y = if x < y then -1 else if y < x then 1 else 0 from rfl)
  generalize cmpI x y = r at *
  go_enter Try.func41, Try.ntmps41
  go_wp2_with fail
  refine (nanI _ _).mono ?_; rintro e w' ⟨rfl, rfl⟩
  go_wp2_with fail
  refine (nanI _ _).mono ?_; rintro e w' ⟨rfl, rfl⟩
  by_cases h1 : x < y
  · go_wp2
    go_returns
    exact ⟨ret_int (by rw [Hr.out]; repeat' split <;> omega), rfl⟩
  · by_cases h2 : y < x
    · go_wp2
      go_returns
      exact ⟨ret_int (by rw [Hr.out]; repeat' split <;> omega), rfl⟩
    · go_wp2
      go_returns
      exact ⟨ret_int (by rw [Hr.out]; repeat' split <;> omega), rfl⟩
theorem compU (w : World) (x y : Int) : Calls Try.prog 42 #[.int .u64 x, .int .u64 y] w fun e w' => e = .returned (.int .i64 (cmpI x y)) ∧ w = w' := by
  have Hr := Lib.hid (show cmpI x y = if x < y then -1 else if y < x then 1 else 0 from rfl)
  generalize cmpI x y = r at *
  go_enter Try.func42, Try.ntmps42
  go_wp2_with fail
  refine (nanU _ _).mono ?_; rintro e w' ⟨rfl, rfl⟩
  go_wp2_with fail
  refine (nanU _ _).mono ?_; rintro e w' ⟨rfl, rfl⟩
  by_cases h1 : x < y
  · go_wp2
    go_returns
    exact ⟨ret_int (by rw [Hr.out]; repeat' split <;> omega), rfl⟩
  · by_cases h2 : y < x
    · go_wp2
      go_returns
      exact ⟨ret_int (by rw [Hr.out]; repeat' split <;> omega), rfl⟩
    · go_wp2
      go_returns
      exact ⟨ret_int (by rw [Hr.out]; repeat' split <;> omega), rfl⟩
def orI (x y : Int) : Int := if x = 0 then y else x
theorem cmpor_any (w : World) (g : Nat) (x y : Int) (hA : At w g #[.int .i64 x, .int .i64 y]) : Calls Try.prog 40 #[.slice (some ⟨g, 0, none⟩) 2 2] w fun e w' => e = .returned (.int .i64 (orI x y)) ∧ w = w' := by
  have c0 := hA.cell 0
  have c1 := hA.cell 1
  have Hr := Lib.hid (show (if x = 0 then y else x) = (if x = 0 then y else x) from rfl)
  by_cases h1 : x = 0
  · subst h1
    rw [show orI 0 y = y from if_pos rfl]
    clear Hr
    go_enter Try.func40, Try.ntmps40
    go_wp2_with fail
    refine wp_loop_rounds 3 ?_
    rw [rounds_succ]
    go_wp2_with fail
    rw [rounds_succ]
    by_cases h2 : y = 0
    · subst h2
      go_wp2_with fail
      rw [rounds_succ]
      go_wp2
      go_returns
      exact ⟨rfl, rfl⟩
    · go_wp2
      go_returns
      exact ⟨rfl, rfl⟩
  · rw [show orI x y = x from if_neg h1]
    clear Hr
    go_enter Try.func40, Try.ntmps40
    go_wp2_with fail
    refine wp_loop_rounds 3 ?_
    rw [rounds_succ]
    go_wp2
    go_returns
    exact ⟨rfl, rfl⟩

/-- Which one is greater. -/
def cmpV (a b : WV) : Int := cmpI a.val b.val
theorem cmp_plain (a b : WV) (ha : a.ok) (hb : b.ok) : orI (cmpI a.hi b.hi) (cmpI a.lo b.lo) = cmpV a b := by
  obtain ⟨ah, al⟩ := a
  obtain ⟨bh, bl⟩ := b
  have a3 : 0 ≤ al := ha.l0
  have a4 : al ≤ 18446744073709551615 := ha.l1
  have b3 : 0 ≤ bl := hb.l0
  have b4 : bl ≤ 18446744073709551615 := hb.l1
  unfold cmpV orI cmpI WV.val
  simp only
  repeat' split
  all_goals omega
theorem wcmp_any (w : World) (a b : WV) (ha : a.ok) (hb : b.ok) : Calls Try.prog 12 #[.agg a.cells, .agg b.cells] w fun e w' => e = .returned (.int .i64 (cmpV a b)) ∧ Chg [] w w' := by
  have hA := (At.new w a.cells 27).alloc (.cells b.cells 27)
  have hB := At.new (w.alloc (.cells a.cells 27)) b.cells 27
  rw [show (w.alloc (.cells a.cells 27)).heap.size = w.heap.size + 1 by simp] at hB
  have hX : Chg [] w ((w.alloc (.cells a.cells 27)).alloc (.cells b.cells 27)) := ((Chg.refl [] w).alloc _).alloc _
  have Hp := Lib.hid (cmp_plain a b ha hb)
  generalize cmpV a b = res at *
  rw [show a.cells = #[.int .i64 a.hi, .int .u64 a.lo] from rfl, show b.cells = #[.int .i64 b.hi, .int .u64 b.lo] from rfl] at *
  go_enter Try.func12, Try.ntmps12
  go_wp2_with fail
  obtain ⟨wd, hwd⟩ : ∃ wd, wd = ((w.alloc (.cells #[.int .i64 a.hi, .int .u64 a.lo] 27)).alloc (.cells #[.int .i64 b.hi, .int .u64 b.lo] 27)).drew := ⟨_, rfl⟩
  have a0 := hA.drew.cell 0; have a1 := hA.drew.cell 1; have b0 := hB.drew.cell 0; have b1 := hB.drew.cell 1
  have hXd := hX.drew
  rw [← hwd] at a0 a1 b0 b1 hXd
  have hQ := At.new wd #[.int .i64 (cmpI a.hi b.hi), .int .i64 (cmpI a.lo b.lo)] 3
  have hXq := hXd.alloc (.cells #[.int .i64 (cmpI a.hi b.hi), .int .i64 (cmpI a.lo b.lo)] 3)
  have Hwd := Lib.hid hwd
  clear hwd hA hB hX hXd
  refine wp_region_stage (CRp wd (wd.alloc (.cells #[.int .i64 (cmpI a.hi b.hi), .int .i64 (cmpI a.lo b.lo)] 3))) [10] [(0, 0, false), (0, 0, false), (0, 0, false), (0, 0, false), (0, 0, false), (0, 0, false), (0, 0, false), (0, 0, false), (0, 0, false), (0, 0, false), (0, 0, true), (1, 1, false), (1, 1, false)]
    (by kernel_rfl) (by kernel_rfl) (by kernel_rfl) (⟨fun _ => Hwd.out.symm, fun h => absurd h (by omega)⟩) ?_
  simp only [List.zip_cons_cons, List.zip_nil_right]
  refine wpStage_yes (by go_simp) ?_
  intro K hK
  apply Exists.intro
  refine ⟨fun kk ww hk1 hk2 hC => ?_, ?_⟩
  · go_simp
    with_reducible exact rfl
  go_simp
  refine hK _ ?_
  clear hK K
  refine wpStage_yes (by go_simp) ?_
  intro K hK
  apply Exists.intro
  refine ⟨fun kk ww hk1 hk2 hC => ?_, ?_⟩
  · obtain rfl : kk = 0 := by omega
    obtain rfl := hC.a rfl
    go_simp
    with_reducible exact rfl
  go_simp
  refine hK _ ?_
  clear hK K
  refine wpStage_yes (by go_simp) ?_
  intro K hK
  apply Exists.intro
  refine ⟨fun kk ww hk1 hk2 hC => ?_, ?_⟩
  · go_simp
    with_reducible exact rfl
  go_simp
  refine hK _ ?_
  clear hK K
  refine wpStage_yes (by go_simp) ?_
  intro K hK
  apply Exists.intro
  refine ⟨fun kk ww hk1 hk2 hC => ?_, ?_⟩
  · obtain rfl : kk = 0 := by omega
    obtain rfl := hC.a rfl
    go_simp
    with_reducible exact rfl
  go_simp
  refine hK _ ?_
  clear hK K
  refine wpStage_yes (by go_simp) ?_
  intro K hK
  apply Exists.intro
  refine ⟨fun kk ww hk1 hk2 hC => ?_, ?_⟩
  · obtain rfl : kk = 0 := by omega
    obtain rfl := hC.a rfl
    go_simp
    go_at_call 41; refine (compI _ a.hi b.hi).mono ?_; rintro e w' ⟨rfl, rfl⟩
    exact ⟨rfl, fun _ => rfl, fun h => absurd h (by omega)⟩
  go_simp
  refine hK _ ?_
  clear hK K
  refine wpStage_yes (by go_simp) ?_
  intro K hK
  apply Exists.intro
  refine ⟨fun kk ww hk1 hk2 hC => ?_, ?_⟩
  · go_simp
    with_reducible exact rfl
  go_simp
  refine hK _ ?_
  clear hK K
  refine wpStage_yes (by go_simp) ?_
  intro K hK
  apply Exists.intro
  refine ⟨fun kk ww hk1 hk2 hC => ?_, ?_⟩
  · obtain rfl : kk = 0 := by omega
    obtain rfl := hC.a rfl
    go_simp
    with_reducible exact rfl
  go_simp
  refine hK _ ?_
  clear hK K
  refine wpStage_yes (by go_simp) ?_
  intro K hK
  apply Exists.intro
  refine ⟨fun kk ww hk1 hk2 hC => ?_, ?_⟩
  · go_simp
    with_reducible exact rfl
  go_simp
  refine hK _ ?_
  clear hK K
  refine wpStage_yes (by go_simp) ?_
  intro K hK
  apply Exists.intro
  refine ⟨fun kk ww hk1 hk2 hC => ?_, ?_⟩
  · obtain rfl : kk = 0 := by omega
    obtain rfl := hC.a rfl
    go_simp
    with_reducible exact rfl
  go_simp
  refine hK _ ?_
  clear hK K
  refine wpStage_yes (by go_simp) ?_
  intro K hK
  apply Exists.intro
  refine ⟨fun kk ww hk1 hk2 hC => ?_, ?_⟩
  · obtain rfl : kk = 0 := by omega
    obtain rfl := hC.a rfl
    go_simp
    go_at_call 42; refine (compU _ a.lo b.lo).mono ?_; rintro e w' ⟨rfl, rfl⟩
    exact ⟨rfl, fun _ => rfl, fun h => absurd h (by omega)⟩
  go_simp
  refine hK _ ?_
  clear hK K
  refine wpStage_yes (by go_simp) ?_
  intro K hK
  apply Exists.intro
  refine ⟨fun kk ww hk1 hk2 hC => ?_, ?_⟩
  · obtain rfl : kk = 0 := by omega
    obtain rfl := hC.a rfl
    go_simp
    exact ⟨rfl, fun h => absurd h (by omega), fun _ => rfl⟩
  go_simp
  refine hK _ ?_
  clear hK K
  refine wpStage_yes (by go_simp) ?_
  intro K hK
  apply Exists.intro
  refine ⟨fun kk ww hk1 hk2 hC => ?_, ?_⟩
  · obtain rfl : kk = 1 := by omega
    obtain rfl := hC.b rfl
    go_simp
    go_at_call 40; refine (cmpor_any _ wd.heap.size _ _ hQ).mono ?_; rintro e w' ⟨rfl, rfl⟩
    exact ⟨rfl, fun h => absurd h (by omega), fun _ => rfl⟩
  go_simp
  refine hK _ ?_
  clear hK K
  refine wpStage_yes (by go_simp) ?_
  intro K hK
  apply Exists.intro
  refine ⟨fun kk ww hk1 hk2 hC => ?_, ?_⟩
  · go_simp
    with_reducible exact rfl
  go_simp
  refine hK _ ?_
  clear hK K
  refine wpStage_nil (fun ww hC => ?_)
  obtain rfl := hC.b rfl
  go_wp2
  go_returns
  exact ⟨ret_int Hp.out, hXq⟩
theorem zero_ok : WV.zero.ok := ⟨by decide, by decide, by decide, by decide⟩
theorem wsign_any (w : World) (a : WV) (ha : a.ok) : Calls Try.prog 51 #[.agg a.cells] w fun e w' => e = .returned (.int .i64 (cmpI a.val 0)) ∧ Chg [] w w' := by
  have HC := fun w => wcmp_any w a WV.zero ha zero_ok
  rw [show cmpV a WV.zero = cmpI a.val 0 from rfl] at HC
  have hA := At.new w a.cells 27
  have hX : Chg [] w (w.alloc (.cells a.cells 27)) := (Chg.refl [] w).alloc _
  generalize cmpI a.val 0 = r at *
  rw [show a.cells = #[.int .i64 a.hi, .int .u64 a.lo] from rfl] at *
  rw [show WV.zero.cells = #[.int .i64 0, .int .u64 0] from rfl] at HC
  have c0 := hA.cell 0
  have c1 := hA.cell 1
  go_enter Try.func51, Try.ntmps51
  go_wp2_with fail
  refine (HC _).mono ?_; rintro e w' ⟨rfl, hX2⟩
  go_wp2
  go_returns
  exact ⟨rfl, hX.trans hX2⟩
end Go.Proofs.Ythdjanjlpgcmoaa
