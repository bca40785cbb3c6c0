/- Wic, Wii, Wmu, Wsq, Wlz, Wdp. -/
import Derived.Test.YtpfglmlpodjneaaGreatZ00
import Derived.LoopTactic
import Derived.Deep.LoopGhost
import Derived.Lib.Strings
import Derived.Lib.Slices
import Derived.Lib.Small
import Derived.Lib.Walk
import Derived.Lib.BitFns
import Derived.Lib.ItoaNum
set_option linter.unusedSimpArgs false
set_option linter.unusedVariables false
namespace Go.Proofs.YtpfglmlpodjneaaGreat
open Go.RowKit

structure CRp (w1 w2 : World) (q : Nat) (w : World) : Prop where
  a : q = 0 → w = w1
  b : q = 1 → w = w2
def cmpI (x y : Int) : Int := if x < y then -1 else if y < x then 1 else 0
theorem nanI (w : World) (x : Int) : Calls Tryz.prog 113 #[.int .i64 x] w fun e w' => e = .returned (.bool false) ∧ w = w' := by
  go_enter Tryz.func113, Tryz.ntmps113
  go_wp2
  go_returns
  exact ⟨ret_bool (by simp), rfl⟩
theorem nanU (w : World) (x : Int) : Calls Tryz.prog 114 #[.int .u64 x] w fun e w' => e = .returned (.bool false) ∧ w = w' := by
  go_enter Tryz.func114, Tryz.ntmps114
  go_wp2
  go_returns
  exact ⟨ret_bool (by simp), rfl⟩
theorem compI (w : World) (x y : Int) : Calls Tryz.prog 98 #[.int .i64 x, .int .i64 y] w fun e w' => e = .returned (.int .i64 (cmpI x y)) ∧ w = w' := by
  have Hr := Lib.hid (show cmpI x y = if x < y then -1 else if y < x then 1 else 0 from rfl)
  generalize cmpI x y = r at *
  go_enter Tryz.func98, Tryz.ntmps98
  go_wp2_with fail
  refine (nanI _ _).mono ?_; rintro e w' ⟨rfl, rfl⟩
  go_wp2_with fail
  refine (nanI _ _).mono ?_; rintro e w' ⟨rfl, rfl⟩
  by_cases h1 : x < y
  · go_wp2
    go_returns
    exact ⟨ret_int (by rw [Hr.out]; repeat' split <;> omega), rfl⟩
  · by_cases h2 : y < x
    · go_wp2
      go_returns
      exact ⟨ret_int (by rw [Hr.out]; repeat' split <;> omega), rfl⟩
    · go_wp2
      go_returns
      exact ⟨ret_int (by rw [Hr.out]; repeat' split <;> omega), rfl⟩
theorem compU (w : World) (x y : Int) : Calls Tryz.prog 99 #[.int .u64 x, .int .u64 y] w fun e w' => e = .returned (.int .i64 (cmpI x y)) ∧ w = w' := by
  have Hr := Lib.hid (show cmpI x y = if x < y then -1 else if y < x then 1 else 0 from rfl)
  generalize cmpI x y = r at *
  go_enter Tryz.func99, Tryz.ntmps99
  go_wp2_with fail
  refine (nanU _ _).mono ?_; rintro e w' ⟨rfl, rfl⟩
  go_wp2_with fail
  refine (nanU _ _).mono ?_; rintro e w' ⟨rfl, rfl⟩
  by_cases h1 : x < y
  · go_wp2
    go_returns
    exact ⟨ret_int (by rw [Hr.out]; repeat' split <;> omega), rfl⟩
  · by_cases h2 : y < x
    · go_wp2
      go_returns
      exact ⟨ret_int (by rw [Hr.out]; repeat' split <;> omega), rfl⟩
    · go_wp2
      go_returns
      exact ⟨ret_int (by rw [Hr.out]; repeat' split <;> omega), rfl⟩
def orI (x y : Int) : Int := if x = 0 then y else x
theorem cmpor_any (w : World) (g : Nat) (x y : Int) (hA : At w g #[.int .i64 x, .int .i64 y]) : Calls Tryz.prog 97 #[.slice (some ⟨g, 0, none⟩) 2 2] w fun e w' => e = .returned (.int .i64 (orI x y)) ∧ w = w' := by
  have c0 := hA.cell 0
  have c1 := hA.cell 1
  have Hr := Lib.hid (show (if x = 0 then y else x) = (if x = 0 then y else x) from rfl)
  by_cases h1 : x = 0
  · subst h1
    rw [show orI 0 y = y from if_pos rfl]
    clear Hr
    go_enter Tryz.func97, Tryz.ntmps97
    go_wp2_with fail
    refine wp_loop_rounds 3 ?_
    rw [rounds_succ]
    go_wp2_with fail
    rw [rounds_succ]
    by_cases h2 : y = 0
    · subst h2
      go_wp2_with fail
      rw [rounds_succ]
      go_wp2
      go_returns
      exact ⟨rfl, rfl⟩
    · go_wp2
      go_returns
      exact ⟨rfl, rfl⟩
  · rw [show orI x y = x from if_neg h1]
    clear Hr
    go_enter Tryz.func97, Tryz.ntmps97
    go_wp2_with fail
    refine wp_loop_rounds 3 ?_
    rw [rounds_succ]
    go_wp2
    go_returns
    exact ⟨rfl, rfl⟩

/-- Which one is greater. -/
def cmpV (a b : WV) : Int := cmpI a.val b.val
theorem cmp_plain (a b : WV) (ha : a.ok) (hb : b.ok) : orI (cmpI a.hi b.hi) (cmpI a.lo b.lo) = cmpV a b := by
  obtain ⟨ah, al⟩ := a
  obtain ⟨bh, bl⟩ := b
  have a3 : 0 ≤ al := ha.l0
  have a4 : al ≤ 18446744073709551615 := ha.l1
  have b3 : 0 ≤ bl := hb.l0
  have b4 : bl ≤ 18446744073709551615 := hb.l1
  unfold cmpV orI cmpI WV.val
  simp only
  repeat' split
  all_goals omega
theorem wcmp_any (w : World) (a b : WV) (ha : a.ok) (hb : b.ok) : Calls Tryz.prog 87 #[.agg a.cells, .agg b.cells] w fun e w' => e = .returned (.int .i64 (cmpV a b)) ∧ Chg [] w w' := by
  have hA := (At.new w a.cells 95).alloc (.cells b.cells 95)
  have hB := At.new (w.alloc (.cells a.cells 95)) b.cells 95
  rw [show (w.alloc (.cells a.cells 95)).heap.size = w.heap.size + 1 by simp] at hB
  have hX : Chg [] w ((w.alloc (.cells a.cells 95)).alloc (.cells b.cells 95)) := ((Chg.refl [] w).alloc _).alloc _
  have Hp := Lib.hid (cmp_plain a b ha hb)
  generalize cmpV a b = res at *
  rw [show a.cells = #[.int .i64 a.hi, .int .u64 a.lo] from rfl, show b.cells = #[.int .i64 b.hi, .int .u64 b.lo] from rfl] at *
  go_enter Tryz.func87, Tryz.ntmps87
  go_wp2_with fail
  obtain ⟨wd, hwd⟩ : ∃ wd, wd = ((w.alloc (.cells #[.int .i64 a.hi, .int .u64 a.lo] 95)).alloc (.cells #[.int .i64 b.hi, .int .u64 b.lo] 95)).drew := ⟨_, rfl⟩
  have a0 := hA.drew.cell 0; have a1 := hA.drew.cell 1; have b0 := hB.drew.cell 0; have b1 := hB.drew.cell 1
  have hXd := hX.drew
  rw [← hwd] at a0 a1 b0 b1 hXd
  have hQ := At.new wd #[.int .i64 (cmpI a.hi b.hi), .int .i64 (cmpI a.lo b.lo)] 3
  have hXq := hXd.alloc (.cells #[.int .i64 (cmpI a.hi b.hi), .int .i64 (cmpI a.lo b.lo)] 3)
  have Hwd := Lib.hid hwd
  clear hwd hA hB hX hXd
  refine wp_region_stage (CRp wd (wd.alloc (.cells #[.int .i64 (cmpI a.hi b.hi), .int .i64 (cmpI a.lo b.lo)] 3))) [10] [(0, 0, false), (0, 0, false), (0, 0, false), (0, 0, false), (0, 0, false), (0, 0, false), (0, 0, false), (0, 0, false), (0, 0, false), (0, 0, false), (0, 0, true), (1, 1, false), (1, 1, false)]
    (by kernel_rfl) (by kernel_rfl) (by kernel_rfl) (⟨fun _ => Hwd.out.symm, fun h => absurd h (by omega)⟩) ?_
  simp only [List.zip_cons_cons, List.zip_nil_right]
  refine wpStage_yes (by go_simp) ?_
  intro K hK
  apply Exists.intro
  refine ⟨fun kk ww hk1 hk2 hC => ?_, ?_⟩
  · go_simp
    with_reducible exact rfl
  go_simp
  refine hK _ ?_
  clear hK K
  refine wpStage_yes (by go_simp) ?_
  intro K hK
  apply Exists.intro
  refine ⟨fun kk ww hk1 hk2 hC => ?_, ?_⟩
  · obtain rfl : kk = 0 := by omega
    obtain rfl := hC.a rfl
    go_simp
    with_reducible exact rfl
  go_simp
  refine hK _ ?_
  clear hK K
  refine wpStage_yes (by go_simp) ?_
  intro K hK
  apply Exists.intro
  refine ⟨fun kk ww hk1 hk2 hC => ?_, ?_⟩
  · go_simp
    with_reducible exact rfl
  go_simp
  refine hK _ ?_
  clear hK K
  refine wpStage_yes (by go_simp) ?_
  intro K hK
  apply Exists.intro
  refine ⟨fun kk ww hk1 hk2 hC => ?_, ?_⟩
  · obtain rfl : kk = 0 := by omega
    obtain rfl := hC.a rfl
    go_simp
    with_reducible exact rfl
  go_simp
  refine hK _ ?_
  clear hK K
  refine wpStage_yes (by go_simp) ?_
  intro K hK
  apply Exists.intro
  refine ⟨fun kk ww hk1 hk2 hC => ?_, ?_⟩
  · obtain rfl : kk = 0 := by omega
    obtain rfl := hC.a rfl
    go_simp
    go_at_call 98; refine (compI _ a.hi b.hi).mono ?_; rintro e w' ⟨rfl, rfl⟩
    exact ⟨rfl, fun _ => rfl, fun h => absurd h (by omega)⟩
  go_simp
  refine hK _ ?_
  clear hK K
  refine wpStage_yes (by go_simp) ?_
  intro K hK
  apply Exists.intro
  refine ⟨fun kk ww hk1 hk2 hC => ?_, ?_⟩
  · go_simp
    with_reducible exact rfl
  go_simp
  refine hK _ ?_
  clear hK K
  refine wpStage_yes (by go_simp) ?_
  intro K hK
  apply Exists.intro
  refine ⟨fun kk ww hk1 hk2 hC => ?_, ?_⟩
  · obtain rfl : kk = 0 := by omega
    obtain rfl := hC.a rfl
    go_simp
    with_reducible exact rfl
  go_simp
  refine hK _ ?_
  clear hK K
  refine wpStage_yes (by go_simp) ?_
  intro K hK
  apply Exists.intro
  refine ⟨fun kk ww hk1 hk2 hC => ?_, ?_⟩
  · go_simp
    with_reducible exact rfl
  go_simp
  refine hK _ ?_
  clear hK K
  refine wpStage_yes (by go_simp) ?_
  intro K hK
  apply Exists.intro
  refine ⟨fun kk ww hk1 hk2 hC => ?_, ?_⟩
  · obtain rfl : kk = 0 := by omega
    obtain rfl := hC.a rfl
    go_simp
    with_reducible exact rfl
  go_simp
  refine hK _ ?_
  clear hK K
  refine wpStage_yes (by go_simp) ?_
  intro K hK
  apply Exists.intro
  refine ⟨fun kk ww hk1 hk2 hC => ?_, ?_⟩
  · obtain rfl : kk = 0 := by omega
    obtain rfl := hC.a rfl
    go_simp
    go_at_call 99; refine (compU _ a.lo b.lo).mono ?_; rintro e w' ⟨rfl, rfl⟩
    exact ⟨rfl, fun _ => rfl, fun h => absurd h (by omega)⟩
  go_simp
  refine hK _ ?_
  clear hK K
  refine wpStage_yes (by go_simp) ?_
  intro K hK
  apply Exists.intro
  refine ⟨fun kk ww hk1 hk2 hC => ?_, ?_⟩
  · obtain rfl : kk = 0 := by omega
    obtain rfl := hC.a rfl
    go_simp
    exact ⟨rfl, fun h => absurd h (by omega), fun _ => rfl⟩
  go_simp
  refine hK _ ?_
  clear hK K
  refine wpStage_yes (by go_simp) ?_
  intro K hK
  apply Exists.intro
  refine ⟨fun kk ww hk1 hk2 hC => ?_, ?_⟩
  · obtain rfl : kk = 1 := by omega
    obtain rfl := hC.b rfl
    go_simp
    go_at_call 97; refine (cmpor_any _ wd.heap.size _ _ hQ).mono ?_; rintro e w' ⟨rfl, rfl⟩
    exact ⟨rfl, fun h => absurd h (by omega), fun _ => rfl⟩
  go_simp
  refine hK _ ?_
  clear hK K
  refine wpStage_yes (by go_simp) ?_
  intro K hK
  apply Exists.intro
  refine ⟨fun kk ww hk1 hk2 hC => ?_, ?_⟩
  · go_simp
    with_reducible exact rfl
  go_simp
  refine hK _ ?_
  clear hK K
  refine wpStage_nil (fun ww hC => ?_)
  obtain rfl := hC.b rfl
  go_wp2
  go_returns
  exact ⟨ret_int Hp.out, hXq⟩
theorem zero_ok : WV.zero.ok := ⟨by decide, by decide, by decide, by decide⟩
theorem wsign_any (w : World) (a : WV) (ha : a.ok) : Calls Tryz.prog 68 #[.agg a.cells] w fun e w' => e = .returned (.int .i64 (cmpI a.val 0)) ∧ Chg [] w w' := by
  have HC := fun w => wcmp_any w a WV.zero ha zero_ok
  rw [show cmpV a WV.zero = cmpI a.val 0 from rfl] at HC
  have hA := At.new w a.cells 95
  have hX : Chg [] w (w.alloc (.cells a.cells 95)) := (Chg.refl [] w).alloc _
  generalize cmpI a.val 0 = r at *
  rw [show a.cells = #[.int .i64 a.hi, .int .u64 a.lo] from rfl] at *
  rw [show WV.zero.cells = #[.int .i64 0, .int .u64 0] from rfl] at HC
  have c0 := hA.cell 0
  have c1 := hA.cell 1
  go_enter Tryz.func68, Tryz.ntmps68
  go_wp2_with fail
  refine (HC _).mono ?_; rintro e w' ⟨rfl, hX2⟩
  go_wp2
  go_returns
  exact ⟨rfl, hX.trans hX2⟩
end Go.Proofs.YtpfglmlpodjneaaGreat
namespace Go.Proofs.YtpfglmlpodjneaaGreat
open Go.RowKit

structure CI (W : World) (z : Nat) (a : WV) (k : Nat) (w : World) : Prop where
  A : At w z #[.int .i64 a.hi, .int .u64 a.lo]
  x : Chg [] W w
theorem CI.step {W : World} {z : Nat} {a : WV} {k j : Nat} {w w' : World} (h : CI W z a k w) (hX : Chg [] w w') : CI W z a j w' := ⟨hX.at h.A (by simp), h.x.trans hX⟩
def fits64 (v : Int) : Bool := decide (-9223372036854775808 ≤ v) && decide (v ≤ 9223372036854775807)
def int64V (v : Int) : Int := if fits64 v then v else 0
theorem int_plain (a : WV) (ha : a.ok) : (fits64 a.val = true → wrap64 a.lo = a.val ∧ (ofV (wrap64 a.lo)).hi = a.hi ∧ (ofV (wrap64 a.lo)).lo = a.lo) ∧ (fits64 a.val = false → ¬((ofV (wrap64 a.lo)).hi = a.hi ∧ (ofV (wrap64 a.lo)).lo = a.lo)) := by
  obtain ⟨ah, al⟩ := a
  have a3 : 0 ≤ al := ha.l0
  have a4 : al ≤ 18446744073709551615 := ha.l1
  unfold fits64 ofV WV.val wrap64
  simp only
  constructor
  · intro h
    simp at h
    omega
  · intro h
    simp at h
    omega
set_option maxHeartbeats 400000 in
theorem wint_any (w : World) (a : WV) (ha : a.ok) : Calls Tryz.prog 54 #[.agg a.cells] w fun e w' => e = .returned (.tuple #[.int .i64 (int64V a.val), .bool (fits64 a.val)]) ∧ Chg [] w w' := by
  obtain ⟨p1, p2⟩ := int_plain a ha
  have hb : -9223372036854775808 ≤ wrap64 a.lo ∧ wrap64 a.lo ≤ 9223372036854775807 := by unfold wrap64; omega
  have HO := fun w => wof_any w (wrap64 a.lo) hb.1 hb.2
  have al0 := ha.l0
  have al1 := ha.l1
  have Hr := Lib.hid (show int64V a.val = if fits64 a.val then a.val else 0 from rfl)
  obtain ⟨n, hn⟩ : ∃ n, wrap64 a.lo = n := ⟨_, rfl⟩
  rw [hn] at p1 p2 HO
  obtain ⟨p, hp⟩ : ∃ p, (ofV n).hi = p := ⟨_, rfl⟩
  obtain ⟨q, hq⟩ : ∃ q, (ofV n).lo = q := ⟨_, rfl⟩
  rw [hp, hq] at p1 p2
  rw [show (ofV n).cells = #[.int .i64 (ofV n).hi, .int .u64 (ofV n).lo] from rfl, hp, hq] at HO
  have H1 := Lib.hid p1
  have H2 := Lib.hid p2
  clear p1 p2 hp hq hb ha
  obtain ⟨b, hb⟩ : ∃ b, (!(p == a.hi && q == a.lo)) = b := ⟨_, rfl⟩
  generalize int64V a.val = res at *
  generalize a.val = va at *
  generalize fits64 va = fv at *
  have hA := At.new w #[.int .i64 a.hi, .int .u64 a.lo] 95
  have hX : Chg [] w (w.alloc (.cells #[.int .i64 a.hi, .int .u64 a.lo] 95)) := (Chg.refl [] w).alloc _
  rw [show a.cells = #[.int .i64 a.hi, .int .u64 a.lo] from rfl]
  have c1 := hA.cell 1
  go_enter Tryz.func54, Tryz.ntmps54
  go_wp2_with fail
  have hC0 : CI w w.heap.size a 0 (w.alloc (.cells #[.int .i64 a.hi, .int .u64 a.lo] 95)).drew := ⟨hA.drew, hX.drew⟩
  rw [hn]
  clear hA hX c1 al0 al1 hn
  refine wp_region_stage (CI w w.heap.size a) [1] [(0, 0, false), (0, 0, true), (0, 1, false), (1, 1, false)]
    (by kernel_rfl) (by kernel_rfl) (by kernel_rfl) (hC0) ?_
  simp only [List.zip_cons_cons, List.zip_nil_right]
  refine wpStage_yes (by go_simp) ?_
  intro K hK
  apply Exists.intro
  refine ⟨fun kk ww hk1 hk2 hC => ?_, ?_⟩
  · go_simp
    with_reducible exact rfl
  go_simp
  refine hK _ ?_
  clear hK K
  refine wpStage_yes (by go_simp) ?_
  intro K hK
  apply Exists.intro
  refine ⟨fun kk ww hk1 hk2 hC => ?_, ?_⟩
  · go_simp
    go_at_call 53; refine (HO _).mono ?_; rintro e w' ⟨rfl, hX⟩
    exact ⟨rfl, hC.step hX⟩
  go_simp
  refine hK _ ?_
  clear hK K
  refine wpStage_yes (by go_simp) ?_
  intro K hK
  apply Exists.intro
  refine ⟨fun kk ww hk1 hk2 hC => ?_, ?_⟩
  · have c0 := hC.A.cell 0; have c1 := hC.A.cell 1
    go_simp
    with_reducible exact rfl
  go_simp
  refine hK _ ?_
  clear hK K
  refine wpStage_yes (by go_simp) ?_
  intro K hK
  refine ⟨.bool b, ?_⟩
  refine ⟨fun kk ww hk1 hk2 hC => ?_, ?_⟩
  · go_simp
    have hCC : CI w w.heap.size a kk ww := hC
    subst hb
    by_cases e1 : p = a.hi <;> by_cases e2 : q = a.lo <;> simp [e1, e2] <;> exact hCC
  go_simp
  refine hK _ ?_
  clear hK K
  refine wpStage_nil (fun ww hC => ?_)
  have hX := hC.x
  clear hC hC0
  cases fv
  · have h2 := H2.out rfl
    have hr : res = 0 := Hr.out
    obtain rfl : b = true := by
      rw [← hb]
      by_cases e1 : p = a.hi
      · have e2 : ¬q = a.lo := fun e2 => h2 ⟨e1, e2⟩
        simp [e2]
      · simp [e1]
    subst hr
    clear H1 H2 Hr h2 hb
    go_wp2
    go_returns
    exact ⟨rfl, hX⟩
  · obtain ⟨h0, e1, e2⟩ := H1.out rfl
    have hr : res = n := by rw [Hr.out, h0]; rfl
    obtain rfl : b = false := by rw [← hb]; simp [e1, e2]
    subst hr
    clear H1 H2 Hr h0 e1 e2 hb
    go_wp2
    go_returns
    exact ⟨rfl, hX⟩
end Go.Proofs.YtpfglmlpodjneaaGreat
namespace Go.Proofs.YtpfglmlpodjneaaGreat
open Go.RowKit

theorem and_mask' (x : Int) (h0 : 0 ≤ x) (h1 : x ≤ 18446744073709551615) : bits .and .u64 x 4294967295 = x % 4294967296 := by
  obtain ⟨m, rfl⟩ : ∃ m : Nat, x = (m : Int) := ⟨x.toNat, by omega⟩
  have e1 : (BitVec.ofInt 64 (m : Int)).toNat = m := by
    rw [BitVec.ofInt_natCast, BitVec.toNat_ofNat]; exact Nat.mod_eq_of_lt (by omega)
  show IntKind.u64.wrap ((BitVec.ofInt 64 (m : Int) &&& BitVec.ofInt 64 4294967295).toNat : Int) = _
  rw [BitVec.toNat_and, e1, show (BitVec.ofInt 64 4294967295).toNat = 2 ^ 32 - 1 from rfl, Nat.and_two_pow_sub_one_eq_mod]
  simp [IntKind.wrap, IntKind.bits, IntKind.signed]
  omega
theorem mul64_any (w : World) (x y : Int) (hx : 0 ≤ x) (hx1 : x ≤ 18446744073709551615) (hy : 0 ≤ y) (hy1 : y ≤ 18446744073709551615) : Calls Tryz.prog 64 #[.int .u64 x, .int .u64 y] w fun e w' => e = .returned (.tuple #[.int .u64 (x * y / 18446744073709551616), .int .u64 (x * y % 18446744073709551616)]) ∧ w = w' := by
  have m1 := and_mask' x hx hx1
  have m2 := and_mask' y hy hy1
  obtain ⟨x0, hx0⟩ : ∃ x0, x % 4294967296 = x0 := ⟨_, rfl⟩
  obtain ⟨y0, hy0⟩ : ∃ x0, y % 4294967296 = x0 := ⟨_, rfl⟩
  obtain ⟨xh, hxh⟩ : ∃ x0, x / 4294967296 = x0 := ⟨_, rfl⟩
  obtain ⟨yh, hyh⟩ : ∃ x0, y / 4294967296 = x0 := ⟨_, rfl⟩
  have L := mul64_hi x0 xh y0 yh (by omega) (by omega) (by omega) (by omega) (by omega) (by omega) (by omega) (by omega)
  rw [show xh * 4294967296 + x0 = x by omega, show yh * 4294967296 + y0 = y by omega] at L
  rw [hx0] at m1
  rw [hy0] at m2
  have bp := mul_bd x0 y0 (by omega) (by omega) (by omega) (by omega)
  have bq := mul_bd xh y0 (by omega) (by omega) (by omega) (by omega)
  have br := mul_bd x0 yh (by omega) (by omega) (by omega) (by omega)
  have bt := mul_bd xh yh (by omega) (by omega) (by omega) (by omega)
  obtain ⟨p, hp⟩ : ∃ p, x0 * y0 = p := ⟨_, rfl⟩
  obtain ⟨q, hq⟩ : ∃ p, xh * y0 = p := ⟨_, rfl⟩
  obtain ⟨r, hr⟩ : ∃ p, x0 * yh = p := ⟨_, rfl⟩
  obtain ⟨t, ht⟩ : ∃ p, xh * yh = p := ⟨_, rfl⟩
  obtain ⟨z, hz⟩ : ∃ p, x * y = p := ⟨_, rfl⟩
  rw [hp] at bp L
  rw [hq] at bq L
  rw [hr] at br L
  rw [ht] at bt L
  rw [hz] at L
  rw [hz]
  have hz2 : IntKind.u64.wrap z = z % 18446744073709551616 := rfl
  obtain ⟨zh, hzh⟩ : ∃ p, z / 18446744073709551616 = p := ⟨_, rfl⟩
  obtain ⟨zl, hzl⟩ : ∃ p, z % 18446744073709551616 = p := ⟨_, rfl⟩
  have zb : 0 ≤ zl ∧ zl ≤ 18446744073709551615 := by omega
  rw [hzh] at L ⊢
  rw [hzl] at hz2 ⊢
  obtain ⟨p1, hp1⟩ : ∃ p1, p / 4294967296 = p1 := ⟨_, rfl⟩
  rw [hp1] at L
  obtain ⟨s, hs⟩ : ∃ s, q + p1 = s := ⟨_, rfl⟩
  rw [hs] at L
  have m3 := and_mask' s (by omega) (by omega)
  obtain ⟨s0, hs0⟩ : ∃ x0, s % 4294967296 = x0 := ⟨_, rfl⟩
  obtain ⟨s1, hs1⟩ : ∃ x0, s / 4294967296 = x0 := ⟨_, rfl⟩
  rw [hs0] at m3 L
  rw [hs1] at L
  obtain ⟨u, hu⟩ : ∃ x0, s0 + r = x0 := ⟨_, rfl⟩
  rw [hu] at L
  obtain ⟨u1, hu1⟩ : ∃ x0, u / 4294967296 = x0 := ⟨_, rfl⟩
  rw [hu1] at L
  obtain ⟨v, hv⟩ : ∃ x0, t + s1 = x0 := ⟨_, rfl⟩
  rw [hv] at L
  have w1 : IntKind.u64.wrap p = p := by rw [IntKind.wrap_u64]; omega
  have w2 : IntKind.u64.wrap q = q := by rw [IntKind.wrap_u64]; omega
  have w3 : IntKind.u64.wrap r = r := by rw [IntKind.wrap_u64]; omega
  have w4 : IntKind.u64.wrap t = t := by rw [IntKind.wrap_u64]; omega
  have w5 : IntKind.u64.wrap s = s := by rw [IntKind.wrap_u64]; omega
  have w6 : IntKind.u64.wrap u = u := by rw [IntKind.wrap_u64]; omega
  have w7 : IntKind.u64.wrap v = v := by rw [IntKind.wrap_u64]; omega
  have w8 : IntKind.u64.wrap zh = zh := by rw [IntKind.wrap_u64]; omega
  clear hx0 hy0 bp bq br bt zb hx hx1 hy hy1 hzh hzl hs0
  go_enter Tryz.func64, Tryz.ntmps64
  go_wp2
  go_returns
  exact ⟨rfl, rfl⟩
theorem imul_bd (a b M : Int) (hM : 0 ≤ M) (ha0 : -M ≤ a) (ha1 : a ≤ M) (hb0 : -M ≤ b) (hb1 : b ≤ M) : -(M * M) ≤ a * b ∧ a * b ≤ M * M := by
  have h : (a * b).natAbs ≤ (M * M).natAbs := by
    rw [Int.natAbs_mul, Int.natAbs_mul]
    exact Nat.mul_le_mul (by omega) (by omega)
  have : 0 ≤ M * M := Int.mul_nonneg hM hM
  omega
theorem mul_shift (a b p q : Int) : (a + p * 18446744073709551616) * (b + q * 18446744073709551616) = a * b + (p * b + q * a) * 18446744073709551616 + p * q * 340282366920938463463374607431768211456 := by
  grind
/-- What wide.Mul reckons. -/
theorem mul_plain (a b h1 h2 h3 : Int) (ha0 : -9223372036854775808 ≤ a) (ha1 : a ≤ 9223372036854775807) (hb0 : -9223372036854775808 ≤ b) (hb1 : b ≤ 9223372036854775807)
    (e1 : IntKind.u64.wrap a * IntKind.u64.wrap b / 18446744073709551616 = h1) (e2 : (if a < 0 then IntKind.u64.wrap (h1 - IntKind.u64.wrap b) else h1) = h2)
    (e3 : (if b < 0 then IntKind.u64.wrap (h2 - IntKind.u64.wrap a) else h2) = h3) : wrap64 h3 = a * b / 18446744073709551616 ∧ IntKind.u64.wrap a * IntKind.u64.wrap b % 18446744073709551616 = a * b % 18446744073709551616 := by
  have u1 : IntKind.u64.wrap a = a % 18446744073709551616 := rfl
  have u2 : IntKind.u64.wrap b = b % 18446744073709551616 := rfl
  have k1 : IntKind.u64.wrap (h1 - IntKind.u64.wrap b) = (h1 - b % 18446744073709551616) % 18446744073709551616 := rfl
  have k2 : IntKind.u64.wrap (h2 - IntKind.u64.wrap a) = (h2 - a % 18446744073709551616) % 18446744073709551616 := rfl
  obtain ⟨L1, L2⟩ := imul_bd a b 9223372036854775808 (by omega) (by omega) (by omega) (by omega) (by omega)
  have n1 : a % 18446744073709551616 = a + (if a < 0 then 1 else 0) * 18446744073709551616 := by split <;> omega
  have n2 : b % 18446744073709551616 = b + (if b < 0 then 1 else 0) * 18446744073709551616 := by split <;> omega
  rw [k1] at e2
  rw [k2] at e3
  rw [u1, u2, n1, n2, mul_shift] at e1
  rw [u1, u2, n1, n2, mul_shift]
  generalize a * b = z at *
  unfold wrap64
  by_cases c1 : a < 0 <;> by_cases c2 : b < 0 <;> simp only [c1, c2, if_true, if_false, Int.one_mul, Int.zero_mul, Int.mul_one, Int.mul_zero] at * <;> omega
theorem wmul_any (w : World) (a b : Int) (ha0 : -9223372036854775808 ≤ a) (ha1 : a ≤ 9223372036854775807) (hb0 : -9223372036854775808 ≤ b) (hb1 : b ≤ 9223372036854775807) : Calls Tryz.prog 48 #[.int .i64 a, .int .i64 b] w fun e w' => e = .returned (.agg (ofV (a * b)).cells) ∧ Chg [] w w' := by
  have hu : ∀ x : Int, 0 ≤ IntKind.u64.wrap x ∧ IntKind.u64.wrap x ≤ 18446744073709551615 := fun x => Go.bounds_u64 (wf_wrap .u64 x)
  have HM := fun w => mul64_any w (IntKind.u64.wrap a) (IntKind.u64.wrap b) (hu a).1 (hu a).2 (hu b).1 (hu b).2
  obtain ⟨h1, e1⟩ : ∃ h, IntKind.u64.wrap a * IntKind.u64.wrap b / 18446744073709551616 = h := ⟨_, rfl⟩
  obtain ⟨h2, e2⟩ : ∃ h, (if a < 0 then IntKind.u64.wrap (h1 - IntKind.u64.wrap b) else h1) = h := ⟨_, rfl⟩
  obtain ⟨h3, e3⟩ : ∃ h, (if b < 0 then IntKind.u64.wrap (h2 - IntKind.u64.wrap a) else h2) = h := ⟨_, rfl⟩
  obtain ⟨p1, p2⟩ := mul_plain a b h1 h2 h3 ha0 ha1 hb0 hb1 e1 e2 e3
  rw [e1, p2] at HM
  have Hr := Lib.hid (show (ofV (a * b)).cells = #[.int .i64 (a * b / 18446744073709551616), .int .u64 (a * b % 18446744073709551616)] from rfl)
  generalize (ofV (a * b)).cells = res at *
  generalize a * b / 18446744073709551616 = zh at *
  generalize a * b % 18446744073709551616 = zl at *
  clear e1 p2 hu ha0 ha1 hb0 hb1
  have q := At.new (w.alloc (.cells #[.int .i64 0, .int .u64 0] 95)) #[.int .i64 zh, .int .u64 zl] 95
  have hq : At ((w.alloc (.cells #[.int .i64 zh, .int .u64 zl] 95))) w.heap.size #[.int .i64 zh, .int .u64 zl] ∧ Chg [] w (w.alloc (.cells #[.int .i64 zh, .int .u64 zl] 95)) := ⟨At.new w _ _, (Chg.refl _ _).alloc _⟩
  have Hq := Lib.hid hq
  clear q hq
  go_enter Tryz.func48, Tryz.ntmps48
  go_wp2_with fail
  refine (HM _).mono ?_; rintro e w' ⟨rfl, rfl⟩
  by_cases c1 : a < 0
  · rw [if_pos c1] at e2
    by_cases c2 : b < 0
    · rw [if_pos c2] at e3
      go_wp2_with fail
      obtain ⟨d, dX⟩ := Hq.out
      have d0 := d.cell 0
      have d1 := d.cell 1
      exact bodyPost_ret (v := .agg #[.int .i64 zh, .int .u64 zl]) (by simp [results, Tryz.results48, go_sem, d0, d1]) rfl ⟨by rw [Hr.out], dX⟩
    · rw [if_neg c2] at e3
      subst e3
      go_wp2_with fail
      obtain ⟨d, dX⟩ := Hq.out
      have d0 := d.cell 0
      have d1 := d.cell 1
      exact bodyPost_ret (v := .agg #[.int .i64 zh, .int .u64 zl]) (by simp [results, Tryz.results48, go_sem, d0, d1]) rfl ⟨by rw [Hr.out], dX⟩
  · rw [if_neg c1] at e2
    subst e2
    by_cases c2 : b < 0
    · rw [if_pos c2] at e3
      go_wp2_with fail
      obtain ⟨d, dX⟩ := Hq.out
      have d0 := d.cell 0
      have d1 := d.cell 1
      exact bodyPost_ret (v := .agg #[.int .i64 zh, .int .u64 zl]) (by simp [results, Tryz.results48, go_sem, d0, d1]) rfl ⟨by rw [Hr.out], dX⟩
    · rw [if_neg c2] at e3
      subst e3
      go_wp2_with fail
      obtain ⟨d, dX⟩ := Hq.out
      have d0 := d.cell 0
      have d1 := d.cell 1
      exact bodyPost_ret (v := .agg #[.int .i64 zh, .int .u64 zl]) (by simp [results, Tryz.results48, go_sem, d0, d1]) rfl ⟨by rw [Hr.out], dX⟩
end Go.Proofs.YtpfglmlpodjneaaGreat
namespace Go.Proofs.YtpfglmlpodjneaaGreat
open Go.RowKit

theorem or_pow (m g : Nat) (h : m * 2 ^ (g + 1) + 2 ^ g < 2 ^ 64) : bits .or .u64 ((m * 2 ^ (g + 1) : Nat) : Int) ((2 ^ g : Nat) : Int) = ((m * 2 ^ (g + 1) + 2 ^ g : Nat) : Int) := by
  have h2 : 2 ^ g < 2 ^ (g + 1) := Nat.pow_lt_pow_right (by omega) (by omega)
  have e1 : ∀ n : Nat, n < 2 ^ 64 → (BitVec.ofInt 64 (n : Int)).toNat = n := fun n hn => by
    rw [BitVec.ofInt_natCast, BitVec.toNat_ofNat]; exact Nat.mod_eq_of_lt hn
  rw [or_u]
  unfold bv
  rw [BitVec.toNat_or, e1 _ (by omega), e1 _ (by omega), Nat.mul_comm m, ← Nat.two_pow_add_eq_or_of_lt h2]
theorem above_plain (z H L hi lo : Int) (h1 : z / 18446744073709551616 = hi) (h2 : z % 18446744073709551616 = lo) (hL : 0 ≤ L) (hL1 : L ≤ 18446744073709551615) :
    decide (H * 18446744073709551616 + L < z) = (decide (H < hi) || ((hi == H) && decide (L < lo))) := by
  rw [Bool.eq_iff_iff]
  simp
  omega
set_option maxHeartbeats 400000 in
theorem above_any (w : World) (s : Int) (a : WV) (hs : 0 ≤ s) (hs1 : s ≤ 18446744073709551615) (ha : a.ok) (hh : 0 ≤ a.hi) : Calls Tryz.prog 88 #[.int .u64 s, .agg a.cells] w fun e w' => e = .returned (.bool (decide (a.val < s * s))) ∧ Chg [] w w' := by
  have HM := fun w => mul64_any w s s hs hs1 hs hs1
  have hp := above_plain (s * s) a.hi a.lo _ _ rfl rfl ha.l0 ha.l1
  rw [show a.hi * 18446744073709551616 + a.lo = a.val from rfl] at hp
  have hw : IntKind.u64.wrap a.hi = a.hi := by
    have := ha.h1
    rw [IntKind.wrap_u64]; omega
  generalize s * s / 18446744073709551616 = hi at *
  generalize s * s % 18446744073709551616 = lo at *
  have Hp := Lib.hid hp
  clear hp
  generalize decide (a.val < s * s) = res at *
  have hA := At.new w #[.int .i64 a.hi, .int .u64 a.lo] 95
  have hX := (Chg.refl [] w).alloc (.cells #[.int .i64 a.hi, .int .u64 a.lo] 95)
  rw [show a.cells = #[.int .i64 a.hi, .int .u64 a.lo] from rfl]
  have a0 := hA.cell 0; have a1 := hA.cell 1
  clear hs hs1 hA
  have hh0 := hh
  go_enter Tryz.func88, Tryz.ntmps88
  go_wp2_with fail
  refine (HM _).mono ?_; rintro e w' ⟨rfl, rfl⟩
  by_cases c1 : a.hi < hi
  · go_wp2
    go_returns
    exact ⟨ret_bool (by rw [Hp.out, decide_eq_true c1]; rfl), hX⟩
  · by_cases c2 : hi = a.hi
    · by_cases c3 : a.lo < lo
      · go_wp2
        go_returns
        exact ⟨ret_bool (by rw [Hp.out]; simp [c2, c3]), hX⟩
      · go_wp2
        go_returns
        exact ⟨ret_bool (by rw [Hp.out]; simp [c2, c3]), hX⟩
    · go_wp2
      go_returns
      exact ⟨ret_bool (by rw [Hp.out]; simp [c2]), hX⟩
theorem sq_le (a b : Int) (h0 : 0 ≤ a) (h : a ≤ b) : a * a ≤ b * b := Int.mul_le_mul h h h0 (by omega)
/-- What one round of wide.Sqrt keeps: the root is from s on, and below s + 2^g. -/
structure SqI (V : Int) (g : Nat) (s : Nat) : Prop where
  m : ∃ m, s = m * 2 ^ g
  b : s + 2 ^ g ≤ 2 ^ 64
  l : (s : Int) * s ≤ V
  u : V < ((s + 2 ^ g : Nat) : Int) * ((s + 2 ^ g : Nat) : Int)
theorem SqI.or_ {V : Int} {g s : Nat} (h : SqI V (g + 1) s) : bits .or .u64 (s : Int) ((2 ^ g : Nat) : Int) = ((s + 2 ^ g : Nat) : Int) ∧ s + 2 ^ g < 2 ^ 64 := by
  obtain ⟨m, rfl⟩ := h.m
  have h2 : 2 ^ (g + 1) = 2 ^ g * 2 := Nat.pow_succ 2 g
  have hb := h.b
  have hp : 0 < 2 ^ g := Nat.pow_pos (by omega)
  exact ⟨or_pow m g (by omega), by omega⟩
theorem SqI.yes {V : Int} {g s : Nat} (h : SqI V (g + 1) s) (hv : ¬V < ((s + 2 ^ g : Nat) : Int) * ((s + 2 ^ g : Nat) : Int)) : SqI V g (s + 2 ^ g) := by
  obtain ⟨m, hm⟩ := h.m
  have h2 : 2 ^ (g + 1) = 2 ^ g * 2 := Nat.pow_succ 2 g
  have hb := h.b
  have hu := h.u
  rw [h2, show s + 2 ^ g * 2 = s + 2 ^ g + 2 ^ g by omega] at hu
  refine ⟨⟨m * 2 + 1, ?_⟩, by omega, by omega, hu⟩
  rw [hm, h2, Nat.add_mul, Nat.one_mul, Nat.mul_assoc, Nat.mul_comm 2]
theorem SqI.no {V : Int} {g s : Nat} (h : SqI V (g + 1) s) (hv : V < ((s + 2 ^ g : Nat) : Int) * ((s + 2 ^ g : Nat) : Int)) : SqI V g s := by
  obtain ⟨m, hm⟩ := h.m
  have h2 : 2 ^ (g + 1) = 2 ^ g * 2 := Nat.pow_succ 2 g
  have hb := h.b
  refine ⟨⟨m * 2, ?_⟩, by omega, h.l, hv⟩
  rw [hm, h2, Nat.mul_assoc, Nat.mul_comm 2]
theorem SqI.start (V : Int) (h0 : 0 ≤ V) (h1 : V < 340282366920938463463374607431768211456) : SqI V 64 0 := ⟨⟨0, by simp⟩, by omega, by simpa using h0, by simpa using h1⟩
theorem half_pow (g : Nat) : ((2 ^ g : Nat) : Int) / 2 = ((2 ^ g / 2 : Nat) : Int) := by omega
/-- The bit of a round: 2^(g-1), or 0 behind the last one. -/
def bitV (g : Nat) : Nat := 2 ^ g / 2
theorem bitV_succ (g : Nat) : bitV (g + 1) = 2 ^ g := by unfold bitV; rw [Nat.pow_succ]; omega
set_option maxHeartbeats 1000000 in
theorem wsqrt_any (W : World) (a : WV) (ha : a.ok) : Calls Tryz.prog 70 #[.agg a.cells] W fun e w' =>
    ((a.hi < 0 ∧ e = .returned (.tuple #[.int .u64 0, .bool false])) ∨ (0 ≤ a.hi ∧ ∃ r : Nat, e = .returned (.tuple #[.int .u64 r, .bool true]) ∧ (r : Int) ≤ 18446744073709551615 ∧ (r : Int) * r ≤ a.val ∧ a.val < ((r + 1 : Nat) : Int) * ((r + 1 : Nat) : Int))) ∧ Chg [] W w' := by
  have HA := fun w s h0 h1 hh => above_any w s a h0 h1 ha hh
  have hv0 : 0 ≤ a.hi → 0 ≤ a.val ∧ a.val < 340282366920938463463374607431768211456 := fun h => by
    have := ha.h1; have := ha.l0; have := ha.l1
    unfold WV.val
    omega
  rw [show a.cells = #[.int .i64 a.hi, .int .u64 a.lo] from rfl] at *
  have hA := At.new W #[.int .i64 a.hi, .int .u64 a.lo] 95
  have hX := (Chg.refl [] W).alloc (.cells #[.int .i64 a.hi, .int .u64 a.lo] 95)
  have a0 := hA.cell 0; have a1 := hA.cell 1
  generalize a.val = V at *
  go_enter Tryz.func70, Tryz.ntmps70
  by_cases c1 : a.hi < 0
  · go_wp2
    go_returns
    exact ⟨.inl ⟨c1, rfl⟩, hX⟩
  · have hh : 0 ≤ a.hi := by omega
    obtain ⟨v0, v1⟩ := hv0 hh
    replace HA := fun w s h0 h1 => HA w s h0 h1 hh
    have HS := SqI.start V v0 v1
    have hw1 : (W.alloc (.cells #[.int .i64 a.hi, .int .u64 a.lo] 95)).heap.size = W.heap.size + 1 := by simp
    have Hhh := Lib.hid hh
    go_wp2_with fail
    clear a0 a1 hh hv0 ha
    go_loopg [4, 5] 64 (fun g sv bv wr => ∃ s : Nat, sv = .int .u64 s ∧ bv = .int .u64 (bitV g : Nat) ∧ SqI V g s ∧ At wr W.heap.size #[.int .i64 a.hi, .int .u64 a.lo] ∧ Chg [] W wr)
    case atStart => exact ⟨0, rfl, rfl, HS, hA, hX⟩
    case round =>
      obtain ⟨s, rfl, rfl, hI, hA2, hX2⟩ := hrel
      have a0 := hA2.cell 0; have a1 := hA2.cell 1
      by_cases hg : gk = 0
      · subst hg
        rw [show bitV 0 = 0 from rfl]
        go_wp2_with fail
        go_returns
        exact ⟨.inr ⟨Hhh.out, s, rfl, by have := hI.b; omega, hI.l, hI.u⟩, hX2⟩
      · obtain ⟨j, rfl⟩ : ∃ j, gk = j + 1 := ⟨gk - 1, by omega⟩
        rw [bitV_succ]
        obtain ⟨ho, hb⟩ := hI.or_
        have hpos : (0 : Int) < ((2 ^ j : Nat) : Int) := by have : 0 < 2 ^ j := Nat.pow_pos (by omega); omega
        have HH := fun w => HA w ((s + 2 ^ j : Nat) : Int) (by omega) (by omega)
        have hdiv := half_pow j
        rw [show 2 ^ j / 2 = bitV j from rfl] at hdiv
        have Hy := Lib.hid hI.yes
        have Hn := Lib.hid hI.no
        generalize ((2 ^ j : Nat) : Int) = bi at *
        generalize s + 2 ^ j = t at *
        go_wp2_with fail
        refine (HH _).mono ?_; rintro e w' ⟨rfl, hX3⟩
        have hA3 := hX3.at hA2 (by simp)
        have hX4 := hX2.trans hX3
        by_cases hc : V < (t : Int) * t
        · rw [decide_eq_true hc]
          go_wp2_with fail
          go_roundg j
          case rel => exact ⟨s, rfl, rfl, Hn.out hc, hA3, hX4⟩
          case measure => omega
        · rw [decide_eq_false hc]
          go_wp2_with fail
          go_roundg j
          case rel => exact ⟨t, rfl, rfl, Hy.out hc, hA3, hX4⟩
          case measure => omega

/-- A number without its sign. -/
def magV (a : WV) : Int := if 0 ≤ a.hi then a.val else -a.val
theorem magV_bd (a : WV) (ha : a.ok) : 0 ≤ magV a ∧ magV a ≤ 170141183460469231731687303715884105728 := by
  have := ha.h0; have := ha.h1; have := ha.l0; have := ha.l1
  unfold magV WV.val
  split <;> omega
theorem mag_plain (a : WV) (ha : a.ok) (hn : a.hi < 0) : -((0 - a.lo) / 18446744073709551616) ≤ 1 ∧ 0 ≤ -((0 - a.lo) / 18446744073709551616) ∧ (0 - a.lo) % 18446744073709551616 = magV a % 18446744073709551616 ∧
    (0 - IntKind.u64.wrap a.hi - -((0 - a.lo) / 18446744073709551616)) % 18446744073709551616 = magV a / 18446744073709551616 := by
  have := ha.h0; have := ha.h1; have := ha.l0; have := ha.l1
  have u1 : IntKind.u64.wrap a.hi = a.hi % 18446744073709551616 := rfl
  rw [u1]
  unfold magV WV.val
  rw [if_neg (by omega)]
  omega
theorem mag_pos (a : WV) (ha : a.ok) (hn : 0 ≤ a.hi) : a.lo = magV a % 18446744073709551616 ∧ IntKind.u64.wrap a.hi = magV a / 18446744073709551616 := by
  have := ha.h0; have := ha.h1; have := ha.l0; have := ha.l1
  have u1 : IntKind.u64.wrap a.hi = a.hi % 18446744073709551616 := rfl
  rw [u1]
  unfold magV WV.val
  rw [if_pos (by omega)]
  omega
set_option maxHeartbeats 400000 in
theorem mag_any (w : World) (a : WV) (ha : a.ok) : Calls Tryz.prog 65 #[.agg a.cells] w fun e w' => e = .returned (.tuple #[.int .u64 (magV a / 18446744073709551616), .int .u64 (magV a % 18446744073709551616)]) ∧ Chg [] w w' := by
  have hA := At.new w #[.int .i64 a.hi, .int .u64 a.lo] 95
  have hX := (Chg.refl [] w).alloc (.cells #[.int .i64 a.hi, .int .u64 a.lo] 95)
  have a0 := hA.cell 0; have a1 := hA.cell 1
  have hu := Go.bounds_u64 (wf_wrap .u64 a.hi)
  have k1 := fun w => call_sub 0 a.lo 0 (by omega) (by omega) ha.l0 ha.l1 (by omega) (by omega) w
  rw [Int.sub_zero] at k1
  rw [show a.cells = #[.int .i64 a.hi, .int .u64 a.lo] from rfl]
  by_cases c1 : a.hi < 0
  · obtain ⟨p1, p2, p3, p4⟩ := mag_plain a ha c1
    have k2 := fun w => call_sub 0 (IntKind.u64.wrap a.hi) (-((0 - a.lo) / 18446744073709551616)) (by omega) (by omega) hu.1 hu.2 p2 p1 w
    rw [p4] at k2
    rw [p3] at k1
    generalize -((0 - a.lo) / 18446744073709551616) = c at *
    generalize magV a / 18446744073709551616 = zh at *
    generalize magV a % 18446744073709551616 = zl at *
    clear p1 p2 p3 p4 hu
    go_enter Tryz.func65, Tryz.ntmps65
    go_wp2_with fail
    go_returns
    exact ⟨rfl, hX⟩
  · obtain ⟨p1, p2⟩ := mag_pos a ha (by omega)
    generalize magV a / 18446744073709551616 = zh at *
    generalize magV a % 18446744073709551616 = zl at *
    clear k1 hu
    go_enter Tryz.func65, Tryz.ntmps65
    go_wp2_with fail
    go_region
    go_wp2
    go_returns
    exact ⟨rfl, by first | exact hX.drew | (rw [p1] at hX; exact hX.drew)⟩
end Go.Proofs.YtpfglmlpodjneaaGreat
namespace Go.Proofs.YtpfglmlpodjneaaGreat
open Go.RowKit

theorem len8_at (y : Int) (h : y.toNat < Lib.len8tab.size) : ((Lib.len8tab[y.toNat]'h).toNat : Int) = Lib.len8 y := by
  unfold Lib.len8
  rw [getElem?_pos Lib.len8tab y.toNat h]
  rfl
theorem lz_fin (x y k : Int) (h : y.toNat < Lib.len8tab.size) (h0 : 0 ≤ y) (h1 : y < 256) (hk : 0 ≤ k) (hk1 : k ≤ 56) (hx : (Lib.bitLen x.toNat : Int) = k + Lib.bitLen y.toNat) :
    wrap64 (k + wrap64 ((Lib.len8tab[y.toNat]'h).toNat : Int)) = Lib.bitLen x.toNat := by
  rw [len8_at, Lib.len8_of y h0 (by omega)]
  have l := Lib.bitLen_le8' y h0 (by omega)
  rw [hx]
  unfold wrap64
  omega
theorem lz_fin0 (x : Int) (h : x.toNat < Lib.len8tab.size) (h0 : 0 ≤ x) (h1 : x < 256) : wrap64 (wrap64 ((Lib.len8tab[x.toNat]'h).toNat : Int)) = Lib.bitLen x.toNat := by
  have e := lz_fin x x 0 h h0 h1 (by omega) (by omega) (by omega)
  rw [Int.zero_add] at e
  exact e
theorem lz_sh56 (x : Int) (h : 72057594037927936 ≤ x) (h1 : x ≤ 18446744073709551615) : (Lib.bitLen x.toNat : Int) = 56 + Lib.bitLen (x / 4294967296 / 65536 / 256).toNat := by
  have s := Lib.bitLen_shift56 x.toNat (by omega) (by omega)
  have e : (x / 4294967296 / 65536 / 256).toNat = x.toNat / 72057594037927936 := by omega
  rw [e, s]
  omega
theorem lz_sh48 (x : Int) (h : 281474976710656 ≤ x) (h1 : x ≤ 18446744073709551615) : (Lib.bitLen x.toNat : Int) = 48 + Lib.bitLen (x / 4294967296 / 65536).toNat := by
  have s := Lib.bitLen_shift48 x.toNat (by omega) (by omega)
  have e : (x / 4294967296 / 65536).toNat = x.toNat / 281474976710656 := by omega
  rw [e, s]
  omega
theorem lz_sh40 (x : Int) (h : 1099511627776 ≤ x) (h1 : x ≤ 18446744073709551615) : (Lib.bitLen x.toNat : Int) = 40 + Lib.bitLen (x / 4294967296 / 256).toNat := by
  have s := Lib.bitLen_shift40 x.toNat (by omega) (by omega)
  have e : (x / 4294967296 / 256).toNat = x.toNat / 1099511627776 := by omega
  rw [e, s]
  omega
theorem lz_sh32 (x : Int) (h : 4294967296 ≤ x) (h1 : x ≤ 18446744073709551615) : (Lib.bitLen x.toNat : Int) = 32 + Lib.bitLen (x / 4294967296).toNat := by
  have s := Lib.bitLen_shift32 x.toNat (by omega) (by omega)
  have e : (x / 4294967296).toNat = x.toNat / 4294967296 := by omega
  rw [e, s]
  omega
theorem lz_sh24 (x : Int) (h : 16777216 ≤ x) (h1 : x ≤ 18446744073709551615) : (Lib.bitLen x.toNat : Int) = 24 + Lib.bitLen (x / 65536 / 256).toNat := by
  have s := Lib.bitLen_shift24 x.toNat (by omega) (by omega)
  have e : (x / 65536 / 256).toNat = x.toNat / 16777216 := by omega
  rw [e, s]
  omega
theorem lz_sh16 (x : Int) (h : 65536 ≤ x) (h1 : x ≤ 18446744073709551615) : (Lib.bitLen x.toNat : Int) = 16 + Lib.bitLen (x / 65536).toNat := by
  have s := Lib.bitLen_shift16 x.toNat (by omega) (by omega)
  have e : (x / 65536).toNat = x.toNat / 65536 := by omega
  rw [e, s]
  omega
theorem lz_sh8 (x : Int) (h : 256 ≤ x) (h1 : x ≤ 18446744073709551615) : (Lib.bitLen x.toNat : Int) = 8 + Lib.bitLen (x / 256).toNat := by
  have s := Lib.bitLen_shift8 x.toNat (by omega) (by omega)
  have e : (x / 256).toNat = x.toNat / 256 := by omega
  rw [e, s]
  omega
set_option maxHeartbeats 4000000 in
set_option maxRecDepth 100000 in
theorem len64_any (w : World) (x : Int) (h0 : 0 ≤ x) (h1 : x ≤ 18446744073709551615) : Calls Tryz.prog 96 #[.int .u64 x] w fun e w' => e = .returned (.int .i64 (Lib.bitLen x.toNat)) ∧ w = w' := by
  have hsz : Lib.len8tab.size = 256 := by decide
  go_enter Tryz.func96, Tryz.ntmps96
  go_wp2
  all_goals go_returns
  · exact ⟨ret_int (lz_fin x (x / 4294967296 / 65536 / 256) 56 _ (by omega) (by omega) (by omega) (by omega) (lz_sh56 x (by omega) h1)), rfl⟩
  · exact ⟨ret_int (lz_fin x (x / 4294967296 / 65536) 48 _ (by omega) (by omega) (by omega) (by omega) (lz_sh48 x (by omega) h1)), rfl⟩
  · exact ⟨ret_int (lz_fin x (x / 4294967296 / 256) 40 _ (by omega) (by omega) (by omega) (by omega) (lz_sh40 x (by omega) h1)), rfl⟩
  · exact ⟨ret_int (lz_fin x (x / 4294967296) 32 _ (by omega) (by omega) (by omega) (by omega) (lz_sh32 x (by omega) h1)), rfl⟩
  · exact ⟨ret_int (lz_fin x (x / 65536 / 256) 24 _ (by omega) (by omega) (by omega) (by omega) (lz_sh24 x (by omega) h1)), rfl⟩
  · exact ⟨ret_int (lz_fin x (x / 65536) 16 _ (by omega) (by omega) (by omega) (by omega) (lz_sh16 x (by omega) h1)), rfl⟩
  · exact ⟨ret_int (lz_fin x (x / 256) 8 _ (by omega) (by omega) (by omega) (by omega) (lz_sh8 x (by omega) h1)), rfl⟩
  · exact ⟨ret_int (lz_fin0 x _ (by omega) (by omega)), rfl⟩
theorem bitLen_bd (x : Nat) (h0 : x ≠ 0) (h1 : x < 18446744073709551616) : 1 ≤ Lib.bitLen x ∧ Lib.bitLen x ≤ 64 ∧ 2 ^ (Lib.bitLen x - 1) ≤ x ∧ x < 2 ^ Lib.bitLen x := by
  obtain ⟨a, b, c⟩ := Lib.bitLenAux_bounds 64 x h1 h0
  exact ⟨a, Lib.bitLenAux_le 64 x 64 h1, b, c⟩
theorem lead64_any (w : World) (x : Int) (h0 : 0 < x) (h1 : x ≤ 18446744073709551615) : Calls Tryz.prog 86 #[.int .u64 x] w fun e w' => (∃ s : Nat, e = .returned (.int .i64 s) ∧ s ≤ 63 ∧ (2 : Int) ^ 63 ≤ x * 2 ^ s ∧ x * 2 ^ s < 2 ^ 64) ∧ w = w' := by
  have HL := fun w => len64_any w x (by omega) h1
  obtain ⟨b1, b2, b3, b4⟩ := bitLen_bd x.toNat (by omega) (by omega)
  generalize Lib.bitLen x.toNat = n at *
  have Hf := Lib.hid (show ∃ s : Nat, (64 : Int) - n = s ∧ s ≤ 63 ∧ (2 : Int) ^ 63 ≤ x * 2 ^ s ∧ x * 2 ^ s < 2 ^ 64 from by
    obtain ⟨m, rfl⟩ : ∃ m : Nat, x = (m : Int) := ⟨x.toNat, by omega⟩
    refine ⟨64 - n, by omega, by omega, ?_, ?_⟩
    · have e : 2 ^ (n - 1) * 2 ^ (64 - n) = 2 ^ 63 := by rw [← Nat.pow_add]; congr 1; omega
      have := Nat.mul_le_mul_right (2 ^ (64 - n)) b3
      rw [e] at this
      exact_mod_cast this
    · have e : 2 ^ n * 2 ^ (64 - n) = 2 ^ 64 := by rw [← Nat.pow_add]; congr 1; omega
      have := Nat.mul_lt_mul_of_pos_right b4 (Nat.pow_pos (by omega) : 0 < 2 ^ (64 - n))
      rw [e] at this
      exact_mod_cast this)
  clear b3 b4 h0 h1
  go_enter Tryz.func86, Tryz.ntmps86
  go_wp2_with fail
  refine (HL _).mono ?_; rintro e w' ⟨rfl, rfl⟩
  go_wp2_with fail
  go_returns
  obtain ⟨s, e, h⟩ := Hf.out
  refine ⟨⟨s, ret_int ?_, h⟩, rfl⟩
  first | exact e | (rw [← e]; unfold wrap64; omega)
end Go.Proofs.YtpfglmlpodjneaaGreat
namespace Go.Proofs.YtpfglmlpodjneaaGreat
open Go.RowKit

structure DI (Y y1 y0 U u q r : Int) : Prop where
  hY : Y = y1 * 4294967296 + y0
  y1a : 2147483648 ≤ y1
  y1b : y1 ≤ 4294967295
  y0a : 0 ≤ y0
  y0b : y0 ≤ 4294967295
  U0 : 0 ≤ U
  U1 : U < Y
  u0 : 0 ≤ u
  u1 : u ≤ 4294967295
  e : q * y1 + r = U
  r0 : 0 ≤ r
  r1 : r ≤ 4294967295
  hq : (U * 4294967296 + u) / Y ≤ q
theorem dmul (q y1 y0 U r : Int) (e : q * y1 + r = U) : q * (y1 * 4294967296 + y0) = (U - r) * 4294967296 + q * y0 := by
  rw [← e, Int.mul_add, ← Int.mul_assoc]
  congr 2
  omega
theorem DI.Q0 {Y y1 y0 U u q r : Int} (h : DI Y y1 y0 U u q r) : 0 ≤ (U * 4294967296 + u) / Y := by
  have h1 := h.hY; have h2 := h.y1a; have h3 := h.y0a; have h4 := h.U0; have h5 := h.u0
  exact Int.ediv_nonneg (by omega) (by omega)
theorem DI.qle {Y y1 y0 U u q r : Int} (h : DI Y y1 y0 U u q r) : q ≤ 4294967297 := by
  have h1 := h.hY; have h2 := h.y1a; have h3 := h.y0b; have h4 := h.U1; have h5 := h.e; have h6 := h.r0
  have : q * y1 < 4294967298 * y1 := by omega
  have := Int.lt_of_mul_lt_mul_right this (by omega)
  omega
theorem DI.Qlt {Y y1 y0 U u q r : Int} (h : DI Y y1 y0 U u q r) : (U * 4294967296 + u) / Y < 4294967296 := by
  have h1 := h.hY; have h2 := h.y1a; have h3 := h.y0a; have h4 := h.U1; have h5 := h.u1
  exact Int.ediv_lt_of_lt_mul (by omega) (by omega)
theorem DI.exit {Y y1 y0 U u q r : Int} (h : DI Y y1 y0 U u q r) (hc : q * y0 ≤ r * 4294967296 + u) : q = (U * 4294967296 + u) / Y := by
  have h1 := h.hY; have h2 := h.y1a; have h3 := h.y0a
  have e := dmul q y1 y0 U r h.e
  rw [← h.hY] at e
  have h4 : q ≤ (U * 4294967296 + u) / Y := (Int.le_ediv_iff_mul_le (by omega)).2 (by omega)
  have := h.hq
  omega
theorem DI.down {Y y1 y0 U u q r : Int} (h : DI Y y1 y0 U u q r) (hc : 4294967296 ≤ q ∨ r * 4294967296 + u < q * y0) : (U * 4294967296 + u) / Y ≤ q - 1 := by
  have h1 := h.hY; have h2 := h.y1a; have h3 := h.y0a
  rcases hc with hc | hc
  · have := h.Qlt
    omega
  · have e := dmul q y1 y0 U r h.e
    rw [← h.hY] at e
    have : (U * 4294967296 + u) / Y < q := Int.ediv_lt_of_lt_mul (by omega) (by omega)
    omega
theorem DI.next {Y y1 y0 U u q r : Int} (h : DI Y y1 y0 U u q r) (hc : (U * 4294967296 + u) / Y ≤ q - 1) (hr : r + y1 ≤ 4294967295) : DI Y y1 y0 U u (q - 1) (r + y1) :=
  ⟨h.hY, h.y1a, h.y1b, h.y0a, h.y0b, h.U0, h.U1, h.u0, h.u1, by rw [Int.sub_mul, ← h.e]; omega, by have := h.r0; have := h.y1a; omega, hr, hc⟩
theorem DI.brk {Y y1 y0 U u q r : Int} (h : DI Y y1 y0 U u q r) (hc : (U * 4294967296 + u) / Y ≤ q - 1) (hr : 4294967296 ≤ r + y1) : q - 1 = (U * 4294967296 + u) / Y := by
  have h1 := h.hY; have h2 := h.y1a; have h3 := h.y0a; have h3' := h.y0b; have h4 := h.U1; have h5 := h.u0
  have e1 : (q - 1) * y1 + (r + y1) = U := by rw [Int.sub_mul, ← h.e]; omega
  have e := dmul (q - 1) y1 y0 U (r + y1) e1
  rw [← h.hY] at e
  have q0 := h.Q0
  have hlt : (q - 1) * y1 < 4294967296 * y1 := by omega
  have hlt := Int.lt_of_mul_lt_mul_right hlt (by omega)
  have hb := mul_bd (q - 1) y0 (by omega) (by omega) h3 h3'
  have h4 : q - 1 ≤ (U * 4294967296 + u) / Y := (Int.le_ediv_iff_mul_le (by omega)).2 (by omega)
  omega
theorem DI.start (Y y1 y0 U u : Int) (hY : Y = y1 * 4294967296 + y0) (a1 : 2147483648 ≤ y1) (a2 : y1 ≤ 4294967295) (a3 : 0 ≤ y0) (a4 : y0 ≤ 4294967295) (a5 : 0 ≤ U) (a6 : U < Y) (a7 : 0 ≤ u) (a8 : u ≤ 4294967295) : DI Y y1 y0 U u (U / y1) (U % y1) := by
  have m := Int.emod_lt_of_pos U (show 0 < y1 by omega)
  refine ⟨hY, a1, a2, a3, a4, a5, a6, a7, a8, ?_, Int.emod_nonneg U (by omega), by omega, ?_⟩
  · have := Int.ediv_mul_add_emod U y1
    omega
  · refine (Int.le_ediv_iff_mul_le (by omega)).2 ?_
    have hQ : (U * 4294967296 + u) / Y * Y ≤ U * 4294967296 + u := Int.ediv_mul_le _ (by omega)
    have q0 : 0 ≤ (U * 4294967296 + u) / Y := Int.ediv_nonneg (by omega) (by omega)
    generalize (U * 4294967296 + u) / Y = Q at *
    have e := dmul Q y1 y0 (Q * y1) 0 (by omega)
    rw [← hY] at e
    have hb : 0 ≤ Q * y0 := Int.mul_nonneg q0 a3
    omega
/-- What the numbers are when the divisor's top bit is one. -/
theorem div_norm (hi lo y : Int) (s : Nat) (h0 : 0 ≤ hi) (h1 : hi < y) (l0 : 0 ≤ lo) (l1 : lo ≤ 18446744073709551615) (hs : s ≤ 63) (s3 : y * 2 ^ s < 2 ^ 64) :
    IntKind.u64.wrap (hi * 2 ^ s) = hi * 2 ^ s ∧ bits .or .u64 (hi * 2 ^ s) (lo / 2 ^ (64 - s)) = hi * 2 ^ s + lo / 2 ^ (64 - s) ∧
    (hi * 18446744073709551616 + lo) * 2 ^ s = (hi * 2 ^ s + lo / 2 ^ (64 - s)) * 18446744073709551616 + IntKind.u64.wrap (lo * 2 ^ s) ∧
    0 ≤ hi * 2 ^ s + lo / 2 ^ (64 - s) ∧ hi * 2 ^ s + lo / 2 ^ (64 - s) < y * 2 ^ s := by
  obtain ⟨H, rfl⟩ : ∃ n : Nat, hi = (n : Int) := ⟨hi.toNat, by omega⟩
  obtain ⟨L, rfl⟩ : ∃ n : Nat, lo = (n : Int) := ⟨lo.toNat, by omega⟩
  obtain ⟨Y, rfl⟩ : ∃ n : Nat, y = (n : Int) := ⟨y.toNat, by omega⟩
  have hp : 0 < 2 ^ s := Nat.pow_pos (by omega)
  have hY : Y * 2 ^ s < 2 ^ 64 := by exact_mod_cast s3
  have hH : H * 2 ^ s + 2 ^ s ≤ Y * 2 ^ s := by
    have := Nat.mul_le_mul_right (2 ^ s) (show H + 1 ≤ Y by omega)
    rw [Nat.add_mul, Nat.one_mul] at this
    exact this
  have hpow : 2 ^ (64 - s) * 2 ^ s = 2 ^ 64 := by rw [← Nat.pow_add]; congr 1; omega
  have hL : L / 2 ^ (64 - s) < 2 ^ s := Nat.div_lt_of_lt_mul (by rw [hpow]; omega)
  have hd : L * 2 ^ s / 2 ^ 64 = L / 2 ^ (64 - s) := by rw [← hpow]; exact Nat.mul_div_mul_right _ _ hp
  have c1 : (H : Int) * 2 ^ s = ((H * 2 ^ s : Nat) : Int) := by push_cast; rfl
  have c2 : (L : Int) / 2 ^ (64 - s) = ((L / 2 ^ (64 - s) : Nat) : Int) := by push_cast; rfl
  have c3 : (L : Int) * 2 ^ s = ((L * 2 ^ s : Nat) : Int) := by push_cast; rfl
  have c4 : (Y : Int) * 2 ^ s = ((Y * 2 ^ s : Nat) : Int) := by push_cast; rfl
  rw [c1, c2, c3, c4]
  refine ⟨by rw [IntKind.wrap_u64]; omega, ?_, ?_, by omega, by omega⟩
  · have e1 : ∀ n : Nat, n < 2 ^ 64 → (BitVec.ofInt 64 (n : Int)).toNat = n := fun n hn => by
      rw [BitVec.ofInt_natCast, BitVec.toNat_ofNat]; exact Nat.mod_eq_of_lt hn
    rw [or_u]
    unfold bv
    rw [BitVec.toNat_or, e1 _ (by omega), e1 _ (by omega), Nat.mul_comm H, ← Nat.two_pow_add_eq_or_of_lt hL]
    push_cast
    rfl
  · rw [IntKind.wrap_u64, Int.add_mul, c3, Int.mul_right_comm, c1]
    generalize H * 2 ^ s = a at *
    generalize L * 2 ^ s = b at *
    generalize L / 2 ^ (64 - s) = c at *
    omega
theorem div_scale (N y : Int) (s : Nat) (hy : 0 < y) : N * 2 ^ s / (y * 2 ^ s) = N / y ∧ N * 2 ^ s % (y * 2 ^ s) / 2 ^ s = N % y := by
  have hp : (0 : Int) < 2 ^ s := Int.pow_pos (by omega)
  refine ⟨Int.mul_ediv_mul_of_pos_left N y hp, ?_⟩
  rw [Int.mul_comm N, Int.mul_comm y, Int.mul_emod_mul_of_pos _ _ hp, Int.mul_ediv_cancel_left _ (by omega)]
theorem div_two (Y U A u1 u0 Q1 R1 Q0 R0 : Int) (hY : 0 < Y) (hA : A = u1 * 4294967296 + u0) (h1 : Q1 * Y + R1 = U * 4294967296 + u1) (h2 : Q0 * Y + R0 = R1 * 4294967296 + u0) (r0 : 0 ≤ R0) (r1 : R0 < Y) :
    (U * 18446744073709551616 + A) / Y = Q1 * 4294967296 + Q0 ∧ (U * 18446744073709551616 + A) % Y = R0 := by
  have e : U * 18446744073709551616 + A = R0 + Y * (Q1 * 4294967296 + Q0) := by
    rw [Int.mul_add, ← Int.mul_assoc, Int.mul_comm Y Q1, Int.mul_comm Y Q0]
    omega
  rw [e]
  constructor
  · rw [Int.add_mul_ediv_left _ _ (by omega), Int.ediv_eq_zero_of_lt r0 r1]
    omega
  · rw [Int.add_mul_emod_self_left, Int.emod_eq_of_lt r0 r1]
end Go.Proofs.YtpfglmlpodjneaaGreat
