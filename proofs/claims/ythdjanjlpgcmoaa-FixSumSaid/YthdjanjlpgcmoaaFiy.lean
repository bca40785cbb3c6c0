/- Package fix: MulDiv, square roots. -/
import Derived.Test.YthdjanjlpgcmoaaFix
namespace Go.Proofs.Ythdjanjlpgcmoaa
open Go.RowKit

theorem div_bd64 (p c : Int) (h0 : -85070591730234615865843651857942052864 ≤ p) (h1 : p ≤ 85070591730234615865843651857942052864) (hc : 0 < c) : -85070591730234615865843651857942052864 ≤ p / c ∧ p / c ≤ 85070591730234615865843651857942052864 := by
  have e := Int.emod_add_mul_ediv p c
  have r0 := Int.emod_nonneg p (show c ≠ 0 by omega)
  have r1 := Int.emod_lt_of_pos p hc
  by_cases hp : 0 ≤ p
  · have g0 := Int.ediv_nonneg hp (show 0 ≤ c by omega)
    have g1 := Int.ediv_le_self c hp
    omega
  · have g0 := Int.ediv_neg_of_neg_of_pos (show p < 0 by omega) hc
    refine ⟨?_, by omega⟩
    have g1 : p ≤ p / c := by
      apply Classical.byContradiction
      intro hn
      have g2 := Int.mul_le_mul_of_nonneg_left (show p / c ≤ p - 1 by omega) (show 0 ≤ c by omega)
      have g3 := Int.mul_le_mul_of_nonneg_right (show (1 : Int) ≤ c by omega) (show 0 ≤ -p by omega)
      rw [Int.mul_sub] at g2
      simp only [Int.mul_neg, Int.one_mul] at g3
      omega
    omega
set_option maxHeartbeats 2000000 in
theorem fmuldiv_in (w : World) (a b : Int) (ha0 : -9223372036854775808 ≤ a) (ha1 : a ≤ 9223372036854775807) (hb0 : -9223372036854775808 ≤ b) (hb1 : b ≤ 9223372036854775807) (c : Int) (hc0 : -9223372036854775808 ≤ c) (hc1 : c ≤ 9223372036854775807) (mode : Int) (hm0 : 0 ≤ mode) (hm1 : mode ≤ 2) :
    Calls Try.prog 8 #[.int .i64 a, .int .i64 b, .int .i64 c, .int .i64 mode] w fun e w' => e = .returned (.tuple #[.int .i64 (mdN a b c mode), .bool (mdB a b c mode)]) ∧ Chg [] w w' := by
  obtain ⟨hp0, hp1⟩ := prod_bd a b ha0 ha1 hb0 hb1
  have P1 := fun w => wmul_any w a b ha0 ha1 hb0 hb1
  have hok := ofV_ok (a * b) (by omega) (by omega)
  have P2 := fun w => wdiv_any w (ofV (a * b)) hok c hc0 hc1
  have hQ : 0 < c → (divQ (ofV (a * b)) c) = ofV (a * b / c) ∧ divR (ofV (a * b)) c = a * b % c := fun h => by
    unfold divQ divR
    rw [if_pos h, if_pos h, ofV_val']
    exact ⟨rfl, rfl⟩
  have hR : 0 < c → 0 ≤ a * b % c ∧ a * b % c < c := fun h => ⟨Int.emod_nonneg _ (by omega), Int.emod_lt_of_pos _ h⟩
  have hD : 0 < c → -85070591730234615865843651857942052864 ≤ a * b / c ∧ a * b / c ≤ 85070591730234615865843651857942052864 := fun h => div_bd64 _ c hp0 hp1 h
  have P3 : 0 < c → ∀ w, Calls Try.prog 32 #[.agg (ofV (a * b)).cells, .int .i64 (divR (ofV (a * b)) c), .int .i64 c, .int .i64 mode] w fun e w' => e = .returned (.bool (mdUp (a * b) c mode)) ∧ Chg [] w w' := fun h w => by
    have H := fmore_any w (ofV (a * b)) hok (a * b % c) c mode (hR h).1 (hR h).2 hc1
    rw [ofV_val'] at H
    rw [(hQ h).2]
    exact H
  have P4 : 0 < c → ∀ w, Calls Try.prog 34 #[.agg (divQ (ofV (a * b)) c).cells] w fun e w' => e = .returned (.tuple #[.int .i64 (int64V (a * b / c)), .bool (fits64 (a * b / c))]) ∧ Chg [] w w' := fun h w => by
    have H := wint_any w (ofV (a * b / c)) (ofV_ok _ (by have := hD h; omega) (by have := hD h; omega))
    rw [ofV_val'] at H
    rw [(hQ h).1]
    exact H
  have P5 := fun w => wof_any w 1 (by decide) (by decide)
  have P6 : 0 < c → ∀ w, Calls Try.prog 14 #[.agg (divQ (ofV (a * b)) c).cells, .agg (ofV 1).cells] w fun e w' => e = .returned (.tuple #[.agg (addV (a * b / c + 1)).cells, .bool (fitsV (a * b / c + 1))]) ∧ Chg [] w w' := fun h w => by
    have H := wadd_any w (ofV (a * b / c)) (ofV 1) (ofV_ok _ (by have := hD h; omega) (by have := hD h; omega)) (ofV_ok _ (by decide) (by decide))
    rw [ofV_val', ofV_val'] at H
    rw [(hQ h).1]
    exact H
  have P7 : 0 < c → ∀ w, Calls Try.prog 33 #[.agg (addV (a * b / c + 1)).cells, .bool (fitsV (a * b / c + 1))] w fun e w' => e = .returned (.tuple #[.int .i64 (int64V (a * b / c + 1)), .bool (fits64 (a * b / c + 1))]) ∧ Chg [] w w' := fun h w =>
    told_of w _ (fits_of64 _ (by have := hD h; omega) (by have := hD h; omega))
  have HN : decide (0 < c) = false → mdN a b c mode = 0 ∧ mdB a b c mode = false := fun h => by
    unfold mdN mdB mdOk
    rw [h]
    exact ⟨rfl, rfl⟩
  have HO : 0 < c → mdOk c mode = true := fun h => by unfold mdOk; simp; omega
  have H0 : decide (0 < c) = true → mdUp (a * b) c mode = false → mdN a b c mode = int64V (a * b / c) ∧ mdB a b c mode = fits64 (a * b / c) := fun h g => by
    unfold mdN mdB mdV
    rw [HO (by simpa using h), g]
    simp
  have H1 : decide (0 < c) = true → mdUp (a * b) c mode = true → mdN a b c mode = int64V (a * b / c + 1) ∧ mdB a b c mode = fits64 (a * b / c + 1) := fun h g => by
    unfold mdN mdB mdV
    rw [HO (by simpa using h), g]
    simp
  have HC : decide (0 < c) = true → 0 < c := fun h => by simpa using h
  clear HO hD hQ hok hp0 hp1 hR
  generalize mdN a b c mode = rn at *
  generalize mdB a b c mode = rb at *
  generalize mdUp (a * b) c mode = up at *
  generalize int64V (a * b / c + 1) = i1 at *
  generalize fits64 (a * b / c + 1) = f1 at *
  generalize int64V (a * b / c) = i0 at *
  generalize fits64 (a * b / c) = f0 at *
  generalize addV (a * b / c + 1) = s at *
  generalize fitsV (a * b / c + 1) = sf at *
  generalize divQ (ofV (a * b)) c = q at *
  generalize divR (ofV (a * b)) c = r at *
  generalize ofV (a * b) = m at *
  generalize ofV 1 = o at *
  simp only [wv_cells] at *
  by_cases hc : 0 < c
  · replace P3 := P3 hc
    replace P4 := P4 hc
    replace P6 := P6 hc
    replace P7 := P7 hc
    rw [decide_eq_true hc] at *
    replace P1 := Lib.hid P1
    replace P2 := Lib.hid P2
    replace P3 := Lib.hid P3
    replace P4 := Lib.hid P4
    replace P5 := Lib.hid P5
    replace P6 := Lib.hid P6
    replace P7 := Lib.hid P7
    replace H0 := Lib.hid H0
    replace H1 := Lib.hid H1
    clear HC HN
    have C := CL.new w 0
    go_enter Try.func8, Try.ntmps8
    go_wp2_with fail
    refine (P1.out _).mono ?_; rintro e w1 ⟨rfl, hX⟩
    replace C := (C.step (j := 0) hX).push #[.int .i64 m.hi, .int .u64 m.lo] 27
    clear hX
    generalize hz1 : w1.heap.size = z1 at *
    have cc0 := C.cells 0 rfl
    go_wp2_with fail
    refine (P2.out _).mono ?_; rintro e w2 ⟨rfl, hX⟩
    clear cc0
    replace C := (C.step (j := 0) hX).push #[.int .i64 q.hi, .int .u64 q.lo] 27
    clear hX
    generalize hz2 : w2.heap.size = z2 at *
    have cc0 := C.cells 0 rfl
    have cc1 := C.cells 1 rfl
    go_wp2_with fail
    refine (P3.out _).mono ?_; rintro e w3 ⟨rfl, hX⟩
    clear cc0 cc1
    replace C := C.step (j := 0) hX
    clear hX
    cases up
    · clear P5 P6 P7 H1
      have cc0 := C.cells 0 rfl
      have cc1 := C.cells 1 rfl
      go_wp2_with fail
      refine (P4.out _).mono ?_; rintro e w4 ⟨rfl, hX⟩
      clear cc0 cc1
      replace C := C.step (j := 0) hX
      clear hX
      go_wp2_with fail
      go_returns
      exact ⟨by rw [(H0.out (by simp) (by simp)).1, (H0.out (by simp) (by simp)).2] <;> rfl, C.x⟩
    · clear P4 H0
      have cc0 := C.cells 0 rfl
      have cc1 := C.cells 1 rfl
      go_wp2_with fail
      clear cc0 cc1
      have Cd := C.drew
      clear C
      refine wp_region_stage (CL w [(z2, #[.int .i64 q.hi, .int .u64 q.lo]), (z1, #[.int .i64 m.hi, .int .u64 m.lo])]) [] [(0, 0, false), (0, 0, false), (0, 0, false), (0, 0, false), (0, 0, false), (0, 0, false), (0, 0, false), (0, 0, false), (0, 0, false), (0, 0, false)]
        (by kernel_rfl) (by kernel_rfl) (by kernel_rfl) (Cd) ?_
      simp only [List.zip_cons_cons, List.zip_nil_right]
      refine wpStage_yes (by go_simp) ?_
      intro K hK
      apply Exists.intro
      refine ⟨fun kk ww hk1 hk2 hC => ?_, ?_⟩
      · have c0 := (hC.get 0 rfl).cell 0; have c1 := (hC.get 0 rfl).cell 1
        go_simp
        with_reducible exact rfl
      go_simp
      refine hK _ ?_
      clear hK K
      refine wpStage_yes (by go_simp) ?_
      intro K hK
      apply Exists.intro
      refine ⟨fun kk ww hk1 hk2 hC => ?_, ?_⟩
      · go_simp
        go_at_call 30; refine (P5.out _).mono ?_; rintro e w' ⟨rfl, hX⟩
        exact ⟨rfl, hC.step hX⟩
      go_simp
      refine hK _ ?_
      clear hK K
      refine wpStage_yes (by go_simp) ?_
      intro K hK
      apply Exists.intro
      refine ⟨fun kk ww hk1 hk2 hC => ?_, ?_⟩
      · go_simp
        go_at_call 14; refine (P6.out _).mono ?_; rintro e w' ⟨rfl, hX⟩
        exact ⟨rfl, hC.step hX⟩
      go_simp
      refine hK _ ?_
      clear hK K
      refine wpStage_yes (by go_simp) ?_
      intro K hK
      apply Exists.intro
      refine ⟨fun kk ww hk1 hk2 hC => ?_, ?_⟩
      · go_simp
        with_reducible exact rfl
      go_simp
      refine hK _ ?_
      clear hK K
      refine wpStage_yes (by go_simp) ?_
      intro K hK
      apply Exists.intro
      refine ⟨fun kk ww hk1 hk2 hC => ?_, ?_⟩
      · go_simp
        with_reducible exact rfl
      go_simp
      refine hK _ ?_
      clear hK K
      refine wpStage_yes (by go_simp) ?_
      intro K hK
      apply Exists.intro
      refine ⟨fun kk ww hk1 hk2 hC => ?_, ?_⟩
      · go_simp
        go_at_call 33; refine (P7.out _).mono ?_; rintro e w' ⟨rfl, hX⟩
        exact ⟨rfl, hC.step hX⟩
      go_simp
      refine hK _ ?_
      clear hK K
      refine wpStage_yes (by go_simp) ?_
      intro K hK
      apply Exists.intro
      refine ⟨fun kk ww hk1 hk2 hC => ?_, ?_⟩
      · go_simp
        with_reducible exact rfl
      go_simp
      refine hK _ ?_
      clear hK K
      refine wpStage_yes (by go_simp) ?_
      intro K hK
      apply Exists.intro
      refine ⟨fun kk ww hk1 hk2 hC => ?_, ?_⟩
      · go_simp
        with_reducible exact rfl
      go_simp
      refine hK _ ?_
      clear hK K
      refine wpStage_yes (by go_simp) ?_
      intro K hK
      apply Exists.intro
      refine ⟨fun kk ww hk1 hk2 hC => ?_, ?_⟩
      · go_simp
        with_reducible exact rfl
      go_simp
      refine hK _ ?_
      clear hK K
      refine wpStage_yes (by go_simp) ?_
      intro K hK
      apply Exists.intro
      refine ⟨fun kk ww hk1 hk2 hC => ?_, ?_⟩
      · go_simp
        with_reducible exact rfl
      go_simp
      refine hK _ ?_
      clear hK K
      refine wpStage_nil (fun ww hC => ?_)
      clear Cd
      have C := hC
      clear hC
      go_wp2_with fail
      go_returns
      exact ⟨by rw [(H1.out (by simp) (by simp)).1, (H1.out (by simp) (by simp)).2] <;> rfl, C.x⟩
  · rw [decide_eq_false hc] at *
    clear P3 P4 P5 P6 P7 HC H0 H1
    replace P1 := Lib.hid P1
    replace P2 := Lib.hid P2
    replace HN := Lib.hid HN
    have C := CL.new w 0
    go_enter Try.func8, Try.ntmps8
    go_wp2_with fail
    refine (P1.out _).mono ?_; rintro e w1 ⟨rfl, hX⟩
    replace C := (C.step (j := 0) hX).push #[.int .i64 m.hi, .int .u64 m.lo] 27
    clear hX
    generalize hz1 : w1.heap.size = z1 at *
    have cc0 := C.cells 0 rfl
    go_wp2_with fail
    refine (P2.out _).mono ?_; rintro e w2 ⟨rfl, hX⟩
    clear cc0
    replace C := (C.step (j := 0) hX).push #[.int .i64 q.hi, .int .u64 q.lo] 27
    clear hX
    generalize hz2 : w2.heap.size = z2 at *
    go_wp2_with fail
    go_returns
    exact ⟨by rw [(HN.out (by simp)).1, (HN.out (by simp)).2] <;> rfl, C.x⟩
theorem fmuldiv_any (w : World) (a b : Int) (ha0 : -9223372036854775808 ≤ a) (ha1 : a ≤ 9223372036854775807) (hb0 : -9223372036854775808 ≤ b) (hb1 : b ≤ 9223372036854775807) (c : Int) (hc0 : -9223372036854775808 ≤ c) (hc1 : c ≤ 9223372036854775807) (mode : Int) :
    Calls Try.prog 8 #[.int .i64 a, .int .i64 b, .int .i64 c, .int .i64 mode] w fun e w' => e = .returned (.tuple #[.int .i64 (mdN a b c mode), .bool (mdB a b c mode)]) ∧ Chg [] w w' := by
  by_cases h1 : mode < 0
  · have e : mdOk c mode = false := by unfold mdOk; simp; omega
    rw [show mdN a b c mode = 0 by unfold mdN; rw [e]; rfl, show mdB a b c mode = false by unfold mdB; rw [e]; rfl]
    clear e
    go_enter Try.func8, Try.ntmps8
    go_wp2_with fail
    go_returns
    exact ⟨rfl, Chg.refl _ _⟩
  · by_cases h2 : 2 < mode
    · have e : mdOk c mode = false := by unfold mdOk; simp; omega
      rw [show mdN a b c mode = 0 by unfold mdN; rw [e]; rfl, show mdB a b c mode = false by unfold mdB; rw [e]; rfl]
      clear e
      go_enter Try.func8, Try.ntmps8
      go_wp2_with fail
      go_returns
      exact ⟨rfl, Chg.refl _ _⟩
    · exact fmuldiv_in w a b ha0 ha1 hb0 hb1 c hc0 hc1 mode (by omega) (by omega)
/-- Whether a square root is told. -/
def rtB (a : WV) (ok : Bool) : Bool := ok && decide (0 ≤ a.hi) && decide (rootV a.val ≤ 9223372036854775807)
theorem froot_any (w : World) (a : WV) (ha : a.ok) (ok : Bool) : Calls Try.prog 43 #[.agg a.cells, .bool ok] w fun e w' => e = .returned (.tuple #[.int .i64 (if rtB a ok then rootV a.val else 0), .bool (rtB a ok)]) ∧ Chg [] w w' := by
  have P1 := fun w => wsqrt_any w a ha
  have hv : 0 ≤ a.hi → 0 ≤ a.val := fun h => by have := ha.l0; unfold WV.val; omega
  have HB := Lib.hid (show rtB a ok = (ok && decide (0 ≤ a.hi) && decide (rootV a.val ≤ 9223372036854775807)) from rfl)
  generalize rtB a ok = rb at *
  have C := (CL.new w 0).push #[.int .i64 a.hi, .int .u64 a.lo] 27
  simp only [wv_cells] at *
  replace P1 := Lib.hid P1
  have Hu := Lib.hid (rootV_unique a.val)
  cases ok
  · have e := HB.out
    simp at e
    subst e
    clear HB P1 Hu
    go_enter Try.func43, Try.ntmps43
    go_wp2_with fail
    go_returns
    exact ⟨rfl, C.x⟩
  · go_enter Try.func43, Try.ntmps43
    generalize hzW : w.heap.size = z at *
    have cc0 := C.cells 0 rfl
    go_wp2_with fail
    refine (P1.out _).mono ?_; rintro e w1 ⟨⟨hlt, rfl⟩ | ⟨hge, r0, rfl, hr1, hr2, hr3⟩, hX⟩
    · have e := HB.out
      rw [decide_eq_false (show ¬0 ≤ a.hi by omega)] at e
      simp at e
      subst e
      clear HB cc0 Hu
      go_wp2_with fail
      go_returns
      exact ⟨rfl, C.x.trans hX⟩
    · have hrv := Hu.out r0 (by omega) hr2 (by rw [show ((r0 : Int) + 1) = ((r0 + 1 : Nat) : Int) by omega]; exact hr3)
      have e := HB.out
      rw [decide_eq_true hge, ← hrv] at e
      obtain ⟨r, hr, hr0⟩ : ∃ r : Int, (r0 : Int) = r ∧ 0 ≤ r := ⟨_, rfl, by omega⟩
      rw [hr] at hr1 e hrv ⊢
      have HRV := Lib.hid hrv.symm
      clear hr hrv hr2 hr3 HB cc0 Hu
      by_cases hb : r ≤ 9223372036854775807
      · rw [decide_eq_true hb] at e
        simp at e
        subst e
        have k1 : wrap64 r = r := by unfold wrap64; omega
        have k2 : IntKind.i64.wrap r = r := by rw [IntKind.wrap_i64]; omega
        go_wp2_with fail
        go_returns
        exact ⟨by rw [HRV.out]; rfl, C.x.trans hX⟩
      · rw [decide_eq_false hb] at e
        simp at e
        subst e
        go_wp2_with fail
        go_returns
        exact ⟨rfl, C.x.trans hX⟩
theorem fsqrt_any (w : World) (n : Int) (h0 : -9223372036854775808 ≤ n) (h1 : n ≤ 9223372036854775807) : Calls Try.prog 27 #[.int .i64 n] w fun e w' => e = .returned (.tuple #[.int .i64 (if 0 ≤ n then rootV n else 0), .bool (decide (0 ≤ n))]) ∧ Chg [] w w' := by
  have P1 := fun w => wof_any w n h0 h1
  have P2 := fun w => froot_any w (ofV n) (ofV_ok n (by omega) (by omega)) true
  have e1 : rtB (ofV n) true = decide (0 ≤ n) := by
    unfold rtB
    have eh : 0 ≤ (ofV n).hi ↔ 0 ≤ n := by show 0 ≤ n / 18446744073709551616 ↔ 0 ≤ n; omega
    rw [ofV_val', Bool.true_and]
    by_cases hn : 0 ≤ n
    · obtain ⟨g0, g1, g2⟩ := rootV_spec n hn
      have : rootV n ≤ 9223372036854775807 := by
        apply Classical.byContradiction
        intro hh
        have := sq_le 9223372036854775808 (rootV n) (by omega) (by omega)
        omega
      rw [decide_eq_true this, decide_eq_true hn, decide_eq_true (eh.2 hn)]
      rfl
    · rw [decide_eq_false hn, decide_eq_false (fun h => hn (eh.1 h))]
      rfl
  rw [e1, ofV_val'] at P2
  simp only [decide_eq_true_eq] at P2
  generalize (if 0 ≤ n then rootV n else 0) = rv at *
  generalize decide (0 ≤ n) = rb at *
  generalize ofV n = o at *
  simp only [wv_cells] at *
  replace P1 := Lib.hid P1
  replace P2 := Lib.hid P2
  clear e1
  have C := CL.new w 0
  go_enter Try.func27, Try.ntmps27
  go_wp2_with fail
  refine (P1.out _).mono ?_; rintro e w1 ⟨rfl, hX⟩
  replace C := C.step (j := 0) hX
  clear hX
  go_wp2_with fail
  refine (P2.out _).mono ?_; rintro e w2 ⟨rfl, hX⟩
  replace C := C.step (j := 0) hX
  clear hX
  go_wp2_with fail
  go_returns
  exact ⟨rfl, C.x⟩
/-- Whether a square root of two squares' sum is told. -/
def hyB (s : Int) : Bool := fitsV s && decide (rootV s ≤ 9223372036854775807)
theorem fhyp_any (w : World) (a b : Int) (ha0 : -9223372036854775808 ≤ a) (ha1 : a ≤ 9223372036854775807) (hb0 : -9223372036854775808 ≤ b) (hb1 : b ≤ 9223372036854775807) : Calls Try.prog 13 #[.int .i64 a, .int .i64 b] w fun e w' => e = .returned (.tuple #[.int .i64 (if hyB (a * a + b * b) then rootV (a * a + b * b) else 0), .bool (hyB (a * a + b * b))]) ∧ Chg [] w w' := by
  obtain ⟨g0, g1⟩ := prod_bd a a ha0 ha1 ha0 ha1
  obtain ⟨g2, g3⟩ := prod_bd b b hb0 hb1 hb0 hb1
  have n0 : 0 ≤ a * a := by rcases Int.le_total 0 a with h | h; exact Int.mul_nonneg h h; exact Int.mul_nonneg_of_nonpos_of_nonpos h h
  have n1 : 0 ≤ b * b := by rcases Int.le_total 0 b with h | h; exact Int.mul_nonneg h h; exact Int.mul_nonneg_of_nonpos_of_nonpos h h
  have P1 := fun w => wmul_any w a a ha0 ha1 ha0 ha1
  have P2 := fun w => wmul_any w b b hb0 hb1 hb0 hb1
  have P3 := fun w => wadd_any w (ofV (a * a)) (ofV (b * b)) (ofV_ok _ (by omega) (by omega)) (ofV_ok _ (by omega) (by omega))
  rw [ofV_val', ofV_val'] at P3
  have P4 := fun w => froot_any w (addV (a * a + b * b)) (addV_ok _) (fitsV (a * a + b * b))
  have e1 : rtB (addV (a * a + b * b)) (fitsV (a * a + b * b)) = hyB (a * a + b * b) ∧ (hyB (a * a + b * b) = true → (addV (a * a + b * b)).val = a * a + b * b) := by
    unfold rtB hyB
    cases hf : fitsV (a * a + b * b)
    · exact ⟨rfl, fun h => by simp at h⟩
    · have ev := addV_val _ hf
      have eh : 0 ≤ (addV (a * a + b * b)).hi := by
        unfold addV
        rw [if_pos hf]
        show 0 ≤ (a * a + b * b) / 18446744073709551616
        omega
      rw [ev, decide_eq_true eh]
      exact ⟨rfl, fun _ => rfl⟩
  have e2 : (if hyB (a * a + b * b) then rootV (addV (a * a + b * b)).val else 0) = if hyB (a * a + b * b) then rootV (a * a + b * b) else 0 := by
    split
    · rename_i h; rw [e1.2 h]
    · rfl
  rw [e1.1, e2] at P4
  generalize (if hyB (a * a + b * b) then rootV (a * a + b * b) else 0) = rv at *
  generalize hyB (a * a + b * b) = rb at *
  generalize addV (a * a + b * b) = s at *
  generalize fitsV (a * a + b * b) = sf at *
  generalize ofV (a * a) = x at *
  generalize ofV (b * b) = y at *
  simp only [wv_cells] at *
  replace P1 := Lib.hid P1
  replace P2 := Lib.hid P2
  replace P3 := Lib.hid P3
  replace P4 := Lib.hid P4
  clear e1 e2 n0 n1 g0 g1 g2 g3
  have C := CL.new w 0
  go_enter Try.func13, Try.ntmps13
  go_wp2_with fail
  refine (P1.out _).mono ?_; rintro e w1 ⟨rfl, hX⟩
  replace C := C.step (j := 0) hX
  clear hX
  go_wp2_with fail
  refine (P2.out _).mono ?_; rintro e w2 ⟨rfl, hX⟩
  replace C := C.step (j := 0) hX
  clear hX
  go_wp2_with fail
  refine (P3.out _).mono ?_; rintro e w3 ⟨rfl, hX⟩
  replace C := C.step (j := 0) hX
  clear hX
  go_wp2_with fail
  refine (P4.out _).mono ?_; rintro e w4 ⟨rfl, hX⟩
  replace C := C.step (j := 0) hX
  clear hX
  go_wp2_with fail
  go_returns
  exact ⟨rfl, C.x⟩
end Go.Proofs.Ythdjanjlpgcmoaa
