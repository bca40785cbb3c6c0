/- The reference of wide: Neg, Int, Cmp. -/
import Derived.Test.YthdjanjlpgcmoaaWra
namespace Go.Proofs.Ythdjanjlpgcmoaa
open Go.RowKit

theorem rneg_plain (a : WV) (ha : a.ok) : ((a.hi = -9223372036854775808 ∧ a.lo = 0) → fitsV (-a.val) = false ∧ addV (-a.val) = WV.zero) ∧ (¬(a.hi = -9223372036854775808 ∧ a.lo = 0) → fitsV (-a.val) = true ∧ addV (-a.val) = wV (-a.val)) := by
  have hx : fitsV (-a.val) = false ↔ (a.hi = -9223372036854775808 ∧ a.lo = 0) := by
    rw [← Bool.not_eq_true, fitsV_iff]
    obtain ⟨ah, al⟩ := a
    have a1 : -9223372036854775808 ≤ ah := ha.h0
    have a2 : ah ≤ 9223372036854775807 := ha.h1
    have a3 : 0 ≤ al := ha.l0
    have a4 : al ≤ 18446744073709551615 := ha.l1
    unfold WV.val
    simp only
    omega
  refine ⟨fun h => ?_, fun h => ?_⟩
  · have hf := hx.2 h
    exact ⟨hf, by unfold addV; rw [if_neg (by rw [hf]; decide)]⟩
  · have hf : fitsV (-a.val) = true := by
      rcases Bool.eq_false_or_eq_true (fitsV (-a.val)) with e | e
      · exact e
      · exact absurd (hx.1 e) h
    refine ⟨hf, ?_⟩
    unfold addV
    rw [if_pos hf, wV_fits _ hf]
set_option maxHeartbeats 1000000 in
theorem rint_any (w : World) (a : WV) (ha : a.ok) : Calls Try.prog 38 #[.agg a.cells] w fun e w' => e = .returned (.tuple #[.int .i64 (int64V a.val), .bool (fits64 a.val)]) ∧ Chg [] w w' := by
  obtain ⟨p1, p2⟩ := int_plain a ha
  have hb : -9223372036854775808 ≤ wrap64 a.lo ∧ wrap64 a.lo ≤ 9223372036854775807 := by unfold wrap64; omega
  have HO := fun w => rof_any w (wrap64 a.lo) hb.1 hb.2
  have al0 := ha.l0
  have al1 := ha.l1
  have C0 := ((CL.new w 0).push #[.int .i64 a.hi, .int .u64 a.lo] 43).drew
  have hq := At.new w #[.int .i64 a.hi, .int .u64 a.lo] 43
  have a0 := hq.cell 0; have a1 := hq.cell 1
  rw [wv_cells a, wv_cells (ofV _)] at *
  replace HO := Lib.hid HO
  cases hf : fits64 a.val
  · have Hne := Lib.hid (p2 hf)
    have hr : int64V a.val = 0 := by unfold int64V; rw [hf]; rfl
    rw [hr]
    generalize ofV (wrap64 a.lo) = o at *
    generalize hn : wrap64 a.lo = n at *
    clear p1 p2 hf hr hb al0 al1 ha
    go_enter Try.func38, Try.ntmps38
    generalize hzw : w.heap.size = z at *
    go_wp2_with fail
    rw [hn]
    refine wp_region_stage (CL w [(z, #[.int .i64 a.hi, .int .u64 a.lo])]) [] [(0, 0, false), (0, 0, false), (0, 0, false), (0, 0, false)]
      (by kernel_rfl) (by kernel_rfl) (by kernel_rfl) (C0) ?_
    simp only [List.zip_cons_cons, List.zip_nil_right]
    refine wpStage_yes (by go_simp) ?_
    intro K hK
    apply Exists.intro
    refine ⟨fun kk ww hk1 hk2 hC => ?_, ?_⟩
    · go_simp
      with_reducible exact rfl
    go_simp
    refine hK _ ?_
    clear hK K
    refine wpStage_yes (by go_simp) ?_
    intro K hK
    apply Exists.intro
    refine ⟨fun kk ww hk1 hk2 hC => ?_, ?_⟩
    · go_simp
      go_at_call 29; refine (HO.out _).mono ?_; rintro e w' ⟨rfl, hX⟩
      exact ⟨rfl, hC.step hX⟩
    go_simp
    refine hK _ ?_
    clear hK K
    refine wpStage_yes (by go_simp) ?_
    intro K hK
    apply Exists.intro
    refine ⟨fun kk ww hk1 hk2 hC => ?_, ?_⟩
    · have c0 := (hC.get 0 rfl).cell 0; have c1 := (hC.get 0 rfl).cell 1
      go_simp
      with_reducible exact rfl
    go_simp
    refine hK _ ?_
    clear hK K
    refine wpStage_yes (by go_simp) ?_
    intro K hK
    refine ⟨.bool true, ?_⟩
    refine ⟨fun kk ww hk1 hk2 hC => ?_, ?_⟩
    · go_simp
      rw [if_if, if_neg Hne.out]
      exact ⟨rfl, hC⟩
    go_simp
    refine hK _ ?_
    clear hK K
    refine wpStage_nil (fun ww hC => ?_)
    clear C0
    go_wp2_with fail
    go_returns
    exact ⟨rfl, hC.x⟩
  · obtain ⟨q1, q2, q3⟩ := p1 hf
    have hr : int64V a.val = a.val := by unfold int64V; rw [if_pos hf]
    rw [hr]
    rw [q1] at HO q2 q3 hb
    generalize a.val = v at *
    rw [q2, q3] at HO
    clear p1 p2 hf hr q2 q3 ha
    go_enter Try.func38, Try.ntmps38
    generalize hzw : w.heap.size = z at *
    go_wp2_with fail
    rw [q1]
    refine wp_region_stage (CL w [(z, #[.int .i64 a.hi, .int .u64 a.lo])]) [] [(0, 0, false), (0, 0, false), (0, 0, false), (0, 0, false)]
      (by kernel_rfl) (by kernel_rfl) (by kernel_rfl) (C0) ?_
    simp only [List.zip_cons_cons, List.zip_nil_right]
    refine wpStage_yes (by go_simp) ?_
    intro K hK
    apply Exists.intro
    refine ⟨fun kk ww hk1 hk2 hC => ?_, ?_⟩
    · go_simp
      with_reducible exact rfl
    go_simp
    refine hK _ ?_
    clear hK K
    refine wpStage_yes (by go_simp) ?_
    intro K hK
    apply Exists.intro
    refine ⟨fun kk ww hk1 hk2 hC => ?_, ?_⟩
    · go_simp
      go_at_call 29; refine (HO.out _).mono ?_; rintro e w' ⟨rfl, hX⟩
      exact ⟨rfl, hC.step hX⟩
    go_simp
    refine hK _ ?_
    clear hK K
    refine wpStage_yes (by go_simp) ?_
    intro K hK
    apply Exists.intro
    refine ⟨fun kk ww hk1 hk2 hC => ?_, ?_⟩
    · have c0 := (hC.get 0 rfl).cell 0; have c1 := (hC.get 0 rfl).cell 1
      go_simp
      with_reducible exact rfl
    go_simp
    refine hK _ ?_
    clear hK K
    refine wpStage_yes (by go_simp) ?_
    intro K hK
    apply Exists.intro
    refine ⟨fun kk ww hk1 hk2 hC => ?_, ?_⟩
    · go_simp
      with_reducible exact rfl
    go_simp
    refine hK _ ?_
    clear hK K
    refine wpStage_nil (fun ww hC => ?_)
    clear C0
    go_wp2_with fail
    go_returns
    exact ⟨rfl, hC.x⟩
theorem cmpV_spell (a b : WV) (ha : a.ok) (hb : b.ok) : cmpV a b = if a.hi < b.hi then -1 else if a.hi = b.hi then (if a.lo < b.lo then -1 else if a.lo = b.lo then 0 else 1) else 1 := by
  have a3 := ha.l0; have a4 := ha.l1; have b3 := hb.l0; have b4 := hb.l1
  unfold cmpV cmpI WV.val
  repeat' split
  all_goals omega
theorem rcmp_any (w : World) (a b : WV) (ha : a.ok) (hb : b.ok) : Calls Try.prog 47 #[.agg a.cells, .agg b.cells] w fun e w' => e = .returned (.int .i64 (cmpV a b)) ∧ Chg [] w w' := by
  have A0 := (At.new w #[.int .i64 a.hi, .int .u64 a.lo] 43).alloc (.cells #[.int .i64 b.hi, .int .u64 b.lo] 43)
  have A1 := At.new (w.alloc (.cells #[.int .i64 a.hi, .int .u64 a.lo] 43)) #[.int .i64 b.hi, .int .u64 b.lo] 43
  rw [show (w.alloc (.cells #[.int .i64 a.hi, .int .u64 a.lo] 43)).heap.size = w.heap.size + 1 by simp] at A1
  have hX := ((Chg.refl [] w).alloc (.cells #[.int .i64 a.hi, .int .u64 a.lo] 43)).alloc (.cells #[.int .i64 b.hi, .int .u64 b.lo] 43)
  have a0 := A0.cell 0; have a1 := A0.cell 1; have b0 := A1.cell 0; have b1 := A1.cell 1
  have Hs := cmpV_spell a b ha hb
  rw [wv_cells a, wv_cells b] at *
  by_cases h1 : a.hi < b.hi
  · rw [if_pos h1] at Hs
    replace Hs := Lib.hid Hs
    go_enter Try.func47, Try.ntmps47
    go_wp2_with fail
    go_returns
    exact ⟨ret_int Hs.out.symm, ((Chg.refl [] w).alloc _).alloc _⟩
  · rw [if_neg h1] at Hs
    by_cases h2 : a.hi = b.hi
    · rw [if_pos h2] at Hs
      by_cases h3 : a.lo < b.lo
      · rw [if_pos h3] at Hs
        replace Hs := Lib.hid Hs
        go_enter Try.func47, Try.ntmps47
        go_wp2_with fail
        go_returns
        exact ⟨ret_int Hs.out.symm, ((Chg.refl [] w).alloc _).alloc _⟩
      · rw [if_neg h3] at Hs
        by_cases h4 : a.lo = b.lo
        · rw [if_pos h4] at Hs
          replace Hs := Lib.hid Hs
          go_enter Try.func47, Try.ntmps47
          go_wp2_with fail
          go_returns
          exact ⟨ret_int Hs.out.symm, ((Chg.refl [] w).alloc _).alloc _⟩
        · rw [if_neg h4] at Hs
          replace Hs := Lib.hid Hs
          go_enter Try.func47, Try.ntmps47
          go_wp2_with fail
          go_returns
          exact ⟨ret_int Hs.out.symm, ((Chg.refl [] w).alloc _).alloc _⟩
    · rw [if_neg h2] at Hs
      replace Hs := Lib.hid Hs
      go_enter Try.func47, Try.ntmps47
      go_wp2_with fail
      go_returns
      exact ⟨ret_int Hs.out.symm, ((Chg.refl [] w).alloc _).alloc _⟩
end Go.Proofs.Ythdjanjlpgcmoaa
