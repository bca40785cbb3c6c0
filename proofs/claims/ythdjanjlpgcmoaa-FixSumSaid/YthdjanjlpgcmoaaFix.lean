/- Package fix: contracts. -/
import Derived.Test.YthdjanjlpgcmoaaFxp
import Derived.Test.YthdjanjlpgcmoaaWrd
namespace Go.Proofs.Ythdjanjlpgcmoaa
open Go.RowKit

theorem int64V_fits {v : Int} (h : fits64 v = true) : int64V v = v := if_pos h
theorem fits_of64 (v : Int) (h0 : -170141183460469231731687303715884105728 ≤ v) (h1 : v ≤ 170141183460469231731687303715884105727) : fitsV v = true := by rw [fitsV_iff]; exact ⟨h0, h1⟩
theorem told_any (w : World) (a : WV) (ha : a.ok) (ok : Bool) : Calls Try.prog 33 #[.agg a.cells, .bool ok] w fun e w' => e = .returned (.tuple #[.int .i64 (if ok then int64V a.val else 0), .bool (ok && fits64 a.val)]) ∧ Chg [] w w' := by
  have P1 := fun w => wint_any w a ha
  simp only [wv_cells] at *
  replace P1 := Lib.hid P1
  cases ok
  · have C := (CL.new w 0).push #[.int .i64 a.hi, .int .u64 a.lo] 27
    go_enter Try.func33, Try.ntmps33
    generalize hzW : w.heap.size = z at *
    go_wp2_with fail
    go_returns
    exact ⟨rfl, C.x⟩
  · have C := (CL.new w 0).push #[.int .i64 a.hi, .int .u64 a.lo] 27
    go_enter Try.func33, Try.ntmps33
    generalize hzW : w.heap.size = z at *
    have cc0 := C.cells 0 rfl
    go_wp2_with fail
    refine (P1.out _).mono ?_; rintro e w1 ⟨rfl, hX⟩
    clear cc0
    replace C := C.step (j := 0) hX
    clear hX
    go_wp2_with fail
    go_returns
    exact ⟨rfl, C.x⟩
/-- What is told of a number that has a place in 128 bits. -/
theorem told_of (w : World) (v : Int) (h : fitsV v = true) : Calls Try.prog 33 #[.agg (addV v).cells, .bool (fitsV v)] w fun e w' => e = .returned (.tuple #[.int .i64 (int64V v), .bool (fits64 v)]) ∧ Chg [] w w' := by
  have H := told_any w (addV v) (addV_ok v) (fitsV v)
  rw [addV_val v h, h] at H
  rw [h]
  exact H
theorem fadd_any (w : World) (a b : Int) (ha0 : -9223372036854775808 ≤ a) (ha1 : a ≤ 9223372036854775807) (hb0 : -9223372036854775808 ≤ b) (hb1 : b ≤ 9223372036854775807) : Calls Try.prog 17 #[.int .i64 a, .int .i64 b] w fun e w' => e = .returned (.tuple #[.int .i64 (int64V (a + b)), .bool (fits64 (a + b))]) ∧ Chg [] w w' := by
  have P1 := fun w => wof_any w a ha0 ha1
  have P2 := fun w => wof_any w b hb0 hb1
  have P3 := fun w => wadd_any w (ofV a) (ofV b) (ofV_ok a (by omega) (by omega)) (ofV_ok b (by omega) (by omega))
  rw [ofV_val', ofV_val'] at P3
  have P4 := fun w => told_of w (a + b) (fits_of64 _ (by omega) (by omega))
  generalize addV (a + b) = s at *
  generalize fitsV (a + b) = f at *
  generalize ofV a = x at *
  generalize ofV b = y at *
  simp only [wv_cells] at *
  replace P1 := Lib.hid P1
  replace P2 := Lib.hid P2
  replace P3 := Lib.hid P3
  replace P4 := Lib.hid P4
  have C := CL.new w 0
  go_enter Try.func17, Try.ntmps17
  go_wp2_with fail
  refine (P1.out _).mono ?_; rintro e w1 ⟨rfl, hX⟩
  replace C := C.step (j := 0) hX
  clear hX
  go_wp2_with fail
  refine (P2.out _).mono ?_; rintro e w2 ⟨rfl, hX⟩
  replace C := C.step (j := 0) hX
  clear hX
  go_wp2_with fail
  refine (P3.out _).mono ?_; rintro e w3 ⟨rfl, hX⟩
  replace C := C.step (j := 0) hX
  clear hX
  go_wp2_with fail
  refine (P4.out _).mono ?_; rintro e w4 ⟨rfl, hX⟩
  replace C := C.step (j := 0) hX
  clear hX
  go_wp2_with fail
  go_returns
  exact ⟨rfl, C.x⟩
theorem fsub_any (w : World) (a b : Int) (ha0 : -9223372036854775808 ≤ a) (ha1 : a ≤ 9223372036854775807) (hb0 : -9223372036854775808 ≤ b) (hb1 : b ≤ 9223372036854775807) : Calls Try.prog 18 #[.int .i64 a, .int .i64 b] w fun e w' => e = .returned (.tuple #[.int .i64 (int64V (a - b)), .bool (fits64 (a - b))]) ∧ Chg [] w w' := by
  have P1 := fun w => wof_any w a ha0 ha1
  have P2 := fun w => wof_any w b hb0 hb1
  have P3 := fun w => wsub_any w (ofV a) (ofV b) (ofV_ok a (by omega) (by omega)) (ofV_ok b (by omega) (by omega))
  rw [ofV_val', ofV_val'] at P3
  have P4 := fun w => told_of w (a - b) (fits_of64 _ (by omega) (by omega))
  generalize addV (a - b) = s at *
  generalize fitsV (a - b) = f at *
  generalize ofV a = x at *
  generalize ofV b = y at *
  simp only [wv_cells] at *
  replace P1 := Lib.hid P1
  replace P2 := Lib.hid P2
  replace P3 := Lib.hid P3
  replace P4 := Lib.hid P4
  have C := CL.new w 0
  go_enter Try.func18, Try.ntmps18
  go_wp2_with fail
  refine (P1.out _).mono ?_; rintro e w1 ⟨rfl, hX⟩
  replace C := C.step (j := 0) hX
  clear hX
  go_wp2_with fail
  refine (P2.out _).mono ?_; rintro e w2 ⟨rfl, hX⟩
  replace C := C.step (j := 0) hX
  clear hX
  go_wp2_with fail
  refine (P3.out _).mono ?_; rintro e w3 ⟨rfl, hX⟩
  replace C := C.step (j := 0) hX
  clear hX
  go_wp2_with fail
  refine (P4.out _).mono ?_; rintro e w4 ⟨rfl, hX⟩
  replace C := C.step (j := 0) hX
  clear hX
  go_wp2_with fail
  go_returns
  exact ⟨rfl, C.x⟩
theorem prod_bd (a b : Int) (ha0 : -9223372036854775808 ≤ a) (ha1 : a ≤ 9223372036854775807) (hb0 : -9223372036854775808 ≤ b) (hb1 : b ≤ 9223372036854775807) : -85070591730234615865843651857942052864 ≤ a * b ∧ a * b ≤ 85070591730234615865843651857942052864 := by
  have := imul_bd a b 9223372036854775808 (by omega) (by omega) (by omega) (by omega) (by omega)
  omega
theorem fmul_any (w : World) (a b : Int) (ha0 : -9223372036854775808 ≤ a) (ha1 : a ≤ 9223372036854775807) (hb0 : -9223372036854775808 ≤ b) (hb1 : b ≤ 9223372036854775807) : Calls Try.prog 19 #[.int .i64 a, .int .i64 b] w fun e w' => e = .returned (.tuple #[.int .i64 (int64V (a * b)), .bool (fits64 (a * b))]) ∧ Chg [] w w' := by
  have hb := prod_bd a b ha0 ha1 hb0 hb1
  have P1 := fun w => wmul_any w a b ha0 ha1 hb0 hb1
  have P2 := fun w => told_any w (ofV (a * b)) (ofV_ok _ (by omega) (by omega)) true
  rw [ofV_val'] at P2
  simp only [if_true, Bool.true_and] at P2
  generalize ofV (a * b) = x at *
  simp only [wv_cells] at *
  replace P1 := Lib.hid P1
  replace P2 := Lib.hid P2
  have C := CL.new w 0
  go_enter Try.func19, Try.ntmps19
  go_wp2_with fail
  refine (P1.out _).mono ?_; rintro e w1 ⟨rfl, hX⟩
  replace C := C.step (j := 0) hX
  clear hX
  go_wp2_with fail
  refine (P2.out _).mono ?_; rintro e w2 ⟨rfl, hX⟩
  replace C := C.step (j := 0) hX
  clear hX
  go_wp2_with fail
  go_returns
  exact ⟨rfl, C.x⟩
def absV (a : Int) : Int := if a < 0 then -a else a
theorem fabs_any (w : World) (a : Int) (ha0 : -9223372036854775808 ≤ a) (ha1 : a ≤ 9223372036854775807) : Calls Try.prog 20 #[.int .i64 a] w fun e w' => e = .returned (.tuple #[.int .i64 (int64V (absV a)), .bool (fits64 (absV a))]) ∧ Chg [] w w' := by
  by_cases hlt : a < 0
  · rw [show absV a = -a from if_pos hlt]
    have P1 := fun w => wof_any w a ha0 ha1
    have P2 := fun w => wneg_any w (ofV a) (ofV_ok a (by omega) (by omega))
    rw [ofV_val'] at P2
    have P3 := fun w => told_of w (-a) (fits_of64 _ (by omega) (by omega))
    generalize addV (-a) = s at *
    generalize fitsV (-a) = f at *
    generalize ofV a = x at *
    simp only [wv_cells] at *
    replace P1 := Lib.hid P1
    replace P2 := Lib.hid P2
    replace P3 := Lib.hid P3
    have C := CL.new w 0
    go_enter Try.func20, Try.ntmps20
    go_wp2_with fail
    refine (P1.out _).mono ?_; rintro e w1 ⟨rfl, hX⟩
    replace C := C.step (j := 0) hX
    clear hX
    go_wp2_with fail
    refine (P2.out _).mono ?_; rintro e w2 ⟨rfl, hX⟩
    replace C := C.step (j := 0) hX
    clear hX
    go_wp2_with fail
    refine (P3.out _).mono ?_; rintro e w3 ⟨rfl, hX⟩
    replace C := C.step (j := 0) hX
    clear hX
    go_wp2_with fail
    go_returns
    exact ⟨rfl, C.x⟩
  · have hf : fits64 a = true := by unfold fits64; simp; omega
    rw [show absV a = a from if_neg hlt, hf, int64V_fits hf]
    clear hf
    go_enter Try.func20, Try.ntmps20
    go_wp2_with fail
    go_returns
    exact ⟨rfl, Chg.refl _ _⟩
def moreB (v r c mode : Int) : Bool := (mode == 1 && decide (0 < r)) || (mode == 2 && (decide (c - r < r) || (r == c - r && decide (0 ≤ v))))
theorem fmore_any (w : World) (a : WV) (ha : a.ok) (r c mode : Int) (h0 : 0 ≤ r) (h1 : r < c) (h2 : c ≤ 9223372036854775807) : Calls Try.prog 32 #[.agg a.cells, .int .i64 r, .int .i64 c, .int .i64 mode] w fun e w' => e = .returned (.bool (moreB a.val r c mode)) ∧ Chg [] w w' := by
  have P1 := fun w => wsign_any w a ha
  have hs : (0 ≤ a.val ∧ 0 ≤ cmpI a.val 0) ∨ (¬0 ≤ a.val ∧ cmpI a.val 0 < 0) := by
    unfold cmpI
    by_cases h : a.val < 0
    · right; rw [if_pos h]; omega
    · left; rw [if_neg h]; split <;> omega
  have Hm := Lib.hid (show moreB a.val r c mode = ((mode == 1 && decide (0 < r)) || (mode == 2 && (decide (c - r < r) || (r == c - r && decide (0 ≤ a.val))))) from rfl)
  generalize moreB a.val r c mode = res at *
  generalize cmpI a.val 0 = sg at *
  generalize a.val = v at *
  simp only [wv_cells] at *
  replace P1 := Lib.hid P1
  have C := (CL.new w 0).push #[.int .i64 a.hi, .int .u64 a.lo] 27
  by_cases m1 : mode = 1
  · subst m1
    have e := Hm.out
    simp at e
    clear Hm hs
    replace e := Lib.hid e
    go_enter Try.func32, Try.ntmps32
    go_wp2_with fail
    go_returns
    exact ⟨ret_bool (by rw [e.out]), C.x⟩
  · by_cases m2 : mode = 2
    · subst m2
      have e := Hm.out
      simp at e
      clear Hm m1
      by_cases g1 : c - r < r
      · simp [g1] at e
        replace e := Lib.hid e
        clear hs
        go_enter Try.func32, Try.ntmps32
        go_wp2_with fail
        go_returns
        exact ⟨ret_bool (by rw [e.out]), C.x⟩
      · by_cases g2 : r = c - r
        · have g3 : (r == c - r) = true := by simpa using g2
          have e2 : res = decide (0 ≤ v) := by
            rw [e, decide_eq_false g1, Bool.false_or, g3, Bool.true_and]
          clear e g2
          replace e2 := Lib.hid e2
          go_enter Try.func32, Try.ntmps32
          generalize hzW : w.heap.size = z at *
          have cc0 := C.cells 0 rfl
          go_wp2_with fail
          refine (P1.out _).mono ?_; rintro e w1 ⟨rfl, hX⟩
          clear cc0
          replace C := C.step (j := 0) hX
          clear hX
          rcases hs with ⟨s1, s2⟩ | ⟨s1, s2⟩
          · go_wp2_with fail
            go_returns
            exact ⟨ret_bool (by rw [e2.out, decide_eq_true s1]), C.x⟩
          · go_wp2_with fail
            go_returns
            exact ⟨ret_bool (by rw [e2.out, Bool.eq_iff_iff]; simp; omega), C.x⟩
        · have g3 : (r == c - r) = false := by simpa using g2
          have e2 : res = false := by
            rw [e, decide_eq_false g1, Bool.false_or, g3, Bool.false_and]
          clear e g2 hs
          replace e2 := Lib.hid e2
          go_enter Try.func32, Try.ntmps32
          go_wp2_with fail
          go_returns
          exact ⟨ret_bool (by rw [e2.out]), C.x⟩
    · have e : res = false := by rw [Hm.out]; simp [m1, m2]
      clear Hm hs
      replace e := Lib.hid e
      go_enter Try.func32, Try.ntmps32
      go_wp2_with fail
      go_returns
      exact ⟨ret_bool (by rw [e.out]), C.x⟩
theorem fclamp_any (w : World) (n lo hi : Int) : Calls Try.prog 25 #[.int .i64 n, .int .i64 lo, .int .i64 hi] w fun e w' => e = .returned (.int .i64 (if n < lo then lo else if hi < n then hi else n)) ∧ w = w' := by
  by_cases h1 : n < lo
  · rw [if_pos h1]
    go_enter Try.func25, Try.ntmps25
    go_wp2_with fail
    go_returns
    exact ⟨rfl, rfl⟩
  · rw [if_neg h1]
    by_cases h2 : hi < n
    · rw [if_pos h2]
      go_enter Try.func25, Try.ntmps25
      go_wp2_with fail
      go_returns
      exact ⟨rfl, rfl⟩
    · rw [if_neg h2]
      go_enter Try.func25, Try.ntmps25
      go_wp2_with fail
      go_returns
      exact ⟨rfl, rfl⟩
end Go.Proofs.Ythdjanjlpgcmoaa
