/- Walk of the law WideGroup. -/
import Derived.Test.YtlhnnfofdkjapaaWla
namespace Go.Proofs.Ytlhnnfofdkjapaa
open Go.RowKit

theorem fits_val (a : WV) (h : a.ok) : fitsV a.val = true := by
  rw [fitsV_iff]
  obtain ⟨hi, lo⟩ := a
  have h0 : -9223372036854775808 ≤ hi := h.h0
  have h1 : hi ≤ 9223372036854775807 := h.h1
  have h2 : 0 ≤ lo := h.l0
  have h3 : lo ≤ 18446744073709551615 := h.l1
  unfold WV.val
  simp only
  omega
theorem addV_of (a : WV) (h : a.ok) : addV a.val = a := by
  unfold addV
  rw [if_pos (fits_val a h), ofV_val a h]
set_option maxRecDepth 100000 in
set_option maxHeartbeats 4000000 in
theorem WideGroup_walk (W : World) (c1 : Array Value) (x1 : shWV.T) (h1 : shWV.rep W x1 c1.toList) (c2 : Array Value) (x2 : shWV.T) (h2 : shWV.rep W x2 c2.toList) (c3 : Array Value) (x3 : shWV.T) (h3 : shWV.rep W x3 c3.toList) :
    Calls Try.prog 7 #[.agg c1, .agg c2, .agg c3] W fun e w' => e = .returned (.bool true) ∧ Below W.heap.size W w' := by
  obtain ⟨rfl, ha⟩ := wv_of h1
  obtain ⟨rfl, hb⟩ := wv_of h2
  obtain ⟨rfl, hc⟩ := wv_of h3
  clear h1 h2 h3
  generalize toWV x1 = a at *
  generalize toWV x2 = b at *
  generalize toWV x3 = c at *
  have P1 := fun w => wadd_any w a b ha hb
  have P2 := fun w => wadd_any w b a hb ha
  rw [show b.val + a.val = a.val + b.val from Int.add_comm _ _] at P2
  have P3 := fun w => wadd_any w (addV (a.val + b.val)) c (addV_ok _) hc
  have P4 := fun w => wadd_any w b c hb hc
  have P5 := fun w => wadd_any w a (addV (b.val + c.val)) ha (addV_ok _)
  have P6 := fun w => wsub_any w (addV (a.val + b.val)) b (addV_ok _) hb
  have HB : fitsV (a.val + b.val) = true → (∀ w, Calls Try.prog 21 #[.agg (addV (a.val + b.val)).cells, .agg b.cells] w fun e w' => e = .returned (.tuple #[.agg a.cells, .bool true]) ∧ Chg [] w w') ∧
      (fitsV ((addV (a.val + b.val)).val + c.val) = true → fitsV (b.val + c.val) = true → fitsV (a.val + (addV (b.val + c.val)).val) = true → addV ((addV (a.val + b.val)).val + c.val) = addV (a.val + (addV (b.val + c.val)).val)) := by
    intro h
    have e := addV_val _ h
    rw [e, show a.val + b.val - b.val = a.val by omega, addV_of a ha, fits_val a ha] at P6
    refine ⟨P6, fun _ g _ => ?_⟩
    rw [e, addV_val _ g, show a.val + b.val + c.val = a.val + (b.val + c.val) by omega]
  clear P6
  generalize addV ((addV (a.val + b.val)).val + c.val) = U at *
  generalize addV (a.val + (addV (b.val + c.val)).val) = V at *
  generalize fitsV ((addV (a.val + b.val)).val + c.val) = r at *
  generalize fitsV (a.val + (addV (b.val + c.val)).val) = t at *
  generalize addV (a.val + b.val) = X at *
  generalize addV (b.val + c.val) = Z at *
  generalize fitsV (a.val + b.val) = p at *
  generalize fitsV (b.val + c.val) = s at *
  replace HB := Lib.hid HB
  clear ha hb hc
  rw [show a.cells = #[.int .i64 a.hi, .int .u64 a.lo] from rfl] at *
  rw [show b.cells = #[.int .i64 b.hi, .int .u64 b.lo] from rfl] at *
  rw [show c.cells = #[.int .i64 c.hi, .int .u64 c.lo] from rfl] at *
  rw [show X.cells = #[.int .i64 X.hi, .int .u64 X.lo] from rfl] at *
  rw [show Z.cells = #[.int .i64 Z.hi, .int .u64 Z.lo] from rfl] at *
  rw [show U.cells = #[.int .i64 U.hi, .int .u64 U.lo] from rfl] at *
  rw [show V.cells = #[.int .i64 V.hi, .int .u64 V.lo] from rfl] at *
  replace P1 := Lib.hid P1
  replace P2 := Lib.hid P2
  replace P3 := Lib.hid P3
  replace P4 := Lib.hid P4
  replace P5 := Lib.hid P5
  have C := (((CL.new W 0).push #[.int .i64 a.hi, .int .u64 a.lo] 24).push #[.int .i64 b.hi, .int .u64 b.lo] 24).push #[.int .i64 c.hi, .int .u64 c.lo] 24
  rw [show (W.alloc (.cells #[.int .i64 a.hi, .int .u64 a.lo] 24)).heap.size = W.heap.size + 1 from by simp, show ((W.alloc (.cells #[.int .i64 a.hi, .int .u64 a.lo] 24)).alloc (.cells #[.int .i64 b.hi, .int .u64 b.lo] 24)).heap.size = W.heap.size + 1 + 1 from by simp] at C
  go_enter Try.func7, Try.ntmps7
  generalize hzW : W.heap.size = z at *
  have cc0 := C.cells 0 rfl
  have cc1 := C.cells 1 rfl
  have cc2 := C.cells 2 rfl
  go_wp2_with fail
  refine (P1.out _).mono ?_; rintro e w1 ⟨rfl, hX⟩
  clear cc0 cc1 cc2
  replace C := (C.step (j := 0) hX).push #[.int .i64 X.hi, .int .u64 X.lo] 24
  clear hX
  generalize hz1 : w1.heap.size = z1 at *
  have cc0 := C.cells 0 rfl
  have cc1 := C.cells 1 rfl
  have cc2 := C.cells 2 rfl
  have cc3 := C.cells 3 rfl
  go_wp2_with fail
  refine (P2.out _).mono ?_; rintro e w2 ⟨rfl, hX⟩
  clear cc0 cc1 cc2 cc3
  replace C := (C.step (j := 0) hX).push #[.int .i64 X.hi, .int .u64 X.lo] 24
  clear hX
  generalize hz2 : w2.heap.size = z2 at *
  have cc0 := C.cells 0 rfl
  have cc1 := C.cells 1 rfl
  have cc2 := C.cells 2 rfl
  have cc3 := C.cells 3 rfl
  have cc4 := C.cells 4 rfl
  go_wp2_with fail
  refine (awake01 _).mono ?_; rintro e w3 ⟨rfl, hX⟩
  clear cc0 cc1 cc2 cc3 cc4
  replace C := C.step (j := 0) hX
  clear hX
  cases p
  · clear HB
    have cc0 := C.cells 0 rfl
    have cc1 := C.cells 1 rfl
    have cc2 := C.cells 2 rfl
    have cc3 := C.cells 3 rfl
    have cc4 := C.cells 4 rfl
    go_wp2_with fail
    refine (P3.out _).mono ?_; rintro e w4 ⟨rfl, hX⟩
    clear cc0 cc1 cc2 cc3 cc4
    replace C := (C.step (j := 0) hX).push #[.int .i64 U.hi, .int .u64 U.lo] 24
    clear hX
    generalize hz4 : w4.heap.size = z4 at *
    have cc0 := C.cells 0 rfl
    have cc1 := C.cells 1 rfl
    have cc2 := C.cells 2 rfl
    have cc3 := C.cells 3 rfl
    have cc4 := C.cells 4 rfl
    have cc5 := C.cells 5 rfl
    go_wp2_with fail
    refine (P4.out _).mono ?_; rintro e w5 ⟨rfl, hX⟩
    clear cc0 cc1 cc2 cc3 cc4 cc5
    replace C := (C.step (j := 0) hX).push #[.int .i64 Z.hi, .int .u64 Z.lo] 24
    clear hX
    generalize hz5 : w5.heap.size = z5 at *
    have cc0 := C.cells 0 rfl
    have cc1 := C.cells 1 rfl
    have cc2 := C.cells 2 rfl
    have cc3 := C.cells 3 rfl
    have cc4 := C.cells 4 rfl
    have cc5 := C.cells 5 rfl
    have cc6 := C.cells 6 rfl
    go_wp2_with fail
    refine (P5.out _).mono ?_; rintro e w6 ⟨rfl, hX⟩
    clear cc0 cc1 cc2 cc3 cc4 cc5 cc6
    replace C := (C.step (j := 0) hX).push #[.int .i64 V.hi, .int .u64 V.lo] 24
    clear hX
    generalize hz6 : w6.heap.size = z6 at *
    have cc0 := C.cells 0 rfl
    have cc1 := C.cells 1 rfl
    have cc2 := C.cells 2 rfl
    have cc3 := C.cells 3 rfl
    have cc4 := C.cells 4 rfl
    have cc5 := C.cells 5 rfl
    have cc6 := C.cells 6 rfl
    have cc7 := C.cells 7 rfl
    go_wp2_with fail
    go_returns
    exact ⟨rfl, hzW ▸ C.x.to_below⟩
  · obtain ⟨HB1, HU0⟩ := HB.out rfl
    clear HB
    have HU := Lib.hid HU0
    clear HU0
    replace HB1 := Lib.hid HB1
    have cc0 := C.cells 0 rfl
    have cc1 := C.cells 1 rfl
    have cc2 := C.cells 2 rfl
    have cc3 := C.cells 3 rfl
    have cc4 := C.cells 4 rfl
    go_wp2_with fail
    refine (HB1.out _).mono ?_; rintro e w4 ⟨rfl, hX⟩
    clear cc0 cc1 cc2 cc3 cc4
    replace C := (C.step (j := 0) hX).push #[.int .i64 a.hi, .int .u64 a.lo] 24
    clear hX
    generalize hz4 : w4.heap.size = z4 at *
    have cc0 := C.cells 0 rfl
    have cc1 := C.cells 1 rfl
    have cc2 := C.cells 2 rfl
    have cc3 := C.cells 3 rfl
    have cc4 := C.cells 4 rfl
    have cc5 := C.cells 5 rfl
    go_wp2_with fail
    refine (P3.out _).mono ?_; rintro e w5 ⟨rfl, hX⟩
    clear cc0 cc1 cc2 cc3 cc4 cc5
    replace C := (C.step (j := 0) hX).push #[.int .i64 U.hi, .int .u64 U.lo] 24
    clear hX
    generalize hz5 : w5.heap.size = z5 at *
    have cc0 := C.cells 0 rfl
    have cc1 := C.cells 1 rfl
    have cc2 := C.cells 2 rfl
    have cc3 := C.cells 3 rfl
    have cc4 := C.cells 4 rfl
    have cc5 := C.cells 5 rfl
    have cc6 := C.cells 6 rfl
    go_wp2_with fail
    refine (P4.out _).mono ?_; rintro e w6 ⟨rfl, hX⟩
    clear cc0 cc1 cc2 cc3 cc4 cc5 cc6
    replace C := (C.step (j := 0) hX).push #[.int .i64 Z.hi, .int .u64 Z.lo] 24
    clear hX
    generalize hz6 : w6.heap.size = z6 at *
    have cc0 := C.cells 0 rfl
    have cc1 := C.cells 1 rfl
    have cc2 := C.cells 2 rfl
    have cc3 := C.cells 3 rfl
    have cc4 := C.cells 4 rfl
    have cc5 := C.cells 5 rfl
    have cc6 := C.cells 6 rfl
    have cc7 := C.cells 7 rfl
    go_wp2_with fail
    refine (P5.out _).mono ?_; rintro e w7 ⟨rfl, hX⟩
    clear cc0 cc1 cc2 cc3 cc4 cc5 cc6 cc7
    replace C := (C.step (j := 0) hX).push #[.int .i64 V.hi, .int .u64 V.lo] 24
    clear hX
    generalize hz7 : w7.heap.size = z7 at *
    clear P1 P2 P3 P4 P5 HB1
    cases r
    · have cc0 := C.cells 0 rfl
      have cc1 := C.cells 1 rfl
      have cc2 := C.cells 2 rfl
      have cc3 := C.cells 3 rfl
      have cc4 := C.cells 4 rfl
      have cc5 := C.cells 5 rfl
      have cc6 := C.cells 6 rfl
      have cc7 := C.cells 7 rfl
      have cc8 := C.cells 8 rfl
      go_wp2_with fail
      go_returns
      exact ⟨rfl, hzW ▸ C.x.to_below⟩
    · cases s
      · have cc0 := C.cells 0 rfl
        have cc1 := C.cells 1 rfl
        have cc2 := C.cells 2 rfl
        have cc3 := C.cells 3 rfl
        have cc4 := C.cells 4 rfl
        have cc5 := C.cells 5 rfl
        have cc6 := C.cells 6 rfl
        have cc7 := C.cells 7 rfl
        have cc8 := C.cells 8 rfl
        go_wp2_with fail
        go_returns
        exact ⟨rfl, hzW ▸ C.x.to_below⟩
      · cases t
        · have cc0 := C.cells 0 rfl
          have cc1 := C.cells 1 rfl
          have cc2 := C.cells 2 rfl
          have cc3 := C.cells 3 rfl
          have cc4 := C.cells 4 rfl
          have cc5 := C.cells 5 rfl
          have cc6 := C.cells 6 rfl
          have cc7 := C.cells 7 rfl
          have cc8 := C.cells 8 rfl
          go_wp2_with fail
          go_returns
          exact ⟨rfl, hzW ▸ C.x.to_below⟩
        · obtain rfl := HU.out rfl rfl rfl
          clear HU
          have cc0 := C.cells 0 rfl
          have cc1 := C.cells 1 rfl
          have cc2 := C.cells 2 rfl
          have cc3 := C.cells 3 rfl
          have cc4 := C.cells 4 rfl
          have cc5 := C.cells 5 rfl
          have cc6 := C.cells 6 rfl
          have cc7 := C.cells 7 rfl
          have cc8 := C.cells 8 rfl
          go_wp2_with fail
          go_returns
          exact ⟨rfl, hzW ▸ C.x.to_below⟩
end Go.Proofs.Ytlhnnfofdkjapaa
