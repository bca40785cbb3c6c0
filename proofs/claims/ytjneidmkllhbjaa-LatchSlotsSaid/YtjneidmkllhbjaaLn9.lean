/- The law LatchNil. -/
import Derived.Test.YtjneidmkllhbjaaLaw
import Derived.Test.YtjneidmkllhbjaaSh
namespace Go.Proofs.Ytjneidmkllhbjaa
open Go.RowKit

abbrev shRc : Sh := .prod (.int .i64) (.prod (.int .i64) (.prod (.int .i64) (.prod (.int .i64) (.prod (.int .i64) (.prod (.int .i64) (.prod (.int .i64) (.prod (.int .i64) (.prod (.int .i64) .unit))))))))
def toRc (x : shRc.T) : RcV := ⟨x.1, x.2.1, x.2.2.1, x.2.2.2.1, x.2.2.2.2.1, x.2.2.2.2.2.1, x.2.2.2.2.2.2.1, x.2.2.2.2.2.2.2.1, x.2.2.2.2.2.2.2.2.1⟩
def in64 (x : Int) : Prop := -9223372036854775808 ≤ x ∧ x ≤ 9223372036854775807
def RcV.wf (r : RcV) : Prop := in64 r.seq ∧ in64 r.cyc ∧ in64 r.ph ∧ in64 r.st ∧ in64 r.fl ∧ in64 r.vi ∧ in64 r.di ∧ in64 r.inv ∧ in64 r.inph
theorem rc_of {W : World} {x : shRc.T} {c : Array Value} (h : shRc.rep W x c.toList) : c = (toRc x).cells ∧ (toRc x).wf := by
  obtain ⟨a1, b1, e1, _, ⟨rfl, h1⟩, a2, b2, rfl, _, ⟨rfl, h2⟩, a3, b3, rfl, _, ⟨rfl, h3⟩, a4, b4, rfl, _, ⟨rfl, h4⟩, a5, b5, rfl, _, ⟨rfl, h5⟩, a6, b6, rfl, _, ⟨rfl, h6⟩, a7, b7, rfl, _, ⟨rfl, h7⟩, a8, b8, rfl, _, ⟨rfl, h8⟩, a9, b9, rfl, _, ⟨rfl, h9⟩, rfl⟩ := h
  refine ⟨?_, bounds_i64 h1, bounds_i64 h2, bounds_i64 h3, bounds_i64 h4, bounds_i64 h5, bounds_i64 h6, bounds_i64 h7, bounds_i64 h8, bounds_i64 h9⟩
  apply Array.toList_inj.1
  rw [e1]
  rfl

set_option maxRecDepth 100000 in
set_option maxHeartbeats 4000000 in
theorem LatchNil_walk (W : World) (c0 : Array Value) (x0 : shRc.T) (h0 : shRc.rep W x0 c0.toList) (base : Int) (w1 : (Lit.int .i64 base).wf = true) :
    Calls Try.prog 6 #[.agg c0, .int .i64 base] W fun e w' => e = .returned (.bool true) ∧ Below W.heap.size W w' := by
  obtain ⟨rfl, -⟩ := rc_of h0
  have hb := bounds_i64 w1
  clear h0 w1
  generalize toRc x0 = q at *
  have HS := fun w => lsave_nil w q
  have C := (CL.new W 0).push q.cells 23
  rw [show q.cells = #[.int .i64 q.seq, .int .i64 q.cyc, .int .i64 q.ph, .int .i64 q.st, .int .i64 q.fl, .int .i64 q.vi, .int .i64 q.di, .int .i64 q.inv, .int .i64 q.inph] from rfl] at *
  by_cases h1 : base < 0
  · have g1 : decide (0 ≤ base) = false := decide_eq_false (by omega)
    have g1' : ¬ (0 ≤ base) := by omega
    go_enter Try.func6, Try.ntmps6
    go_upto_region 2 with fail
    generalize hz : W.heap.size = z at *
    have hzW : W.heap.size ≤ z := by omega
    generalize W.alloc (.cells #[.int .i64 q.seq, .int .i64 q.cyc, .int .i64 q.ph, .int .i64 q.st, .int .i64 q.fl, .int .i64 q.vi, .int .i64 q.di, .int .i64 q.inv, .int .i64 q.inph] 23) = w0 at *
    have HN := fl_new w0 50 (by omega) (by omega)
    rw [show ((50 : Nat) : Int) = 50 from rfl] at HN
    go_wp2_with fail
    refine HN.mono ?_; clear HN; rintro e w1 ⟨f, r, c, rfl, hf, hr, hc, hF, hX1⟩
    replace C := C.step (j := 0) hX1
    clear hX1
    go_wp2_with fail
    refine (lopen_range w1 f r c _ hF rfl (by show (rep 50).size ≤ 4096; rw [rep_size]; omega) base (.inl h1)).mono ?_; rintro e w2 ⟨rfl, hX2⟩
    replace C := C.step (j := 0) hX2
    clear hX2
    go_wp2_with fail
    refine (llast_nil _).mono ?_; rintro e w3 ⟨rfl, hX3⟩
    replace C := C.step (j := 0) hX3
    clear hX3
    go_wp2_with (refine wpList_put rfl rfl rfl rfl (At.new _ _ _) rfl (by kernel_rfl) (by simp [Value.oneCell', RcV.zero, RcV.cells]) ?_; intro w4 hz4 hX4; refine Hid.out ?_)
    refine Lib.hid ?_
    replace C := C.fill hX4 hz4
    clear hX4 hz4
    generalize w3.heap.size = z4 at *
    go_wp2_with fail
    refine (awake09 _).mono ?_; rintro e w5 ⟨rfl, hX5⟩
    replace C := C.step (j := 0) hX5
    clear hX5
    have cc := (C.get 1 rfl).cell
    dsimp only at cc
    have c0 := cc 0
    have c1 := cc 1
    have c2 := cc 2
    have c3 := cc 3
    have c4 := cc 4
    have c5 := cc 5
    have c6 := cc 6
    have c7 := cc 7
    have c8 := cc 8
    clear cc
    go_wp2_with fail
    refine (HS _).mono ?_; rintro e w6 ⟨rfl, hX6⟩
    go_wp2
    go_returns
    exact ⟨rfl, (C.x.trans hX6).to_below⟩
  · have k1 : 0 ≤ base := by omega
    by_cases h2 : base ≤ 2
    · clear h1
      go_enter Try.func6, Try.ntmps6
      go_upto_region 2 with fail
      generalize hz : W.heap.size = z at *
      have hzW : W.heap.size ≤ z := by omega
      generalize W.alloc (.cells #[.int .i64 q.seq, .int .i64 q.cyc, .int .i64 q.ph, .int .i64 q.st, .int .i64 q.fl, .int .i64 q.vi, .int .i64 q.di, .int .i64 q.inv, .int .i64 q.inph] 23) = w0 at *
      have HN := fl_new w0 50 (by omega) (by omega)
      rw [show ((50 : Nat) : Int) = 50 from rfl] at HN
      go_wp2_with fail
      refine HN.mono ?_; clear HN; rintro e w1 ⟨f, r, c, rfl, hf, hr, hc, hF, hX1⟩
      replace C := C.step (j := 0) hX1
      clear hX1
      go_wp2_with fail
      obtain ⟨nb, rfl⟩ : ∃ nb : Nat, base = nb := ⟨base.toNat, by omega⟩
      have HO := lopen_ok w1 f r c _ hF rfl (by show (rep 50).size ≤ 4096; rw [rep_size]; omega) nb (by show nb + 48 ≤ (rep 50).size; rw [rep_size]; omega)
      refine HO.mono ?_; clear HO; rintro e w2 ⟨y, rfl, _, hX2, _⟩
      replace C := C.step (j := 0) hX2
      clear hX2
      go_wp2_with fail
      refine (llast_nil _).mono ?_; rintro e w3 ⟨rfl, hX3⟩
      replace C := C.step (j := 0) hX3
      clear hX3
      go_wp2_with (refine wpList_put rfl rfl rfl rfl (At.new _ _ _) rfl (by kernel_rfl) (by simp [Value.oneCell', RcV.zero, RcV.cells]) ?_; intro w4 hz4 hX4; refine Hid.out ?_)
      refine Lib.hid ?_
      replace C := C.fill hX4 hz4
      clear hX4 hz4
      generalize w3.heap.size = z4 at *
      go_wp2_with fail
      refine (awake09 _).mono ?_; rintro e w5 ⟨rfl, hX5⟩
      replace C := C.step (j := 0) hX5
      clear hX5
      have cc := (C.get 1 rfl).cell
      dsimp only at cc
      have c0 := cc 0
      have c1 := cc 1
      have c2 := cc 2
      have c3 := cc 3
      have c4 := cc 4
      have c5 := cc 5
      have c6 := cc 6
      have c7 := cc 7
      have c8 := cc 8
      clear cc
      go_wp2_with fail
      refine (HS _).mono ?_; rintro e w6 ⟨rfl, hX6⟩
      go_wp2
      go_returns
      exact ⟨rfl, (C.x.trans hX6).to_below⟩
    · have g2 : 2 < base := by omega
      clear h1 h2
      go_enter Try.func6, Try.ntmps6
      go_upto_region 2 with fail
      generalize hz : W.heap.size = z at *
      have hzW : W.heap.size ≤ z := by omega
      generalize W.alloc (.cells #[.int .i64 q.seq, .int .i64 q.cyc, .int .i64 q.ph, .int .i64 q.st, .int .i64 q.fl, .int .i64 q.vi, .int .i64 q.di, .int .i64 q.inv, .int .i64 q.inph] 23) = w0 at *
      have HN := fl_new w0 50 (by omega) (by omega)
      rw [show ((50 : Nat) : Int) = 50 from rfl] at HN
      go_wp2_with fail
      refine HN.mono ?_; clear HN; rintro e w1 ⟨f, r, c, rfl, hf, hr, hc, hF, hX1⟩
      replace C := C.step (j := 0) hX1
      clear hX1
      go_wp2_with fail
      refine (lopen_range w1 f r c _ hF rfl (by show (rep 50).size ≤ 4096; rw [rep_size]; omega) base (.inr (by show ((rep 50).size : Int) - 48 < base; rw [rep_size]; omega))).mono ?_; rintro e w2 ⟨rfl, hX2⟩
      replace C := C.step (j := 0) hX2
      clear hX2
      go_wp2_with fail
      refine (llast_nil _).mono ?_; rintro e w3 ⟨rfl, hX3⟩
      replace C := C.step (j := 0) hX3
      clear hX3
      go_wp2_with (refine wpList_put rfl rfl rfl rfl (At.new _ _ _) rfl (by kernel_rfl) (by simp [Value.oneCell', RcV.zero, RcV.cells]) ?_; intro w4 hz4 hX4; refine Hid.out ?_)
      refine Lib.hid ?_
      replace C := C.fill hX4 hz4
      clear hX4 hz4
      generalize w3.heap.size = z4 at *
      go_wp2_with fail
      refine (awake09 _).mono ?_; rintro e w5 ⟨rfl, hX5⟩
      replace C := C.step (j := 0) hX5
      clear hX5
      have cc := (C.get 1 rfl).cell
      dsimp only at cc
      have c0 := cc 0
      have c1 := cc 1
      have c2 := cc 2
      have c3 := cc 3
      have c4 := cc 4
      have c5 := cc 5
      have c6 := cc 6
      have c7 := cc 7
      have c8 := cc 8
      clear cc
      go_wp2_with fail
      refine (HS _).mono ?_; rintro e w6 ⟨rfl, hX6⟩
      go_wp2
      go_returns
      exact ⟨ret_bool (by simp; omega), (C.x.trans hX6).to_below⟩
end Go.Proofs.Ytjneidmkllhbjaa
