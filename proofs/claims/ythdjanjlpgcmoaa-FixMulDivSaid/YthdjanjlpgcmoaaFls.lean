/- Walk of the law FixSqrt. -/
import Derived.Test.YthdjanjlpgcmoaaFaw
import Derived.Test.YthdjanjlpgcmoaaFrt
namespace Go.Proofs.Ythdjanjlpgcmoaa
open Go.RowKit

theorem cmpV_le' {a b : WV} (h : a.val ≤ b.val) : cmpV a b ≤ 0 := by
  unfold cmpV cmpI
  split
  · omega
  · rw [if_neg (by omega)]; omega
theorem cmpV_gt' {a b : WV} (h : b.val < a.val) : 0 < cmpV a b := by
  unfold cmpV cmpI
  rw [if_neg (by omega), if_pos h]
  omega
theorem cmpV_ge' {a b : WV} (h : b.val ≤ a.val) : 0 ≤ cmpV a b := by
  unfold cmpV cmpI
  rw [if_neg (by omega)]
  split <;> omega
theorem root_bd (n : Int) (h0 : 0 ≤ n) (h1 : n ≤ 9223372036854775807) : rootV n ≤ 3037000499 := by
  obtain ⟨g0, g1, g2⟩ := rootV_spec n h0
  apply Classical.byContradiction
  intro hh
  have := sq_le 3037000500 (rootV n) (by omega) (by omega)
  omega
set_option maxHeartbeats 2000000 in
theorem FixSqrt_walk (W : World) (n : Int) (w0 : (Lit.int .i64 n).wf = true) :
    Calls Try.prog 7 #[.int .i64 n] W fun e w' => e = .returned (.bool true) ∧ Below W.heap.size W w' := by
  obtain ⟨h0, h1⟩ := bounds_i64 w0
  have P1 := fun w => fsqrt_any w n h0 h1
  clear w0
  by_cases hn : 0 ≤ n
  · rw [if_pos hn, decide_eq_true hn] at P1
    obtain ⟨g0, g1, g2⟩ := rootV_spec n hn
    have g3 := root_bd n hn h1
    have R1 := fun w => rof_any w n h0 h1
    have R2 := fun w => rroot_any w (ofV n) (ofV_ok n (by omega) (by omega)) (by rw [ofV_val']; omega) (by rw [ofV_val']; omega)
    rw [ofV_val'] at R2
    have R3 := fun w => wof_any w n h0 h1
    have b1 := imul_bd (rootV n) (rootV n) 3037000500 (by omega) (by omega) (by omega) (by omega) (by omega)
    have b2 := imul_bd (rootV n + 1) (rootV n + 1) 3037000500 (by omega) (by omega) (by omega) (by omega) (by omega)
    have M1 := fun w => wmul_any w (rootV n) (rootV n) (by omega) (by omega) (by omega) (by omega)
    have M2 := fun w => wmul_any w (rootV n + 1) (rootV n + 1) (by omega) (by omega) (by omega) (by omega)
    have N1 := fun w => wcmp_any w (ofV (rootV n * rootV n)) (ofV n) (ofV_ok _ (by omega) (by omega)) (ofV_ok _ (by omega) (by omega))
    have N2 := fun w => wcmp_any w (ofV ((rootV n + 1) * (rootV n + 1))) (ofV n) (ofV_ok _ (by omega) (by omega)) (ofV_ok _ (by omega) (by omega))
    have q1 : cmpV (ofV (rootV n * rootV n)) (ofV n) ≤ 0 := cmpV_le' (by rw [ofV_val', ofV_val']; exact g1)
    have q2 : 0 < cmpV (ofV ((rootV n + 1) * (rootV n + 1))) (ofV n) := cmpV_gt' (by rw [ofV_val', ofV_val']; exact g2)
    generalize cmpV (ofV (rootV n * rootV n)) (ofV n) = y1 at *
    generalize cmpV (ofV ((rootV n + 1) * (rootV n + 1))) (ofV n) = y2 at *
    generalize ofV (rootV n * rootV n) = x1 at *
    generalize ofV ((rootV n + 1) * (rootV n + 1)) = x2 at *
    generalize ofV n = o at *
    generalize rootV n = r at *
    simp only [wv_cells] at *
    clear b1 b2 g1 g2
    replace P1 := Lib.hid P1
    replace R1 := Lib.hid R1
    replace R2 := Lib.hid R2
    replace R3 := Lib.hid R3
    replace M1 := Lib.hid M1
    replace M2 := Lib.hid M2
    replace N1 := Lib.hid N1
    replace N2 := Lib.hid N2
    have C := CL.new W 0
    go_enter Try.func7, Try.ntmps7
    go_wp2_with fail
    refine (P1.out _).mono ?_; rintro e w1 ⟨rfl, hX⟩
    replace C := C.step (j := 0) hX
    clear hX
    go_wp2_with fail
    refine (awake02 _).mono ?_; rintro e w2 ⟨rfl, hX⟩
    replace C := C.step (j := 0) hX
    clear hX
    go_wp2_with fail
    refine (R1.out _).mono ?_; rintro e w3 ⟨rfl, hX⟩
    replace C := C.step (j := 0) hX
    clear hX
    go_wp2_with fail
    refine (R2.out _).mono ?_; rintro e w4 ⟨rfl, hX⟩
    replace C := C.step (j := 0) hX
    clear hX
    go_wp2_with fail
    refine (M1.out _).mono ?_; rintro e w5 ⟨rfl, hX⟩
    replace C := C.step (j := 0) hX
    clear hX
    go_wp2_with fail
    refine (R3.out _).mono ?_; rintro e w6 ⟨rfl, hX⟩
    replace C := C.step (j := 0) hX
    clear hX
    go_wp2_with fail
    refine (N1.out _).mono ?_; rintro e w7 ⟨rfl, hX⟩
    replace C := C.step (j := 0) hX
    clear hX
    go_wp2_with fail
    refine (M2.out _).mono ?_; rintro e w8 ⟨rfl, hX⟩
    replace C := C.step (j := 0) hX
    clear hX
    go_wp2_with fail
    refine (R3.out _).mono ?_; rintro e w9 ⟨rfl, hX⟩
    replace C := C.step (j := 0) hX
    clear hX
    go_wp2_with fail
    refine (N2.out _).mono ?_; rintro e w10 ⟨rfl, hX⟩
    replace C := C.step (j := 0) hX
    clear hX
    go_wp2_with fail
    go_returns
    exact ⟨rfl, C.x.to_below⟩
  · rw [if_neg hn, decide_eq_false hn] at P1
    replace P1 := Lib.hid P1
    have C := CL.new W 0
    go_enter Try.func7, Try.ntmps7
    go_wp2_with fail
    refine (P1.out _).mono ?_; rintro e w1 ⟨rfl, hX⟩
    replace C := C.step (j := 0) hX
    clear hX
    go_wp2_with fail
    refine (awake02 _).mono ?_; rintro e w2 ⟨rfl, hX⟩
    replace C := C.step (j := 0) hX
    clear hX
    go_wp2_with fail
    go_returns
    exact ⟨rfl, C.x.to_below⟩
end Go.Proofs.Ythdjanjlpgcmoaa
