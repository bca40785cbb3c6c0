/- Walk of the law FlashNil: a flash that is none keeps nothing. -/
import Derived.Test.YtfabbafmbifkiaaL08
namespace Go.Proofs.Ytfabbafmbifkiaa
open Go.RowKit

abbrev shOp : Sh := .prod (.int .i64) (.prod (.int .i64) (.prod (.int .i64) (.prod .str .unit)))
theorem op_of {W : World} {x : shOp.T} {c : Array Value} (h : shOp.rep W x c.toList) : ∃ (k a n : Int) (s : ByteArray), c = #[.int .i64 k, .int .i64 a, .int .i64 n, .string s] ∧ s.size ≤ maxLen := by
  obtain ⟨a1, b1, e1, _, ⟨rfl, h1⟩, a2, b2, rfl, _, ⟨rfl, h2⟩, a3, b3, rfl, _, ⟨rfl, h3⟩, a4, b4, rfl, _, ⟨rfl, h4⟩, rfl⟩ := h
  exact ⟨_, _, _, _, Array.toList_inj.1 (by rw [e1]; rfl), h4⟩

set_option maxRecDepth 100000 in
set_option maxHeartbeats 1000000 in
theorem FlashNil_walk (W : World) (c : Array Value) (x : shOp.T) (h : shOp.rep W x c.toList) :
    Calls Try.prog 5 #[.agg c] W fun e w' => e = .returned (.bool true) ∧ Below W.heap.size W w' := by
  obtain ⟨k, a, n, s, rfl, hs⟩ := op_of h
  clear h
  unfold maxLen at hs
  have hA0 := At.new W #[.int .i64 k, .int .i64 a, .int .i64 n, .string s] 36
  have hA := hA0.alloc (.cells #[.int .i64 k, .int .i64 a, .int .i64 n, .string s] 36)
  have hB := At.new (W.alloc (.cells #[.int .i64 k, .int .i64 a, .int .i64 n, .string s] 36)) #[.int .i64 k, .int .i64 a, .int .i64 n, .string s] 36
  rw [show (W.alloc (.cells #[.int .i64 k, .int .i64 a, .int .i64 n, .string s] 36)).heap.size = W.heap.size + 1 by simp] at hB
  have hX : Chg [] W ((W.alloc (.cells #[.int .i64 k, .int .i64 a, .int .i64 n, .string s] 36)).alloc (.cells #[.int .i64 k, .int .i64 a, .int .i64 n, .string s] 36)) := ((Chg.refl _ _).alloc _).alloc _
  have c0 := hA0.cell 0
  have c1 := hA0.cell 1
  have c2 := hA0.cell 2
  have c3 := hA0.cell 3
  go_enter Try.func5, Try.ntmps5
  go_wp2_with fail
  have HF := few_one _ _ k a n s (by omega) hB
  refine HF.mono ?_; clear HF; rintro e w1 ⟨rfl, hX1⟩
  replace hA := hX1.at hA (by simp)
  replace hX := hX.trans hX1
  clear hX1 hB hA0 c0 c1 c2 c3
  by_cases h2 : s.size ≤ 200
  · have c1 := hA.cell 1
    have c2 := hA.cell 2
    have c3 := hA.cell 3
    go_wp2_with (first
      | (go_at_call 10; (with_reducible refine (nil_tear _ n).mono ?_); rintro e w' ⟨rfl, rfl⟩)
      | (go_at_call 12; (with_reducible refine (nil_up _).mono ?_); rintro e w' ⟨rfl, rfl⟩)
      | (go_at_call 13; (with_reducible refine (nil_read _ a n).mono ?_); rintro e w' ⟨rfl, rfl⟩))
    refine (awake08 _).mono ?_; rintro e w2 ⟨rfl, hX2⟩
    replace hA := hX2.at hA (by simp)
    replace hX := hX.trans hX2
    clear hX2 c1 c2 c3
    have c1 := hA.cell 1
    have c3 := hA.cell 3
    go_wp2_with (first
      | (go_at_call 9; (with_reducible refine (nil_write _ a s).mono ?_); rintro e w' ⟨rfl, rfl⟩)
      | (go_at_call 11; (with_reducible refine (nil_down _).mono ?_); rintro e w' ⟨rfl, rfl⟩)
      | (go_at_call 14; (with_reducible refine (nil_size _).mono ?_); rintro e w' ⟨rfl, rfl⟩)
      | (go_at_call 15; (with_reducible refine (nil_writes _).mono ?_); rintro e w' ⟨rfl, rfl⟩))
    go_returns
    exact ⟨rfl, Chg.to_below hX⟩
  · go_wp2_with fail
    refine (awake08 _).mono ?_; rintro e w2 ⟨rfl, hX2⟩
    go_wp2
    go_returns
    exact ⟨rfl, Chg.to_below (hX.trans hX2)⟩
end Go.Proofs.Ytfabbafmbifkiaa
