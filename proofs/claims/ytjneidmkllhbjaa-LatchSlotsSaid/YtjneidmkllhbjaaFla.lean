/- Package flash: New, ready, Write, Read, Tear, Up, Down, Size, Writes. -/
import Derived.Test.YtjneidmkllhbjaaRep2
import Derived.Test.YtjneidmkllhbjaaCount
import Derived.Laws.Slices
namespace Go.Proofs.Ytjneidmkllhbjaa
open Go.RowKit

structure FL where (B : ByteArray) (tears : Bool) (tear : Int) (off : Bool) (wr : Int)
structure FlA (w : World) (f r c : Nat) (s : FL) : Prop where
  at_ : At w f #[.slice (some ⟨r, 0, none⟩) s.B.size s.B.size, .bool s.tears, .int .i64 s.tear, .bool s.off, .pointer (some ⟨c, 0, none⟩)]
  row : Fr w r s.B
  ctr : Ctr w c s.wr 1000000
  fr : f ≠ r
  fc : f ≠ c
  rc : r ≠ c
theorem FlA.keep {S : List Nat} {w w' : World} {f r c : Nat} {s : FL} (h : FlA w f r c s) (hX : Chg S w w') (hf : f ∉ S) (hr : r ∉ S) (hc : c ∉ S) : FlA w' f r c s :=
  ⟨hX.at h.at_ hf, h.row.keep hX hr, h.ctr.keep hX hc, h.fr, h.fc, h.rc⟩

theorem fl_new_bad (w : World) (n : Int) (hn : n < 1 ∨ 4096 < n) : Calls Try.prog 15 #[.int .i64 n] w fun e w' => e = .returned (.tuple #[.pointer none, .int .i64 1]) ∧ w = w' := by
  go_enter Try.func15, Try.ntmps15
  rcases hn with h | h
  · go_wp2
    go_returns
    exact ⟨rfl, rfl⟩
  · go_wp2
    go_returns
    exact ⟨rfl, rfl⟩
theorem fl_new (w : World) (n : Nat) (h1 : 1 ≤ n) (h2 : n ≤ 4096) : Calls Try.prog 15 #[.int .i64 n] w fun e w' => ∃ f r c, e = .returned (.tuple #[.pointer (some ⟨f, 0, none⟩), .int .i64 0]) ∧ w.heap.size ≤ f ∧ w.heap.size ≤ r ∧ w.heap.size ≤ c ∧ FlA w' f r c ⟨rep n, false, 0, false, 0⟩ ∧ Chg [] w w' := by
  have hA := At.new w #[.int .u8 255] 5
  have hXa : Chg [] w (w.alloc (.cells #[.int .u8 255] 5)) := (Chg.refl _ _).alloc _
  go_enter Try.func15, Try.ntmps15
  go_wp2_with fail
  refine (repeat_any _ _ n h1 h2 hA).mono ?_; rintro e w1 ⟨r, rfl, hr, hF, hX1⟩
  go_wp2_with fail
  refine (cNew _ _).mono ?_; rintro e w2 ⟨c, rfl, hc, hC, hX2⟩
  rw [show cSet 1000000 1000000 = 1000000 from rfl] at hC
  go_wp2
  go_returns
  have hrl := hF.lt
  have hcl := hC.lt
  have hr' : w.heap.size ≤ r := by have : (w.alloc (.cells #[.int .u8 255] 5)).heap.size = w.heap.size + 1 := by simp
                                   omega
  have hX := (hXa.trans hX1).trans hX2
  have s1 := hX1.size
  have s2 := hX2.size
  have s3 : (w.alloc (.cells #[.int .u8 255] 5)).heap.size = w.heap.size + 1 := by simp
  refine ⟨w2.heap.size, r, c, rfl, hX.size, hr', by omega, ⟨?_, (hF.keep hX2 (by simp)).alloc _, hC.alloc _, by omega, by omega, by omega⟩, hX.alloc _⟩
  have := At.new w2 #[.slice (some ⟨r, 0, none⟩) n n, .bool false, .int .i64 0, .bool false, .pointer (some ⟨c, 0, none⟩)] 66
  rw [show (FL.mk (rep n) false 0 false 0).B.size = n from rep_size n]
  exact this

theorem ready_nil (w : World) (a n : Int) : Calls Try.prog 34 #[.pointer none, .int .i64 a, .int .i64 n] w fun e w' => e = .returned (.int .i64 9) ∧ w = w' := by
  go_enter Try.func34, Try.ntmps34
  go_wp2
  go_returns
  exact ⟨rfl, rfl⟩
theorem ready_off (w : World) (f r c : Nat) (s : FL) (h : FlA w f r c s) (ho : s.off = true) (a n : Int) : Calls Try.prog 34 #[.pointer (some ⟨f, 0, none⟩), .int .i64 a, .int .i64 n] w fun e w' => e = .returned (.int .i64 11) ∧ w = w' := by
  have c3 := h.at_.cell 3
  rw [ho] at c3
  go_enter Try.func34, Try.ntmps34
  go_wp2
  go_returns
  exact ⟨rfl, rfl⟩
theorem ready_bad (w : World) (f r c : Nat) (s : FL) (h : FlA w f r c s) (ho : s.off = false) (a n : Nat) (_hb : s.B.size ≤ 4096) (ha : a ≤ s.B.size) (hn : s.B.size < a + n) (hnm : n ≤ 1000000) : Calls Try.prog 34 #[.pointer (some ⟨f, 0, none⟩), .int .i64 a, .int .i64 n] w fun e w' => e = .returned (.int .i64 2) ∧ w = w' := by
  have c0 := h.at_.cell 0
  have c3 := h.at_.cell 3
  rw [ho] at c3
  have g1 : (s.B.size : Int) - a < n := by omega
  go_enter Try.func34, Try.ntmps34
  go_wp2
  go_returns
  exact ⟨rfl, rfl⟩
theorem ready_ok (w : World) (f r c : Nat) (s : FL) (h : FlA w f r c s) (ho : s.off = false) (a n : Nat) (hb : s.B.size ≤ 4096) (hn : a + n ≤ s.B.size) : Calls Try.prog 34 #[.pointer (some ⟨f, 0, none⟩), .int .i64 a, .int .i64 n] w fun e w' => e = .returned (.int .i64 0) ∧ w = w' := by
  have c0 := h.at_.cell 0
  have c3 := h.at_.cell 3
  rw [ho] at c3
  have g1 : (n : Int) ≤ (s.B.size : Int) - a := by omega
  have g2 : (a : Int) ≤ (s.B.size : Int) := by omega
  go_enter Try.func34, Try.ntmps34
  go_wp2
  go_returns
  exact ⟨rfl, rfl⟩

theorem fl_tear (w : World) (f r c : Nat) (s : FL) (h : FlA w f r c s) (n : Int) : Calls Try.prog 22 #[.pointer (some ⟨f, 0, none⟩), .int .i64 n] w fun e w' => e = .returned (.tuple #[]) ∧ FlA w' f r c ⟨s.B, true, max n 0, s.off, s.wr⟩ ∧ Chg [f] w w' := by
  have c1 := h.at_.cell 1
  have c2 := h.at_.cell 2
  have f1 := h.at_.frozen 1
  have f2 := h.at_.frozen 2
  have hA : ∀ m : Int, At ((w.setCell ⟨f, 1, none⟩ (.bool true)).setCell ⟨f, 2, none⟩ (.int .i64 m)) f _ := fun m => (h.at_.set 1 (.bool true) rfl).set 2 (.int .i64 m) rfl
  have hX := fun m : Int => ((Chg.refl [f] w).setCell (p := ⟨f, 1, none⟩) (by simp) (.bool true)).setCell (p := ⟨f, 2, none⟩) (by simp) (.int .i64 m)
  have hF := fun m : Int => (h.row.set (a := ⟨f, 1, none⟩) (Ne.symm h.fr) (.bool true)).set (a := ⟨f, 2, none⟩) (Ne.symm h.fr) (.int .i64 m)
  have hC := fun m : Int => At.other (At.other h.ctr ⟨f, 1, none⟩ (.bool true) (Ne.symm h.fc)) ⟨f, 2, none⟩ (.int .i64 m) (Ne.symm h.fc)
  go_enter Try.func22, Try.ntmps22
  by_cases hn : 0 ≤ n
  · have e : max n 0 = n := by omega
    rw [e]
    go_wp2
    go_returns
    exact ⟨rfl, ⟨hA n, hF n, hC n, h.fr, h.fc, h.rc⟩, hX n⟩
  · have e : max n 0 = 0 := by omega
    rw [e]
    go_wp2
    go_returns
    exact ⟨rfl, ⟨hA 0, hF 0, hC 0, h.fr, h.fc, h.rc⟩, hX 0⟩
theorem fl_up (w : World) (f r c : Nat) (s : FL) (h : FlA w f r c s) : Calls Try.prog 23 #[.pointer (some ⟨f, 0, none⟩)] w fun e w' => e = .returned (.tuple #[]) ∧ FlA w' f r c ⟨s.B, false, s.tear, false, s.wr⟩ ∧ Chg [f] w w' := by
  have c3 := h.at_.cell 3
  have f3 := h.at_.frozen 3
  have c1 := h.at_.cell 1
  have f1 := h.at_.frozen 1
  have hA := (h.at_.set 3 (.bool false) rfl).set 1 (.bool false) rfl
  have hX := ((Chg.refl [f] w).setCell (p := ⟨f, 3, none⟩) (by simp) (.bool false)).setCell (p := ⟨f, 1, none⟩) (by simp) (.bool false)
  have hF := (h.row.set (a := ⟨f, 3, none⟩) (Ne.symm h.fr) (.bool false)).set (a := ⟨f, 1, none⟩) (Ne.symm h.fr) (.bool false)
  have hC := At.other (At.other h.ctr ⟨f, 3, none⟩ (.bool false) (Ne.symm h.fc)) ⟨f, 1, none⟩ (.bool false) (Ne.symm h.fc)
  go_enter Try.func23, Try.ntmps23
  go_wp2
  go_returns
  exact ⟨rfl, ⟨hA, hF, hC, h.fr, h.fc, h.rc⟩, hX⟩
theorem fl_down (w : World) (f r c : Nat) (s : FL) (h : FlA w f r c s) : Calls Try.prog 36 #[.pointer (some ⟨f, 0, none⟩)] w fun e w' => e = .returned (.bool s.off) ∧ w = w' := by
  have c3 := h.at_.cell 3
  go_enter Try.func36, Try.ntmps36
  go_wp2
  go_returns
  exact ⟨rfl, rfl⟩
theorem fl_size (w : World) (f r c : Nat) (s : FL) (h : FlA w f r c s) : Calls Try.prog 37 #[.pointer (some ⟨f, 0, none⟩)] w fun e w' => e = .returned (.int .i64 s.B.size) ∧ w = w' := by
  have c0 := h.at_.cell 0
  go_enter Try.func37, Try.ntmps37
  go_wp2
  go_returns
  exact ⟨rfl, rfl⟩
theorem nil_tear (w : World) (n : Int) : Calls Try.prog 22 #[.pointer none, .int .i64 n] w fun e w' => e = .returned (.tuple #[]) ∧ w = w' := by
  go_enter Try.func22, Try.ntmps22
  go_wp2
  go_returns
  exact ⟨rfl, rfl⟩
theorem nil_up (w : World) : Calls Try.prog 23 #[.pointer none] w fun e w' => e = .returned (.tuple #[]) ∧ w = w' := by
  go_enter Try.func23, Try.ntmps23
  go_wp2
  go_returns
  exact ⟨rfl, rfl⟩
theorem nil_down (w : World) : Calls Try.prog 36 #[.pointer none] w fun e w' => e = .returned (.bool true) ∧ w = w' := by
  go_enter Try.func36, Try.ntmps36
  go_wp2
  go_returns
  exact ⟨rfl, rfl⟩
theorem nil_size (w : World) : Calls Try.prog 37 #[.pointer none] w fun e w' => e = .returned (.int .i64 0) ∧ w = w' := by
  go_enter Try.func37, Try.ntmps37
  go_wp2
  go_returns
  exact ⟨rfl, rfl⟩
theorem nil_read (w : World) (a n : Int) : Calls Try.prog 21 #[.pointer none, .int .i64 a, .int .i64 n] w fun e w' => e = .returned (.tuple #[.string ByteArray.empty, .int .i64 9]) ∧ w = w' := by
  go_enter Try.func21, Try.ntmps21
  go_wp2_with fail
  refine (ready_nil _ _ _).mono ?_; rintro e w' ⟨rfl, rfl⟩
  go_wp2
  go_returns
  exact ⟨rfl, rfl⟩
theorem nil_write (w : World) (a : Int) (s : ByteArray) : Calls Try.prog 16 #[.pointer none, .int .i64 a, .string s] w fun e w' => e = .returned (.int .i64 9) ∧ w = w' := by
  go_enter Try.func16, Try.ntmps16
  go_wp2_with fail
  refine (ready_nil _ _ _).mono ?_; rintro e w' ⟨rfl, rfl⟩
  go_wp2
  go_returns
  exact ⟨rfl, rfl⟩
end Go.Proofs.Ytjneidmkllhbjaa
