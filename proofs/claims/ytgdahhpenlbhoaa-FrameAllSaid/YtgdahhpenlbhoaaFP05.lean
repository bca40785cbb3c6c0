/- Walk of the law FramePrints: any frame has the bytes that the document says, or none, and is read as it was, whatever stands behind it. -/
import Derived.Test.YtgdahhpenlbhoaaW05
import Derived.Test.YtgdahhpenlbhoaaSh
namespace Go.Proofs.Ytgdahhpenlbhoaa
open Go.RowKit

abbrev shFV : Sh := .prod (.int .i64) (.prod .str .unit)
def toFV (x : shFV.T) : FV := ⟨x.1, x.2.1⟩
theorem fv_of {W : World} {x : shFV.T} {c : Array Value} (h : shFV.rep W x c.toList) : c = (toFV x).cells ∧ (-9223372036854775808 ≤ (toFV x).k ∧ (toFV x).k ≤ 9223372036854775807) ∧ (toFV x).p.size ≤ maxLen := by
  obtain ⟨a1, b1, e1, _, ⟨rfl, h1⟩, a2, b2, rfl, _, ⟨rfl, h2⟩, rfl⟩ := h
  refine ⟨?_, bounds_i64 h1, h2⟩
  apply Array.toList_inj.1
  rw [e1]
  rfl

set_option maxRecDepth 100000 in
theorem fp_big (W : World) (k : Int) (p s : ByteArray) (hp : p.size ≤ 9223372036854775807) (hs : s.size ≤ 9223372036854775807) (hl : 200 < p.size ∨ p.size ≤ 200 ∧ 300 < s.size) :
    Calls Try.prog 3 #[.agg #[.int .i64 k, .string p], .string s] W fun e w' => e = .returned (.bool true) ∧ Below W.heap.size W w' := by
  go_enter Try.func3, Try.ntmps3
  go_wp2_with fail
  refine (awake05 _).mono ?_; rintro e w1 ⟨rfl, hX1⟩
  have hA := hX1.at (At.new W #[.int .i64 k, .string p] 23) (by simp)
  have hX : Chg [] W w1 := ((Chg.refl _ _).alloc _).trans hX1
  clear hX1
  have c1 := hA.cell 1
  rcases hl with hl | ⟨hl, hl2⟩
  · go_wp2_with fail
    refine (awake05 _).mono ?_; rintro e w2 ⟨rfl, hX2⟩
    go_wp2
    go_returns
    exact ⟨rfl, Chg.to_below (hX.trans hX2)⟩
  · go_wp2_with fail
    refine (awake05 _).mono ?_; rintro e w2 ⟨rfl, hX2⟩
    go_wp2
    go_returns
    exact ⟨rfl, Chg.to_below (hX.trans hX2)⟩

set_option maxRecDepth 100000 in
set_option maxHeartbeats 2000000 in
theorem fp_right (W : World) (k : Int) (p s q : ByteArray) (hp : p.size ≤ 200) (hs : s.size ≤ 300) (hq : q.size = p.size + 6)
    (HL : ∀ w, Calls Try.prog 12 #[.agg #[.int .i64 k, .string p]] w fun e w' => e = .returned (.agg #[.int .i64 k, .string p]) ∧ Chg [] w w')
    (HP : ∀ w, Calls Try.prog 10 #[.agg #[.int .i64 k, .string p]] w fun e w' => e = .returned (.string q) ∧ Chg [] w w')
    (HQ : ∀ w, Calls Try.prog 14 #[.agg #[.int .i64 k, .string p]] w fun e w' => e = .returned (.string q) ∧ Chg [] w w')
    (HT : ∀ w, Calls Try.prog 15 #[.agg #[.int .i64 k, .string p]] w fun e w' => e = .returned (.bool true) ∧ Chg [] w w')
    (HU : ∀ w, Calls Try.prog 11 #[.agg #[.int .i64 k, .string p]] w fun e w' => e = .returned (.bool true) ∧ Chg [] w w')
    (HR : ∀ w, Calls Try.prog 13 #[.string (q ++ s)] w fun e w' => e = .returned (.tuple #[.agg #[.int .i64 k, .string p], .int .i64 q.size, .int .i64 0]) ∧ Chg [] w w') :
    Calls Try.prog 3 #[.agg #[.int .i64 k, .string p], .string s] W fun e w' => e = .returned (.bool true) ∧ Below W.heap.size W w' := by
  have he : q.toList.isEmpty = false := by rw [str_empty]; exact decide_eq_false (by omega)
  go_enter Try.func3, Try.ntmps3
  go_wp2_with fail
  refine (awake05 _).mono ?_; rintro e w1 ⟨rfl, hX1⟩
  have hA := hX1.at (At.new W #[.int .i64 k, .string p] 23) (by simp)
  have hX : Chg [] W w1 := ((Chg.refl _ _).alloc _).trans hX1
  clear hX1
  generalize hz : W.heap.size = z at hA ⊢
  have c0 := hA.cell 0
  have c1 := hA.cell 1
  go_wp2_with fail
  refine (HP _).mono ?_; rintro e w2 ⟨rfl, hX1⟩
  replace hA := hX1.at hA (by simp)
  replace hX := hX.trans hX1
  clear hX1 c0 c1
  have c0 := hA.cell 0
  have c1 := hA.cell 1
  go_wp2_with fail
  refine (HL _).mono ?_; rintro e w3 ⟨rfl, hX1⟩
  replace hA := hX1.at hA (by simp)
  replace hX := hX.trans hX1
  clear hX1 c0 c1
  go_wp2_with fail
  refine (HU _).mono ?_; rintro e w4 ⟨rfl, hX1⟩
  replace hA := hX1.at hA (by simp)
  replace hX := hX.trans hX1
  clear hX1
  go_wp2_with fail
  refine (HR _).mono ?_; rintro e w5 ⟨rfl, hX1⟩
  replace hA := (hX1.at hA (by simp)).alloc (.cells #[.int .i64 k, .string p] 23)
  have hB := At.new w5 #[.int .i64 k, .string p] 23
  replace hX := (hX.trans hX1).alloc (.cells #[.int .i64 k, .string p] 23)
  clear hX1
  have c0 := hA.cell 0
  have c1 := hA.cell 1
  go_wp2_with fail
  generalize w5.heap.size = z2 at hB ⊢
  refine (HL _).mono ?_; rintro e w6 ⟨rfl, hX1⟩
  replace hA := hX1.at hA (by simp)
  replace hB := hX1.at hB (by simp)
  replace hX := hX.trans hX1
  clear hX1 c0 c1
  go_wp2_with fail
  refine (HQ _).mono ?_; rintro e w7 ⟨rfl, hX1⟩
  replace hA := hX1.at hA (by simp)
  replace hB := hX1.at hB (by simp)
  replace hX := hX.trans hX1
  clear hX1
  have c0 := hA.cell 0
  have c1 := hA.cell 1
  go_wp2_with fail
  refine (HT _).mono ?_; rintro e w8 ⟨rfl, hX1⟩
  replace hA := hX1.at hA (by simp)
  replace hB := hX1.at hB (by simp)
  replace hX := hX.trans hX1
  clear hX1 c0 c1
  have c0 := hA.cell 0
  have c1 := hA.cell 1
  have d0 := hB.cell 0
  have d1 := hB.cell 1
  go_wp2
  go_returns
  exact ⟨rfl, hz ▸ Chg.to_below hX⟩

set_option maxRecDepth 100000 in
set_option maxHeartbeats 2000000 in
theorem fp_wrong (W : World) (k : Int) (p s : ByteArray) (hp : p.size ≤ 200) (hs : s.size ≤ 300) (r : RD)
    (HL : ∀ w, Calls Try.prog 12 #[.agg #[.int .i64 k, .string p]] w fun e w' => e = .returned (.agg #[.int .i64 k, .string p]) ∧ Chg [] w w')
    (HP : ∀ w, Calls Try.prog 10 #[.agg #[.int .i64 k, .string p]] w fun e w' => e = .returned (.string ByteArray.empty) ∧ Chg [] w w')
    (HQ : ∀ w, Calls Try.prog 14 #[.agg #[.int .i64 k, .string p]] w fun e w' => e = .returned (.string ByteArray.empty) ∧ Chg [] w w')
    (HT : ∀ w, Calls Try.prog 15 #[.agg #[.int .i64 k, .string p]] w fun e w' => e = .returned (.bool false) ∧ Chg [] w w')
    (HU : ∀ w, Calls Try.prog 11 #[.agg #[.int .i64 k, .string p]] w fun e w' => e = .returned (.bool false) ∧ Chg [] w w')
    (HR : ∀ w, Calls Try.prog 13 #[.string (ByteArray.empty ++ s)] w fun e w' => e = .returned (.tuple #[.agg #[.int .i64 r.f.k, .string r.f.p], .int .i64 r.n, .int .i64 r.e]) ∧ Chg [] w w') :
    Calls Try.prog 3 #[.agg #[.int .i64 k, .string p], .string s] W fun e w' => e = .returned (.bool true) ∧ Below W.heap.size W w' := by
  go_enter Try.func3, Try.ntmps3
  go_wp2_with fail
  refine (awake05 _).mono ?_; rintro e w1 ⟨rfl, hX1⟩
  have hA := hX1.at (At.new W #[.int .i64 k, .string p] 23) (by simp)
  have hX : Chg [] W w1 := ((Chg.refl _ _).alloc _).trans hX1
  clear hX1
  generalize hz : W.heap.size = z at hA ⊢
  have c0 := hA.cell 0
  have c1 := hA.cell 1
  go_wp2_with fail
  refine (HP _).mono ?_; rintro e w2 ⟨rfl, hX1⟩
  replace hA := hX1.at hA (by simp)
  replace hX := hX.trans hX1
  clear hX1 c0 c1
  have c0 := hA.cell 0
  have c1 := hA.cell 1
  go_wp2_with fail
  refine (HL _).mono ?_; rintro e w3 ⟨rfl, hX1⟩
  replace hA := hX1.at hA (by simp)
  replace hX := hX.trans hX1
  clear hX1 c0 c1
  go_wp2_with fail
  refine (HU _).mono ?_; rintro e w4 ⟨rfl, hX1⟩
  replace hA := hX1.at hA (by simp)
  replace hX := hX.trans hX1
  clear hX1
  go_wp2_with fail
  refine (HR _).mono ?_; rintro e w5 ⟨rfl, hX1⟩
  replace hA := (hX1.at hA (by simp)).alloc (.cells #[.int .i64 r.f.k, .string r.f.p] 23)
  replace hX := (hX.trans hX1).alloc (.cells #[.int .i64 r.f.k, .string r.f.p] 23)
  clear hX1
  have c0 := hA.cell 0
  have c1 := hA.cell 1
  go_wp2_with fail
  refine (HL _).mono ?_; rintro e w6 ⟨rfl, hX1⟩
  replace hA := hX1.at hA (by simp)
  replace hX := hX.trans hX1
  clear hX1 c0 c1
  go_wp2_with fail
  refine (HQ _).mono ?_; rintro e w7 ⟨rfl, hX1⟩
  replace hA := hX1.at hA (by simp)
  replace hX := hX.trans hX1
  clear hX1
  have c0 := hA.cell 0
  have c1 := hA.cell 1
  go_wp2_with fail
  refine (HT _).mono ?_; rintro e w8 ⟨rfl, hX1⟩
  replace hX := hX.trans hX1
  clear hX1 c0 c1
  go_wp2
  go_returns
  exact ⟨rfl, hz ▸ Chg.to_below hX⟩

theorem FramePrints_walk (W : World) (c : Array Value) (x : shFV.T) (h : shFV.rep W x c.toList) (s : ByteArray) (hs : s.size ≤ maxLen) :
    Calls Try.prog 3 #[.agg c, .string s] W fun e w' => e = .returned (.bool true) ∧ Below W.heap.size W w' := by
  obtain ⟨rfl, hk, hp⟩ := fv_of h
  clear h
  generalize toFV x = f at *
  by_cases hb : 200 < f.p.size ∨ f.p.size ≤ 200 ∧ 300 < s.size
  · exact fp_big W f.k f.p s (by unfold maxLen at hp; omega) (by unfold maxLen at hs; omega) hb
  have h2 : f.p.size ≤ 200 := by omega
  have h3 : s.size ≤ 300 := by omega
  cases hr : f.right
  · have hpr : f.print = ByteArray.empty := by unfold FV.print; rw [hr]; rfl
    refine fp_wrong W f.k f.p s h2 h3 (fread (ByteArray.empty ++ s)) (fun w => flike_any w f) (fun w => ?_) (fun w => ?_) (fun w => ?_) (fun w => ?_) (fun w => fread_any w _ (by rw [empty_app]; exact hs))
    · have := fprint_any w f; rw [hpr] at this; exact this
    · have := frprint_any w f; rw [hpr] at this; exact this
    · have := fright_any w f; rw [hr] at this; exact this
    · have := frright_any w f; rw [hr] at this; exact this
  · have hz := print_size f hr
    refine fp_right W f.k f.p s f.print h2 h3 hz (fun w => flike_any w f) (fun w => fprint_any w f) (fun w => frprint_any w f) (fun w => ?_) (fun w => ?_) (fun w => ?_)
    · have := fright_any w f; rw [hr] at this; exact this
    · have := frright_any w f; rw [hr] at this; exact this
    · have := fread_any w (f.print ++ s) (by rw [ByteArray.size_append]; unfold maxLen; omega)
      rw [(fread_print f hr s).1] at this
      rw [show f.print.size = 6 + f.p.size by omega]
      exact this
end Go.Proofs.Ytgdahhpenlbhoaa
