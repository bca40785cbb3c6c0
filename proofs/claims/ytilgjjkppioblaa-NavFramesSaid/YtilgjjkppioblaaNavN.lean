/- Package nav and its reference: which navs are near. -/
import Derived.Test.YtilgjjkppioblaaNavR
namespace Go.Proofs.Ytilgjjkppioblaa
open Go.RowKit

def n1 (a b eps : Int) : Bool := decide (a - b ≤ eps) && decide (b - a ≤ eps)
def i64b (a : Int) : Prop := -9223372036854775808 ≤ a ∧ a ≤ 9223372036854775807

theorem udiff {a b : Int} (ha : i64b a) (hb : i64b b) (h : b ≤ a) : IntKind.u64.wrap (IntKind.u64.wrap a - IntKind.u64.wrap b) = a - b := by
  unfold i64b at ha hb
  simp [IntKind.wrap, IntKind.bits, IntKind.signed]
  omega
theorem u64_zero : IntKind.u64.wrap 0 = 0 := by decide

theorem within_any (w : World) (a b eps : Int) (ha : i64b a) (hb : i64b b) (he : 0 ≤ eps) (he2 : i64b eps) :
    Calls Try.prog 25 #[.int .i64 a, .int .i64 b, .int .i64 eps] w fun e w' => e = .returned (.bool (n1 a b eps)) ∧ w = w' := by
  unfold i64b at ha hb he2
  go_enter Try.func25, Try.ntmps25
  by_cases h : a ≤ b
  · have e := Lib.hid (udiff hb ha h)
    go_wp2
    all_goals
      go_returns
      exact ⟨ret_bool (by first | rw [e.out] | rw [u64_zero]
                          rw [Bool.eq_iff_iff]; simp [n1]; omega), rfl⟩
  · have e := Lib.hid (udiff ha hb (by omega))
    go_wp2
    all_goals
      go_returns
      exact ⟨ret_bool (by first | rw [e.out] | rw [u64_zero]
                          rw [Bool.eq_iff_iff]; simp [n1]; omega), rfl⟩

theorem apart_le (w : World) (a b eps : Int) (ha : i64b a) (hb : i64b b) (he : 0 ≤ eps) (he2 : i64b eps) (h : b ≤ a) :
    Calls Try.prog 26 #[.int .i64 a, .int .i64 b, .int .i64 eps] w fun e w' => e = .returned (.bool (n1 a b eps)) ∧ w = w' := by
  have e := Lib.hid (udiff ha hb h)
  unfold i64b at ha hb he2
  go_enter Try.func26, Try.ntmps26
  go_wp2
  go_returns
  exact ⟨ret_bool (by rw [e.out, Bool.eq_iff_iff]; simp [n1]; omega), rfl⟩
theorem n1_swap (a b eps : Int) : n1 a b eps = n1 b a eps := by rw [Bool.eq_iff_iff]; simp [n1]; omega
theorem apart_any (w : World) (a b eps : Int) (ha : i64b a) (hb : i64b b) (he : 0 ≤ eps) (he2 : i64b eps) :
    Calls Try.prog 26 #[.int .i64 a, .int .i64 b, .int .i64 eps] w fun e w' => e = .returned (.bool (n1 a b eps)) ∧ w = w' := by
  by_cases h : b ≤ a
  · exact apart_le w a b eps ha hb he he2 h
  · go_enter Try.func26, Try.ntmps26
    go_wp2_with fail
    refine (apart_le _ b a eps hb ha he he2 (by omega)).mono ?_; rintro e w' ⟨rfl, rfl⟩
    go_wp2
    go_returns
    exact ⟨ret_bool (n1_swap _ _ _), rfl⟩

/-- All its numbers are of 64 bits. -/
structure NV.bd (n : NV) : Prop where
  cnt : i64b n.cnt
  flg : i64b n.flg
  x : i64b n.x
  y : i64b n.y
  z : i64b n.z
  vx : i64b n.vx
  vy : i64b n.vy
  vz : i64b n.vz
def NV.near (a b : NV) (eps : Int) : Bool := n1 a.x b.x eps && n1 a.y b.y eps && n1 a.z b.z eps && n1 a.vx b.vx eps && n1 a.vy b.vy eps && n1 a.vz b.vz eps
theorem NV.near_neg (a b : NV) {eps : Int} (h : eps < 0) : a.near b eps = false := by
  rw [Bool.eq_false_iff]
  intro e
  simp [NV.near, n1] at e
  omega

set_option maxRecDepth 100000 in
set_option maxHeartbeats 1000000 in
theorem near_any (w : World) (a b : NV) (eps : Int) (ha : a.bd) (hb : b.bd) (he2 : i64b eps) :
    Calls Try.prog 15 #[.agg a.cells, .agg b.cells, .int .i64 eps] w fun e w' => e = .returned (.bool (a.near b eps)) ∧ Chg [] w w' := by
  have eA : a.cells = #[.int .i64 a.cnt, .int .i64 a.flg, .int .i64 a.x, .int .i64 a.y, .int .i64 a.z, .int .i64 a.vx, .int .i64 a.vy, .int .i64 a.vz] := rfl
  have eB : b.cells = #[.int .i64 b.cnt, .int .i64 b.flg, .int .i64 b.x, .int .i64 b.y, .int .i64 b.z, .int .i64 b.vx, .int .i64 b.vy, .int .i64 b.vz] := rfl
  rw [eA, eB]
  clear eA eB
  by_cases hz : eps < 0
  · have hn := Lib.hid (NV.near_neg a b hz)
    go_enter Try.func15, Try.ntmps15
    go_wp2
    go_returns
    exact ⟨ret_bool hn.out.symm, ((Chg.refl _ _).alloc _).alloc _⟩
  · have hz' : 0 ≤ eps := by omega
    have W0 : ∀ w, Calls Try.prog 25 #[.int .i64 a.x, .int .i64 b.x, .int .i64 eps] w fun e w' => e = .returned (.bool (n1 a.x b.x eps)) ∧ w = w' := fun w => within_any w _ _ _ ha.x hb.x hz' he2
    have W1 : ∀ w, Calls Try.prog 25 #[.int .i64 a.y, .int .i64 b.y, .int .i64 eps] w fun e w' => e = .returned (.bool (n1 a.y b.y eps)) ∧ w = w' := fun w => within_any w _ _ _ ha.y hb.y hz' he2
    have W2 : ∀ w, Calls Try.prog 25 #[.int .i64 a.z, .int .i64 b.z, .int .i64 eps] w fun e w' => e = .returned (.bool (n1 a.z b.z eps)) ∧ w = w' := fun w => within_any w _ _ _ ha.z hb.z hz' he2
    have W3 : ∀ w, Calls Try.prog 25 #[.int .i64 a.vx, .int .i64 b.vx, .int .i64 eps] w fun e w' => e = .returned (.bool (n1 a.vx b.vx eps)) ∧ w = w' := fun w => within_any w _ _ _ ha.vx hb.vx hz' he2
    have W4 : ∀ w, Calls Try.prog 25 #[.int .i64 a.vy, .int .i64 b.vy, .int .i64 eps] w fun e w' => e = .returned (.bool (n1 a.vy b.vy eps)) ∧ w = w' := fun w => within_any w _ _ _ ha.vy hb.vy hz' he2
    have W5 : ∀ w, Calls Try.prog 25 #[.int .i64 a.vz, .int .i64 b.vz, .int .i64 eps] w fun e w' => e = .returned (.bool (n1 a.vz b.vz eps)) ∧ w = w' := fun w => within_any w _ _ _ ha.vz hb.vz hz' he2
    have hn := Lib.hid (show a.near b eps = (n1 a.x b.x eps && n1 a.y b.y eps && n1 a.z b.z eps && n1 a.vx b.vx eps && n1 a.vy b.vy eps && n1 a.vz b.vz eps) from rfl)
    generalize n1 a.x b.x eps = p0 at *
    generalize n1 a.y b.y eps = p1 at *
    generalize n1 a.z b.z eps = p2 at *
    generalize n1 a.vx b.vx eps = p3 at *
    generalize n1 a.vy b.vy eps = p4 at *
    generalize n1 a.vz b.vz eps = p5 at *
    generalize a.near b eps = res at *
    go_enter Try.func15, Try.ntmps15
    go_wp2_with fail
    have hA := (At.new w a.cells 23).alloc (.cells b.cells 23)
    have hB := At.new (w.alloc (.cells a.cells 23)) b.cells 23
    rw [show (w.alloc (.cells a.cells 23)).heap.size = w.heap.size + 1 by simp] at hB
    have hX : Chg [] w ((w.alloc (.cells a.cells 23)).alloc (.cells b.cells 23)) := ((Chg.refl _ _).alloc _).alloc _
    refine (numbers_any _ _).mono ?_; rintro e w1 ⟨rfl, hX1⟩
    replace hA := hX1.at hA (by simp)
    replace hB := hX1.at hB (by simp)
    replace hX := hX.trans hX1
    clear hX1
    generalize w.heap.size + 1 = zb at *
    generalize w.heap.size = za at hA ⊢
    rw [show ptrs zb = #[.pointer (some ⟨zb, 2, none⟩), .pointer (some ⟨zb, 3, none⟩), .pointer (some ⟨zb, 4, none⟩), .pointer (some ⟨zb, 5, none⟩), .pointer (some ⟨zb, 6, none⟩), .pointer (some ⟨zb, 7, none⟩)] from rfl]
    go_wp2_with fail
    have hP := At.new w1 (ptrs zb) 50
    replace hA := hA.alloc (.cells (ptrs zb) 50)
    replace hB := hB.alloc (.cells (ptrs zb) 50)
    replace hX := hX.alloc (.cells (ptrs zb) 50)
    refine (numbers_any _ _).mono ?_; rintro e w2 ⟨rfl, hX1⟩
    replace hA := hX1.at hA (by simp)
    replace hB := hX1.at hB (by simp)
    replace hP := hX1.at hP (by simp)
    replace hX := hX.trans hX1
    clear hX1
    generalize w1.heap.size = zp at *
    have i0 := idx0 za
    have i1 := idx1 za
    have i2 := idx2 za
    have i3 := idx3 za
    have i4 := idx4 za
    have i5 := idx5 za
    go_wp2_with fail
    refine wp_loop_rounds 7 ?_
    have a0 := hA.cell 2
    have b0 := hB.cell 2
    have q0 := hP.cell 0
    simp only [NV.cells, ptrs] at a0 b0 q0
    rw [rounds_succ]
    go_wp2_with fail
    go_quiet (with_reducible refine quiet_same (W0 _))
    cases p0
    · go_wp2
      go_returns
      exact ⟨ret_bool (by rw [hn.out]; simp), hX.drewN _⟩
    clear a0 b0 q0
    replace hA := hA.drewN nq
    replace hB := hB.drewN nq
    replace hP := hP.drewN nq
    replace hX := hX.drewN nq
    generalize w2.drewN nq = w3 at *
    clear nq
    go_wp2_with fail
    have a1 := hA.cell 3
    have b1 := hB.cell 3
    have q1 := hP.cell 1
    simp only [NV.cells, ptrs] at a1 b1 q1
    rw [rounds_succ]
    go_wp2_with fail
    go_quiet (with_reducible refine quiet_same (W1 _))
    cases p1
    · go_wp2
      go_returns
      exact ⟨ret_bool (by rw [hn.out]; simp), hX.drewN _⟩
    clear a1 b1 q1
    replace hA := hA.drewN nq
    replace hB := hB.drewN nq
    replace hP := hP.drewN nq
    replace hX := hX.drewN nq
    generalize w3.drewN nq = w4 at *
    clear nq
    go_wp2_with fail
    have a2 := hA.cell 4
    have b2 := hB.cell 4
    have q2 := hP.cell 2
    simp only [NV.cells, ptrs] at a2 b2 q2
    rw [rounds_succ]
    go_wp2_with fail
    go_quiet (with_reducible refine quiet_same (W2 _))
    cases p2
    · go_wp2
      go_returns
      exact ⟨ret_bool (by rw [hn.out]; simp), hX.drewN _⟩
    clear a2 b2 q2
    replace hA := hA.drewN nq
    replace hB := hB.drewN nq
    replace hP := hP.drewN nq
    replace hX := hX.drewN nq
    generalize w4.drewN nq = w5 at *
    clear nq
    go_wp2_with fail
    have a3 := hA.cell 5
    have b3 := hB.cell 5
    have q3 := hP.cell 3
    simp only [NV.cells, ptrs] at a3 b3 q3
    rw [rounds_succ]
    go_wp2_with fail
    go_quiet (with_reducible refine quiet_same (W3 _))
    cases p3
    · go_wp2
      go_returns
      exact ⟨ret_bool (by rw [hn.out]; simp), hX.drewN _⟩
    clear a3 b3 q3
    replace hA := hA.drewN nq
    replace hB := hB.drewN nq
    replace hP := hP.drewN nq
    replace hX := hX.drewN nq
    generalize w5.drewN nq = w6 at *
    clear nq
    go_wp2_with fail
    have a4 := hA.cell 6
    have b4 := hB.cell 6
    have q4 := hP.cell 4
    simp only [NV.cells, ptrs] at a4 b4 q4
    rw [rounds_succ]
    go_wp2_with fail
    go_quiet (with_reducible refine quiet_same (W4 _))
    cases p4
    · go_wp2
      go_returns
      exact ⟨ret_bool (by rw [hn.out]; simp), hX.drewN _⟩
    clear a4 b4 q4
    replace hA := hA.drewN nq
    replace hB := hB.drewN nq
    replace hP := hP.drewN nq
    replace hX := hX.drewN nq
    generalize w6.drewN nq = w7 at *
    clear nq
    go_wp2_with fail
    have a5 := hA.cell 7
    have b5 := hB.cell 7
    have q5 := hP.cell 5
    simp only [NV.cells, ptrs] at a5 b5 q5
    rw [rounds_succ]
    go_wp2_with fail
    go_quiet (with_reducible refine quiet_same (W5 _))
    cases p5
    · go_wp2
      go_returns
      exact ⟨ret_bool (by rw [hn.out]; simp), hX.drewN _⟩
    clear a5 b5 q5
    replace hA := hA.drewN nq
    replace hB := hB.drewN nq
    replace hP := hP.drewN nq
    replace hX := hX.drewN nq
    generalize w7.drewN nq = w8 at *
    clear nq
    go_wp2_with fail
    rw [rounds_succ]
    go_wp2
    go_returns
    exact ⟨ret_bool (by rw [hn.out]; simp), hX⟩
end Go.Proofs.Ytilgjjkppioblaa
