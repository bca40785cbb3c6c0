/- Package wide: Int, Neg, Mul. -/
import Derived.Test.YtmdgikikiijjbaaWic
namespace Go.Proofs.Ytmdgikikiijjbaa
open Go.RowKit

structure CI (W : World) (z : Nat) (a : WV) (k : Nat) (w : World) : Prop where
  A : At w z #[.int .i64 a.hi, .int .u64 a.lo]
  x : Chg [] W w
theorem CI.step {W : World} {z : Nat} {a : WV} {k j : Nat} {w w' : World} (h : CI W z a k w) (hX : Chg [] w w') : CI W z a j w' := ⟨hX.at h.A (by simp), h.x.trans hX⟩
def fits64 (v : Int) : Bool := decide (-9223372036854775808 ≤ v) && decide (v ≤ 9223372036854775807)
def int64V (v : Int) : Int := if fits64 v then v else 0
theorem int_plain (a : WV) (ha : a.ok) : (fits64 a.val = true → wrap64 a.lo = a.val ∧ (ofV (wrap64 a.lo)).hi = a.hi ∧ (ofV (wrap64 a.lo)).lo = a.lo) ∧ (fits64 a.val = false → ¬((ofV (wrap64 a.lo)).hi = a.hi ∧ (ofV (wrap64 a.lo)).lo = a.lo)) := by
  obtain ⟨ah, al⟩ := a
  have a3 : 0 ≤ al := ha.l0
  have a4 : al ≤ 18446744073709551615 := ha.l1
  unfold fits64 ofV WV.val wrap64
  simp only
  constructor
  · intro h
    simp at h
    omega
  · intro h
    simp at h
    omega
set_option maxHeartbeats 400000 in
theorem wint_any (w : World) (a : WV) (ha : a.ok) : Calls Try.prog 40 #[.agg a.cells] w fun e w' => e = .returned (.tuple #[.int .i64 (int64V a.val), .bool (fits64 a.val)]) ∧ Chg [] w w' := by
  obtain ⟨p1, p2⟩ := int_plain a ha
  have hb : -9223372036854775808 ≤ wrap64 a.lo ∧ wrap64 a.lo ≤ 9223372036854775807 := by unfold wrap64; omega
  have HO := fun w => wof_any w (wrap64 a.lo) hb.1 hb.2
  have al0 := ha.l0
  have al1 := ha.l1
  have Hr := Lib.hid (show int64V a.val = if fits64 a.val then a.val else 0 from rfl)
  obtain ⟨n, hn⟩ : ∃ n, wrap64 a.lo = n := ⟨_, rfl⟩
  rw [hn] at p1 p2 HO
  obtain ⟨p, hp⟩ : ∃ p, (ofV n).hi = p := ⟨_, rfl⟩
  obtain ⟨q, hq⟩ : ∃ q, (ofV n).lo = q := ⟨_, rfl⟩
  rw [hp, hq] at p1 p2
  rw [show (ofV n).cells = #[.int .i64 (ofV n).hi, .int .u64 (ofV n).lo] from rfl, hp, hq] at HO
  have H1 := Lib.hid p1
  have H2 := Lib.hid p2
  clear p1 p2 hp hq hb ha
  obtain ⟨b, hb⟩ : ∃ b, (!(p == a.hi && q == a.lo)) = b := ⟨_, rfl⟩
  generalize int64V a.val = res at *
  generalize a.val = va at *
  generalize fits64 va = fv at *
  have hA := At.new w #[.int .i64 a.hi, .int .u64 a.lo] 89
  have hX : Chg [] w (w.alloc (.cells #[.int .i64 a.hi, .int .u64 a.lo] 89)) := (Chg.refl [] w).alloc _
  rw [show a.cells = #[.int .i64 a.hi, .int .u64 a.lo] from rfl]
  have c1 := hA.cell 1
  go_enter Try.func40, Try.ntmps40
  go_wp2_with fail
  have hC0 : CI w w.heap.size a 0 (w.alloc (.cells #[.int .i64 a.hi, .int .u64 a.lo] 89)).drew := ⟨hA.drew, hX.drew⟩
  rw [hn]
  clear hA hX c1 al0 al1 hn
  refine wp_region_stage (CI w w.heap.size a) [1] [(0, 0, false), (0, 0, true), (0, 1, false), (1, 1, false)]
    (by kernel_rfl) (by kernel_rfl) (by kernel_rfl) (hC0) ?_
  simp only [List.zip_cons_cons, List.zip_nil_right]
  refine wpStage_yes (by go_simp) ?_
  intro K hK
  apply Exists.intro
  refine ⟨fun kk ww hk1 hk2 hC => ?_, ?_⟩
  · go_simp
    with_reducible exact rfl
  go_simp
  refine hK _ ?_
  clear hK K
  refine wpStage_yes (by go_simp) ?_
  intro K hK
  apply Exists.intro
  refine ⟨fun kk ww hk1 hk2 hC => ?_, ?_⟩
  · go_simp
    go_at_call 36; refine (HO _).mono ?_; rintro e w' ⟨rfl, hX⟩
    exact ⟨rfl, hC.step hX⟩
  go_simp
  refine hK _ ?_
  clear hK K
  refine wpStage_yes (by go_simp) ?_
  intro K hK
  apply Exists.intro
  refine ⟨fun kk ww hk1 hk2 hC => ?_, ?_⟩
  · have c0 := hC.A.cell 0; have c1 := hC.A.cell 1
    go_simp
    with_reducible exact rfl
  go_simp
  refine hK _ ?_
  clear hK K
  refine wpStage_yes (by go_simp) ?_
  intro K hK
  refine ⟨.bool b, ?_⟩
  refine ⟨fun kk ww hk1 hk2 hC => ?_, ?_⟩
  · go_simp
    have hCC : CI w w.heap.size a kk ww := hC
    subst hb
    by_cases e1 : p = a.hi <;> by_cases e2 : q = a.lo <;> simp [e1, e2] <;> exact hCC
  go_simp
  refine hK _ ?_
  clear hK K
  refine wpStage_nil (fun ww hC => ?_)
  have hX := hC.x
  clear hC hC0
  cases fv
  · have h2 := H2.out rfl
    have hr : res = 0 := Hr.out
    obtain rfl : b = true := by
      rw [← hb]
      by_cases e1 : p = a.hi
      · have e2 : ¬q = a.lo := fun e2 => h2 ⟨e1, e2⟩
        simp [e2]
      · simp [e1]
    subst hr
    clear H1 H2 Hr h2 hb
    go_wp2
    go_returns
    exact ⟨rfl, hX⟩
  · obtain ⟨h0, e1, e2⟩ := H1.out rfl
    have hr : res = n := by rw [Hr.out, h0]; rfl
    obtain rfl : b = false := by rw [← hb]; simp [e1, e2]
    subst hr
    clear H1 H2 Hr h0 e1 e2 hb
    go_wp2
    go_returns
    exact ⟨rfl, hX⟩
end Go.Proofs.Ytmdgikikiijjbaa
