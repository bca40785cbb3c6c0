/- Package source: jumps, faults. -/
import Derived.Test.YtmdgikikiijjbaaSrc
import Derived.Test.YtmdgikikiijjbaaStage
import Derived.Test.YtmdgikikiijjbaaStTl
import Derived.LoopTactic
namespace Go.Proofs.Ytmdgikikiijjbaa
open Go.RowKit

structure SV where
  (step most : Int)
  last : NV
  has : Bool
  old : Int
def SV.cells (s : SV) (c : Nat) : Array Value := #[.int .i64 s.step, .int .i64 s.most, .int .i64 s.last.cnt, .int .i64 s.last.flg, .int .i64 s.last.x, .int .i64 s.last.y, .int .i64 s.last.z, .int .i64 s.last.vx, .int .i64 s.last.vy, .int .i64 s.last.vz, .bool s.has, .pointer (some ⟨c, 0, none⟩)]
structure SV.ok (s : SV) : Prop where
  s0 : 1 ≤ s.step
  s1 : s.step ≤ 9223372036854775807
  m : i64b s.most
  l : s.last.bd
  o0 : 0 ≤ s.old
  o1 : s.old ≤ 1000000
/-- Do two numbers differ by more than so much? -/
def jmp1 (m a b : Int) : Bool := decide (m < a - b) || decide (m < b - a)
def SV.jumps (s : SV) (n : NV) : Bool := fits64 (s.step * (s.old + 1)) && (jmp1 (s.step * (s.old + 1)) n.vx s.last.vx || (jmp1 (s.step * (s.old + 1)) n.vy s.last.vy || jmp1 (s.step * (s.old + 1)) n.vz s.last.vz))
theorem jmp1_eq (m a b : Int) (h0 : 0 ≤ m) (h1 : m ≤ 9223372036854775807) : jmp1 m a b = (!fits64 (a - b) || bey m [int64V (a - b)]) := by
  unfold jmp1 bey bey1 int64V
  by_cases hf : fits64 (a - b) = true
  · simp only [hf, if_true, Bool.not_true, Bool.false_or, List.any_cons, List.any_nil, Bool.or_false]
    rw [Bool.eq_iff_iff]; simp only [Bool.or_eq_true, decide_eq_true_eq]; omega
  · have := mt (fits64_iff (a - b)).2 hf
    rw [Bool.eq_false_iff.2 hf]
    simp only [Bool.not_false, Bool.true_or, Bool.or_eq_true, decide_eq_true_eq]
    omega
structure JR (W : World) (L : List (Nat × Array Value)) (z : Nat) (cs : Array Value) (k : Nat) (w : World) : Prop where
  c : CL W L 0 w
  s : k = 0 → w.heap.size = z
  a : 1 ≤ k → At w z cs
theorem mul_bd1 (s o : Int) (h0 : 1 ≤ s) (h1 : 0 ≤ o) : 1 ≤ s * (o + 1) := by
  have := Int.mul_le_mul h0 (show (1 : Int) ≤ o + 1 by omega) (by omega) (by omega)
  omega

set_option maxRecDepth 100000 in
set_option maxHeartbeats 200000 in
theorem jumps_any (w : World) (b c nb : Nat) (s : SV) (n : NV) (hs : s.ok) (hn : n.bd) (hB : At w b (s.cells c)) (hK : Ctr w c s.old 1000000) (hN : At w nb n.cells) :
    Calls Try.prog 24 #[.pointer (some ⟨b, 0, none⟩), .pointer (some ⟨nb, 0, none⟩)] w fun e w' => e = .returned (.bool (s.jumps n)) ∧ Chg [] w w' := by
  obtain ⟨s0, s1, sm, sl, o0, o1⟩ := hs
  have P1 := fun w h => cValue_any w c s.old 1000000 h
  have P2 := fun w => fmul_any w s.step (s.old + 1) (by omega) s1 (by omega) (by omega)
  have hm1 := mul_bd1 s.step s.old s0 o0
  have hw : IntKind.i64.wrap (s.old + 1) = s.old + 1 := by rw [IntKind.wrap_i64]; omega
  obtain ⟨res, hr⟩ : ∃ r, s.jumps n = r := ⟨_, rfl⟩
  rw [hr]
  unfold SV.jumps at hr
  have hC0 : CL w [(b, #[.int .i64 s.step, .int .i64 s.most, .int .i64 s.last.cnt, .int .i64 s.last.flg, .int .i64 s.last.x, .int .i64 s.last.y, .int .i64 s.last.z, .int .i64 s.last.vx, .int .i64 s.last.vy, .int .i64 s.last.vz, .bool s.has, .pointer (some ⟨c, 0, none⟩)]), (nb, #[.int .i64 n.cnt, .int .i64 n.flg, .int .i64 n.x, .int .i64 n.y, .int .i64 n.z, .int .i64 n.vx, .int .i64 n.vy, .int .i64 n.vz]), (c, #[.int .i64 s.old, .int .i64 1000000])] 0 w := (((CL.new w 0).cons hK).cons hN).cons hB
  clear hB hK hN
  go_enter Try.func24, Try.ntmps24
  go_wp2_with fail
  have Cd := hC0.drew
  clear hC0
  refine wp_region_stage (CL w [(b, #[.int .i64 s.step, .int .i64 s.most, .int .i64 s.last.cnt, .int .i64 s.last.flg, .int .i64 s.last.x, .int .i64 s.last.y, .int .i64 s.last.z, .int .i64 s.last.vx, .int .i64 s.last.vy, .int .i64 s.last.vz, .bool s.has, .pointer (some ⟨c, 0, none⟩)]), (nb, #[.int .i64 n.cnt, .int .i64 n.flg, .int .i64 n.x, .int .i64 n.y, .int .i64 n.z, .int .i64 n.vx, .int .i64 n.vy, .int .i64 n.vz]), (c, #[.int .i64 s.old, .int .i64 1000000])]) [] [(0, 0, false), (0, 0, false), (0, 0, false), (0, 0, false), (0, 0, false), (0, 0, false), (0, 0, false), (0, 0, false), (0, 0, false), (0, 0, false), (0, 0, false), (0, 0, false), (0, 0, false), (0, 0, false), (0, 0, false), (0, 0, false)]
    (by kernel_rfl) (by kernel_rfl) (by kernel_rfl) (Cd) ?_
  simp only [List.zip_cons_cons, List.zip_nil_right]
  refine wpStage_yes (by go_simp) ?_
  intro K hK
  apply Exists.intro
  refine ⟨fun kk ww hk1 hk2 hC => ?_, ?_⟩
  · go_simp
    with_reducible exact rfl
  go_simp
  refine hK _ ?_
  clear hK K
  refine wpStage_yes (by go_simp) ?_
  intro K hK
  apply Exists.intro
  refine ⟨fun kk ww hk1 hk2 hC => ?_, ?_⟩
  · go_simp
    with_reducible exact rfl
  go_simp
  refine hK _ ?_
  clear hK K
  refine wpStage_yes (by go_simp) ?_
  intro K hK
  apply Exists.intro
  refine ⟨fun kk ww hk1 hk2 hC => ?_, ?_⟩
  · go_simp
    with_reducible exact rfl
  go_simp
  refine hK _ ?_
  clear hK K
  refine wpStage_yes (by go_simp) ?_
  intro K hK
  apply Exists.intro
  refine ⟨fun kk ww hk1 hk2 hC => ?_, ?_⟩
  · have c0_0 := (hC.get 0 rfl).cell 0
    go_simp
    with_reducible exact rfl
  go_simp
  refine hK _ ?_
  clear hK K
  refine wpStage_yes (by go_simp) ?_
  intro K hK
  apply Exists.intro
  refine ⟨fun kk ww hk1 hk2 hC => ?_, ?_⟩
  · go_simp
    with_reducible exact rfl
  go_simp
  refine hK _ ?_
  clear hK K
  refine wpStage_yes (by go_simp) ?_
  intro K hK
  apply Exists.intro
  refine ⟨fun kk ww hk1 hk2 hC => ?_, ?_⟩
  · go_simp
    with_reducible exact rfl
  go_simp
  refine hK _ ?_
  clear hK K
  refine wpStage_yes (by go_simp) ?_
  intro K hK
  apply Exists.intro
  refine ⟨fun kk ww hk1 hk2 hC => ?_, ?_⟩
  · go_simp
    with_reducible exact rfl
  go_simp
  refine hK _ ?_
  clear hK K
  refine wpStage_yes (by go_simp) ?_
  intro K hK
  apply Exists.intro
  refine ⟨fun kk ww hk1 hk2 hC => ?_, ?_⟩
  · have c0_11 := (hC.get 0 rfl).cell 11
    go_simp
    with_reducible exact rfl
  go_simp
  refine hK _ ?_
  clear hK K
  refine wpStage_yes (by go_simp) ?_
  intro K hK
  apply Exists.intro
  refine ⟨fun kk ww hk1 hk2 hC => ?_, ?_⟩
  · go_simp
    go_at_call 22; refine (P1 _ (hC.get 2 rfl)).mono ?_; rintro e w' ⟨rfl, rfl⟩
    exact ⟨rfl, hC⟩
  go_simp
  refine hK _ ?_
  clear hK K
  refine wpStage_yes (by go_simp) ?_
  intro K hK
  apply Exists.intro
  refine ⟨fun kk ww hk1 hk2 hC => ?_, ?_⟩
  · go_simp
    with_reducible exact rfl
  go_simp
  refine hK _ ?_
  clear hK K
  refine wpStage_yes (by go_simp) ?_
  intro K hK
  apply Exists.intro
  refine ⟨fun kk ww hk1 hk2 hC => ?_, ?_⟩
  · go_simp
    refine (P2 ww).mono ?_
    rintro e w' ⟨he, hX⟩
    exact ⟨he, hC.step hX⟩
  go_simp
  refine hK _ ?_
  clear hK K
  refine wpStage_yes (by go_simp) ?_
  intro K hK
  apply Exists.intro
  refine ⟨fun kk ww hk1 hk2 hC => ?_, ?_⟩
  · go_simp
    with_reducible exact rfl
  go_simp
  refine hK _ ?_
  clear hK K
  refine wpStage_yes (by go_simp) ?_
  intro K hK
  apply Exists.intro
  refine ⟨fun kk ww hk1 hk2 hC => ?_, ?_⟩
  · go_simp
    with_reducible exact rfl
  go_simp
  refine hK _ ?_
  clear hK K
  refine wpStage_yes (by go_simp) ?_
  intro K hK
  apply Exists.intro
  refine ⟨fun kk ww hk1 hk2 hC => ?_, ?_⟩
  · go_simp
    with_reducible exact rfl
  go_simp
  refine hK _ ?_
  clear hK K
  refine wpStage_yes (by go_simp) ?_
  intro K hK
  apply Exists.intro
  refine ⟨fun kk ww hk1 hk2 hC => ?_, ?_⟩
  · go_simp
    with_reducible exact rfl
  go_simp
  refine hK _ ?_
  clear hK K
  refine wpStage_yes (by go_simp) ?_
  intro K hK
  apply Exists.intro
  refine ⟨fun kk ww hk1 hk2 hC => ?_, ?_⟩
  · go_simp
    with_reducible exact rfl
  go_simp
  refine hK _ ?_
  clear hK K
  refine wpStage_nil (fun ww hC => ?_)
  clear Cd P1 P2
  rcases Bool.eq_false_or_eq_true (fits64 (s.step * (s.old + 1))) with hf | hf
  · have hm2 := (fits64_iff _).1 hf
    rw [int64V_fits hf, hf]
    rw [hf, Bool.true_and] at hr
    have hm0 : 0 ≤ s.step * (s.old + 1) := by omega
    have hmm := hm2.2
    clear hm2
    generalize s.step * (s.old + 1) = m at *
    clear hf hm1
    rw [jmp1_eq m _ _ hm0 hmm, jmp1_eq m _ _ hm0 hmm, jmp1_eq m _ _ hm0 hmm] at hr
    have HR := Lib.hid hr
    clear hr
    obtain ⟨v, hv⟩ : ∃ v : Value, v = .bool true := ⟨_, rfl⟩
    go_wp2_with fail
    obtain ⟨z, hz⟩ : ∃ z, z = ww.drew.heap.size := ⟨_, rfl⟩
    have HZ := Lib.hid hz
    clear hz
    refine wp_region_stage (JR w [(b, #[.int .i64 s.step, .int .i64 s.most, .int .i64 s.last.cnt, .int .i64 s.last.flg, .int .i64 s.last.x, .int .i64 s.last.y, .int .i64 s.last.z, .int .i64 s.last.vx, .int .i64 s.last.vy, .int .i64 s.last.vz, .bool s.has, .pointer (some ⟨c, 0, none⟩)]), (nb, #[.int .i64 n.cnt, .int .i64 n.flg, .int .i64 n.x, .int .i64 n.y, .int .i64 n.z, .int .i64 n.vx, .int .i64 n.vy, .int .i64 n.vz]), (c, #[.int .i64 s.old, .int .i64 1000000])] z #[.int .i64 n.vx, .int .i64 s.last.vx, .int .i64 n.vy, .int .i64 s.last.vy, .int .i64 n.vz, .int .i64 s.last.vz]) [30] [(0, 0, false), (0, 0, false), (0, 0, false), (0, 0, false), (0, 0, false), (0, 0, false), (0, 0, false), (0, 0, false), (0, 0, false), (0, 0, false), (0, 0, false), (0, 0, false), (0, 0, false), (0, 0, false), (0, 0, false), (0, 0, false), (0, 0, false), (0, 0, false), (0, 0, false), (0, 0, false), (0, 0, false), (0, 0, false), (0, 0, false), (0, 0, false), (0, 0, false), (0, 0, false), (0, 0, false), (0, 0, false), (0, 0, false), (0, 0, false), (0, 0, true), (1, 1, false), (0, 1, false)]
      (by kernel_rfl) (by kernel_rfl) (by kernel_rfl) (⟨hC.drew, fun _ => HZ.out.symm, fun h => absurd h (by omega)⟩) ?_
    simp only [List.zip_cons_cons, List.zip_nil_right]
    refine wpStage_yes (by go_simp) ?_
    intro K hK
    apply Exists.intro
    refine ⟨fun kk ww hk1 hk2 hC => ?_, ?_⟩
    · go_simp
      with_reducible exact rfl
    go_simp
    refine hK _ ?_
    clear hK K
    refine wpStage_yes (by go_simp) ?_
    intro K hK
    apply Exists.intro
    refine ⟨fun kk ww hk1 hk2 hC => ?_, ?_⟩
    · go_simp
      with_reducible exact rfl
    go_simp
    refine hK _ ?_
    clear hK K
    refine wpStage_yes (by go_simp) ?_
    intro K hK
    apply Exists.intro
    refine ⟨fun kk ww hk1 hk2 hC => ?_, ?_⟩
    · go_simp
      with_reducible exact rfl
    go_simp
    refine hK _ ?_
    clear hK K
    refine wpStage_yes (by go_simp) ?_
    intro K hK
    apply Exists.intro
    refine ⟨fun kk ww hk1 hk2 hC => ?_, ?_⟩
    · have c1_5 := (hC.c.get 1 rfl).cell 5
      go_simp
      with_reducible exact rfl
    go_simp
    refine hK _ ?_
    clear hK K
    refine wpStage_yes (by go_simp) ?_
    intro K hK
    apply Exists.intro
    refine ⟨fun kk ww hk1 hk2 hC => ?_, ?_⟩
    · go_simp
      with_reducible exact rfl
    go_simp
    refine hK _ ?_
    clear hK K
    refine wpStage_yes (by go_simp) ?_
    intro K hK
    apply Exists.intro
    refine ⟨fun kk ww hk1 hk2 hC => ?_, ?_⟩
    · go_simp
      with_reducible exact rfl
    go_simp
    refine hK _ ?_
    clear hK K
    refine wpStage_yes (by go_simp) ?_
    intro K hK
    apply Exists.intro
    refine ⟨fun kk ww hk1 hk2 hC => ?_, ?_⟩
    · go_simp
      with_reducible exact rfl
    go_simp
    refine hK _ ?_
    clear hK K
    refine wpStage_yes (by go_simp) ?_
    intro K hK
    apply Exists.intro
    refine ⟨fun kk ww hk1 hk2 hC => ?_, ?_⟩
    · go_simp
      with_reducible exact rfl
    go_simp
    refine hK _ ?_
    clear hK K
    refine wpStage_yes (by go_simp) ?_
    intro K hK
    apply Exists.intro
    refine ⟨fun kk ww hk1 hk2 hC => ?_, ?_⟩
    · have c0_7 := (hC.c.get 0 rfl).cell 7
      go_simp
      with_reducible exact rfl
    go_simp
    refine hK _ ?_
    clear hK K
    refine wpStage_yes (by go_simp) ?_
    intro K hK
    apply Exists.intro
    refine ⟨fun kk ww hk1 hk2 hC => ?_, ?_⟩
    · go_simp
      with_reducible exact rfl
    go_simp
    refine hK _ ?_
    clear hK K
    refine wpStage_yes (by go_simp) ?_
    intro K hK
    apply Exists.intro
    refine ⟨fun kk ww hk1 hk2 hC => ?_, ?_⟩
    · go_simp
      with_reducible exact rfl
    go_simp
    refine hK _ ?_
    clear hK K
    refine wpStage_yes (by go_simp) ?_
    intro K hK
    apply Exists.intro
    refine ⟨fun kk ww hk1 hk2 hC => ?_, ?_⟩
    · go_simp
      with_reducible exact rfl
    go_simp
    refine hK _ ?_
    clear hK K
    refine wpStage_yes (by go_simp) ?_
    intro K hK
    apply Exists.intro
    refine ⟨fun kk ww hk1 hk2 hC => ?_, ?_⟩
    · go_simp
      with_reducible exact rfl
    go_simp
    refine hK _ ?_
    clear hK K
    refine wpStage_yes (by go_simp) ?_
    intro K hK
    apply Exists.intro
    refine ⟨fun kk ww hk1 hk2 hC => ?_, ?_⟩
    · have c1_6 := (hC.c.get 1 rfl).cell 6
      go_simp
      with_reducible exact rfl
    go_simp
    refine hK _ ?_
    clear hK K
    refine wpStage_yes (by go_simp) ?_
    intro K hK
    apply Exists.intro
    refine ⟨fun kk ww hk1 hk2 hC => ?_, ?_⟩
    · go_simp
      with_reducible exact rfl
    go_simp
    refine hK _ ?_
    clear hK K
    refine wpStage_yes (by go_simp) ?_
    intro K hK
    apply Exists.intro
    refine ⟨fun kk ww hk1 hk2 hC => ?_, ?_⟩
    · go_simp
      with_reducible exact rfl
    go_simp
    refine hK _ ?_
    clear hK K
    refine wpStage_yes (by go_simp) ?_
    intro K hK
    apply Exists.intro
    refine ⟨fun kk ww hk1 hk2 hC => ?_, ?_⟩
    · go_simp
      with_reducible exact rfl
    go_simp
    refine hK _ ?_
    clear hK K
    refine wpStage_yes (by go_simp) ?_
    intro K hK
    apply Exists.intro
    refine ⟨fun kk ww hk1 hk2 hC => ?_, ?_⟩
    · go_simp
      with_reducible exact rfl
    go_simp
    refine hK _ ?_
    clear hK K
    refine wpStage_yes (by go_simp) ?_
    intro K hK
    apply Exists.intro
    refine ⟨fun kk ww hk1 hk2 hC => ?_, ?_⟩
    · have c0_8 := (hC.c.get 0 rfl).cell 8
      go_simp
      with_reducible exact rfl
    go_simp
    refine hK _ ?_
    clear hK K
    refine wpStage_yes (by go_simp) ?_
    intro K hK
    apply Exists.intro
    refine ⟨fun kk ww hk1 hk2 hC => ?_, ?_⟩
    · go_simp
      with_reducible exact rfl
    go_simp
    refine hK _ ?_
    clear hK K
    refine wpStage_yes (by go_simp) ?_
    intro K hK
    apply Exists.intro
    refine ⟨fun kk ww hk1 hk2 hC => ?_, ?_⟩
    · go_simp
      with_reducible exact rfl
    go_simp
    refine hK _ ?_
    clear hK K
    refine wpStage_yes (by go_simp) ?_
    intro K hK
    apply Exists.intro
    refine ⟨fun kk ww hk1 hk2 hC => ?_, ?_⟩
    · go_simp
      with_reducible exact rfl
    go_simp
    refine hK _ ?_
    clear hK K
    refine wpStage_yes (by go_simp) ?_
    intro K hK
    apply Exists.intro
    refine ⟨fun kk ww hk1 hk2 hC => ?_, ?_⟩
    · go_simp
      with_reducible exact rfl
    go_simp
    refine hK _ ?_
    clear hK K
    refine wpStage_yes (by go_simp) ?_
    intro K hK
    apply Exists.intro
    refine ⟨fun kk ww hk1 hk2 hC => ?_, ?_⟩
    · have c1_7 := (hC.c.get 1 rfl).cell 7
      go_simp
      with_reducible exact rfl
    go_simp
    refine hK _ ?_
    clear hK K
    refine wpStage_yes (by go_simp) ?_
    intro K hK
    apply Exists.intro
    refine ⟨fun kk ww hk1 hk2 hC => ?_, ?_⟩
    · go_simp
      with_reducible exact rfl
    go_simp
    refine hK _ ?_
    clear hK K
    refine wpStage_yes (by go_simp) ?_
    intro K hK
    apply Exists.intro
    refine ⟨fun kk ww hk1 hk2 hC => ?_, ?_⟩
    · go_simp
      with_reducible exact rfl
    go_simp
    refine hK _ ?_
    clear hK K
    refine wpStage_yes (by go_simp) ?_
    intro K hK
    apply Exists.intro
    refine ⟨fun kk ww hk1 hk2 hC => ?_, ?_⟩
    · go_simp
      with_reducible exact rfl
    go_simp
    refine hK _ ?_
    clear hK K
    refine wpStage_yes (by go_simp) ?_
    intro K hK
    apply Exists.intro
    refine ⟨fun kk ww hk1 hk2 hC => ?_, ?_⟩
    · go_simp
      with_reducible exact rfl
    go_simp
    refine hK _ ?_
    clear hK K
    refine wpStage_yes (by go_simp) ?_
    intro K hK
    apply Exists.intro
    refine ⟨fun kk ww hk1 hk2 hC => ?_, ?_⟩
    · have c0_9 := (hC.c.get 0 rfl).cell 9
      go_simp
      with_reducible exact rfl
    go_simp
    refine hK _ ?_
    clear hK K
    refine wpStage_yes (by go_simp) ?_
    intro K hK
    apply Exists.intro
    refine ⟨fun kk ww hk1 hk2 hC => ?_, ?_⟩
    · go_simp
      with_reducible exact rfl
    go_simp
    refine hK _ ?_
    clear hK K
    refine wpStage_yes (by go_simp) ?_
    intro K hK
    apply Exists.intro
    refine ⟨fun kk ww hk1 hk2 hC => ?_, ?_⟩
    · obtain rfl : kk = 0 := by omega
      have hsz := hC.s rfl
      have hA := At.new ww #[.int .i64 n.vx, .int .i64 s.last.vx, .int .i64 n.vy, .int .i64 s.last.vy, .int .i64 n.vz, .int .i64 s.last.vz] 80
      rw [hsz] at hA
      go_simp
      exact ⟨rfl, hC.c.alloc0 _, fun h => absurd h (by omega), fun _ => hA⟩
    go_simp
    refine hK _ ?_
    clear hK K
    refine wpStage_yes (by go_simp) ?_
    intro K hK
    apply Exists.intro
    refine ⟨fun kk ww hk1 hk2 hC => ?_, ?_⟩
    · go_simp
      with_reducible exact rfl
    go_simp
    refine hK _ ?_
    clear hK K
    refine wpStage_yes (by go_simp) ?_
    intro K hK
    apply Exists.intro
    refine ⟨fun kk ww hk1 hk2 hC => ?_, ?_⟩
    · go_simp
      with_reducible exact rfl
    go_simp
    refine hK _ ?_
    clear hK K
    refine wpStage_nil (fun ww hC => ?_)
    have CA := hC.c.cons (hC.a (by decide))
    clear hC HZ
    have P3 := fun w => fsub_any w n.vx s.last.vx hn.vx.1 hn.vx.2 sl.vx.1 sl.vx.2
    have P4 := fun w => fsub_any w n.vy s.last.vy hn.vy.1 hn.vy.2 sl.vy.1 sl.vy.2
    have P5 := fun w => fsub_any w n.vz s.last.vz hn.vz.1 hn.vz.2 sl.vz.1 sl.vz.2
    have B0 := fun w g h => beyond_any w m hm0 hmm g 1 1 [int64V (n.vx - s.last.vx)] rfl (by decide) h
    generalize hg0 : bey m [int64V (n.vx - s.last.vx)] = g0 at *
    generalize int64V (n.vx - s.last.vx) = d0 at *
    generalize fits64 (n.vx - s.last.vx) = f0 at *
    clear hg0
    have B1 := fun w g h => beyond_any w m hm0 hmm g 1 1 [int64V (n.vy - s.last.vy)] rfl (by decide) h
    generalize hg1 : bey m [int64V (n.vy - s.last.vy)] = g1 at *
    generalize int64V (n.vy - s.last.vy) = d1 at *
    generalize fits64 (n.vy - s.last.vy) = f1 at *
    clear hg1
    have B2 := fun w g h => beyond_any w m hm0 hmm g 1 1 [int64V (n.vz - s.last.vz)] rfl (by decide) h
    generalize hg2 : bey m [int64V (n.vz - s.last.vz)] = g2 at *
    generalize int64V (n.vz - s.last.vz) = d2 at *
    generalize fits64 (n.vz - s.last.vz) = f2 at *
    clear hg2
    replace P3 := Lib.hid P3
    replace P4 := Lib.hid P4
    replace P5 := Lib.hid P5
    replace B0 := Lib.hid B0
    replace B1 := Lib.hid B1
    replace B2 := Lib.hid B2
    generalize n.vx = n5 at *
    generalize n.vy = n6 at *
    generalize n.vz = n7 at *
    generalize s.last.vx = l5 at *
    generalize s.last.vy = l6 at *
    generalize s.last.vz = l7 at *
    go_wp2_with fail
    refine wp_loop_rounds 4 ?_
    rw [rounds_succ]
    have ca := (CA.get 0 rfl).cell 0; have cb := (CA.get 0 rfl).cell 1
    go_wp2_with fail
    clear ca cb
    refine (P3.out _).mono ?_; rintro e w1 ⟨rfl, hX⟩
    replace CA := (CA.push #[.int .i64 n5, .int .i64 l5] 80).step (j := 0) hX
    clear hX
    have hbA := At.new w1 #[.int .i64 d0] 2
    cases f0
    · go_wp2_with fail
      go_returns
      exact ⟨ret_bool (by rw [← HR.out]; simp), CA.x⟩
    · go_wp2_with fail
      refine (B0.out _ _ (at_row hbA rfl)).mono ?_; rintro e w1' ⟨rfl, rfl⟩
      replace CA := CA.push #[.int .i64 d0] 2
      clear hbA
      cases g0
      · go_wp2_with fail
        rw [rounds_succ]
        have ca := (CA.get 2 rfl).cell 2; have cb := (CA.get 2 rfl).cell 3
        go_wp2_with fail
        clear ca cb
        refine (P4.out _).mono ?_; rintro e w2 ⟨rfl, hX⟩
        replace CA := (CA.push #[.int .i64 n6, .int .i64 l6] 80).step (j := 0) hX
        clear hX
        have hbA := At.new w2 #[.int .i64 d1] 2
        cases f1
        · go_wp2_with fail
          go_returns
          exact ⟨ret_bool (by rw [← HR.out]; simp), CA.x⟩
        · go_wp2_with fail
          refine (B1.out _ _ (at_row hbA rfl)).mono ?_; rintro e w2' ⟨rfl, rfl⟩
          replace CA := CA.push #[.int .i64 d1] 2
          clear hbA
          cases g1
          · go_wp2_with fail
            rw [rounds_succ]
            have ca := (CA.get 4 rfl).cell 4; have cb := (CA.get 4 rfl).cell 5
            go_wp2_with fail
            clear ca cb
            refine (P5.out _).mono ?_; rintro e w3 ⟨rfl, hX⟩
            replace CA := (CA.push #[.int .i64 n7, .int .i64 l7] 80).step (j := 0) hX
            clear hX
            have hbA := At.new w3 #[.int .i64 d2] 2
            cases f2
            · go_wp2_with fail
              go_returns
              exact ⟨ret_bool (by rw [← HR.out]; simp), CA.x⟩
            · go_wp2_with fail
              refine (B2.out _ _ (at_row hbA rfl)).mono ?_; rintro e w3' ⟨rfl, rfl⟩
              replace CA := CA.push #[.int .i64 d2] 2
              clear hbA
              cases g2
              · go_wp2_with fail
                rw [rounds_succ]
                go_wp2_with fail
                go_returns
                exact ⟨ret_bool (by rw [← HR.out]; rfl), CA.x⟩
              · go_wp2_with fail
                go_returns
                exact ⟨ret_bool (by rw [← HR.out]; simp), CA.x⟩
          · go_wp2_with fail
            go_returns
            exact ⟨ret_bool (by rw [← HR.out]; simp), CA.x⟩
      · go_wp2_with fail
        go_returns
        exact ⟨ret_bool (by rw [← HR.out]; simp), CA.x⟩
  · rw [hf, Bool.false_and] at hr
    subst hr
    go_wp2_with fail
    go_returns
    exact ⟨rfl, hC.x⟩
end Go.Proofs.Ytmdgikikiijjbaa
