/- Walk of the law FrameReads: any bytes begin with the frame that the document says, or are refused as it says. -/
import Derived.Test.YtgdahhpenlbhoaaW05
import Derived.Test.YtgdahhpenlbhoaaSh
namespace Go.Proofs.Ytgdahhpenlbhoaa
open Go.RowKit

structure C52 (W : World) (z1 z2 : Nat) (k : Int) (p : ByteArray) (j : Nat) (w : World) : Prop where
  A : At w z1 #[.int .i64 k, .string p]
  B : At w z2 #[.int .i64 k, .string p]
  x : Chg [] W w
theorem C52.step {W : World} {z1 z2 : Nat} {k : Int} {p : ByteArray} {i j : Nat} {w w' : World} (h : C52 W z1 z2 k p i w) (hX : Chg [] w w') : C52 W z1 z2 k p j w' :=
  ⟨hX.at h.A (by simp), hX.at h.B (by simp), h.x.trans hX⟩

set_option maxRecDepth 100000 in
theorem frd_big (W : World) (s : ByteArray) (hl : 500 < s.size) :
    Calls Try.prog 4 #[.string s] W fun e w' => e = .returned (.bool true) ∧ Below W.heap.size W w' := by
  go_enter Try.func4, Try.ntmps4
  go_wp2_with fail
  refine (awake05 _).mono ?_; rintro e w1 ⟨rfl, hX1⟩
  go_wp2_with fail
  refine (awake05 _).mono ?_; rintro e w2 ⟨rfl, hX2⟩
  go_wp2
  go_returns
  exact ⟨rfl, Chg.to_below (hX1.trans hX2)⟩

set_option maxRecDepth 100000 in
set_option maxHeartbeats 2000000 in
theorem frd_ok (W : World) (s : ByteArray) (hs : s.size ≤ 500) (k : Int) (p : ByteArray) (n : Nat) (er : Int) (her : er = 0)
    (HL : ∀ w, Calls Try.prog 12 #[.agg #[.int .i64 k, .string p]] w fun e w' => e = .returned (.agg #[.int .i64 k, .string p]) ∧ Chg [] w w')
    (HR : ∀ w, Calls Try.prog 13 #[.string s] w fun e w' => e = .returned (.tuple #[.agg #[.int .i64 k, .string p], .int .i64 n, .int .i64 er]) ∧ Chg [] w w')
    (HQ : ∀ w, Calls Try.prog 16 #[.string s] w fun e w' => e = .returned (.tuple #[.agg #[.int .i64 k, .string p], .int .i64 n, .int .i64 er]) ∧ Chg [] w w')
    (HP : ∀ w, Calls Try.prog 10 #[.agg #[.int .i64 k, .string p]] w fun e w' => e = .returned (.string (s.extract 0 n)) ∧ Chg [] w w')
    (HS : ∀ w, (Instr.slice 9 (.string s) none (some (.int .i64 (n : Int))) none).run Try.prog w = .ok (.string (s.extract 0 n)) w) :
    Calls Try.prog 4 #[.string s] W fun e w' => e = .returned (.bool true) ∧ Below W.heap.size W w' := by
  subst her
  generalize s.extract 0 n = q at *
  go_enter Try.func4, Try.ntmps4
  go_wp2_with fail
  refine (awake05 _).mono ?_; rintro e w1 ⟨rfl, hX⟩
  go_wp2_with fail
  refine (HR _).mono ?_; rintro e w2 ⟨rfl, hX1⟩
  have hA := At.new w2 #[.int .i64 k, .string p] 23
  replace hX := (hX.trans hX1).alloc (.cells #[.int .i64 k, .string p] 23)
  clear hX1
  go_wp2_with fail
  refine (HQ _).mono ?_; rintro e w3 ⟨rfl, hX1⟩
  replace hA := (hX1.at hA (by simp)).alloc (.cells #[.int .i64 k, .string p] 27)
  have hB := At.new w3 #[.int .i64 k, .string p] 27
  replace hX := (hX.trans hX1).alloc (.cells #[.int .i64 k, .string p] 27)
  clear hX1
  go_wp2_with fail
  generalize w2.heap.size = z1 at *
  generalize w3.heap.size = z2 at *
  have hC0 : C52 W z1 z2 k p 0 (w3.alloc (.cells #[.int .i64 k, .string p] 27)).drew := ⟨hA.drew, hB.drew, hX.drew⟩
  clear hA hB hX
  refine wp_region_stage (C52 W z1 z2 k p) [1, 19] [(0, 0, false), (0, 0, true), (0, 1, false), (1, 1, false), (1, 1, false), (1, 1, false), (1, 1, false), (1, 1, false), (1, 1, false), (1, 1, false), (1, 1, false), (1, 1, false), (1, 1, false), (1, 1, false), (1, 1, false), (1, 1, false), (1, 1, false), (1, 1, false), (1, 1, false), (1, 1, true), (1, 2, false), (1, 2, false), (1, 2, false), (2, 2, false), (2, 2, false), (2, 2, false), (2, 2, false)]
    (by kernel_rfl) (by kernel_rfl) (by kernel_rfl) (hC0) ?_
  simp only [List.zip_cons_cons, List.zip_nil_right]
  refine wpStage_yes (by go_simp) ?_
  intro K hK
  apply Exists.intro
  refine ⟨fun kk w2 hk1 hk2 hC => ?_, ?_⟩
  · have a0 := hC.A.cell 0; have a1 := hC.A.cell 1
    go_simp
    with_reducible exact rfl
  go_simp
  refine hK _ ?_
  clear hK K
  refine wpStage_yes (by go_simp) ?_
  intro K hK
  apply Exists.intro
  refine ⟨fun kk w2 hk1 hk2 hC => ?_, ?_⟩
  · go_simp
    go_at_call 12; refine (HL _).mono ?_; rintro e w' ⟨rfl, hX⟩
    exact ⟨rfl, hC.step hX⟩
  go_simp
  refine hK _ ?_
  clear hK K
  refine wpStage_yes (by go_simp) ?_
  intro K hK
  apply Exists.intro
  refine ⟨fun kk w2 hk1 hk2 hC => ?_, ?_⟩
  · have b0 := hC.B.cell 0; have b1 := hC.B.cell 1
    go_simp
    with_reducible exact rfl
  go_simp
  refine hK _ ?_
  clear hK K
  refine wpStage_yes (by go_simp) ?_
  intro K hK
  apply Exists.intro
  refine ⟨fun kk w2 hk1 hk2 hC => ?_, ?_⟩
  · go_simp
    with_reducible exact rfl
  go_simp
  refine hK _ ?_
  clear hK K
  refine wpStage_yes (by go_simp) ?_
  intro K hK
  apply Exists.intro
  refine ⟨fun kk w2 hk1 hk2 hC => ?_, ?_⟩
  · go_simp
    with_reducible exact rfl
  go_simp
  refine hK _ ?_
  clear hK K
  refine wpStage_yes (by go_simp) ?_
  intro K hK
  apply Exists.intro
  refine ⟨fun kk w2 hk1 hk2 hC => ?_, ?_⟩
  · go_simp
    with_reducible exact rfl
  go_simp
  refine hK _ ?_
  clear hK K
  refine wpStage_yes (by go_simp) ?_
  intro K hK
  apply Exists.intro
  refine ⟨fun kk w2 hk1 hk2 hC => ?_, ?_⟩
  · go_simp
    with_reducible exact rfl
  go_simp
  refine hK _ ?_
  clear hK K
  refine wpStage_yes (by go_simp) ?_
  intro K hK
  apply Exists.intro
  refine ⟨fun kk w2 hk1 hk2 hC => ?_, ?_⟩
  · go_simp
    with_reducible exact rfl
  go_simp
  refine hK _ ?_
  clear hK K
  refine wpStage_yes (by go_simp) ?_
  intro K hK
  apply Exists.intro
  refine ⟨fun kk w2 hk1 hk2 hC => ?_, ?_⟩
  · go_simp
    with_reducible exact rfl
  go_simp
  refine hK _ ?_
  clear hK K
  refine wpStage_yes (by go_simp) ?_
  intro K hK
  apply Exists.intro
  refine ⟨fun kk w2 hk1 hk2 hC => ?_, ?_⟩
  · go_simp
    with_reducible exact rfl
  go_simp
  refine hK _ ?_
  clear hK K
  refine wpStage_yes (by go_simp) ?_
  intro K hK
  apply Exists.intro
  refine ⟨fun kk w2 hk1 hk2 hC => ?_, ?_⟩
  · go_simp
    with_reducible exact rfl
  go_simp
  refine hK _ ?_
  clear hK K
  refine wpStage_yes (by go_simp) ?_
  intro K hK
  apply Exists.intro
  refine ⟨fun kk w2 hk1 hk2 hC => ?_, ?_⟩
  · go_simp
    with_reducible exact rfl
  go_simp
  refine hK _ ?_
  clear hK K
  refine wpStage_yes (by go_simp) ?_
  intro K hK
  apply Exists.intro
  refine ⟨fun kk w2 hk1 hk2 hC => ?_, ?_⟩
  · go_simp
    with_reducible exact rfl
  go_simp
  refine hK _ ?_
  clear hK K
  refine wpStage_yes (by go_simp) ?_
  intro K hK
  apply Exists.intro
  refine ⟨fun kk w2 hk1 hk2 hC => ?_, ?_⟩
  · go_simp
    with_reducible exact rfl
  go_simp
  refine hK _ ?_
  clear hK K
  refine wpStage_yes (by go_simp) ?_
  intro K hK
  apply Exists.intro
  refine ⟨fun kk w2 hk1 hk2 hC => ?_, ?_⟩
  · go_simp
    with_reducible exact rfl
  go_simp
  refine hK _ ?_
  clear hK K
  refine wpStage_yes (by go_simp) ?_
  intro K hK
  apply Exists.intro
  refine ⟨fun kk w2 hk1 hk2 hC => ?_, ?_⟩
  · go_simp
    with_reducible exact rfl
  go_simp
  refine hK _ ?_
  clear hK K
  refine wpStage_yes (by go_simp) ?_
  intro K hK
  apply Exists.intro
  refine ⟨fun kk w2 hk1 hk2 hC => ?_, ?_⟩
  · go_simp
    with_reducible exact rfl
  go_simp
  refine hK _ ?_
  clear hK K
  refine wpStage_yes (by go_simp) ?_
  intro K hK
  apply Exists.intro
  refine ⟨fun kk w2 hk1 hk2 hC => ?_, ?_⟩
  · go_simp
    with_reducible exact rfl
  go_simp
  refine hK _ ?_
  clear hK K
  refine wpStage_yes (by go_simp) ?_
  intro K hK
  apply Exists.intro
  refine ⟨fun kk w2 hk1 hk2 hC => ?_, ?_⟩
  · have a0 := hC.A.cell 0; have a1 := hC.A.cell 1
    go_simp
    with_reducible exact rfl
  go_simp
  refine hK _ ?_
  clear hK K
  refine wpStage_yes (by go_simp) ?_
  intro K hK
  apply Exists.intro
  refine ⟨fun kk w2 hk1 hk2 hC => ?_, ?_⟩
  · go_simp
    go_at_call 10; refine (HP _).mono ?_; rintro e w' ⟨rfl, hX⟩
    exact ⟨rfl, hC.step hX⟩
  go_simp
  refine hK _ ?_
  clear hK K
  refine wpStage_yes (by go_simp) ?_
  intro K hK
  apply Exists.intro
  refine ⟨fun kk w2 hk1 hk2 hC => ?_, ?_⟩
  · go_simp
    with_reducible exact rfl
  go_simp
  refine hK _ ?_
  clear hK K
  refine wpStage_yes (by go_simp) ?_
  intro K hK
  apply Exists.intro
  refine ⟨fun kk w2 hk1 hk2 hC => ?_, ?_⟩
  · go_simp
    with_reducible exact rfl
  go_simp
  refine hK _ ?_
  clear hK K
  refine wpStage_yes (by go_simp) ?_
  intro K hK
  apply Exists.intro
  refine ⟨fun kk w2 hk1 hk2 hC => ?_, ?_⟩
  · have S1 := HS w2
    go_simp
    with_reducible exact rfl
  go_simp
  refine hK _ ?_
  clear hK K
  refine wpStage_yes (by go_simp) ?_
  intro K hK
  apply Exists.intro
  refine ⟨fun kk w2 hk1 hk2 hC => ?_, ?_⟩
  · go_simp
    with_reducible exact rfl
  go_simp
  refine hK _ ?_
  clear hK K
  refine wpStage_yes (by go_simp) ?_
  intro K hK
  apply Exists.intro
  refine ⟨fun kk w2 hk1 hk2 hC => ?_, ?_⟩
  · go_simp
    with_reducible exact rfl
  go_simp
  refine hK _ ?_
  clear hK K
  refine wpStage_yes (by go_simp) ?_
  intro K hK
  apply Exists.intro
  refine ⟨fun kk w2 hk1 hk2 hC => ?_, ?_⟩
  · go_simp
    with_reducible exact rfl
  go_simp
  refine hK _ ?_
  clear hK K
  refine wpStage_yes (by go_simp) ?_
  intro K hK
  apply Exists.intro
  refine ⟨fun kk w2 hk1 hk2 hC => ?_, ?_⟩
  · go_simp
    with_reducible exact rfl
  go_simp
  refine hK _ ?_
  clear hK K
  refine wpStage_nil (fun w2 hC => ?_)
  go_wp2
  go_returns
  exact ⟨rfl, Chg.to_below hC.x⟩

set_option maxRecDepth 100000 in
set_option maxHeartbeats 2000000 in
theorem frd_bad (W : World) (s : ByteArray) (hs : s.size ≤ 500) (k : Int) (p : ByteArray) (n : Nat) (er : Int) (her : er = 3 ∨ er = 4 ∨ er = 5)
    (HL : ∀ w, Calls Try.prog 12 #[.agg #[.int .i64 k, .string p]] w fun e w' => e = .returned (.agg #[.int .i64 k, .string p]) ∧ Chg [] w w')
    (HR : ∀ w, Calls Try.prog 13 #[.string s] w fun e w' => e = .returned (.tuple #[.agg #[.int .i64 k, .string p], .int .i64 n, .int .i64 er]) ∧ Chg [] w w')
    (HQ : ∀ w, Calls Try.prog 16 #[.string s] w fun e w' => e = .returned (.tuple #[.agg #[.int .i64 k, .string p], .int .i64 n, .int .i64 er]) ∧ Chg [] w w') :
    Calls Try.prog 4 #[.string s] W fun e w' => e = .returned (.bool true) ∧ Below W.heap.size W w' := by
  have hne : (er != 0) = true := by rcases her with rfl | rfl | rfl <;> decide
  clear her
  go_enter Try.func4, Try.ntmps4
  go_wp2_with fail
  refine (awake05 _).mono ?_; rintro e w1 ⟨rfl, hX⟩
  go_wp2_with fail
  refine (HR _).mono ?_; rintro e w2 ⟨rfl, hX1⟩
  have hA := At.new w2 #[.int .i64 k, .string p] 23
  replace hX := (hX.trans hX1).alloc (.cells #[.int .i64 k, .string p] 23)
  clear hX1
  go_wp2_with fail
  refine (HQ _).mono ?_; rintro e w3 ⟨rfl, hX1⟩
  replace hA := (hX1.at hA (by simp)).alloc (.cells #[.int .i64 k, .string p] 27)
  have hB := At.new w3 #[.int .i64 k, .string p] 27
  replace hX := (hX.trans hX1).alloc (.cells #[.int .i64 k, .string p] 27)
  clear hX1
  go_wp2_with fail
  generalize w2.heap.size = z1 at *
  generalize w3.heap.size = z2 at *
  have hC0 : C52 W z1 z2 k p 0 (w3.alloc (.cells #[.int .i64 k, .string p] 27)).drew := ⟨hA.drew, hB.drew, hX.drew⟩
  clear hA hB hX
  refine wp_region_stage (C52 W z1 z2 k p) [1] [(0, 0, false), (0, 0, true), (0, 1, false), (1, 1, false), (1, 1, false), (1, 1, false), (1, 1, false), (1, 1, false), (1, 1, false), (1, 1, false), (1, 1, false), (1, 1, false), (1, 1, false), (1, 1, false), (1, 1, false), (1, 1, false), (1, 1, false), (1, 1, false), (1, 1, false), (1, 1, false), (1, 1, false), (1, 1, false), (1, 1, false), (1, 1, false), (1, 1, false), (1, 1, false), (1, 1, false)]
    (by kernel_rfl) (by kernel_rfl) (by kernel_rfl) (hC0) ?_
  simp only [List.zip_cons_cons, List.zip_nil_right]
  refine wpStage_yes (by go_simp) ?_
  intro K hK
  apply Exists.intro
  refine ⟨fun kk w2 hk1 hk2 hC => ?_, ?_⟩
  · have a0 := hC.A.cell 0; have a1 := hC.A.cell 1
    go_simp
    with_reducible exact rfl
  go_simp
  refine hK _ ?_
  clear hK K
  refine wpStage_yes (by go_simp) ?_
  intro K hK
  apply Exists.intro
  refine ⟨fun kk w2 hk1 hk2 hC => ?_, ?_⟩
  · go_simp
    go_at_call 12; refine (HL _).mono ?_; rintro e w' ⟨rfl, hX⟩
    exact ⟨rfl, hC.step hX⟩
  go_simp
  refine hK _ ?_
  clear hK K
  refine wpStage_yes (by go_simp) ?_
  intro K hK
  apply Exists.intro
  refine ⟨fun kk w2 hk1 hk2 hC => ?_, ?_⟩
  · have b0 := hC.B.cell 0; have b1 := hC.B.cell 1
    go_simp
    with_reducible exact rfl
  go_simp
  refine hK _ ?_
  clear hK K
  refine wpStage_yes (by go_simp) ?_
  intro K hK
  apply Exists.intro
  refine ⟨fun kk w2 hk1 hk2 hC => ?_, ?_⟩
  · go_simp
    with_reducible exact rfl
  go_simp
  refine hK _ ?_
  clear hK K
  refine wpStage_yes (by go_simp) ?_
  intro K hK
  apply Exists.intro
  refine ⟨fun kk w2 hk1 hk2 hC => ?_, ?_⟩
  · go_simp
    with_reducible exact rfl
  go_simp
  refine hK _ ?_
  clear hK K
  refine wpStage_yes (by go_simp) ?_
  intro K hK
  apply Exists.intro
  refine ⟨fun kk w2 hk1 hk2 hC => ?_, ?_⟩
  · go_simp
    with_reducible exact rfl
  go_simp
  refine hK _ ?_
  clear hK K
  refine wpStage_yes (by go_simp) ?_
  intro K hK
  apply Exists.intro
  refine ⟨fun kk w2 hk1 hk2 hC => ?_, ?_⟩
  · go_simp
    with_reducible exact rfl
  go_simp
  refine hK _ ?_
  clear hK K
  refine wpStage_yes (by go_simp) ?_
  intro K hK
  apply Exists.intro
  refine ⟨fun kk w2 hk1 hk2 hC => ?_, ?_⟩
  · go_simp
    with_reducible exact rfl
  go_simp
  refine hK _ ?_
  clear hK K
  refine wpStage_yes (by go_simp) ?_
  intro K hK
  apply Exists.intro
  refine ⟨fun kk w2 hk1 hk2 hC => ?_, ?_⟩
  · go_simp
    with_reducible exact rfl
  go_simp
  refine hK _ ?_
  clear hK K
  refine wpStage_yes (by go_simp) ?_
  intro K hK
  apply Exists.intro
  refine ⟨fun kk w2 hk1 hk2 hC => ?_, ?_⟩
  · go_simp
    with_reducible exact rfl
  go_simp
  refine hK _ ?_
  clear hK K
  refine wpStage_yes (by go_simp) ?_
  intro K hK
  apply Exists.intro
  refine ⟨fun kk w2 hk1 hk2 hC => ?_, ?_⟩
  · go_simp
    with_reducible exact rfl
  go_simp
  refine hK _ ?_
  clear hK K
  refine wpStage_yes (by go_simp) ?_
  intro K hK
  apply Exists.intro
  refine ⟨fun kk w2 hk1 hk2 hC => ?_, ?_⟩
  · go_simp
    with_reducible exact rfl
  go_simp
  refine hK _ ?_
  clear hK K
  refine wpStage_yes (by go_simp) ?_
  intro K hK
  apply Exists.intro
  refine ⟨fun kk w2 hk1 hk2 hC => ?_, ?_⟩
  · go_simp
    with_reducible exact rfl
  go_simp
  refine hK _ ?_
  clear hK K
  refine wpStage_yes (by go_simp) ?_
  intro K hK
  apply Exists.intro
  refine ⟨fun kk w2 hk1 hk2 hC => ?_, ?_⟩
  · go_simp
    with_reducible exact rfl
  go_simp
  refine hK _ ?_
  clear hK K
  refine wpStage_yes (by go_simp) ?_
  intro K hK
  apply Exists.intro
  refine ⟨fun kk w2 hk1 hk2 hC => ?_, ?_⟩
  · go_simp
    with_reducible exact rfl
  go_simp
  refine hK _ ?_
  clear hK K
  refine wpStage_yes (by go_simp) ?_
  intro K hK
  apply Exists.intro
  refine ⟨fun kk w2 hk1 hk2 hC => ?_, ?_⟩
  · go_simp
    with_reducible exact rfl
  go_simp
  refine hK _ ?_
  clear hK K
  refine wpStage_yes (by go_simp) ?_
  intro K hK
  apply Exists.intro
  refine ⟨fun kk w2 hk1 hk2 hC => ?_, ?_⟩
  · go_simp
    with_reducible exact rfl
  go_simp
  refine hK _ ?_
  clear hK K
  refine wpStage_yes (by go_simp) ?_
  intro K hK
  apply Exists.intro
  refine ⟨fun kk w2 hk1 hk2 hC => ?_, ?_⟩
  · go_simp
    with_reducible exact rfl
  go_simp
  refine hK _ ?_
  clear hK K
  refine wpStage_no (by go_simp) ?_
  intro K hK
  go_simp
  refine hK _ ?_
  clear hK K
  refine wpStage_no (by go_simp) ?_
  intro K hK
  go_simp
  refine hK _ ?_
  clear hK K
  refine wpStage_no (by go_simp) ?_
  intro K hK
  go_simp
  refine hK _ ?_
  clear hK K
  refine wpStage_no (by go_simp) ?_
  intro K hK
  go_simp
  refine hK _ ?_
  clear hK K
  refine wpStage_no (by go_simp) ?_
  intro K hK
  go_simp
  refine hK _ ?_
  clear hK K
  refine wpStage_no (by go_simp) ?_
  intro K hK
  go_simp
  refine hK _ ?_
  clear hK K
  refine wpStage_yes (by go_simp) ?_
  intro K hK
  apply Exists.intro
  refine ⟨fun kk w2 hk1 hk2 hC => ?_, ?_⟩
  · go_simp
    with_reducible exact rfl
  go_simp
  refine hK _ ?_
  clear hK K
  refine wpStage_yes (by go_simp) ?_
  intro K hK
  apply Exists.intro
  refine ⟨fun kk w2 hk1 hk2 hC => ?_, ?_⟩
  · go_simp
    with_reducible exact rfl
  go_simp
  refine hK _ ?_
  clear hK K
  refine wpStage_yes (by go_simp) ?_
  intro K hK
  apply Exists.intro
  refine ⟨fun kk w2 hk1 hk2 hC => ?_, ?_⟩
  · go_simp
    with_reducible exact rfl
  go_simp
  refine hK _ ?_
  clear hK K
  refine wpStage_nil (fun w2 hC => ?_)
  go_wp2
  go_returns
  exact ⟨rfl, Chg.to_below hC.x⟩

theorem FrameReads_walk (W : World) (s : ByteArray) (_hs : s.size ≤ maxLen) :
    Calls Try.prog 4 #[.string s] W fun e w' => e = .returned (.bool true) ∧ Below W.heap.size W w' := by
  by_cases hl : 500 < s.size
  · exact frd_big W s hl
  have h5 : s.size ≤ 500 := by omega
  have hm : s.size ≤ maxLen := by unfold maxLen; omega
  by_cases h0 : (fread s).e = 0
  · obtain ⟨hb, hsh, hq⟩ := fread_zero h0
    have hn := fread_len h0
    have e := fread_ok hb hsh hq
    have hp := (print_frm s hb hsh).2 hq
    refine frd_ok W s h5 (fread s).f.k (fread s).f.p (fread s).n (fread s).e h0 (fun w => flike_any w (fread s).f) (fun w => fread_any w s hm) (fun w => frread_any w s hm) (fun w => ?_) (fun w => ?_)
    · have := fprint_any w (fread s).f
      rw [e] at this ⊢
      rw [hp] at this
      exact this
    · exact slice_to w s rfl (by rw [e]; exact hn.1)
  · refine frd_bad W s h5 (fread s).f.k (fread s).f.p (fread s).n (fread s).e ?_ (fun w => flike_any w (fread s).f) (fun w => fread_any w s hm) (fun w => frread_any w s hm)
    rcases fread_kinds s with h | h | h | h
    · exact Or.inl h.1
    · exact Or.inr (Or.inr h.1)
    · exact Or.inr (Or.inl h.1)
    · exact absurd h.1 h0
end Go.Proofs.Ytgdahhpenlbhoaa
