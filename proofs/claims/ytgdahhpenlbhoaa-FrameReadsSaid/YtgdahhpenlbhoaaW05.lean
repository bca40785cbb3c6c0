/- Package apogeelaw05: 'awake'. -/
import Derived.Test.YtgdahhpenlbhoaaF05
namespace Go.Proofs.Ytgdahhpenlbhoaa
open Go.RowKit

structure C5 (W : World) (z1 z3 x c g : Nat) (k : Nat) (w : World) : Prop where
  A : At w z1 #[.int .i64 1, .string ⟨#[97, 98]⟩]
  B : At w z3 #[.int .i64 1, .string ⟨#[97, 98]⟩]
  S : Strm w x c ByteArray.empty 5
  g0 : w.cell? ⟨g, 0, none⟩ = some (.int .i64 1)
  g1 : w.cell? ⟨g, 1, none⟩ = some (.string ⟨#[97, 98]⟩)
  x : Chg [] W w
theorem C5.step {W : World} {z1 z3 x c g k j : Nat} {w w' : World} (h : C5 W z1 z3 x c g k w) (hX : Chg [] w w') : C5 W z1 z3 x c g j w' :=
  ⟨hX.at h.A (by simp), hX.at h.B (by simp), h.S.keep hX (by simp) (by simp), hX.cell h.g0 (by simp), hX.cell h.g1 (by simp), h.x.trans hX⟩

set_option maxRecDepth 100000 in
set_option maxHeartbeats 2000000 in
theorem aw05 (W : World) (p : ByteArray) (hsz : p.size = 8)
    (HP : ∀ w, Calls Try.prog 10 #[.agg #[.int .i64 1, .string ⟨#[97, 98]⟩]] w fun e w' => e = .returned (.string p) ∧ Chg [] w w')
    (HRt : ∀ w, Calls Try.prog 15 #[.agg #[.int .i64 1, .string ⟨#[97, 98]⟩]] w fun e w' => e = .returned (.bool true) ∧ Chg [] w w')
    (HPn : ∀ w, Calls Try.prog 10 #[.agg #[.int .i64 256, .string ByteArray.empty]] w fun e w' => e = .returned (.string ByteArray.empty) ∧ Chg [] w w')
    (HA : ∀ w, Calls Try.prog 13 #[.string (p ++ ⟨#[120]⟩)] w fun e w' => e = .returned (.tuple #[.agg #[.int .i64 1, .string ⟨#[97, 98]⟩], .int .i64 8, .int .i64 0]) ∧ Chg [] w w')
    (HB : ∀ w, Calls Try.prog 13 #[.string (p.extract 0 7)] w fun e w' => e = .returned (.tuple #[.agg #[.int .i64 0, .string ByteArray.empty], .int .i64 0, .int .i64 5]) ∧ Chg [] w w')
    (HC : ∀ w, Calls Try.prog 13 #[.string (⟨#[120]⟩)] w fun e w' => e = .returned (.tuple #[.agg #[.int .i64 0, .string ByteArray.empty], .int .i64 0, .int .i64 3]) ∧ Chg [] w w')
    (HD : ∀ w, Calls Try.prog 13 #[.string (p.extract 0 7 ++ ⟨#[63]⟩)] w fun e w' => e = .returned (.tuple #[.agg #[.int .i64 0, .string ByteArray.empty], .int .i64 0, .int .i64 4]) ∧ Chg [] w w')
    (e5 : scan (⟨#[110, 111, 105, 115, 101]⟩ ++ p.extract 0 3) = ([], p.extract 0 3, 5))
    (e6 : scan (p.extract 0 3 ++ p.extract 3 p.size) = ([⟨1, ⟨#[97, 98]⟩⟩], ByteArray.empty, 0)) :
    Calls Try.prog 9 #[] W fun e w' => e = .returned (.bool true) ∧ Chg [] W w' := by
  have hz7 : (p.extract 0 7).size = 7 := by rw [size_ext _ _ _ (by omega) (by omega)]
  have hz3 : (p.extract 0 3).size = 3 := by rw [size_ext _ _ _ (by omega) (by omega)]
  have hz5 : (p.extract 3 p.size).size = 5 := by rw [size_ext _ _ _ (by omega) (by omega)]; omega
  have S7 := fun w => slice_to w p (j := 7) (b := 7) rfl (by omega)
  have S3 := fun w => slice_to w p (j := 3) (b := 3) rfl (by omega)
  have S8 := fun w => slice_from w p (i := 3) (a := 3) rfl (by omega)
  rw [hsz] at e6 hz5 S8
  go_enter Try.func9, Try.ntmps9
  go_wp2_with fail
  refine (HP _).mono ?_; rintro e w1 ⟨rfl, hX1⟩
  have hA := hX1.at (At.new W #[.int .i64 1, .string ⟨#[97, 98]⟩] 23) (by simp)
  have hX : Chg [] W w1 := ((Chg.refl _ _).alloc _).trans hX1
  clear hX1
  generalize hz1 : W.heap.size = z1 at hA ⊢
  go_wp2_with fail
  refine (HA _).mono ?_; rintro e w2 ⟨rfl, hX1⟩
  replace hA := (hX1.at hA (by simp)).alloc (.cells #[.int .i64 1, .string ⟨#[97, 98]⟩] 23)
  have hB := At.new w2 #[.int .i64 1, .string ⟨#[97, 98]⟩] 23
  replace hX := (hX.trans hX1).alloc (.cells #[.int .i64 1, .string ⟨#[97, 98]⟩] 23)
  clear hX1
  generalize hz3' : w2.heap.size = z3 at hB ⊢
  go_wp2_with fail
  refine (HB _).mono ?_; rintro e w3 ⟨rfl, hX1⟩
  replace hA := (hX1.at hA (by simp)).alloc (.cells FV.none.cells 23)
  replace hB := (hX1.at hB (by simp)).alloc (.cells FV.none.cells 23)
  replace hX := (hX.trans hX1).alloc (.cells FV.none.cells 23)
  clear hX1
  go_wp2_with fail
  refine (HC _).mono ?_; rintro e w4 ⟨rfl, hX1⟩
  replace hA := (hX1.at hA (by simp)).alloc (.cells FV.none.cells 23)
  replace hB := (hX1.at hB (by simp)).alloc (.cells FV.none.cells 23)
  replace hX := (hX.trans hX1).alloc (.cells FV.none.cells 23)
  clear hX1
  go_wp2_with fail
  refine (HD _).mono ?_; rintro e w5 ⟨rfl, hX1⟩
  replace hA := (hX1.at hA (by simp)).alloc (.cells FV.none.cells 23)
  replace hB := (hX1.at hB (by simp)).alloc (.cells FV.none.cells 23)
  replace hX := (hX.trans hX1).alloc (.cells FV.none.cells 23)
  clear hX1
  go_wp2_with fail
  refine (fnew_any _).mono ?_; rintro e w6 ⟨x, c, rfl, hx, hc, hS, hX1⟩
  rw [none_cells] at hA hB hX
  have hlA := hA.lt
  have hlB := hB.lt
  have hxA : z1 ≠ x := by omega
  have hcA : z1 ≠ c := by omega
  have hxB : z3 ≠ x := by omega
  have hcB : z3 ≠ c := by omega
  have hxW : W.heap.size ≤ x := by have := hX.size; omega
  have hcW : W.heap.size ≤ c := by have := hX.size; omega
  replace hA := hX1.at hA (by simp)
  replace hB := hX1.at hB (by simp)
  replace hX := hX.trans hX1
  clear hX1 hx hc hlA hlB
  go_wp2_with fail
  have HH := ffeed_any w6 x c ByteArray.empty (⟨#[110, 111, 105, 115, 101]⟩ ++ p.extract 0 3) 0 hS (by omega) (by omega) (by have h1 : (ByteArray.mk #[110, 111, 105, 115, 101] ++ p.extract 0 3).size = 5 + (p.extract 0 3).size := ByteArray.size_append; have h2 : ByteArray.empty.size = 0 := rfl; omega)
  refine HH.mono ?_; clear HH; rintro e w7 ⟨v1, rfl, hF1, hS1, hX1⟩
  rw [empty_app, e5] at hF1 hS1
  rw [show cAdd 0 1000000 ((5 : Nat) : Int) = 5 from rfl] at hS1
  obtain ⟨p1, cap1, rfl⟩ := hF1.form
  clear hF1 hS
  replace hA := hX1.at hA (by simp; omega)
  replace hB := hX1.at hB (by simp; omega)
  replace hX : Chg [] W w7 := hX.then hX1 (by simp; omega)
  clear hX1
  go_wp2_with fail
  have HH := ffeed_any w7 x c (p.extract 0 3) (p.extract 3 8) 5 hS1 (by omega) (by omega) (by omega)
  refine HH.mono ?_; clear HH; rintro e w8 ⟨v2, rfl, hF2, hS2, hX1⟩
  rw [e6] at hF2 hS2
  rw [show cAdd 5 1000000 ((0 : Nat) : Int) = 5 from rfl] at hS2
  obtain ⟨g, cap2, rfl, -, -, hgc⟩ := hF2.out (by decide)
  obtain ⟨g0, g1⟩ := hgc 0 ⟨1, ⟨#[97, 98]⟩⟩ rfl
  clear hgc hF2 hS1
  replace hA := hX1.at hA (by simp; omega)
  replace hB := hX1.at hB (by simp; omega)
  replace hX : Chg [] W w8 := hX.then hX1 (by simp; omega)
  clear hX1
  go_wp2_with fail
  have hC0 : C5 W z1 z3 x c g 0 w8.drew := ⟨hA.drew, hB.drew, hS2.keep ((Chg.refl [] _).drew) (by simp) (by simp), g0, g1, hX.drew⟩
  clear hA hB hS2 hX g0 g1 e5 e6 HA HB HC HD HP S7 S3 S8
  refine wp_region_stage (C5 W z1 z3 x c g) [52, 56] [(0, 0, false), (0, 0, false), (0, 0, false), (0, 0, false), (0, 0, false), (0, 0, false), (0, 0, false), (0, 0, false), (0, 0, false), (0, 0, false), (0, 0, false), (0, 0, false), (0, 0, false), (0, 0, false), (0, 0, false), (0, 0, false), (0, 0, false), (0, 0, false), (0, 0, false), (0, 0, false), (0, 0, false), (0, 0, false), (0, 0, false), (0, 0, false), (0, 0, false), (0, 0, false), (0, 0, false), (0, 0, false), (0, 0, false), (0, 0, false), (0, 0, false), (0, 0, false), (0, 0, false), (0, 0, false), (0, 0, false), (0, 0, false), (0, 0, false), (0, 0, false), (0, 0, false), (0, 0, false), (0, 0, false), (0, 0, false), (0, 0, false), (0, 0, false), (0, 0, false), (0, 0, false), (0, 0, false), (0, 0, false), (0, 0, false), (0, 0, false), (0, 0, false), (0, 0, false), (0, 0, true), (1, 1, false), (1, 1, false), (1, 1, false), (1, 1, true), (2, 2, false), (2, 2, false), (2, 2, false)]
    (by kernel_rfl) (by kernel_rfl) (by kernel_rfl) (hC0) ?_
  simp only [List.zip_cons_cons, List.zip_nil_right]
  refine wpStage_yes (by go_simp) ?_
  intro K hK
  apply Exists.intro
  refine ⟨fun kk wz hk1 hk2 hC => ?_, ?_⟩
  · have b0 := hC.B.cell 0; have b1 := hC.B.cell 1
    go_simp
    with_reducible exact rfl
  go_simp
  refine hK _ ?_
  clear hK K
  refine wpStage_yes (by go_simp) ?_
  intro K hK
  apply Exists.intro
  refine ⟨fun kk wz hk1 hk2 hC => ?_, ?_⟩
  · have a0 := hC.A.cell 0; have a1 := hC.A.cell 1
    go_simp
    with_reducible exact rfl
  go_simp
  refine hK _ ?_
  clear hK K
  refine wpStage_yes (by go_simp) ?_
  intro K hK
  apply Exists.intro
  refine ⟨fun kk wz hk1 hk2 hC => ?_, ?_⟩
  · go_simp
    with_reducible exact rfl
  go_simp
  refine hK _ ?_
  clear hK K
  refine wpStage_yes (by go_simp) ?_
  intro K hK
  apply Exists.intro
  refine ⟨fun kk wz hk1 hk2 hC => ?_, ?_⟩
  · go_simp
    with_reducible exact rfl
  go_simp
  refine hK _ ?_
  clear hK K
  refine wpStage_yes (by go_simp) ?_
  intro K hK
  apply Exists.intro
  refine ⟨fun kk wz hk1 hk2 hC => ?_, ?_⟩
  · go_simp
    with_reducible exact rfl
  go_simp
  refine hK _ ?_
  clear hK K
  refine wpStage_yes (by go_simp) ?_
  intro K hK
  apply Exists.intro
  refine ⟨fun kk wz hk1 hk2 hC => ?_, ?_⟩
  · go_simp
    with_reducible exact rfl
  go_simp
  refine hK _ ?_
  clear hK K
  refine wpStage_yes (by go_simp) ?_
  intro K hK
  apply Exists.intro
  refine ⟨fun kk wz hk1 hk2 hC => ?_, ?_⟩
  · go_simp
    with_reducible exact rfl
  go_simp
  refine hK _ ?_
  clear hK K
  refine wpStage_yes (by go_simp) ?_
  intro K hK
  apply Exists.intro
  refine ⟨fun kk wz hk1 hk2 hC => ?_, ?_⟩
  · go_simp
    with_reducible exact rfl
  go_simp
  refine hK _ ?_
  clear hK K
  refine wpStage_yes (by go_simp) ?_
  intro K hK
  apply Exists.intro
  refine ⟨fun kk wz hk1 hk2 hC => ?_, ?_⟩
  · go_simp
    with_reducible exact rfl
  go_simp
  refine hK _ ?_
  clear hK K
  refine wpStage_yes (by go_simp) ?_
  intro K hK
  apply Exists.intro
  refine ⟨fun kk wz hk1 hk2 hC => ?_, ?_⟩
  · go_simp
    with_reducible exact rfl
  go_simp
  refine hK _ ?_
  clear hK K
  refine wpStage_yes (by go_simp) ?_
  intro K hK
  apply Exists.intro
  refine ⟨fun kk wz hk1 hk2 hC => ?_, ?_⟩
  · go_simp
    with_reducible exact rfl
  go_simp
  refine hK _ ?_
  clear hK K
  refine wpStage_yes (by go_simp) ?_
  intro K hK
  apply Exists.intro
  refine ⟨fun kk wz hk1 hk2 hC => ?_, ?_⟩
  · go_simp
    with_reducible exact rfl
  go_simp
  refine hK _ ?_
  clear hK K
  refine wpStage_yes (by go_simp) ?_
  intro K hK
  apply Exists.intro
  refine ⟨fun kk wz hk1 hk2 hC => ?_, ?_⟩
  · go_simp
    with_reducible exact rfl
  go_simp
  refine hK _ ?_
  clear hK K
  refine wpStage_yes (by go_simp) ?_
  intro K hK
  apply Exists.intro
  refine ⟨fun kk wz hk1 hk2 hC => ?_, ?_⟩
  · go_simp
    with_reducible exact rfl
  go_simp
  refine hK _ ?_
  clear hK K
  refine wpStage_yes (by go_simp) ?_
  intro K hK
  apply Exists.intro
  refine ⟨fun kk wz hk1 hk2 hC => ?_, ?_⟩
  · go_simp
    with_reducible exact rfl
  go_simp
  refine hK _ ?_
  clear hK K
  refine wpStage_yes (by go_simp) ?_
  intro K hK
  apply Exists.intro
  refine ⟨fun kk wz hk1 hk2 hC => ?_, ?_⟩
  · go_simp
    with_reducible exact rfl
  go_simp
  refine hK _ ?_
  clear hK K
  refine wpStage_yes (by go_simp) ?_
  intro K hK
  apply Exists.intro
  refine ⟨fun kk wz hk1 hk2 hC => ?_, ?_⟩
  · go_simp
    with_reducible exact rfl
  go_simp
  refine hK _ ?_
  clear hK K
  refine wpStage_yes (by go_simp) ?_
  intro K hK
  apply Exists.intro
  refine ⟨fun kk wz hk1 hk2 hC => ?_, ?_⟩
  · go_simp
    with_reducible exact rfl
  go_simp
  refine hK _ ?_
  clear hK K
  refine wpStage_yes (by go_simp) ?_
  intro K hK
  apply Exists.intro
  refine ⟨fun kk wz hk1 hk2 hC => ?_, ?_⟩
  · go_simp
    with_reducible exact rfl
  go_simp
  refine hK _ ?_
  clear hK K
  refine wpStage_yes (by go_simp) ?_
  intro K hK
  apply Exists.intro
  refine ⟨fun kk wz hk1 hk2 hC => ?_, ?_⟩
  · go_simp
    with_reducible exact rfl
  go_simp
  refine hK _ ?_
  clear hK K
  refine wpStage_yes (by go_simp) ?_
  intro K hK
  apply Exists.intro
  refine ⟨fun kk wz hk1 hk2 hC => ?_, ?_⟩
  · go_simp
    with_reducible exact rfl
  go_simp
  refine hK _ ?_
  clear hK K
  refine wpStage_yes (by go_simp) ?_
  intro K hK
  apply Exists.intro
  refine ⟨fun kk wz hk1 hk2 hC => ?_, ?_⟩
  · go_simp
    with_reducible exact rfl
  go_simp
  refine hK _ ?_
  clear hK K
  refine wpStage_yes (by go_simp) ?_
  intro K hK
  apply Exists.intro
  refine ⟨fun kk wz hk1 hk2 hC => ?_, ?_⟩
  · go_simp
    with_reducible exact rfl
  go_simp
  refine hK _ ?_
  clear hK K
  refine wpStage_yes (by go_simp) ?_
  intro K hK
  apply Exists.intro
  refine ⟨fun kk wz hk1 hk2 hC => ?_, ?_⟩
  · go_simp
    with_reducible exact rfl
  go_simp
  refine hK _ ?_
  clear hK K
  refine wpStage_yes (by go_simp) ?_
  intro K hK
  apply Exists.intro
  refine ⟨fun kk wz hk1 hk2 hC => ?_, ?_⟩
  · go_simp
    with_reducible exact rfl
  go_simp
  refine hK _ ?_
  clear hK K
  refine wpStage_yes (by go_simp) ?_
  intro K hK
  apply Exists.intro
  refine ⟨fun kk wz hk1 hk2 hC => ?_, ?_⟩
  · go_simp
    with_reducible exact rfl
  go_simp
  refine hK _ ?_
  clear hK K
  refine wpStage_yes (by go_simp) ?_
  intro K hK
  apply Exists.intro
  refine ⟨fun kk wz hk1 hk2 hC => ?_, ?_⟩
  · go_simp
    with_reducible exact rfl
  go_simp
  refine hK _ ?_
  clear hK K
  refine wpStage_yes (by go_simp) ?_
  intro K hK
  apply Exists.intro
  refine ⟨fun kk wz hk1 hk2 hC => ?_, ?_⟩
  · go_simp
    with_reducible exact rfl
  go_simp
  refine hK _ ?_
  clear hK K
  refine wpStage_yes (by go_simp) ?_
  intro K hK
  apply Exists.intro
  refine ⟨fun kk wz hk1 hk2 hC => ?_, ?_⟩
  · go_simp
    with_reducible exact rfl
  go_simp
  refine hK _ ?_
  clear hK K
  refine wpStage_yes (by go_simp) ?_
  intro K hK
  apply Exists.intro
  refine ⟨fun kk wz hk1 hk2 hC => ?_, ?_⟩
  · go_simp
    with_reducible exact rfl
  go_simp
  refine hK _ ?_
  clear hK K
  refine wpStage_yes (by go_simp) ?_
  intro K hK
  apply Exists.intro
  refine ⟨fun kk wz hk1 hk2 hC => ?_, ?_⟩
  · go_simp
    with_reducible exact rfl
  go_simp
  refine hK _ ?_
  clear hK K
  refine wpStage_yes (by go_simp) ?_
  intro K hK
  apply Exists.intro
  refine ⟨fun kk wz hk1 hk2 hC => ?_, ?_⟩
  · go_simp
    with_reducible exact rfl
  go_simp
  refine hK _ ?_
  clear hK K
  refine wpStage_yes (by go_simp) ?_
  intro K hK
  apply Exists.intro
  refine ⟨fun kk wz hk1 hk2 hC => ?_, ?_⟩
  · go_simp
    with_reducible exact rfl
  go_simp
  refine hK _ ?_
  clear hK K
  refine wpStage_yes (by go_simp) ?_
  intro K hK
  apply Exists.intro
  refine ⟨fun kk wz hk1 hk2 hC => ?_, ?_⟩
  · go_simp
    with_reducible exact rfl
  go_simp
  refine hK _ ?_
  clear hK K
  refine wpStage_yes (by go_simp) ?_
  intro K hK
  apply Exists.intro
  refine ⟨fun kk wz hk1 hk2 hC => ?_, ?_⟩
  · go_simp
    with_reducible exact rfl
  go_simp
  refine hK _ ?_
  clear hK K
  refine wpStage_yes (by go_simp) ?_
  intro K hK
  apply Exists.intro
  refine ⟨fun kk wz hk1 hk2 hC => ?_, ?_⟩
  · go_simp
    with_reducible exact rfl
  go_simp
  refine hK _ ?_
  clear hK K
  refine wpStage_yes (by go_simp) ?_
  intro K hK
  apply Exists.intro
  refine ⟨fun kk wz hk1 hk2 hC => ?_, ?_⟩
  · have g0 := hC.g0; have g1 := hC.g1
    go_simp
    with_reducible exact rfl
  go_simp
  refine hK _ ?_
  clear hK K
  refine wpStage_yes (by go_simp) ?_
  intro K hK
  apply Exists.intro
  refine ⟨fun kk wz hk1 hk2 hC => ?_, ?_⟩
  · have a0 := hC.A.cell 0; have a1 := hC.A.cell 1
    go_simp
    with_reducible exact rfl
  go_simp
  refine hK _ ?_
  clear hK K
  refine wpStage_yes (by go_simp) ?_
  intro K hK
  apply Exists.intro
  refine ⟨fun kk wz hk1 hk2 hC => ?_, ?_⟩
  · go_simp
    with_reducible exact rfl
  go_simp
  refine hK _ ?_
  clear hK K
  refine wpStage_yes (by go_simp) ?_
  intro K hK
  apply Exists.intro
  refine ⟨fun kk wz hk1 hk2 hC => ?_, ?_⟩
  · go_simp
    with_reducible exact rfl
  go_simp
  refine hK _ ?_
  clear hK K
  refine wpStage_yes (by go_simp) ?_
  intro K hK
  apply Exists.intro
  refine ⟨fun kk wz hk1 hk2 hC => ?_, ?_⟩
  · go_simp
    with_reducible exact rfl
  go_simp
  refine hK _ ?_
  clear hK K
  refine wpStage_yes (by go_simp) ?_
  intro K hK
  apply Exists.intro
  refine ⟨fun kk wz hk1 hk2 hC => ?_, ?_⟩
  · go_simp
    with_reducible exact rfl
  go_simp
  refine hK _ ?_
  clear hK K
  refine wpStage_yes (by go_simp) ?_
  intro K hK
  apply Exists.intro
  refine ⟨fun kk wz hk1 hk2 hC => ?_, ?_⟩
  · go_simp
    go_at_call 20; refine (fleft_any _ x c _ _ hC.S).mono ?_; rintro e w' ⟨rfl, rfl⟩
    exact ⟨rfl, hC⟩
  go_simp
  refine hK _ ?_
  clear hK K
  refine wpStage_yes (by go_simp) ?_
  intro K hK
  apply Exists.intro
  refine ⟨fun kk wz hk1 hk2 hC => ?_, ?_⟩
  · go_simp
    with_reducible exact rfl
  go_simp
  refine hK _ ?_
  clear hK K
  refine wpStage_yes (by go_simp) ?_
  intro K hK
  apply Exists.intro
  refine ⟨fun kk wz hk1 hk2 hC => ?_, ?_⟩
  · go_simp
    with_reducible exact rfl
  go_simp
  refine hK _ ?_
  clear hK K
  refine wpStage_yes (by go_simp) ?_
  intro K hK
  apply Exists.intro
  refine ⟨fun kk wz hk1 hk2 hC => ?_, ?_⟩
  · go_simp
    with_reducible exact rfl
  go_simp
  refine hK _ ?_
  clear hK K
  refine wpStage_yes (by go_simp) ?_
  intro K hK
  apply Exists.intro
  refine ⟨fun kk wz hk1 hk2 hC => ?_, ?_⟩
  · go_simp
    with_reducible exact rfl
  go_simp
  refine hK _ ?_
  clear hK K
  refine wpStage_yes (by go_simp) ?_
  intro K hK
  apply Exists.intro
  refine ⟨fun kk wz hk1 hk2 hC => ?_, ?_⟩
  · go_simp
    go_at_call 21; refine (fdropped_any _ x c _ _ hC.S).mono ?_; rintro e w' ⟨rfl, rfl⟩
    exact ⟨rfl, hC⟩
  go_simp
  refine hK _ ?_
  clear hK K
  refine wpStage_yes (by go_simp) ?_
  intro K hK
  apply Exists.intro
  refine ⟨fun kk wz hk1 hk2 hC => ?_, ?_⟩
  · go_simp
    with_reducible exact rfl
  go_simp
  refine hK _ ?_
  clear hK K
  refine wpStage_yes (by go_simp) ?_
  intro K hK
  apply Exists.intro
  refine ⟨fun kk wz hk1 hk2 hC => ?_, ?_⟩
  · go_simp
    with_reducible exact rfl
  go_simp
  refine hK _ ?_
  clear hK K
  refine wpStage_yes (by go_simp) ?_
  intro K hK
  apply Exists.intro
  refine ⟨fun kk wz hk1 hk2 hC => ?_, ?_⟩
  · go_simp
    with_reducible exact rfl
  go_simp
  refine hK _ ?_
  clear hK K
  refine wpStage_yes (by go_simp) ?_
  intro K hK
  apply Exists.intro
  refine ⟨fun kk wz hk1 hk2 hC => ?_, ?_⟩
  · have a0 := hC.A.cell 0; have a1 := hC.A.cell 1
    go_simp
    with_reducible exact rfl
  go_simp
  refine hK _ ?_
  clear hK K
  refine wpStage_yes (by go_simp) ?_
  intro K hK
  apply Exists.intro
  refine ⟨fun kk wz hk1 hk2 hC => ?_, ?_⟩
  · go_simp
    go_at_call 15; refine (HRt _).mono ?_; rintro e w' ⟨rfl, hX⟩
    exact ⟨rfl, hC.step hX⟩
  go_simp
  refine hK _ ?_
  clear hK K
  refine wpStage_yes (by go_simp) ?_
  intro K hK
  apply Exists.intro
  refine ⟨fun kk wz hk1 hk2 hC => ?_, ?_⟩
  · go_simp
    with_reducible exact rfl
  go_simp
  refine hK _ ?_
  clear hK K
  refine wpStage_yes (by go_simp) ?_
  intro K hK
  apply Exists.intro
  refine ⟨fun kk wz hk1 hk2 hC => ?_, ?_⟩
  · go_simp
    with_reducible exact rfl
  go_simp
  refine hK _ ?_
  clear hK K
  refine wpStage_yes (by go_simp) ?_
  intro K hK
  apply Exists.intro
  refine ⟨fun kk wz hk1 hk2 hC => ?_, ?_⟩
  · go_simp
    with_reducible exact rfl
  go_simp
  refine hK _ ?_
  clear hK K
  refine wpStage_yes (by go_simp) ?_
  intro K hK
  apply Exists.intro
  refine ⟨fun kk wz hk1 hk2 hC => ?_, ?_⟩
  · go_simp
    go_at_call 10; refine (HPn _).mono ?_; rintro e w' ⟨rfl, hX⟩
    exact ⟨rfl, hC.step hX⟩
  go_simp
  refine hK _ ?_
  clear hK K
  refine wpStage_yes (by go_simp) ?_
  intro K hK
  apply Exists.intro
  refine ⟨fun kk wz hk1 hk2 hC => ?_, ?_⟩
  · go_simp
    with_reducible exact rfl
  go_simp
  refine hK _ ?_
  clear hK K
  refine wpStage_yes (by go_simp) ?_
  intro K hK
  apply Exists.intro
  refine ⟨fun kk wz hk1 hk2 hC => ?_, ?_⟩
  · go_simp
    with_reducible exact rfl
  go_simp
  refine hK _ ?_
  clear hK K
  refine wpStage_yes (by go_simp) ?_
  intro K hK
  apply Exists.intro
  refine ⟨fun kk wz hk1 hk2 hC => ?_, ?_⟩
  · go_simp
    with_reducible exact rfl
  go_simp
  refine hK _ ?_
  clear hK K
  refine wpStage_nil (fun wz hC => ?_)
  go_wp2
  go_returns
  exact ⟨rfl, hC.x⟩

theorem hA05 (w : World) : Calls Try.prog 13 #[.string (f5.print ++ ⟨#[120]⟩)] w fun e w' => e = .returned (.tuple #[.agg f5.cells, .int .i64 8, .int .i64 0]) ∧ Chg [] w w' := by
  have h := fread_any w (f5.print ++ ⟨#[120]⟩) (by rw [ByteArray.size_append, f5_size]; decide)
  rw [f5_more] at h
  exact h
theorem hB05 (w : World) : Calls Try.prog 13 #[.string (f5.print.extract 0 7)] w fun e w' => e = .returned (.tuple #[.agg FV.none.cells, .int .i64 0, .int .i64 5]) ∧ Chg [] w w' := by
  have h := fread_any w (f5.print.extract 0 7) (by rw [size_ext _ _ _ (by omega) (by rw [f5_size]; omega)]; decide)
  rw [f5_less] at h
  exact h
theorem hC05 (w : World) : Calls Try.prog 13 #[.string ⟨#[120]⟩] w fun e w' => e = .returned (.tuple #[.agg FV.none.cells, .int .i64 0, .int .i64 3]) ∧ Chg [] w w' := by
  have h := fread_any w ⟨#[120]⟩ (by decide)
  rw [f5_x] at h
  exact h
theorem hD05 (w : World) : Calls Try.prog 13 #[.string (f5.print.extract 0 7 ++ ⟨#[63]⟩)] w fun e w' => e = .returned (.tuple #[.agg FV.none.cells, .int .i64 0, .int .i64 4]) ∧ Chg [] w w' := by
  have h := fread_any w (f5.print.extract 0 7 ++ ⟨#[63]⟩) (by rw [ByteArray.size_append, size_ext _ _ _ (by omega) (by rw [f5_size]; omega)]; decide)
  rw [f5_q] at h
  exact h
theorem hT05 (w : World) : Calls Try.prog 15 #[.agg f5.cells] w fun e w' => e = .returned (.bool true) ∧ Chg [] w w' := by
  have h := fright_any w f5
  rw [f5_right] at h
  exact h
theorem hN05 (w : World) : Calls Try.prog 10 #[.agg (FV.mk 256 ByteArray.empty).cells] w fun e w' => e = .returned (.string ByteArray.empty) ∧ Chg [] w w' := by
  have h := fprint_any w ⟨256, ByteArray.empty⟩
  rw [f5_wrong] at h
  exact h
theorem awake05 (W : World) : Calls Try.prog 9 #[] W fun e w' => e = .returned (.bool true) ∧ Chg [] W w' :=
  aw05 W f5.print f5_size (fun w => fprint_any w f5) hT05 hN05 hA05 hB05 hC05 hD05 f5_noise f5_rest
end Go.Proofs.Ytgdahhpenlbhoaa
