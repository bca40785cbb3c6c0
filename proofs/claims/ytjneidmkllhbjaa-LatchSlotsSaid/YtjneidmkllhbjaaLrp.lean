/- The reference of package latch: Print. -/
import Derived.Test.YtjneidmkllhbjaaLar
import Derived.Test.YtjneidmkllhbjaaEx
import Derived.Test.YtjneidmkllhbjaaCl0
namespace Go.Proofs.Ytjneidmkllhbjaa
open Go.RowKit

theorem nums_app (A B : List Int) : strOfNums (A ++ B) = strOfNums A ++ strOfNums B := by
  unfold strOfNums
  apply ByteArray.ext
  simp
theorem conv4_at {w : World} {b : Nat} {x y z u : Int} (h : At w b #[.int .u8 x, .int .u8 y, .int .u8 z, .int .u8 u]) : (convert 52 9 (.slice (some ⟨b, 0, none⟩) 4 4)).run Try.prog w = .ok (.string (strOfNums [x, y, z, u])) w := by
  refine run_convert_bytes_arg w 52 5 und_bytes und_u8 b 0 4 4 [x, y, z, u] rfl (fun i hi => ?_) 9 und_str
  rw [Nat.zero_add, h.cell i]
  match i, hi with
  | 0, _ | 1, _ | 2, _ | 3, _ => rfl
  | n + 4, hi => omega
set_option maxRecDepth 100000 in
set_option maxHeartbeats 4000000 in
theorem rprint_any (W : World) (r : RcV) : Calls Try.prog 11 #[.agg r.cells] W fun e w' => e = .returned (.string r.print) ∧ Chg [] W w' := by
  have HR := fun w => rright_any w r
  have Hp := Lib.hid (show r.print = if r.right then strOfNums r.all else ByteArray.empty from rfl)
  have hri := r.right_iff
  have hsb := fun s => sum32_bd s
  have C := (CL.new W 0).push r.cells 28
  have Hh := Lib.hid (show strOfNums r.all = strOfNums (be4 r.seq) ++ strOfNums (be4 r.cyc) ++ strOfNums [r.ph + 4 * r.fl + 16 * r.st, r.vi, r.di, r.inv] ++ strOfNums (be4 r.inph) ++ strOfNums (be4 (sum32 (strOfNums (be4 r.seq) ++ strOfNums (be4 r.cyc) ++ strOfNums [r.ph + 4 * r.fl + 16 * r.st, r.vi, r.di, r.inv] ++ strOfNums (be4 r.inph))).toNat) ++ strOfNums (be4 r.seq) by
    unfold RcV.all RcV.head; simp only [nums_app])
  generalize r.print = res at *
  generalize strOfNums r.all = q at *
  generalize r.right = rr at *
  unfold RcV.cells at *
  go_enter Try.func11, Try.ntmps11
  go_upto_region 1 with fail
  generalize hz : W.heap.size = z at *
  have hzW : W.heap.size ≤ z := by omega
  clear hz
  generalize W.alloc (.cells #[.int .i64 r.seq, .int .i64 r.cyc, .int .i64 r.ph, .int .i64 r.st, .int .i64 r.fl, .int .i64 r.vi, .int .i64 r.di, .int .i64 r.inv, .int .i64 r.inph] 28) = w1 at *
  have cc := (C.get 0 rfl).cell
  dsimp only at cc
  have c0 := cc 0; have c1 := cc 1; have c2 := cc 2; have c3 := cc 3; have c4 := cc 4; have c5 := cc 5; have c6 := cc 6; have c7 := cc 7; have c8 := cc 8
  go_wp2_with fail
  refine (HR _).mono ?_; rintro e w2 ⟨rfl, hX⟩
  cases rr
  · go_wp2
    go_returns
    exact ⟨by rw [Hp.out]; rfl, C.x.trans hX⟩
  · have hb := hri.1 rfl
    clear hri HR cc c0 c1 c2 c3 c4 c5 c6 c7 c8
    replace C := C.step (j := 0) hX
    clear hX
    have e1 : IntKind.u8.wrap (r.ph + 4 * r.fl + 16 * r.st) = r.ph + 4 * r.fl + 16 * r.st := by rw [conv8]; omega
    have e2 : IntKind.u8.wrap r.vi = r.vi := by rw [conv8]; omega
    have e3 : IntKind.u8.wrap r.di = r.di := by rw [conv8]; omega
    have e4 : IntKind.u8.wrap r.inv = r.inv := by rw [conv8]; omega
    obtain ⟨⟨b1, b2⟩, ⟨b3, b4⟩, ⟨b5, b6⟩, ⟨b7, b8⟩, ⟨b9, b10⟩, ⟨b11, b12⟩, ⟨b13, b14⟩, ⟨b15, b16⟩, ⟨b17, b18⟩⟩ := hb
    have s1 : (strOfNums (be4 r.seq)).size = 4 := by rw [strOfNums_size]; rfl
    have s2 : (strOfNums (be4 r.cyc)).size = 4 := by rw [strOfNums_size]; rfl
    have s3 : (strOfNums (be4 r.inph)).size = 4 := by rw [strOfNums_size]; rfl
    have s4 : (strOfNums [r.ph + 4 * r.fl + 16 * r.st, r.vi, r.di, r.inv]).size = 4 := by rw [strOfNums_size]; rfl
    have m1 : IntKind.i64.wrap (4 * r.fl) = 4 * r.fl := IntWalk.i64_in _ (by omega)
    have m2 : IntKind.i64.wrap (16 * r.st) = 16 * r.st := IntWalk.i64_in _ (by omega)
    have m3 : IntKind.i64.wrap (r.ph + 4 * r.fl) = r.ph + 4 * r.fl := IntWalk.i64_in _ (by omega)
    have m4 : IntKind.i64.wrap (r.ph + 4 * r.fl + 16 * r.st) = r.ph + 4 * r.fl + 16 * r.st := IntWalk.i64_in _ (by omega)
    go_upto_region 3 with fail
    have hC := C
    have C0 := C
    clear C
    refine wp_region_ex (fun _ => CL W [(z, #[.int .i64 r.seq, .int .i64 r.cyc, .int .i64 r.ph, .int .i64 r.st, .int .i64 r.fl, .int .i64 r.vi, .int .i64 r.di, .int .i64 r.inv, .int .i64 r.inph])] 0) (Chg []) [] [(0, 0, false), (0, 0, false), (0, 0, false), (0, 0, false), (0, 0, false), (0, 0, false), (0, 0, false), (0, 0, false), (0, 0, false), (0, 0, false), (0, 0, false), (0, 0, false), (0, 0, false), (0, 0, false), (0, 0, false), (0, 0, false), (0, 0, false), (0, 0, false), (0, 0, false), (0, 0, false), (0, 0, false), (0, 0, false), (0, 0, false), (0, 0, false), (0, 0, false), (0, 0, false), (0, 0, false), (0, 0, false), (0, 0, false), (0, 0, false), (0, 0, false), (0, 0, false), (0, 0, false), (0, 0, false), (0, 0, false)] [7, 8, 9, 10, 11, 12, 13, 14, 15, 16, 17, 18, 19, 20, 21, 22, 23, 24, 25, 26, 27, 28, 29, 30, 31, 32, 33, 34, 35, 36, 37, 38, 39, 40, 3] (by kernel_rfl) rfl (by kernel_rfl) (by kernel_rfl) (hC.drew) ?_
    simp only [List.zip_cons_cons, List.zip_nil_right]
    refine ex_det 7 [1] rfl rfl (fun _ _ _ _ _ _ _ _ => rfl) ?_
    apply Exists.intro
    refine ⟨?_, ?_⟩
    · intro wx b k hk1 hk2 hC hb hd K hK
      have e1 := hb 1 rfl
      simp only [exSlot, List.getD_cons_succ, List.getD_cons_zero] at e1
      simp only [execOp, e1]
      clear hb hd
      go_simp
      exact hK _ hC (Chg.refl _ _)
    refine ex_det 8 [7] rfl rfl (fun _ _ _ _ _ _ _ _ => rfl) ?_
    apply Exists.intro
    refine ⟨?_, ?_⟩
    · intro wx b k hk1 hk2 hC hb hd K hK
      have e7 := hd 7 _ _ rfl rfl
      try dsimp only at e7
      have cc := (hC.get 0 rfl).cell
      dsimp only at cc
      have c0 := cc 0
      have c1 := cc 1
      have c2 := cc 2
      have c3 := cc 3
      have c4 := cc 4
      have c5 := cc 5
      have c6 := cc 6
      have c7 := cc 7
      have c8 := cc 8
      clear cc
      simp only [execOp, e7]
      clear hb hd
      go_simp
      exact hK _ hC (Chg.refl _ _)
    refine ex_det 9 [8] rfl rfl (fun _ _ _ _ _ _ _ _ => rfl) ?_
    apply Exists.intro
    refine ⟨?_, ?_⟩
    · intro wx b k hk1 hk2 hC hb hd K hK
      have e8 := hd 8 _ _ rfl rfl
      try dsimp only at e8
      simp only [execOp, resolve, List.map_toArray, List.map_cons, List.map_nil, e8]
      clear hb hd
      go_simp
      refine (rfour_any wx r.seq (by omega) (by omega)).mono ?_; rintro e w' ⟨rfl, hX⟩
      exact ⟨_, rfl, hK _ (hC.step hX) hX⟩
    refine ex_det 10 [1] rfl rfl (fun _ _ _ _ _ _ _ _ => rfl) ?_
    apply Exists.intro
    refine ⟨?_, ?_⟩
    · intro wx b k hk1 hk2 hC hb hd K hK
      have e1 := hb 1 rfl
      simp only [exSlot, List.getD_cons_succ, List.getD_cons_zero] at e1
      simp only [execOp, e1]
      clear hb hd
      go_simp
      exact hK _ hC (Chg.refl _ _)
    refine ex_det 11 [10] rfl rfl (fun _ _ _ _ _ _ _ _ => rfl) ?_
    apply Exists.intro
    refine ⟨?_, ?_⟩
    · intro wx b k hk1 hk2 hC hb hd K hK
      have e10 := hd 10 _ _ rfl rfl
      try dsimp only at e10
      have cc := (hC.get 0 rfl).cell
      dsimp only at cc
      have c0 := cc 0
      have c1 := cc 1
      have c2 := cc 2
      have c3 := cc 3
      have c4 := cc 4
      have c5 := cc 5
      have c6 := cc 6
      have c7 := cc 7
      have c8 := cc 8
      clear cc
      simp only [execOp, e10]
      clear hb hd
      go_simp
      exact hK _ hC (Chg.refl _ _)
    refine ex_det 12 [11] rfl rfl (fun _ _ _ _ _ _ _ _ => rfl) ?_
    apply Exists.intro
    refine ⟨?_, ?_⟩
    · intro wx b k hk1 hk2 hC hb hd K hK
      have e11 := hd 11 _ _ rfl rfl
      try dsimp only at e11
      simp only [execOp, resolve, List.map_toArray, List.map_cons, List.map_nil, e11]
      clear hb hd
      go_simp
      refine (rfour_any wx r.cyc (by omega) (by omega)).mono ?_; rintro e w' ⟨rfl, hX⟩
      exact ⟨_, rfl, hK _ (hC.step hX) hX⟩
    refine ex_det 13 [9, 12] rfl rfl (fun _ _ _ _ _ _ _ _ => rfl) ?_
    apply Exists.intro
    refine ⟨?_, ?_⟩
    · intro wx b k hk1 hk2 hC hb hd K hK
      have e9 := hd 9 _ _ rfl rfl
      try dsimp only at e9
      have e12 := hd 12 _ _ rfl rfl
      try dsimp only at e12
      simp only [execOp, e9, e12]
      clear hb hd
      go_simp
      exact hK _ hC (Chg.refl _ _)
    refine ex_det 14 [1] rfl rfl (fun _ _ _ _ _ _ _ _ => rfl) ?_
    apply Exists.intro
    refine ⟨?_, ?_⟩
    · intro wx b k hk1 hk2 hC hb hd K hK
      have e1 := hb 1 rfl
      simp only [exSlot, List.getD_cons_succ, List.getD_cons_zero] at e1
      simp only [execOp, e1]
      clear hb hd
      go_simp
      exact hK _ hC (Chg.refl _ _)
    refine ex_det 15 [14] rfl rfl (fun _ _ _ _ _ _ _ _ => rfl) ?_
    apply Exists.intro
    refine ⟨?_, ?_⟩
    · intro wx b k hk1 hk2 hC hb hd K hK
      have e14 := hd 14 _ _ rfl rfl
      try dsimp only at e14
      have cc := (hC.get 0 rfl).cell
      dsimp only at cc
      have c0 := cc 0
      have c1 := cc 1
      have c2 := cc 2
      have c3 := cc 3
      have c4 := cc 4
      have c5 := cc 5
      have c6 := cc 6
      have c7 := cc 7
      have c8 := cc 8
      clear cc
      simp only [execOp, e14]
      clear hb hd
      go_simp
      exact hK _ hC (Chg.refl _ _)
    refine ex_det 16 [1] rfl rfl (fun _ _ _ _ _ _ _ _ => rfl) ?_
    apply Exists.intro
    refine ⟨?_, ?_⟩
    · intro wx b k hk1 hk2 hC hb hd K hK
      have e1 := hb 1 rfl
      simp only [exSlot, List.getD_cons_succ, List.getD_cons_zero] at e1
      simp only [execOp, e1]
      clear hb hd
      go_simp
      exact hK _ hC (Chg.refl _ _)
    refine ex_det 17 [16] rfl rfl (fun _ _ _ _ _ _ _ _ => rfl) ?_
    apply Exists.intro
    refine ⟨?_, ?_⟩
    · intro wx b k hk1 hk2 hC hb hd K hK
      have e16 := hd 16 _ _ rfl rfl
      try dsimp only at e16
      have cc := (hC.get 0 rfl).cell
      dsimp only at cc
      have c0 := cc 0
      have c1 := cc 1
      have c2 := cc 2
      have c3 := cc 3
      have c4 := cc 4
      have c5 := cc 5
      have c6 := cc 6
      have c7 := cc 7
      have c8 := cc 8
      clear cc
      simp only [execOp, e16]
      clear hb hd
      go_simp
      exact hK _ hC (Chg.refl _ _)
    refine ex_det 18 [17] rfl rfl (fun _ _ _ _ _ _ _ _ => rfl) ?_
    apply Exists.intro
    refine ⟨?_, ?_⟩
    · intro wx b k hk1 hk2 hC hb hd K hK
      have e17 := hd 17 _ _ rfl rfl
      try dsimp only at e17
      simp only [execOp, e17]
      clear hb hd
      go_simp
      exact hK _ hC (Chg.refl _ _)
    refine ex_det 19 [15, 18] rfl rfl (fun _ _ _ _ _ _ _ _ => rfl) ?_
    apply Exists.intro
    refine ⟨?_, ?_⟩
    · intro wx b k hk1 hk2 hC hb hd K hK
      have e15 := hd 15 _ _ rfl rfl
      try dsimp only at e15
      have e18 := hd 18 _ _ rfl rfl
      try dsimp only at e18
      simp only [execOp, e15, e18]
      clear hb hd
      go_simp
      exact hK _ hC (Chg.refl _ _)
    refine ex_det 20 [1] rfl rfl (fun _ _ _ _ _ _ _ _ => rfl) ?_
    apply Exists.intro
    refine ⟨?_, ?_⟩
    · intro wx b k hk1 hk2 hC hb hd K hK
      have e1 := hb 1 rfl
      simp only [exSlot, List.getD_cons_succ, List.getD_cons_zero] at e1
      simp only [execOp, e1]
      clear hb hd
      go_simp
      exact hK _ hC (Chg.refl _ _)
    refine ex_det 21 [20] rfl rfl (fun _ _ _ _ _ _ _ _ => rfl) ?_
    apply Exists.intro
    refine ⟨?_, ?_⟩
    · intro wx b k hk1 hk2 hC hb hd K hK
      have e20 := hd 20 _ _ rfl rfl
      try dsimp only at e20
      have cc := (hC.get 0 rfl).cell
      dsimp only at cc
      have c0 := cc 0
      have c1 := cc 1
      have c2 := cc 2
      have c3 := cc 3
      have c4 := cc 4
      have c5 := cc 5
      have c6 := cc 6
      have c7 := cc 7
      have c8 := cc 8
      clear cc
      simp only [execOp, e20]
      clear hb hd
      go_simp
      exact hK _ hC (Chg.refl _ _)
    refine ex_det 22 [21] rfl rfl (fun _ _ _ _ _ _ _ _ => rfl) ?_
    apply Exists.intro
    refine ⟨?_, ?_⟩
    · intro wx b k hk1 hk2 hC hb hd K hK
      have e21 := hd 21 _ _ rfl rfl
      try dsimp only at e21
      simp only [execOp, e21]
      clear hb hd
      go_simp
      exact hK _ hC (Chg.refl _ _)
    refine ex_det 23 [19, 22] rfl rfl (fun _ _ _ _ _ _ _ _ => rfl) ?_
    apply Exists.intro
    refine ⟨?_, ?_⟩
    · intro wx b k hk1 hk2 hC hb hd K hK
      have e19 := hd 19 _ _ rfl rfl
      try dsimp only at e19
      have e22 := hd 22 _ _ rfl rfl
      try dsimp only at e22
      simp only [execOp, e19, e22]
      clear hb hd
      go_simp
      exact hK _ hC (Chg.refl _ _)
    refine ex_det 24 [23] rfl rfl (fun _ _ _ _ _ _ _ _ => rfl) ?_
    apply Exists.intro
    refine ⟨?_, ?_⟩
    · intro wx b k hk1 hk2 hC hb hd K hK
      have e23 := hd 23 _ _ rfl rfl
      try dsimp only at e23
      simp only [execOp, e23]
      clear hb hd
      go_simp
      exact hK _ hC (Chg.refl _ _)
    refine ex_det 25 [1] rfl rfl (fun _ _ _ _ _ _ _ _ => rfl) ?_
    apply Exists.intro
    refine ⟨?_, ?_⟩
    · intro wx b k hk1 hk2 hC hb hd K hK
      have e1 := hb 1 rfl
      simp only [exSlot, List.getD_cons_succ, List.getD_cons_zero] at e1
      simp only [execOp, e1]
      clear hb hd
      go_simp
      exact hK _ hC (Chg.refl _ _)
    refine ex_det 26 [25] rfl rfl (fun _ _ _ _ _ _ _ _ => rfl) ?_
    apply Exists.intro
    refine ⟨?_, ?_⟩
    · intro wx b k hk1 hk2 hC hb hd K hK
      have e25 := hd 25 _ _ rfl rfl
      try dsimp only at e25
      have cc := (hC.get 0 rfl).cell
      dsimp only at cc
      have c0 := cc 0
      have c1 := cc 1
      have c2 := cc 2
      have c3 := cc 3
      have c4 := cc 4
      have c5 := cc 5
      have c6 := cc 6
      have c7 := cc 7
      have c8 := cc 8
      clear cc
      simp only [execOp, e25]
      clear hb hd
      go_simp
      exact hK _ hC (Chg.refl _ _)
    refine ex_det 27 [26] rfl rfl (fun _ _ _ _ _ _ _ _ => rfl) ?_
    apply Exists.intro
    refine ⟨?_, ?_⟩
    · intro wx b k hk1 hk2 hC hb hd K hK
      have e26 := hd 26 _ _ rfl rfl
      try dsimp only at e26
      simp only [execOp, e26]
      clear hb hd
      go_simp
      exact hK _ hC (Chg.refl _ _)
    refine ex_det 28 [1] rfl rfl (fun _ _ _ _ _ _ _ _ => rfl) ?_
    apply Exists.intro
    refine ⟨?_, ?_⟩
    · intro wx b k hk1 hk2 hC hb hd K hK
      have e1 := hb 1 rfl
      simp only [exSlot, List.getD_cons_succ, List.getD_cons_zero] at e1
      simp only [execOp, e1]
      clear hb hd
      go_simp
      exact hK _ hC (Chg.refl _ _)
    refine ex_det 29 [28] rfl rfl (fun _ _ _ _ _ _ _ _ => rfl) ?_
    apply Exists.intro
    refine ⟨?_, ?_⟩
    · intro wx b k hk1 hk2 hC hb hd K hK
      have e28 := hd 28 _ _ rfl rfl
      try dsimp only at e28
      have cc := (hC.get 0 rfl).cell
      dsimp only at cc
      have c0 := cc 0
      have c1 := cc 1
      have c2 := cc 2
      have c3 := cc 3
      have c4 := cc 4
      have c5 := cc 5
      have c6 := cc 6
      have c7 := cc 7
      have c8 := cc 8
      clear cc
      simp only [execOp, e28]
      clear hb hd
      go_simp
      exact hK _ hC (Chg.refl _ _)
    refine ex_det 30 [29] rfl rfl (fun _ _ _ _ _ _ _ _ => rfl) ?_
    apply Exists.intro
    refine ⟨?_, ?_⟩
    · intro wx b k hk1 hk2 hC hb hd K hK
      have e29 := hd 29 _ _ rfl rfl
      try dsimp only at e29
      simp only [execOp, e29]
      clear hb hd
      go_simp
      exact hK _ hC (Chg.refl _ _)
    refine ex_det 31 [1] rfl rfl (fun _ _ _ _ _ _ _ _ => rfl) ?_
    apply Exists.intro
    refine ⟨?_, ?_⟩
    · intro wx b k hk1 hk2 hC hb hd K hK
      have e1 := hb 1 rfl
      simp only [exSlot, List.getD_cons_succ, List.getD_cons_zero] at e1
      simp only [execOp, e1]
      clear hb hd
      go_simp
      exact hK _ hC (Chg.refl _ _)
    refine ex_det 32 [31] rfl rfl (fun _ _ _ _ _ _ _ _ => rfl) ?_
    apply Exists.intro
    refine ⟨?_, ?_⟩
    · intro wx b k hk1 hk2 hC hb hd K hK
      have e31 := hd 31 _ _ rfl rfl
      try dsimp only at e31
      have cc := (hC.get 0 rfl).cell
      dsimp only at cc
      have c0 := cc 0
      have c1 := cc 1
      have c2 := cc 2
      have c3 := cc 3
      have c4 := cc 4
      have c5 := cc 5
      have c6 := cc 6
      have c7 := cc 7
      have c8 := cc 8
      clear cc
      simp only [execOp, e31]
      clear hb hd
      go_simp
      exact hK _ hC (Chg.refl _ _)
    refine ex_det 33 [32] rfl rfl (fun _ _ _ _ _ _ _ _ => rfl) ?_
    apply Exists.intro
    refine ⟨?_, ?_⟩
    · intro wx b k hk1 hk2 hC hb hd K hK
      have e32 := hd 32 _ _ rfl rfl
      try dsimp only at e32
      simp only [execOp, e32]
      clear hb hd
      go_simp
      exact hK _ hC (Chg.refl _ _)
    refine ex_any (fun _ v w => ∃ y, v = .slice (some ⟨y, 0, none⟩) 4 4 ∧ At w y #[.int .u8 (r.ph + 4 * r.fl + 16 * r.st), .int .u8 r.vi, .int .u8 r.di, .int .u8 r.inv] ∧ W.heap.size ≤ y) 34 [24, 27, 30, 33] rfl rfl (fun _ _ _ _ _ _ _ _ => rfl) (fun _ v w w' ⟨y, h1, h2, h3⟩ hR => ⟨y, h1, hR.at h2 (by simp), h3⟩) ?_ ?_
    · intro wx b k hk1 hk2 hC hb hd K hK
      have e24 := hd 24 _ _ rfl rfl
      try dsimp only at e24
      have e27 := hd 27 _ _ rfl rfl
      try dsimp only at e27
      have e30 := hd 30 _ _ rfl rfl
      try dsimp only at e30
      have e33 := hd 33 _ _ rfl rfl
      try dsimp only at e33
      simp only [execOp, List.map_toArray, List.map_cons, List.map_nil, e24, e27, e30, e33]
      clear hb hd
      go_simp
      exact hK _ _ ⟨_, rfl, At.new _ _ _, hC.x.size⟩ (hC.alloc0 _) ((Chg.refl _ _).alloc _)
    refine ex_det 35 [34] rfl rfl (fun _ _ _ _ _ _ _ _ => rfl) ?_
    apply Exists.intro
    refine ⟨?_, ?_⟩
    · intro wx b k hk1 hk2 hC hb hd K hK
      have e34 := hd 34 _ _ rfl rfl
      try dsimp only at e34
      obtain ⟨y, e34, K, hy⟩ := e34
      have cvq := conv4_at K
      simp only [execOp, e34]
      clear hb hd
      go_simp
      exact hK _ hC (Chg.refl _ _)
    refine ex_det 36 [13, 35] rfl rfl (fun _ _ _ _ _ _ _ _ => rfl) ?_
    apply Exists.intro
    refine ⟨?_, ?_⟩
    · intro wx b k hk1 hk2 hC hb hd K hK
      have e13 := hd 13 _ _ rfl rfl
      try dsimp only at e13
      have e35 := hd 35 _ _ rfl rfl
      try dsimp only at e35
      simp only [execOp, e13, e35]
      clear hb hd
      go_simp
      exact hK _ hC (Chg.refl _ _)
    refine ex_det 37 [1] rfl rfl (fun _ _ _ _ _ _ _ _ => rfl) ?_
    apply Exists.intro
    refine ⟨?_, ?_⟩
    · intro wx b k hk1 hk2 hC hb hd K hK
      have e1 := hb 1 rfl
      simp only [exSlot, List.getD_cons_succ, List.getD_cons_zero] at e1
      simp only [execOp, e1]
      clear hb hd
      go_simp
      exact hK _ hC (Chg.refl _ _)
    refine ex_det 38 [37] rfl rfl (fun _ _ _ _ _ _ _ _ => rfl) ?_
    apply Exists.intro
    refine ⟨?_, ?_⟩
    · intro wx b k hk1 hk2 hC hb hd K hK
      have e37 := hd 37 _ _ rfl rfl
      try dsimp only at e37
      have cc := (hC.get 0 rfl).cell
      dsimp only at cc
      have c0 := cc 0
      have c1 := cc 1
      have c2 := cc 2
      have c3 := cc 3
      have c4 := cc 4
      have c5 := cc 5
      have c6 := cc 6
      have c7 := cc 7
      have c8 := cc 8
      clear cc
      simp only [execOp, e37]
      clear hb hd
      go_simp
      exact hK _ hC (Chg.refl _ _)
    refine ex_det 39 [38] rfl rfl (fun _ _ _ _ _ _ _ _ => rfl) ?_
    apply Exists.intro
    refine ⟨?_, ?_⟩
    · intro wx b k hk1 hk2 hC hb hd K hK
      have e38 := hd 38 _ _ rfl rfl
      try dsimp only at e38
      simp only [execOp, resolve, List.map_toArray, List.map_cons, List.map_nil, e38]
      clear hb hd
      go_simp
      refine (rfour_any wx r.inph (by omega) (by omega)).mono ?_; rintro e w' ⟨rfl, hX⟩
      exact ⟨_, rfl, hK _ (hC.step hX) hX⟩
    refine ex_det 40 [36, 39] rfl rfl (fun _ _ _ _ _ _ _ _ => rfl) ?_
    apply Exists.intro
    refine ⟨?_, ?_⟩
    · intro wx b k hk1 hk2 hC hb hd K hK
      have e36 := hd 36 _ _ rfl rfl
      try dsimp only at e36
      have e39 := hd 39 _ _ rfl rfl
      try dsimp only at e39
      simp only [execOp, e36, e39]
      clear hb hd
      go_simp
      exact hK _ hC (Chg.refl _ _)
    refine ex_det 3 [40] rfl rfl (fun _ _ _ _ _ _ _ _ => rfl) ?_
    apply Exists.intro
    refine ⟨?_, ?_⟩
    · intro wx b k hk1 hk2 hC hb hd K hK
      have e40 := hd 40 _ _ rfl rfl
      try dsimp only at e40
      simp only [execOp, e40]
      clear hb hd
      go_simp
      exact hK _ hC (Chg.refl _ _)
    refine ex_end ?_
    intro us w2 hus hC hall
    obtain ⟨v0, us, rfl⟩ := List.exists_cons_of_length_eq_add_one hus
    replace hus := Nat.succ.inj hus
    obtain ⟨v1, us, rfl⟩ := List.exists_cons_of_length_eq_add_one hus
    replace hus := Nat.succ.inj hus
    obtain ⟨v2, us, rfl⟩ := List.exists_cons_of_length_eq_add_one hus
    replace hus := Nat.succ.inj hus
    obtain ⟨v3, us, rfl⟩ := List.exists_cons_of_length_eq_add_one hus
    replace hus := Nat.succ.inj hus
    obtain ⟨v4, us, rfl⟩ := List.exists_cons_of_length_eq_add_one hus
    replace hus := Nat.succ.inj hus
    obtain ⟨v5, us, rfl⟩ := List.exists_cons_of_length_eq_add_one hus
    replace hus := Nat.succ.inj hus
    obtain ⟨v6, us, rfl⟩ := List.exists_cons_of_length_eq_add_one hus
    replace hus := Nat.succ.inj hus
    obtain ⟨v7, us, rfl⟩ := List.exists_cons_of_length_eq_add_one hus
    replace hus := Nat.succ.inj hus
    obtain ⟨v8, us, rfl⟩ := List.exists_cons_of_length_eq_add_one hus
    replace hus := Nat.succ.inj hus
    obtain ⟨v9, us, rfl⟩ := List.exists_cons_of_length_eq_add_one hus
    replace hus := Nat.succ.inj hus
    obtain ⟨v10, us, rfl⟩ := List.exists_cons_of_length_eq_add_one hus
    replace hus := Nat.succ.inj hus
    obtain ⟨v11, us, rfl⟩ := List.exists_cons_of_length_eq_add_one hus
    replace hus := Nat.succ.inj hus
    obtain ⟨v12, us, rfl⟩ := List.exists_cons_of_length_eq_add_one hus
    replace hus := Nat.succ.inj hus
    obtain ⟨v13, us, rfl⟩ := List.exists_cons_of_length_eq_add_one hus
    replace hus := Nat.succ.inj hus
    obtain ⟨v14, us, rfl⟩ := List.exists_cons_of_length_eq_add_one hus
    replace hus := Nat.succ.inj hus
    obtain ⟨v15, us, rfl⟩ := List.exists_cons_of_length_eq_add_one hus
    replace hus := Nat.succ.inj hus
    obtain ⟨v16, us, rfl⟩ := List.exists_cons_of_length_eq_add_one hus
    replace hus := Nat.succ.inj hus
    obtain ⟨v17, us, rfl⟩ := List.exists_cons_of_length_eq_add_one hus
    replace hus := Nat.succ.inj hus
    obtain ⟨v18, us, rfl⟩ := List.exists_cons_of_length_eq_add_one hus
    replace hus := Nat.succ.inj hus
    obtain ⟨v19, us, rfl⟩ := List.exists_cons_of_length_eq_add_one hus
    replace hus := Nat.succ.inj hus
    obtain ⟨v20, us, rfl⟩ := List.exists_cons_of_length_eq_add_one hus
    replace hus := Nat.succ.inj hus
    obtain ⟨v21, us, rfl⟩ := List.exists_cons_of_length_eq_add_one hus
    replace hus := Nat.succ.inj hus
    obtain ⟨v22, us, rfl⟩ := List.exists_cons_of_length_eq_add_one hus
    replace hus := Nat.succ.inj hus
    obtain ⟨v23, us, rfl⟩ := List.exists_cons_of_length_eq_add_one hus
    replace hus := Nat.succ.inj hus
    obtain ⟨v24, us, rfl⟩ := List.exists_cons_of_length_eq_add_one hus
    replace hus := Nat.succ.inj hus
    obtain ⟨v25, us, rfl⟩ := List.exists_cons_of_length_eq_add_one hus
    replace hus := Nat.succ.inj hus
    obtain ⟨v26, us, rfl⟩ := List.exists_cons_of_length_eq_add_one hus
    replace hus := Nat.succ.inj hus
    obtain ⟨v27, us, rfl⟩ := List.exists_cons_of_length_eq_add_one hus
    replace hus := Nat.succ.inj hus
    obtain ⟨v28, us, rfl⟩ := List.exists_cons_of_length_eq_add_one hus
    replace hus := Nat.succ.inj hus
    obtain ⟨v29, us, rfl⟩ := List.exists_cons_of_length_eq_add_one hus
    replace hus := Nat.succ.inj hus
    obtain ⟨v30, us, rfl⟩ := List.exists_cons_of_length_eq_add_one hus
    replace hus := Nat.succ.inj hus
    obtain ⟨v31, us, rfl⟩ := List.exists_cons_of_length_eq_add_one hus
    replace hus := Nat.succ.inj hus
    obtain ⟨v32, us, rfl⟩ := List.exists_cons_of_length_eq_add_one hus
    replace hus := Nat.succ.inj hus
    obtain ⟨v33, us, rfl⟩ := List.exists_cons_of_length_eq_add_one hus
    replace hus := Nat.succ.inj hus
    obtain ⟨v34, us, rfl⟩ := List.exists_cons_of_length_eq_add_one hus
    replace hus := Nat.succ.inj hus
    obtain rfl := List.length_eq_zero_iff.1 hus
    clear hus
    generalize hbb : exPuts _ _ _ = bb at hall ⊢
    simp only [exPuts, Act.put, List.setIfInBounds_toArray, List.set_cons_succ, List.set_cons_zero] at hbb
    subst hbb
    obtain ⟨h34, h33, h32, h31, h30, h29, h28, h27, h26, h25, h24, h23, h22, h21, h20, h19, h18, h17, h16, h15, h14, h13, h12, h11, h10, h9, h8, h7, h6, h5, h4, h3, h2, h1, h0, -⟩ := hall
    obtain rfl : v0 = _ := h0
    obtain rfl : v1 = _ := h1
    obtain rfl : v2 = _ := h2
    obtain rfl : v3 = _ := h3
    obtain rfl : v4 = _ := h4
    obtain rfl : v5 = _ := h5
    obtain rfl : v6 = _ := h6
    obtain rfl : v7 = _ := h7
    obtain rfl : v8 = _ := h8
    obtain rfl : v9 = _ := h9
    obtain rfl : v10 = _ := h10
    obtain rfl : v11 = _ := h11
    obtain rfl : v12 = _ := h12
    obtain rfl : v13 = _ := h13
    obtain rfl : v14 = _ := h14
    obtain rfl : v15 = _ := h15
    obtain rfl : v16 = _ := h16
    obtain rfl : v17 = _ := h17
    obtain rfl : v18 = _ := h18
    obtain rfl : v19 = _ := h19
    obtain rfl : v20 = _ := h20
    obtain rfl : v21 = _ := h21
    obtain rfl : v22 = _ := h22
    obtain rfl : v23 = _ := h23
    obtain rfl : v24 = _ := h24
    obtain rfl : v25 = _ := h25
    obtain rfl : v26 = _ := h26
    obtain ⟨y, e34, K, hy⟩ := h27
    obtain rfl : v27 = _ := e34
    obtain rfl : v28 = _ := h28
    obtain rfl : v29 = _ := h29
    obtain rfl : v30 = _ := h30
    obtain rfl : v31 = _ := h31
    obtain rfl : v32 = _ := h32
    obtain rfl : v33 = _ := h33
    obtain rfl : v34 = _ := h34
    clear K hy m1 m2 m3 m4 e1 e2 e3 e4 C0
    have hz16 : (strOfNums (be4 r.seq) ++ strOfNums (be4 r.cyc) ++ strOfNums [r.ph + 4 * r.fl + 16 * r.st, r.vi, r.di, r.inv] ++ strOfNums (be4 r.inph)).size = 16 := by
      rw [ByteArray.size_append, ByteArray.size_append, ByteArray.size_append, s1, s2, s3, s4]
    have Hq := Lib.hid (Hh.out)
    clear Hh
    generalize strOfNums (be4 r.seq) ++ strOfNums (be4 r.cyc) ++ strOfNums [r.ph + 4 * r.fl + 16 * r.st, r.vi, r.di, r.inv] ++ strOfNums (be4 r.inph) = t at *
    have hsb1 := hsb t
    have s5 : (strOfNums (be4 ((sum32 t).toNat : Int))).size = 4 := by rw [strOfNums_size]; rfl
    have wi1 : IntKind.i64.wrap ((sum32 t).toNat : Int) = ((sum32 t).toNat : Int) := IntWalk.i64_in _ (by omega)
    clear hsb
    have hz16' : t.size ≤ maxLen := by unfold maxLen; omega
    have C1 := hC
    clear hC
    go_upto_region 4 with fail
    have hC := C1
    refine wp_region_ex (fun _ => CL W [(z, #[.int .i64 r.seq, .int .i64 r.cyc, .int .i64 r.ph, .int .i64 r.st, .int .i64 r.fl, .int .i64 r.vi, .int .i64 r.di, .int .i64 r.inv, .int .i64 r.inph])] 0) (Chg []) [] [(0, 0, false), (0, 0, false), (0, 0, false), (0, 0, false), (0, 0, false), (0, 0, false), (0, 0, false), (0, 0, false), (0, 0, false), (0, 0, false), (0, 0, false)] [41, 42, 43, 44, 45, 46, 47, 48, 49, 50, 2] (by kernel_rfl) rfl (by kernel_rfl) (by kernel_rfl) (hC.drew) ?_
    simp only [List.zip_cons_cons, List.zip_nil_right]
    refine ex_det 41 [3] rfl rfl (fun _ _ _ _ _ _ _ _ => rfl) ?_
    apply Exists.intro
    refine ⟨?_, ?_⟩
    · intro wx b k hk1 hk2 hC hb hd K hK
      have e3 := hb 3 rfl
      simp only [exSlot, List.getD_cons_succ, List.getD_cons_zero] at e3
      simp only [execOp, e3]
      clear hb hd
      go_simp
      exact hK _ hC (Chg.refl _ _)
    refine ex_det 42 [3] rfl rfl (fun _ _ _ _ _ _ _ _ => rfl) ?_
    apply Exists.intro
    refine ⟨?_, ?_⟩
    · intro wx b k hk1 hk2 hC hb hd K hK
      have e3 := hb 3 rfl
      simp only [exSlot, List.getD_cons_succ, List.getD_cons_zero] at e3
      simp only [execOp, e3]
      clear hb hd
      go_simp
      exact hK _ hC (Chg.refl _ _)
    refine ex_det 43 [42] rfl rfl (fun _ _ _ _ _ _ _ _ => rfl) ?_
    apply Exists.intro
    refine ⟨?_, ?_⟩
    · intro wx b k hk1 hk2 hC hb hd K hK
      have e42 := hd 42 _ _ rfl rfl
      try dsimp only at e42
      simp only [execOp, resolve, List.map_toArray, List.map_cons, List.map_nil, e42]
      clear hb hd
      go_simp
      refine (rsum32_any wx _ hz16').mono ?_; rintro e w' ⟨rfl, rfl⟩
      exact ⟨_, rfl, hK _ hC (Chg.refl _ _)⟩
    refine ex_det 44 [43] rfl rfl (fun _ _ _ _ _ _ _ _ => rfl) ?_
    apply Exists.intro
    refine ⟨?_, ?_⟩
    · intro wx b k hk1 hk2 hC hb hd K hK
      have e43 := hd 43 _ _ rfl rfl
      try dsimp only at e43
      simp only [execOp, e43]
      clear hb hd
      go_simp
      exact hK _ hC (Chg.refl _ _)
    refine ex_det 45 [44] rfl rfl (fun _ _ _ _ _ _ _ _ => rfl) ?_
    apply Exists.intro
    refine ⟨?_, ?_⟩
    · intro wx b k hk1 hk2 hC hb hd K hK
      have e44 := hd 44 _ _ rfl rfl
      try dsimp only at e44
      simp only [execOp, resolve, List.map_toArray, List.map_cons, List.map_nil, e44]
      clear hb hd
      go_simp
      refine (rfour_any wx _ (by omega) (by omega)).mono ?_; rintro e w' ⟨rfl, hX⟩
      exact ⟨_, rfl, hK _ (hC.step hX) hX⟩
    refine ex_det 46 [41, 45] rfl rfl (fun _ _ _ _ _ _ _ _ => rfl) ?_
    apply Exists.intro
    refine ⟨?_, ?_⟩
    · intro wx b k hk1 hk2 hC hb hd K hK
      have e41 := hd 41 _ _ rfl rfl
      try dsimp only at e41
      have e45 := hd 45 _ _ rfl rfl
      try dsimp only at e45
      simp only [execOp, e41, e45]
      clear hb hd
      go_simp
      exact hK _ hC (Chg.refl _ _)
    refine ex_det 47 [1] rfl rfl (fun _ _ _ _ _ _ _ _ => rfl) ?_
    apply Exists.intro
    refine ⟨?_, ?_⟩
    · intro wx b k hk1 hk2 hC hb hd K hK
      have e1 := hb 1 rfl
      simp only [exSlot, List.getD_cons_succ, List.getD_cons_zero] at e1
      simp only [execOp, e1]
      clear hb hd
      go_simp
      exact hK _ hC (Chg.refl _ _)
    refine ex_det 48 [47] rfl rfl (fun _ _ _ _ _ _ _ _ => rfl) ?_
    apply Exists.intro
    refine ⟨?_, ?_⟩
    · intro wx b k hk1 hk2 hC hb hd K hK
      have e47 := hd 47 _ _ rfl rfl
      try dsimp only at e47
      have cc := (hC.get 0 rfl).cell
      dsimp only at cc
      have c0 := cc 0
      have c1 := cc 1
      have c2 := cc 2
      have c3 := cc 3
      have c4 := cc 4
      have c5 := cc 5
      have c6 := cc 6
      have c7 := cc 7
      have c8 := cc 8
      clear cc
      simp only [execOp, e47]
      clear hb hd
      go_simp
      exact hK _ hC (Chg.refl _ _)
    refine ex_det 49 [48] rfl rfl (fun _ _ _ _ _ _ _ _ => rfl) ?_
    apply Exists.intro
    refine ⟨?_, ?_⟩
    · intro wx b k hk1 hk2 hC hb hd K hK
      have e48 := hd 48 _ _ rfl rfl
      try dsimp only at e48
      simp only [execOp, resolve, List.map_toArray, List.map_cons, List.map_nil, e48]
      clear hb hd
      go_simp
      refine (rfour_any wx _ (by omega) (by omega)).mono ?_; rintro e w' ⟨rfl, hX⟩
      exact ⟨_, rfl, hK _ (hC.step hX) hX⟩
    refine ex_det 50 [46, 49] rfl rfl (fun _ _ _ _ _ _ _ _ => rfl) ?_
    apply Exists.intro
    refine ⟨?_, ?_⟩
    · intro wx b k hk1 hk2 hC hb hd K hK
      have e46 := hd 46 _ _ rfl rfl
      try dsimp only at e46
      have e49 := hd 49 _ _ rfl rfl
      try dsimp only at e49
      simp only [execOp, e46, e49]
      clear hb hd
      go_simp
      exact hK _ hC (Chg.refl _ _)
    refine ex_det 2 [50] rfl rfl (fun _ _ _ _ _ _ _ _ => rfl) ?_
    apply Exists.intro
    refine ⟨?_, ?_⟩
    · intro wx b k hk1 hk2 hC hb hd K hK
      have e50 := hd 50 _ _ rfl rfl
      try dsimp only at e50
      simp only [execOp, e50]
      clear hb hd
      go_simp
      exact hK _ hC (Chg.refl _ _)
    refine ex_end ?_
    intro us w2 hus hC hall
    obtain ⟨v0, us, rfl⟩ := List.exists_cons_of_length_eq_add_one hus
    replace hus := Nat.succ.inj hus
    obtain ⟨v1, us, rfl⟩ := List.exists_cons_of_length_eq_add_one hus
    replace hus := Nat.succ.inj hus
    obtain ⟨v2, us, rfl⟩ := List.exists_cons_of_length_eq_add_one hus
    replace hus := Nat.succ.inj hus
    obtain ⟨v3, us, rfl⟩ := List.exists_cons_of_length_eq_add_one hus
    replace hus := Nat.succ.inj hus
    obtain ⟨v4, us, rfl⟩ := List.exists_cons_of_length_eq_add_one hus
    replace hus := Nat.succ.inj hus
    obtain ⟨v5, us, rfl⟩ := List.exists_cons_of_length_eq_add_one hus
    replace hus := Nat.succ.inj hus
    obtain ⟨v6, us, rfl⟩ := List.exists_cons_of_length_eq_add_one hus
    replace hus := Nat.succ.inj hus
    obtain ⟨v7, us, rfl⟩ := List.exists_cons_of_length_eq_add_one hus
    replace hus := Nat.succ.inj hus
    obtain ⟨v8, us, rfl⟩ := List.exists_cons_of_length_eq_add_one hus
    replace hus := Nat.succ.inj hus
    obtain ⟨v9, us, rfl⟩ := List.exists_cons_of_length_eq_add_one hus
    replace hus := Nat.succ.inj hus
    obtain ⟨v10, us, rfl⟩ := List.exists_cons_of_length_eq_add_one hus
    replace hus := Nat.succ.inj hus
    obtain rfl := List.length_eq_zero_iff.1 hus
    clear hus
    generalize hbb : exPuts _ _ _ = bb at hall ⊢
    simp only [exPuts, Act.put, List.setIfInBounds_toArray, List.set_cons_succ, List.set_cons_zero] at hbb
    subst hbb
    obtain ⟨h10, h9, h8, h7, h6, h5, h4, h3, h2, h1, h0, -⟩ := hall
    obtain rfl : v0 = _ := h0
    obtain rfl : v1 = _ := h1
    obtain rfl : v2 = _ := h2
    obtain rfl : v3 = _ := h3
    obtain rfl : v4 = _ := h4
    obtain rfl : v5 = _ := h5
    obtain rfl : v6 = _ := h6
    obtain rfl : v7 = _ := h7
    obtain rfl : v8 = _ := h8
    obtain rfl : v9 = _ := h9
    obtain rfl : v10 = _ := h10
    go_wp2
    go_returns
    exact ⟨by rw [Hp.out, Hq.out]; rfl, hC.x⟩
end Go.Proofs.Ytjneidmkllhbjaa
