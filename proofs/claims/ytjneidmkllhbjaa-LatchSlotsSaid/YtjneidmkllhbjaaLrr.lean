/- The reference of package latch: Read. -/
import Derived.Test.YtjneidmkllhbjaaLrp
import Derived.Test.YtjneidmkllhbjaaAgg
namespace Go.Proofs.Ytjneidmkllhbjaa
open Go.RowKit

theorem chg_drewN (w : World) (n : Nat) : Chg [] w (w.drewN n) := (Chg.refl [] w).drewN n
theorem num4_tail (s : ByteArray) (a : Nat) (h : a + 4 ≤ s.size) : num4 (s.extract a s.size) 0 = num4 s a := by
  unfold num4
  rw [show by_ s a = by_ s (a + 0) from rfl, by_extract s a s.size 0 (by omega) (by omega), by_extract s a s.size 1 (by omega) (by omega), by_extract s a s.size 2 (by omega) (by omega), by_extract s a s.size 3 (by omega) (by omega)]
set_option maxRecDepth 100000 in
set_option maxHeartbeats 4000000 in
theorem rread_any (W : World) (s : ByteArray) (hs0 : s.size ≤ maxLen) : Calls Try.prog 10 #[.string s] W fun e w' => e = .returned (.tuple #[.agg (lread s).cells, .bool (isRec s)]) ∧ Chg [] W w' := by
  unfold maxLen at hs0
  have hL := Lib.hid (show lread s = if isRec s then RcV.of s else RcV.zero from rfl)
  have C := (CL.new W 0).push #[.int .i64 0, .int .i64 0, .int .i64 0, .int .i64 0, .int .i64 0, .int .i64 0, .int .i64 0, .int .i64 0, .int .i64 0] 28
  by_cases hsz : s.size = 24
  · have hneq : ((s.size : Int) != 24) = false := by rw [hsz]; rfl
    go_enter Try.func10, Try.ntmps10
    go_upto_region 3 with fail
    generalize hz : W.heap.size = z at *
    have hzW : W.heap.size ≤ z := by omega
    generalize W.alloc (.cells #[.int .i64 0, .int .i64 0, .int .i64 0, .int .i64 0, .int .i64 0, .int .i64 0, .int .i64 0, .int .i64 0, .int .i64 0] 28) = w1 at *
    have Hsz := Lib.hid hsz
    have hs1 : 24 ≤ s.size := by omega
    have hs2 : s.size ≤ 24 := by omega
    clear hsz
    have q4 := num4_tail s 4 (by omega)
    have q12 := num4_tail s 12 (by omega)
    have hC0 := C.cb
    have hC1 : z < w1.heap.size := (C.get 0 rfl).lt
    obtain ⟨zb, hzb⟩ : ∃ zb, w1.heap.size = zb := ⟨_, rfl⟩
    rw [hzb] at hC0 hC1
    clear hzb C hneq
    have hC := hC0
    have j8 : (8 : Int) < (s.size : Int) := by omega
    have j9 : (9 : Int) < (s.size : Int) := by omega
    have j10 : (10 : Int) < (s.size : Int) := by omega
    have j11 : (11 : Int) < (s.size : Int) := by omega
    have g8 := by_get s 8 (by omega); have g9 := by_get s 9 (by omega); have g10 := by_get s 10 (by omega); have g11 := by_get s 11 (by omega)
    have b8 := by_bd s 8; have b9 := by_bd s 9; have b10 := by_bd s 10; have b11 := by_bd s 11
    have i8 : IntKind.i64.wrap (by_ s 8) = by_ s 8 := IntWalk.i64_in _ (by omega)
    have i9 : IntKind.i64.wrap (by_ s 9) = by_ s 9 := IntWalk.i64_in _ (by omega)
    have i10 : IntKind.i64.wrap (by_ s 10) = by_ s 10 := IntWalk.i64_in _ (by omega)
    have i11 : IntKind.i64.wrap (by_ s 11) = by_ s 11 := IntWalk.i64_in _ (by omega)
    have m4 : (by_ s 8).tmod 4 = by_ s 8 % 4 := Int.tmod_eq_emod_of_nonneg (by omega)
    have m16 : (by_ s 8).tmod 16 = by_ s 8 % 16 := Int.tmod_eq_emod_of_nonneg (by omega)
    have d16 : (by_ s 8).tdiv 16 = by_ s 8 / 16 := Int.tdiv_eq_ediv_of_nonneg (by omega)
    have d4 : (by_ s 8 % 16).tdiv 4 = by_ s 8 % 16 / 4 := Int.tdiv_eq_ediv_of_nonneg (by omega)
    have d16' : IntKind.i64.wrap (by_ s 8 / 16) = by_ s 8 / 16 := IntWalk.i64_in _ (by omega)
    have d4' : IntKind.i64.wrap (by_ s 8 % 16 / 4) = by_ s 8 % 16 / 4 := IntWalk.i64_in _ (by omega)
    refine wp_region_ex (fun _ => CB W [(z, #[.int .i64 0, .int .i64 0, .int .i64 0, .int .i64 0, .int .i64 0, .int .i64 0, .int .i64 0, .int .i64 0, .int .i64 0])] zb) (RY zb #[.int .i64 (num4 s 0), .int .i64 (num4 s 4), .int .i64 (by_ s 8 % 4), .int .i64 (by_ s 8 / 16), .int .i64 (by_ s 8 % 16 / 4), .int .i64 (by_ s 9), .int .i64 (by_ s 10), .int .i64 (by_ s 11), .int .i64 (num4 s 12)]) [] [(0, 0, false), (0, 0, false), (0, 0, false), (0, 0, false), (0, 0, false), (0, 0, false), (0, 0, false), (0, 0, false), (0, 0, false), (0, 0, false), (0, 0, false), (0, 0, false), (0, 0, false), (0, 0, false), (0, 0, false), (0, 0, false), (0, 0, false), (0, 0, false), (0, 0, false), (0, 0, false), (0, 0, false), (0, 0, false), (0, 0, false), (0, 0, false), (0, 0, false), (0, 0, false), (0, 0, false), (0, 0, false), (0, 0, false), (0, 0, false), (0, 0, false), (0, 0, false), (0, 0, false)] [9, 10, 11, 12, 13, 14, 15, 16, 17, 18, 19, 20, 21, 22, 23, 24, 25, 26, 27, 28, 29, 30, 31, 32, 33, 34, 35, 36, 37, 38, 39, 4] (by kernel_rfl) rfl (by kernel_rfl) (by kernel_rfl) (hC.drew) ?_
    simp only [List.zip_cons_cons, List.zip_nil_right]
    refine ex_det 9 [0] rfl rfl (fun _ _ _ _ _ _ _ _ => rfl) ?_
    apply Exists.intro
    refine ⟨?_, ?_⟩
    · intro wx b k hk1 hk2 hC hb hd K hK
      have e0 := hb 0 rfl
      simp only [exSlot, List.getD_cons_succ, List.getD_cons_zero] at e0
      simp only [execOp, e0]
      clear hb hd
      go_simp
      exact hK _ hC (RY.refl _ _ _)
    refine ex_det 10 [9] rfl rfl (fun _ _ _ _ _ _ _ _ => rfl) ?_
    apply Exists.intro
    refine ⟨?_, ?_⟩
    · intro wx b k hk1 hk2 hC hb hd K hK
      have e9 := hd 9 _ _ rfl rfl
      try dsimp only at e9
      simp only [execOp, resolve, List.map_toArray, List.map_cons, List.map_nil, e9]
      clear hb hd
      go_simp
      refine (rnumber_any wx s (by omega) (by omega)).mono ?_; rintro e w' ⟨rfl, n, rfl⟩
      skip
      exact ⟨_, rfl, hK _ (hC.step (chg_drewN wx n)) (.inl (chg_drewN wx n))⟩
    refine ex_det 11 [0] rfl rfl (fun _ _ _ _ _ _ _ _ => rfl) ?_
    apply Exists.intro
    refine ⟨?_, ?_⟩
    · intro wx b k hk1 hk2 hC hb hd K hK
      have e0 := hb 0 rfl
      simp only [exSlot, List.getD_cons_succ, List.getD_cons_zero] at e0
      simp only [execOp, e0]
      clear hb hd
      go_simp
      exact hK _ hC (RY.refl _ _ _)
    refine ex_det 12 [11] rfl rfl (fun _ _ _ _ _ _ _ _ => rfl) ?_
    apply Exists.intro
    refine ⟨?_, ?_⟩
    · intro wx b k hk1 hk2 hC hb hd K hK
      have e11 := hd 11 _ _ rfl rfl
      try dsimp only at e11
      have sq := slice_from wx s (i := 4) (a := 4) rfl (by omega)
      simp only [execOp, Option.map_some, Option.map_none, e11]
      clear hb hd
      go_simp
      exact hK _ hC (RY.refl _ _ _)
    refine ex_det 13 [12] rfl rfl (fun _ _ _ _ _ _ _ _ => rfl) ?_
    apply Exists.intro
    refine ⟨?_, ?_⟩
    · intro wx b k hk1 hk2 hC hb hd K hK
      have e12 := hd 12 _ _ rfl rfl
      try dsimp only at e12
      simp only [execOp, resolve, List.map_toArray, List.map_cons, List.map_nil, e12]
      clear hb hd
      go_simp
      refine (rnumber_any wx (s.extract 4 s.size) (by simp; omega) (by simp; omega)).mono ?_; rintro e w' ⟨rfl, n, rfl⟩
      rw [q4]
      exact ⟨_, rfl, hK _ (hC.step (chg_drewN wx n)) (.inl (chg_drewN wx n))⟩
    refine ex_det 14 [0] rfl rfl (fun _ _ _ _ _ _ _ _ => rfl) ?_
    apply Exists.intro
    refine ⟨?_, ?_⟩
    · intro wx b k hk1 hk2 hC hb hd K hK
      have e0 := hb 0 rfl
      simp only [exSlot, List.getD_cons_succ, List.getD_cons_zero] at e0
      simp only [execOp, e0]
      clear hb hd
      go_simp
      exact hK _ hC (RY.refl _ _ _)
    refine ex_det 15 [14] rfl rfl (fun _ _ _ _ _ _ _ _ => rfl) ?_
    apply Exists.intro
    refine ⟨?_, ?_⟩
    · intro wx b k hk1 hk2 hC hb hd K hK
      have e14 := hd 14 _ _ rfl rfl
      try dsimp only at e14
      simp only [execOp, e14]
      clear hb hd
      go_simp
      exact hK _ hC (RY.refl _ _ _)
    refine ex_det 16 [15] rfl rfl (fun _ _ _ _ _ _ _ _ => rfl) ?_
    apply Exists.intro
    refine ⟨?_, ?_⟩
    · intro wx b k hk1 hk2 hC hb hd K hK
      have e15 := hd 15 _ _ rfl rfl
      try dsimp only at e15
      simp only [execOp, e15]
      clear hb hd
      go_simp
      exact hK _ hC (RY.refl _ _ _)
    refine ex_det 17 [16] rfl rfl (fun _ _ _ _ _ _ _ _ => rfl) ?_
    apply Exists.intro
    refine ⟨?_, ?_⟩
    · intro wx b k hk1 hk2 hC hb hd K hK
      have e16 := hd 16 _ _ rfl rfl
      try dsimp only at e16
      simp only [execOp, e16]
      clear hb hd
      go_simp
      exact hK _ hC (RY.refl _ _ _)
    refine ex_det 18 [0] rfl rfl (fun _ _ _ _ _ _ _ _ => rfl) ?_
    apply Exists.intro
    refine ⟨?_, ?_⟩
    · intro wx b k hk1 hk2 hC hb hd K hK
      have e0 := hb 0 rfl
      simp only [exSlot, List.getD_cons_succ, List.getD_cons_zero] at e0
      simp only [execOp, e0]
      clear hb hd
      go_simp
      exact hK _ hC (RY.refl _ _ _)
    refine ex_det 19 [18] rfl rfl (fun _ _ _ _ _ _ _ _ => rfl) ?_
    apply Exists.intro
    refine ⟨?_, ?_⟩
    · intro wx b k hk1 hk2 hC hb hd K hK
      have e18 := hd 18 _ _ rfl rfl
      try dsimp only at e18
      simp only [execOp, e18]
      clear hb hd
      go_simp
      exact hK _ hC (RY.refl _ _ _)
    refine ex_det 20 [19] rfl rfl (fun _ _ _ _ _ _ _ _ => rfl) ?_
    apply Exists.intro
    refine ⟨?_, ?_⟩
    · intro wx b k hk1 hk2 hC hb hd K hK
      have e19 := hd 19 _ _ rfl rfl
      try dsimp only at e19
      simp only [execOp, e19]
      clear hb hd
      go_simp
      exact hK _ hC (RY.refl _ _ _)
    refine ex_det 21 [20] rfl rfl (fun _ _ _ _ _ _ _ _ => rfl) ?_
    apply Exists.intro
    refine ⟨?_, ?_⟩
    · intro wx b k hk1 hk2 hC hb hd K hK
      have e20 := hd 20 _ _ rfl rfl
      try dsimp only at e20
      simp only [execOp, e20]
      clear hb hd
      go_simp
      exact hK _ hC (RY.refl _ _ _)
    refine ex_det 22 [21] rfl rfl (fun _ _ _ _ _ _ _ _ => rfl) ?_
    apply Exists.intro
    refine ⟨?_, ?_⟩
    · intro wx b k hk1 hk2 hC hb hd K hK
      have e21 := hd 21 _ _ rfl rfl
      try dsimp only at e21
      simp only [execOp, e21]
      clear hb hd
      go_simp
      exact hK _ hC (RY.refl _ _ _)
    refine ex_det 23 [0] rfl rfl (fun _ _ _ _ _ _ _ _ => rfl) ?_
    apply Exists.intro
    refine ⟨?_, ?_⟩
    · intro wx b k hk1 hk2 hC hb hd K hK
      have e0 := hb 0 rfl
      simp only [exSlot, List.getD_cons_succ, List.getD_cons_zero] at e0
      simp only [execOp, e0]
      clear hb hd
      go_simp
      exact hK _ hC (RY.refl _ _ _)
    refine ex_det 24 [23] rfl rfl (fun _ _ _ _ _ _ _ _ => rfl) ?_
    apply Exists.intro
    refine ⟨?_, ?_⟩
    · intro wx b k hk1 hk2 hC hb hd K hK
      have e23 := hd 23 _ _ rfl rfl
      try dsimp only at e23
      simp only [execOp, e23]
      clear hb hd
      go_simp
      exact hK _ hC (RY.refl _ _ _)
    refine ex_det 25 [24] rfl rfl (fun _ _ _ _ _ _ _ _ => rfl) ?_
    apply Exists.intro
    refine ⟨?_, ?_⟩
    · intro wx b k hk1 hk2 hC hb hd K hK
      have e24 := hd 24 _ _ rfl rfl
      try dsimp only at e24
      simp only [execOp, e24]
      clear hb hd
      go_simp
      exact hK _ hC (RY.refl _ _ _)
    refine ex_det 26 [25] rfl rfl (fun _ _ _ _ _ _ _ _ => rfl) ?_
    apply Exists.intro
    refine ⟨?_, ?_⟩
    · intro wx b k hk1 hk2 hC hb hd K hK
      have e25 := hd 25 _ _ rfl rfl
      try dsimp only at e25
      simp only [execOp, e25]
      clear hb hd
      go_simp
      exact hK _ hC (RY.refl _ _ _)
    refine ex_det 27 [0] rfl rfl (fun _ _ _ _ _ _ _ _ => rfl) ?_
    apply Exists.intro
    refine ⟨?_, ?_⟩
    · intro wx b k hk1 hk2 hC hb hd K hK
      have e0 := hb 0 rfl
      simp only [exSlot, List.getD_cons_succ, List.getD_cons_zero] at e0
      simp only [execOp, e0]
      clear hb hd
      go_simp
      exact hK _ hC (RY.refl _ _ _)
    refine ex_det 28 [27] rfl rfl (fun _ _ _ _ _ _ _ _ => rfl) ?_
    apply Exists.intro
    refine ⟨?_, ?_⟩
    · intro wx b k hk1 hk2 hC hb hd K hK
      have e27 := hd 27 _ _ rfl rfl
      try dsimp only at e27
      simp only [execOp, e27]
      clear hb hd
      go_simp
      exact hK _ hC (RY.refl _ _ _)
    refine ex_det 29 [28] rfl rfl (fun _ _ _ _ _ _ _ _ => rfl) ?_
    apply Exists.intro
    refine ⟨?_, ?_⟩
    · intro wx b k hk1 hk2 hC hb hd K hK
      have e28 := hd 28 _ _ rfl rfl
      try dsimp only at e28
      simp only [execOp, e28]
      clear hb hd
      go_simp
      exact hK _ hC (RY.refl _ _ _)
    refine ex_det 30 [0] rfl rfl (fun _ _ _ _ _ _ _ _ => rfl) ?_
    apply Exists.intro
    refine ⟨?_, ?_⟩
    · intro wx b k hk1 hk2 hC hb hd K hK
      have e0 := hb 0 rfl
      simp only [exSlot, List.getD_cons_succ, List.getD_cons_zero] at e0
      simp only [execOp, e0]
      clear hb hd
      go_simp
      exact hK _ hC (RY.refl _ _ _)
    refine ex_det 31 [30] rfl rfl (fun _ _ _ _ _ _ _ _ => rfl) ?_
    apply Exists.intro
    refine ⟨?_, ?_⟩
    · intro wx b k hk1 hk2 hC hb hd K hK
      have e30 := hd 30 _ _ rfl rfl
      try dsimp only at e30
      simp only [execOp, e30]
      clear hb hd
      go_simp
      exact hK _ hC (RY.refl _ _ _)
    refine ex_det 32 [31] rfl rfl (fun _ _ _ _ _ _ _ _ => rfl) ?_
    apply Exists.intro
    refine ⟨?_, ?_⟩
    · intro wx b k hk1 hk2 hC hb hd K hK
      have e31 := hd 31 _ _ rfl rfl
      try dsimp only at e31
      simp only [execOp, e31]
      clear hb hd
      go_simp
      exact hK _ hC (RY.refl _ _ _)
    refine ex_det 33 [0] rfl rfl (fun _ _ _ _ _ _ _ _ => rfl) ?_
    apply Exists.intro
    refine ⟨?_, ?_⟩
    · intro wx b k hk1 hk2 hC hb hd K hK
      have e0 := hb 0 rfl
      simp only [exSlot, List.getD_cons_succ, List.getD_cons_zero] at e0
      simp only [execOp, e0]
      clear hb hd
      go_simp
      exact hK _ hC (RY.refl _ _ _)
    refine ex_det 34 [33] rfl rfl (fun _ _ _ _ _ _ _ _ => rfl) ?_
    apply Exists.intro
    refine ⟨?_, ?_⟩
    · intro wx b k hk1 hk2 hC hb hd K hK
      have e33 := hd 33 _ _ rfl rfl
      try dsimp only at e33
      simp only [execOp, e33]
      clear hb hd
      go_simp
      exact hK _ hC (RY.refl _ _ _)
    refine ex_det 35 [34] rfl rfl (fun _ _ _ _ _ _ _ _ => rfl) ?_
    apply Exists.intro
    refine ⟨?_, ?_⟩
    · intro wx b k hk1 hk2 hC hb hd K hK
      have e34 := hd 34 _ _ rfl rfl
      try dsimp only at e34
      simp only [execOp, e34]
      clear hb hd
      go_simp
      exact hK _ hC (RY.refl _ _ _)
    refine ex_det 36 [0] rfl rfl (fun _ _ _ _ _ _ _ _ => rfl) ?_
    apply Exists.intro
    refine ⟨?_, ?_⟩
    · intro wx b k hk1 hk2 hC hb hd K hK
      have e0 := hb 0 rfl
      simp only [exSlot, List.getD_cons_succ, List.getD_cons_zero] at e0
      simp only [execOp, e0]
      clear hb hd
      go_simp
      exact hK _ hC (RY.refl _ _ _)
    refine ex_det 37 [36] rfl rfl (fun _ _ _ _ _ _ _ _ => rfl) ?_
    apply Exists.intro
    refine ⟨?_, ?_⟩
    · intro wx b k hk1 hk2 hC hb hd K hK
      have e36 := hd 36 _ _ rfl rfl
      try dsimp only at e36
      have sq := slice_from wx s (i := 12) (a := 12) rfl (by omega)
      simp only [execOp, Option.map_some, Option.map_none, e36]
      clear hb hd
      go_simp
      exact hK _ hC (RY.refl _ _ _)
    refine ex_det 38 [37] rfl rfl (fun _ _ _ _ _ _ _ _ => rfl) ?_
    apply Exists.intro
    refine ⟨?_, ?_⟩
    · intro wx b k hk1 hk2 hC hb hd K hK
      have e37 := hd 37 _ _ rfl rfl
      try dsimp only at e37
      simp only [execOp, resolve, List.map_toArray, List.map_cons, List.map_nil, e37]
      clear hb hd
      go_simp
      refine (rnumber_any wx (s.extract 12 s.size) (by simp; omega) (by simp; omega)).mono ?_; rintro e w' ⟨rfl, n, rfl⟩
      rw [q12]
      exact ⟨_, rfl, hK _ (hC.step (chg_drewN wx n)) (.inl (chg_drewN wx n))⟩
    refine ex_det 39 [10, 13, 17, 22, 26, 29, 32, 35, 38] rfl rfl (fun _ _ _ _ _ _ _ _ => rfl) ?_
    apply Exists.intro
    refine ⟨?_, ?_⟩
    · intro wx b k hk1 hk2 hC hb hd K hK
      have e10 := hd 10 _ _ rfl rfl
      try dsimp only at e10
      have e13 := hd 13 _ _ rfl rfl
      try dsimp only at e13
      have e17 := hd 17 _ _ rfl rfl
      try dsimp only at e17
      have e22 := hd 22 _ _ rfl rfl
      try dsimp only at e22
      have e26 := hd 26 _ _ rfl rfl
      try dsimp only at e26
      have e29 := hd 29 _ _ rfl rfl
      try dsimp only at e29
      have e32 := hd 32 _ _ rfl rfl
      try dsimp only at e32
      have e35 := hd 35 _ _ rfl rfl
      try dsimp only at e35
      have e38 := hd 38 _ _ rfl rfl
      try dsimp only at e38
      simp only [execOp, List.map_toArray, List.map_cons, List.map_nil, e10, e13, e17, e22, e26, e29, e32, e35, e38]
      clear hb hd
      go_simp
      exact hK _ hC (RY.refl _ _ _)
    refine ex_any (fun _ v w => AY zb #[.int .i64 0, .int .i64 0, .int .i64 0, .int .i64 0, .int .i64 0, .int .i64 0, .int .i64 0, .int .i64 0, .int .i64 0] #[.int .i64 (num4 s 0), .int .i64 (num4 s 4), .int .i64 (by_ s 8 % 4), .int .i64 (by_ s 8 / 16), .int .i64 (by_ s 8 % 16 / 4), .int .i64 (by_ s 9), .int .i64 (by_ s 10), .int .i64 (by_ s 11), .int .i64 (num4 s 12)] v w) 4 [] rfl rfl (fun _ _ _ _ _ _ _ _ => rfl) (fun _ _ _ _ h hr => h.step hr) ?_ ?_
    · intro wx b k hk1 hk2 hC hb hd K hK
      simp only [execOp]
      clear hb hd
      go_simp
      exact hK _ _ ⟨_, rfl, hC.sz, .inl (At.new _ _ _)⟩ (hC.alloc0 _) (.inl ((Chg.refl _ _).alloc _))
    refine ex_unit (fun g w => SY zb #[.int .i64 (num4 s 0), .int .i64 (num4 s 4), .int .i64 (by_ s 8 % 4), .int .i64 (by_ s 8 / 16), .int .i64 (by_ s 8 % 16 / 4), .int .i64 (by_ s 9), .int .i64 (by_ s 10), .int .i64 (by_ s 11), .int .i64 (num4 s 12)] (g 4) w) [4, 39] rfl rfl (fun _ _ _ _ _ _ _ _ => rfl) (fun _ _ _ h hr => h.step hr) ?_ ?_
    · intro wx b k hk1 hk2 hC hb hd K hK
      have e4 := hd 4 _ _ rfl rfl
      try dsimp only at e4
      have e39 := hd 39 _ _ rfl rfl
      try dsimp only at e39
      obtain ⟨y, wy, hy, hrun, hyb, hAy, hXy⟩ := AY.store e4 28 rfl (by kernel_rfl) (by simp [Value.oneCell'])
      clear e4
      rw [hy] at hrun
      simp only [execOp, hy, e39]
      clear hb hd
      simp only [Sem.run_bind, hrun, Result.andThen_ok, Sem.run_pure, invUpon]
      exact hK _ ⟨y, by simp [exSeen, hy], hyb, hAy⟩ (hC.at_y hXy hyb) (.inr ⟨y, hyb, hAy, hXy⟩)
    refine ex_end ?_
    intro us w2 hus hC hall
    obtain ⟨v0, us, rfl⟩ := List.exists_cons_of_length_eq_add_one hus
    replace hus := Nat.succ.inj hus
    obtain ⟨v1, us, rfl⟩ := List.exists_cons_of_length_eq_add_one hus
    replace hus := Nat.succ.inj hus
    obtain ⟨v2, us, rfl⟩ := List.exists_cons_of_length_eq_add_one hus
    replace hus := Nat.succ.inj hus
    obtain ⟨v3, us, rfl⟩ := List.exists_cons_of_length_eq_add_one hus
    replace hus := Nat.succ.inj hus
    obtain ⟨v4, us, rfl⟩ := List.exists_cons_of_length_eq_add_one hus
    replace hus := Nat.succ.inj hus
    obtain ⟨v5, us, rfl⟩ := List.exists_cons_of_length_eq_add_one hus
    replace hus := Nat.succ.inj hus
    obtain ⟨v6, us, rfl⟩ := List.exists_cons_of_length_eq_add_one hus
    replace hus := Nat.succ.inj hus
    obtain ⟨v7, us, rfl⟩ := List.exists_cons_of_length_eq_add_one hus
    replace hus := Nat.succ.inj hus
    obtain ⟨v8, us, rfl⟩ := List.exists_cons_of_length_eq_add_one hus
    replace hus := Nat.succ.inj hus
    obtain ⟨v9, us, rfl⟩ := List.exists_cons_of_length_eq_add_one hus
    replace hus := Nat.succ.inj hus
    obtain ⟨v10, us, rfl⟩ := List.exists_cons_of_length_eq_add_one hus
    replace hus := Nat.succ.inj hus
    obtain ⟨v11, us, rfl⟩ := List.exists_cons_of_length_eq_add_one hus
    replace hus := Nat.succ.inj hus
    obtain ⟨v12, us, rfl⟩ := List.exists_cons_of_length_eq_add_one hus
    replace hus := Nat.succ.inj hus
    obtain ⟨v13, us, rfl⟩ := List.exists_cons_of_length_eq_add_one hus
    replace hus := Nat.succ.inj hus
    obtain ⟨v14, us, rfl⟩ := List.exists_cons_of_length_eq_add_one hus
    replace hus := Nat.succ.inj hus
    obtain ⟨v15, us, rfl⟩ := List.exists_cons_of_length_eq_add_one hus
    replace hus := Nat.succ.inj hus
    obtain ⟨v16, us, rfl⟩ := List.exists_cons_of_length_eq_add_one hus
    replace hus := Nat.succ.inj hus
    obtain ⟨v17, us, rfl⟩ := List.exists_cons_of_length_eq_add_one hus
    replace hus := Nat.succ.inj hus
    obtain ⟨v18, us, rfl⟩ := List.exists_cons_of_length_eq_add_one hus
    replace hus := Nat.succ.inj hus
    obtain ⟨v19, us, rfl⟩ := List.exists_cons_of_length_eq_add_one hus
    replace hus := Nat.succ.inj hus
    obtain ⟨v20, us, rfl⟩ := List.exists_cons_of_length_eq_add_one hus
    replace hus := Nat.succ.inj hus
    obtain ⟨v21, us, rfl⟩ := List.exists_cons_of_length_eq_add_one hus
    replace hus := Nat.succ.inj hus
    obtain ⟨v22, us, rfl⟩ := List.exists_cons_of_length_eq_add_one hus
    replace hus := Nat.succ.inj hus
    obtain ⟨v23, us, rfl⟩ := List.exists_cons_of_length_eq_add_one hus
    replace hus := Nat.succ.inj hus
    obtain ⟨v24, us, rfl⟩ := List.exists_cons_of_length_eq_add_one hus
    replace hus := Nat.succ.inj hus
    obtain ⟨v25, us, rfl⟩ := List.exists_cons_of_length_eq_add_one hus
    replace hus := Nat.succ.inj hus
    obtain ⟨v26, us, rfl⟩ := List.exists_cons_of_length_eq_add_one hus
    replace hus := Nat.succ.inj hus
    obtain ⟨v27, us, rfl⟩ := List.exists_cons_of_length_eq_add_one hus
    replace hus := Nat.succ.inj hus
    obtain ⟨v28, us, rfl⟩ := List.exists_cons_of_length_eq_add_one hus
    replace hus := Nat.succ.inj hus
    obtain ⟨v29, us, rfl⟩ := List.exists_cons_of_length_eq_add_one hus
    replace hus := Nat.succ.inj hus
    obtain ⟨v30, us, rfl⟩ := List.exists_cons_of_length_eq_add_one hus
    replace hus := Nat.succ.inj hus
    obtain ⟨v31, us, rfl⟩ := List.exists_cons_of_length_eq_add_one hus
    replace hus := Nat.succ.inj hus
    obtain ⟨v32, us, rfl⟩ := List.exists_cons_of_length_eq_add_one hus
    replace hus := Nat.succ.inj hus
    obtain rfl := List.length_eq_zero_iff.1 hus
    clear hus
    generalize hbb : exPuts _ _ _ = bb at hall ⊢
    simp only [exPuts, Act.put, List.setIfInBounds_toArray, List.set_cons_succ, List.set_cons_zero] at hbb
    subst hbb
    obtain ⟨h32, h31, h30, h29, h28, h27, h26, h25, h24, h23, h22, h21, h20, h19, h18, h17, h16, h15, h14, h13, h12, h11, h10, h9, h8, h7, h6, h5, h4, h3, h2, h1, h0, -⟩ := hall
    obtain rfl : v0 = _ := h0
    obtain rfl : v1 = _ := h1
    obtain rfl : v2 = _ := h2
    obtain rfl : v3 = _ := h3
    obtain rfl : v4 = _ := h4
    obtain rfl : v5 = _ := h5
    obtain rfl : v6 = _ := h6
    obtain rfl : v7 = _ := h7
    obtain rfl : v8 = _ := h8
    obtain rfl : v9 = _ := h9
    obtain rfl : v10 = _ := h10
    obtain rfl : v11 = _ := h11
    obtain rfl : v12 = _ := h12
    obtain rfl : v13 = _ := h13
    obtain rfl : v14 = _ := h14
    obtain rfl : v15 = _ := h15
    obtain rfl : v16 = _ := h16
    obtain rfl : v17 = _ := h17
    obtain rfl : v18 = _ := h18
    obtain rfl : v19 = _ := h19
    obtain rfl : v20 = _ := h20
    obtain rfl : v21 = _ := h21
    obtain rfl : v22 = _ := h22
    obtain rfl : v23 = _ := h23
    obtain rfl : v24 = _ := h24
    obtain rfl : v25 = _ := h25
    obtain rfl : v26 = _ := h26
    obtain rfl : v27 = _ := h27
    obtain rfl : v28 = _ := h28
    obtain rfl : v29 = _ := h29
    obtain rfl : v30 = _ := h30
    clear h31
    obtain ⟨y31, hy31, hyb31, hAy31⟩ := h32
    obtain rfl : v31 = _ := hy31
    clear v32
    clear hC0 i8 i9 i10 i11 m4 m16 d16 d4 d16' d4' g8 g9 g10 g11 j8 j9 j10 j11 q4 q12 b8 b9 b10 b11
    have C := hC.cons hAy31
    clear hC hAy31
    have hne : y31 ≠ z := by have := hC1; omega
    have hiff := isRec_iff s Hsz.out
    have HP : ∀ w, Calls Try.prog 11 #[.agg #[.int .i64 (num4 s 0), .int .i64 (num4 s 4), .int .i64 (by_ s 8 % 4), .int .i64 (by_ s 8 / 16), .int .i64 (by_ s 8 % 16 / 4), .int .i64 (by_ s 9), .int .i64 (by_ s 10), .int .i64 (by_ s 11), .int .i64 (num4 s 12)]] w fun e w' => e = .returned (.string (RcV.of s).print) ∧ Chg [] w w' := fun w => rprint_any w (RcV.of s)
    generalize (RcV.of s).print = t at *
    have hy := C.get 0 rfl
    have hz := C.get 1 rfl
    dsimp only at hy hz
    go_wp2_with (with_reducible refine wpList_get rfl rfl rfl hy (by kernel_rfl) ?_)
    refine (HP _).mono ?_; rintro e w3 ⟨rfl, hX⟩
    replace C := C.step (j := 0) hX
    clear hy hz
    have hy := C.get 0 rfl
    have hz := C.get 1 rfl
    dsimp only at hy hz
    by_cases hts : t = s
    · go_upto_region 6 with fail
      refine wp_region_lit ?_
      refine wpList_get rfl rfl rfl hy (by kernel_rfl) ?_
      refine wpList_put rfl rfl rfl rfl hz rfl (by kernel_rfl) (by simp [Value.oneCell']) ?_
      intro w4 hz4 hX4
      go_wp2_with (with_reducible refine hold_post ?_)
      refine Lib.hid ?_
      exact bodyPost_ret (res_ct rfl hz4 (by kernel_rfl) rfl) rfl ⟨by rw [hL.out, hiff.2 hts]; rfl, C.x.then hX4 (fun x hx hl => by simp at hx; omega)⟩
    · have hr : isRec s = false := by
        cases hh : isRec s with
        | false => rfl
        | true => exact absurd (hiff.1 hh) hts
      have hts2 : (t.toList == s.toList) = false := Bool.eq_false_iff.2 (fun h => hts ((str_beq _ _).1 h))
      go_upto_region 5 with fail
      refine wp_region_lit ?_
      refine wpList_bld rfl rfl #[.int .i64 0, .int .i64 0, .int .i64 0, .int .i64 0, .int .i64 0, .int .i64 0, .int .i64 0, .int .i64 0, .int .i64 0] (by kernel_rfl) ?_
      refine wpList_put rfl rfl rfl rfl hz rfl (by kernel_rfl) (by simp [Value.oneCell']) ?_
      intro w4 hz4 hX4
      go_wp2_with (with_reducible refine hold_post ?_)
      refine Lib.hid ?_
      exact bodyPost_ret (res_ct rfl hz4 (by kernel_rfl) rfl) rfl ⟨by rw [hL.out, hr]; rfl, C.x.then hX4 (fun x hx hl => by simp at hx; omega)⟩
  · have hneq : ((s.size : Int) != 24) = true := by simp; omega
    have hr : isRec s = false := by unfold isRec; simp [hsz]
    clear hsz
    go_enter Try.func10, Try.ntmps10
    go_upto_region 2 with fail
    generalize hz : W.heap.size = z at *
    have hzW : W.heap.size ≤ z := by omega
    generalize W.alloc (.cells #[.int .i64 0, .int .i64 0, .int .i64 0, .int .i64 0, .int .i64 0, .int .i64 0, .int .i64 0, .int .i64 0, .int .i64 0] 28) = w1 at *
    have hz := C.get 0 rfl
    dsimp only at hz
    refine wp_region_lit ?_
    refine wpList_bld rfl rfl #[.int .i64 0, .int .i64 0, .int .i64 0, .int .i64 0, .int .i64 0, .int .i64 0, .int .i64 0, .int .i64 0, .int .i64 0] (by kernel_rfl) ?_
    refine wpList_put rfl rfl rfl rfl hz rfl (by kernel_rfl) (by simp [Value.oneCell']) ?_
    intro w4 hz4 hX4
    go_wp2_with (with_reducible refine hold_post ?_)
    refine Lib.hid ?_
    exact bodyPost_ret (res_ct rfl hz4 (by kernel_rfl) rfl) rfl ⟨by rw [hL.out, hr]; rfl, C.x.then hX4 (fun x hx hl => by simp at hx; omega)⟩
end Go.Proofs.Ytjneidmkllhbjaa
