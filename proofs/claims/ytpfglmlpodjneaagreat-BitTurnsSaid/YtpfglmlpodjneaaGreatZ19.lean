/- Rdc. -/
import Derived.Test.YtpfglmlpodjneaaGreatZ17
import Derived.Test.YtpfglmlpodjneaaGreatZ18
import Derived.Test.YtpfglmlpodjneaaGreatZ14
set_option linter.unusedSimpArgs false
set_option linter.unusedVariables false
namespace Go.Proofs.YtpfglmlpodjneaaGreat
open Go.RowKit

set_option maxRecDepth 100000 in
set_option maxHeartbeats 2000000 in
theorem qread_c (W : World) (s : ByteArray) (hs0 : s.size ≤ 1000000) (hm : magicB s = true) (h22 : 22 ≤ s.size) : Calls Tryz.prog 10 #[.string s] W (RdPost W (readV s)) := by
  have HMg : Hid (∀ j, j < min s.size 4 → by_ s j = by_ aftu j) := Lib.hid ((magic_iff s).1 hm)
  have C := (CL.new W 0).push #[.slice none 0 0, .int .i64 0, .int .i64 0, .int .i64 0, .int .i64 0, .int .i64 0, .int .i64 0, .int .i64 0, .int .i64 0] 25
  go_enter Tryz.func10, Tryz.ntmps10
  go_upto_region 1 with fail
  generalize hz : W.heap.size = z at *
  have hzW : W.heap.size ≤ z := by omega
  generalize W.alloc (.cells #[.slice none 0 0, .int .i64 0, .int .i64 0, .int .i64 0, .int .i64 0, .int .i64 0, .int .i64 0, .int .i64 0, .int .i64 0] 25) = w1 at *
  clear hz
  go_wp2_with fail
  go_loopg [4] 4 (fun gk ii wr => ∃ i : Nat, i + gk = 4 ∧ ii = .int .i64 i ∧ CL W [(z, #[.slice none 0 0, .int .i64 0, .int .i64 0, .int .i64 0, .int .i64 0, .int .i64 0, .int .i64 0, .int .i64 0, .int .i64 0])] 0 wr)
  case atStart => exact ⟨0, by omega, rfl, C⟩
  case round =>
    clear C
    obtain ⟨i, hi, rfl, C⟩ := hrel
    by_cases hlt : i < 4
    · have h1 : i < s.size := by omega
      have h4 : i < 4 := by omega
      have j0 : (0 : Int) ≤ (i : Int) := by omega
      have j1 : (i : Int) < (s.size : Int) := by omega
      have j2 : (i : Int).toNat = i := by omega
      have j3 : (i : Int) < 4 := by omega
      have hsz4 : ByteArray.size ⟨#[65, 70, 84, 85]⟩ = 4 := rfl
      have gs := by_get s i (by omega)
      have ga := by_get ⟨#[65, 70, 84, 85]⟩ i (by show i < 4; omega)
      have hba : by_ ⟨#[65, 70, 84, 85]⟩ i = by_ aftu i := rfl
      rw [hba] at ga
      clear hba
      have heq : by_ s i = by_ aftu i := HMg.out i (by omega)
      rw [← heq] at ga
      clear heq
      go_wp2_with fail
      go_quiet (fail)
      go_wp2_with fail
      go_roundg (gk - 1)
      case rel => exact ⟨i + 1, by omega, by go_num, C.step ((Chg.refl [] _).drewN _)⟩
      case measure => omega
    · obtain rfl : gk = 0 := by omega
      obtain rfl : i = 4 := by omega
      have hlt22 : ¬((s.size : Int) < 22) := by omega
      have h4s : (4 : Int) < (s.size : Int) := by omega
      clear hi hlt
      go_upto_region 8 with fail
      have hC0 := C.cb
      have hC1 : z < wr.heap.size := (C.get 0 rfl).lt
      obtain ⟨zb, hzb⟩ : ∃ zb, wr.heap.size = zb := ⟨_, rfl⟩
      rw [hzb] at hC0 hC1
      clear hzb C
      have hC := hC0
      clear hC0
      have j5 : (5 : Int) < (s.size : Int) := by omega
      have g5 := by_get s 5 (by omega)
      have b5 := by_bd s 5
      have i5 : IntKind.i64.wrap (by_ s 5) = by_ s 5 := IntWalk.i64_in _ (by omega)
      have j6 : (6 : Int) < (s.size : Int) := by omega
      have g6 := by_get s 6 (by omega)
      have b6 := by_bd s 6
      have i6 : IntKind.i64.wrap (by_ s 6) = by_ s 6 := IntWalk.i64_in _ (by omega)
      have j7 : (7 : Int) < (s.size : Int) := by omega
      have g7 := by_get s 7 (by omega)
      have b7 := by_bd s 7
      have i7 : IntKind.i64.wrap (by_ s 7) = by_ s 7 := IntWalk.i64_in _ (by omega)
      have j8 : (8 : Int) < (s.size : Int) := by omega
      have g8 := by_get s 8 (by omega)
      have b8 := by_bd s 8
      have i8 : IntKind.i64.wrap (by_ s 8) = by_ s 8 := IntWalk.i64_in _ (by omega)
      have j9 : (9 : Int) < (s.size : Int) := by omega
      have g9 := by_get s 9 (by omega)
      have b9 := by_bd s 9
      have i9 : IntKind.i64.wrap (by_ s 9) = by_ s 9 := IntWalk.i64_in _ (by omega)
      refine wp_region_ex (fun _ => CB W [(z, #[.slice none 0 0, .int .i64 0, .int .i64 0, .int .i64 0, .int .i64 0, .int .i64 0, .int .i64 0, .int .i64 0, .int .i64 0])] zb) (fun _ => RY zb #[.slice none 0 0, .int .i64 (by_ s 5), .int .i64 (by_ s 6), .int .i64 (by_ s 7), .int .i64 (num4 s 10), .int .i64 (num4 s 14), .int .i64 (by_ s 8), .int .i64 (num4 s 18), .int .i64 (by_ s 9)]) [] [(0, 0, false), (0, 0, false), (0, 0, false), (0, 0, false), (0, 0, false), (0, 0, false), (0, 0, false), (0, 0, false), (0, 0, false), (0, 0, false), (0, 0, false), (0, 0, false), (0, 0, false), (0, 0, false), (0, 0, false), (0, 0, false), (0, 0, false), (0, 0, false), (0, 0, false), (0, 0, false), (0, 0, false), (0, 0, false), (0, 0, false), (0, 0, false), (0, 0, false), (0, 0, false), (0, 0, false)] [32, 33, 34, 35, 36, 37, 38, 39, 40, 41, 42, 43, 44, 45, 46, 47, 48, 49, 50, 51, 52, 53, 54, 55, 56, 5] (by kernel_rfl) rfl (by kernel_rfl) (by kernel_rfl) (hC.drew) ?_
      simp only [List.zip_cons_cons, List.zip_nil_right]
      refine ex_det 32 [0] rfl rfl (fun _ _ _ _ _ _ _ _ => rfl) ?_
      apply Exists.intro
      refine ⟨?_, ?_⟩
      · intro wx bX kX hk1 hk2 hC hb hd K hK
        have e0 := hb 0 rfl
        simp only [exSlot, List.getD_cons_succ, List.getD_cons_zero] at e0
        simp only [execOp, e0]
        clear hb hd
        go_simp
        exact hK _ hC (RY.refl _ _ _)
      refine ex_det 33 [32] rfl rfl (fun _ _ _ _ _ _ _ _ => rfl) ?_
      apply Exists.intro
      refine ⟨?_, ?_⟩
      · intro wx bX kX hk1 hk2 hC hb hd K hK
        have e32 := hd 32 _ _ rfl rfl
        try dsimp only at e32
        simp only [execOp, e32]
        clear hb hd
        go_simp
        exact hK _ hC (RY.refl _ _ _)
      refine ex_det 34 [33] rfl rfl (fun _ _ _ _ _ _ _ _ => rfl) ?_
      apply Exists.intro
      refine ⟨?_, ?_⟩
      · intro wx bX kX hk1 hk2 hC hb hd K hK
        have e33 := hd 33 _ _ rfl rfl
        try dsimp only at e33
        simp only [execOp, e33]
        clear hb hd
        go_simp
        exact hK _ hC (RY.refl _ _ _)
      refine ex_det 35 [0] rfl rfl (fun _ _ _ _ _ _ _ _ => rfl) ?_
      apply Exists.intro
      refine ⟨?_, ?_⟩
      · intro wx bX kX hk1 hk2 hC hb hd K hK
        have e0 := hb 0 rfl
        simp only [exSlot, List.getD_cons_succ, List.getD_cons_zero] at e0
        simp only [execOp, e0]
        clear hb hd
        go_simp
        exact hK _ hC (RY.refl _ _ _)
      refine ex_det 36 [35] rfl rfl (fun _ _ _ _ _ _ _ _ => rfl) ?_
      apply Exists.intro
      refine ⟨?_, ?_⟩
      · intro wx bX kX hk1 hk2 hC hb hd K hK
        have e35 := hd 35 _ _ rfl rfl
        try dsimp only at e35
        simp only [execOp, e35]
        clear hb hd
        go_simp
        exact hK _ hC (RY.refl _ _ _)
      refine ex_det 37 [36] rfl rfl (fun _ _ _ _ _ _ _ _ => rfl) ?_
      apply Exists.intro
      refine ⟨?_, ?_⟩
      · intro wx bX kX hk1 hk2 hC hb hd K hK
        have e36 := hd 36 _ _ rfl rfl
        try dsimp only at e36
        simp only [execOp, e36]
        clear hb hd
        go_simp
        exact hK _ hC (RY.refl _ _ _)
      refine ex_det 38 [0] rfl rfl (fun _ _ _ _ _ _ _ _ => rfl) ?_
      apply Exists.intro
      refine ⟨?_, ?_⟩
      · intro wx bX kX hk1 hk2 hC hb hd K hK
        have e0 := hb 0 rfl
        simp only [exSlot, List.getD_cons_succ, List.getD_cons_zero] at e0
        simp only [execOp, e0]
        clear hb hd
        go_simp
        exact hK _ hC (RY.refl _ _ _)
      refine ex_det 39 [38] rfl rfl (fun _ _ _ _ _ _ _ _ => rfl) ?_
      apply Exists.intro
      refine ⟨?_, ?_⟩
      · intro wx bX kX hk1 hk2 hC hb hd K hK
        have e38 := hd 38 _ _ rfl rfl
        try dsimp only at e38
        simp only [execOp, e38]
        clear hb hd
        go_simp
        exact hK _ hC (RY.refl _ _ _)
      refine ex_det 40 [39] rfl rfl (fun _ _ _ _ _ _ _ _ => rfl) ?_
      apply Exists.intro
      refine ⟨?_, ?_⟩
      · intro wx bX kX hk1 hk2 hC hb hd K hK
        have e39 := hd 39 _ _ rfl rfl
        try dsimp only at e39
        simp only [execOp, e39]
        clear hb hd
        go_simp
        exact hK _ hC (RY.refl _ _ _)
      refine ex_det 41 [0] rfl rfl (fun _ _ _ _ _ _ _ _ => rfl) ?_
      apply Exists.intro
      refine ⟨?_, ?_⟩
      · intro wx bX kX hk1 hk2 hC hb hd K hK
        have e0 := hb 0 rfl
        simp only [exSlot, List.getD_cons_succ, List.getD_cons_zero] at e0
        simp only [execOp, e0]
        clear hb hd
        go_simp
        exact hK _ hC (RY.refl _ _ _)
      refine ex_det 42 [41] rfl rfl (fun _ _ _ _ _ _ _ _ => rfl) ?_
      apply Exists.intro
      refine ⟨?_, ?_⟩
      · intro wx bX kX hk1 hk2 hC hb hd K hK
        have e41 := hd 41 _ _ rfl rfl
        try dsimp only at e41
        simp only [execOp, e41]
        clear hb hd
        go_simp
        exact hK _ hC (RY.refl _ _ _)
      refine ex_det 43 [42] rfl rfl (fun _ _ _ _ _ _ _ _ => rfl) ?_
      apply Exists.intro
      refine ⟨?_, ?_⟩
      · intro wx bX kX hk1 hk2 hC hb hd K hK
        have e42 := hd 42 _ _ rfl rfl
        try dsimp only at e42
        simp only [execOp, e42]
        clear hb hd
        go_simp
        exact hK _ hC (RY.refl _ _ _)
      refine ex_det 44 [0] rfl rfl (fun _ _ _ _ _ _ _ _ => rfl) ?_
      apply Exists.intro
      refine ⟨?_, ?_⟩
      · intro wx bX kX hk1 hk2 hC hb hd K hK
        have e0 := hb 0 rfl
        simp only [exSlot, List.getD_cons_succ, List.getD_cons_zero] at e0
        simp only [execOp, e0]
        clear hb hd
        go_simp
        exact hK _ hC (RY.refl _ _ _)
      refine ex_det 45 [44] rfl rfl (fun _ _ _ _ _ _ _ _ => rfl) ?_
      apply Exists.intro
      refine ⟨?_, ?_⟩
      · intro wx bX kX hk1 hk2 hC hb hd K hK
        have e44 := hd 44 _ _ rfl rfl
        try dsimp only at e44
        simp only [execOp, e44]
        clear hb hd
        go_simp
        exact hK _ hC (RY.refl _ _ _)
      refine ex_det 46 [45] rfl rfl (fun _ _ _ _ _ _ _ _ => rfl) ?_
      apply Exists.intro
      refine ⟨?_, ?_⟩
      · intro wx bX kX hk1 hk2 hC hb hd K hK
        have e45 := hd 45 _ _ rfl rfl
        try dsimp only at e45
        simp only [execOp, e45]
        clear hb hd
        go_simp
        exact hK _ hC (RY.refl _ _ _)
      refine ex_det 47 [0] rfl rfl (fun _ _ _ _ _ _ _ _ => rfl) ?_
      apply Exists.intro
      refine ⟨?_, ?_⟩
      · intro wx bX kX hk1 hk2 hC hb hd K hK
        have e0 := hb 0 rfl
        simp only [exSlot, List.getD_cons_succ, List.getD_cons_zero] at e0
        simp only [execOp, e0]
        clear hb hd
        go_simp
        exact hK _ hC (RY.refl _ _ _)
      refine ex_det 48 [47] rfl rfl (fun _ _ _ _ _ _ _ _ => rfl) ?_
      apply Exists.intro
      refine ⟨?_, ?_⟩
      · intro wx bX kX hk1 hk2 hC hb hd K hK
        have e47 := hd 47 _ _ rfl rfl
        try dsimp only at e47
        have sq := slice_from wx s (i := 10) (a := 10) rfl (by omega)
        simp only [execOp, Option.map_some, Option.map_none, e47]
        clear hb hd
        go_simp
        exact hK _ hC (RY.refl _ _ _)
      refine ex_det 49 [48] rfl rfl (fun _ _ _ _ _ _ _ _ => rfl) ?_
      apply Exists.intro
      refine ⟨?_, ?_⟩
      · intro wx bX kX hk1 hk2 hC hb hd K hK
        have e48 := hd 48 _ _ rfl rfl
        try dsimp only at e48
        simp only [execOp, resolve, List.map_toArray, List.map_cons, List.map_nil, e48]
        clear hb hd
        go_simp
        refine (qnumber_any wx (s.extract 10 s.size) (by simp; omega) (by simp; omega)).mono ?_; rintro e w' ⟨rfl, hX⟩
        rw [num4_tail s 10 (by omega)]
        exact ⟨_, rfl, hK _ (hC.step hX) (.inl hX)⟩
      refine ex_det 50 [0] rfl rfl (fun _ _ _ _ _ _ _ _ => rfl) ?_
      apply Exists.intro
      refine ⟨?_, ?_⟩
      · intro wx bX kX hk1 hk2 hC hb hd K hK
        have e0 := hb 0 rfl
        simp only [exSlot, List.getD_cons_succ, List.getD_cons_zero] at e0
        simp only [execOp, e0]
        clear hb hd
        go_simp
        exact hK _ hC (RY.refl _ _ _)
      refine ex_det 51 [50] rfl rfl (fun _ _ _ _ _ _ _ _ => rfl) ?_
      apply Exists.intro
      refine ⟨?_, ?_⟩
      · intro wx bX kX hk1 hk2 hC hb hd K hK
        have e50 := hd 50 _ _ rfl rfl
        try dsimp only at e50
        have sq := slice_from wx s (i := 14) (a := 14) rfl (by omega)
        simp only [execOp, Option.map_some, Option.map_none, e50]
        clear hb hd
        go_simp
        exact hK _ hC (RY.refl _ _ _)
      refine ex_det 52 [51] rfl rfl (fun _ _ _ _ _ _ _ _ => rfl) ?_
      apply Exists.intro
      refine ⟨?_, ?_⟩
      · intro wx bX kX hk1 hk2 hC hb hd K hK
        have e51 := hd 51 _ _ rfl rfl
        try dsimp only at e51
        simp only [execOp, resolve, List.map_toArray, List.map_cons, List.map_nil, e51]
        clear hb hd
        go_simp
        refine (qnumber_any wx (s.extract 14 s.size) (by simp; omega) (by simp; omega)).mono ?_; rintro e w' ⟨rfl, hX⟩
        rw [num4_tail s 14 (by omega)]
        exact ⟨_, rfl, hK _ (hC.step hX) (.inl hX)⟩
      refine ex_det 53 [0] rfl rfl (fun _ _ _ _ _ _ _ _ => rfl) ?_
      apply Exists.intro
      refine ⟨?_, ?_⟩
      · intro wx bX kX hk1 hk2 hC hb hd K hK
        have e0 := hb 0 rfl
        simp only [exSlot, List.getD_cons_succ, List.getD_cons_zero] at e0
        simp only [execOp, e0]
        clear hb hd
        go_simp
        exact hK _ hC (RY.refl _ _ _)
      refine ex_det 54 [53] rfl rfl (fun _ _ _ _ _ _ _ _ => rfl) ?_
      apply Exists.intro
      refine ⟨?_, ?_⟩
      · intro wx bX kX hk1 hk2 hC hb hd K hK
        have e53 := hd 53 _ _ rfl rfl
        try dsimp only at e53
        have sq := slice_from wx s (i := 18) (a := 18) rfl (by omega)
        simp only [execOp, Option.map_some, Option.map_none, e53]
        clear hb hd
        go_simp
        exact hK _ hC (RY.refl _ _ _)
      refine ex_det 55 [54] rfl rfl (fun _ _ _ _ _ _ _ _ => rfl) ?_
      apply Exists.intro
      refine ⟨?_, ?_⟩
      · intro wx bX kX hk1 hk2 hC hb hd K hK
        have e54 := hd 54 _ _ rfl rfl
        try dsimp only at e54
        simp only [execOp, resolve, List.map_toArray, List.map_cons, List.map_nil, e54]
        clear hb hd
        go_simp
        refine (qnumber_any wx (s.extract 18 s.size) (by simp; omega) (by simp; omega)).mono ?_; rintro e w' ⟨rfl, hX⟩
        rw [num4_tail s 18 (by omega)]
        exact ⟨_, rfl, hK _ (hC.step hX) (.inl hX)⟩
      refine ex_det 56 [34, 37, 40, 43, 46, 49, 52, 55] rfl rfl (fun _ _ _ _ _ _ _ _ => rfl) ?_
      apply Exists.intro
      refine ⟨?_, ?_⟩
      · intro wx bX kX hk1 hk2 hC hb hd K hK
        have e34 := hd 34 _ _ rfl rfl
        try dsimp only at e34
        have e37 := hd 37 _ _ rfl rfl
        try dsimp only at e37
        have e40 := hd 40 _ _ rfl rfl
        try dsimp only at e40
        have e43 := hd 43 _ _ rfl rfl
        try dsimp only at e43
        have e46 := hd 46 _ _ rfl rfl
        try dsimp only at e46
        have e49 := hd 49 _ _ rfl rfl
        try dsimp only at e49
        have e52 := hd 52 _ _ rfl rfl
        try dsimp only at e52
        have e55 := hd 55 _ _ rfl rfl
        try dsimp only at e55
        simp only [execOp, List.map_toArray, List.map_cons, List.map_nil, e34, e37, e40, e43, e46, e49, e52, e55]
        clear hb hd
        go_simp
        exact hK _ hC (RY.refl _ _ _)
      refine ex_any (fun _ v w => AY zb #[.slice none 0 0, .int .i64 0, .int .i64 0, .int .i64 0, .int .i64 0, .int .i64 0, .int .i64 0, .int .i64 0, .int .i64 0] #[.slice none 0 0, .int .i64 (by_ s 5), .int .i64 (by_ s 6), .int .i64 (by_ s 7), .int .i64 (num4 s 10), .int .i64 (num4 s 14), .int .i64 (by_ s 8), .int .i64 (num4 s 18), .int .i64 (by_ s 9)] v w) 5 [] rfl rfl (fun _ _ _ _ _ _ _ _ => rfl) (fun _ _ => (fun _ _ _ _ h hr => h.step hr)) ?_ ?_
      · intro wx bX kX hk1 hk2 hC hb hd K hK
        simp only [execOp]
        clear hb hd
        go_simp
        exact hK _ _ ⟨_, rfl, hC.sz, .inl (At.new _ _ _)⟩ (hC.alloc0 _) (.inl ((Chg.refl _ _).alloc _))
      refine ex_unit (fun g w => SY zb #[.slice none 0 0, .int .i64 (by_ s 5), .int .i64 (by_ s 6), .int .i64 (by_ s 7), .int .i64 (num4 s 10), .int .i64 (num4 s 14), .int .i64 (by_ s 8), .int .i64 (num4 s 18), .int .i64 (by_ s 9)] (g 5) w) [5, 56] rfl rfl (fun _ _ _ _ _ _ _ _ => rfl) (fun _ _ => (fun _ _ _ h hr => h.step hr)) ?_ ?_
      · intro wx bX kX hk1 hk2 hC hb hd K hK
        have e5 := hd 5 _ _ rfl rfl
        try dsimp only at e5
        have e56 := hd 56 _ _ rfl rfl
        try dsimp only at e56
        obtain ⟨y, wy, hy, hrun, hyb, hAy, hXy⟩ := AY.store e5 25 rfl (by kernel_rfl) (by simp [Value.oneCell'])
        clear e5
        rw [hy] at hrun
        simp only [execOp, hy, e56]
        clear hb hd
        simp only [Sem.run_bind, hrun, Result.andThen_ok, Sem.run_pure, invUpon]
        exact hK _ ⟨y, by simp [exSeen, hy], hyb, hAy⟩ (hC.at_y hXy hyb) (.inr ⟨y, hyb, hAy, hXy⟩)
      refine ex_end ?_
      intro us w2 hus hC hall
      obtain ⟨v0, us, rfl⟩ := List.exists_cons_of_length_eq_add_one hus
      replace hus := Nat.succ.inj hus
      obtain ⟨v1, us, rfl⟩ := List.exists_cons_of_length_eq_add_one hus
      replace hus := Nat.succ.inj hus
      obtain ⟨v2, us, rfl⟩ := List.exists_cons_of_length_eq_add_one hus
      replace hus := Nat.succ.inj hus
      obtain ⟨v3, us, rfl⟩ := List.exists_cons_of_length_eq_add_one hus
      replace hus := Nat.succ.inj hus
      obtain ⟨v4, us, rfl⟩ := List.exists_cons_of_length_eq_add_one hus
      replace hus := Nat.succ.inj hus
      obtain ⟨v5, us, rfl⟩ := List.exists_cons_of_length_eq_add_one hus
      replace hus := Nat.succ.inj hus
      obtain ⟨v6, us, rfl⟩ := List.exists_cons_of_length_eq_add_one hus
      replace hus := Nat.succ.inj hus
      obtain ⟨v7, us, rfl⟩ := List.exists_cons_of_length_eq_add_one hus
      replace hus := Nat.succ.inj hus
      obtain ⟨v8, us, rfl⟩ := List.exists_cons_of_length_eq_add_one hus
      replace hus := Nat.succ.inj hus
      obtain ⟨v9, us, rfl⟩ := List.exists_cons_of_length_eq_add_one hus
      replace hus := Nat.succ.inj hus
      obtain ⟨v10, us, rfl⟩ := List.exists_cons_of_length_eq_add_one hus
      replace hus := Nat.succ.inj hus
      obtain ⟨v11, us, rfl⟩ := List.exists_cons_of_length_eq_add_one hus
      replace hus := Nat.succ.inj hus
      obtain ⟨v12, us, rfl⟩ := List.exists_cons_of_length_eq_add_one hus
      replace hus := Nat.succ.inj hus
      obtain ⟨v13, us, rfl⟩ := List.exists_cons_of_length_eq_add_one hus
      replace hus := Nat.succ.inj hus
      obtain ⟨v14, us, rfl⟩ := List.exists_cons_of_length_eq_add_one hus
      replace hus := Nat.succ.inj hus
      obtain ⟨v15, us, rfl⟩ := List.exists_cons_of_length_eq_add_one hus
      replace hus := Nat.succ.inj hus
      obtain ⟨v16, us, rfl⟩ := List.exists_cons_of_length_eq_add_one hus
      replace hus := Nat.succ.inj hus
      obtain ⟨v17, us, rfl⟩ := List.exists_cons_of_length_eq_add_one hus
      replace hus := Nat.succ.inj hus
      obtain ⟨v18, us, rfl⟩ := List.exists_cons_of_length_eq_add_one hus
      replace hus := Nat.succ.inj hus
      obtain ⟨v19, us, rfl⟩ := List.exists_cons_of_length_eq_add_one hus
      replace hus := Nat.succ.inj hus
      obtain ⟨v20, us, rfl⟩ := List.exists_cons_of_length_eq_add_one hus
      replace hus := Nat.succ.inj hus
      obtain ⟨v21, us, rfl⟩ := List.exists_cons_of_length_eq_add_one hus
      replace hus := Nat.succ.inj hus
      obtain ⟨v22, us, rfl⟩ := List.exists_cons_of_length_eq_add_one hus
      replace hus := Nat.succ.inj hus
      obtain ⟨v23, us, rfl⟩ := List.exists_cons_of_length_eq_add_one hus
      replace hus := Nat.succ.inj hus
      obtain ⟨v24, us, rfl⟩ := List.exists_cons_of_length_eq_add_one hus
      replace hus := Nat.succ.inj hus
      obtain ⟨v25, us, rfl⟩ := List.exists_cons_of_length_eq_add_one hus
      replace hus := Nat.succ.inj hus
      obtain ⟨v26, us, rfl⟩ := List.exists_cons_of_length_eq_add_one hus
      replace hus := Nat.succ.inj hus
      obtain rfl := List.length_eq_zero_iff.1 hus
      clear hus
      generalize hbb : exPuts _ _ _ = bb at hall ⊢
      simp only [exPuts, Act.put, List.setIfInBounds_toArray, List.set_cons_succ, List.set_cons_zero] at hbb
      subst hbb
      obtain ⟨h26, h25, h24, h23, h22, h21, h20, h19, h18, h17, h16, h15, h14, h13, h12, h11, h10, h9, h8, h7, h6, h5, h4, h3, h2, h1, h0, -⟩ := hall
      obtain rfl : v0 = _ := h0
      obtain rfl : v1 = _ := h1
      obtain rfl : v2 = _ := h2
      obtain rfl : v3 = _ := h3
      obtain rfl : v4 = _ := h4
      obtain rfl : v5 = _ := h5
      obtain rfl : v6 = _ := h6
      obtain rfl : v7 = _ := h7
      obtain rfl : v8 = _ := h8
      obtain rfl : v9 = _ := h9
      obtain rfl : v10 = _ := h10
      obtain rfl : v11 = _ := h11
      obtain rfl : v12 = _ := h12
      obtain rfl : v13 = _ := h13
      obtain rfl : v14 = _ := h14
      obtain rfl : v15 = _ := h15
      obtain rfl : v16 = _ := h16
      obtain rfl : v17 = _ := h17
      obtain rfl : v18 = _ := h18
      obtain rfl : v19 = _ := h19
      obtain rfl : v20 = _ := h20
      obtain rfl : v21 = _ := h21
      obtain rfl : v22 = _ := h22
      obtain rfl : v23 = _ := h23
      obtain rfl : v24 = _ := h24
      clear h25
      obtain ⟨y25, hy25, hyb25, hAy25⟩ := h26
      obtain rfl : v25 = _ := hy25
      clear v26
      clear j5 g5 b5 i5 j6 g6 b6 i6 j7 g7 b7 i7 j8 g8 b8 i8 j9 g9 b9 i9
      have C := hC.cons hAy25
      have hzy : z < y25 := by omega
      clear hC hAy25
      generalize y25 = y at *
      have hyb : y < w2.heap.size := (C.get 0 rfl).lt
      obtain ⟨b0, hb0⟩ : ∃ b0, b0 = w2.heap.size := ⟨_, rfl⟩
      rw [← hb0] at hyb
      have hb0 : b0 ≤ w2.heap.size := Nat.le_of_eq hb0
      have Hrs := Lib.hid (fun L a ha hp => read_some (L := L) (a := a) hm h22 ha hp)
      have Hrn := Lib.hid (read_none hm h22)
      have b4 := by_bd s 4
      obtain ⟨m, hm4⟩ : ∃ m, (by_ s 4).toNat = m := ⟨_, rfl⟩
      have hm5 : by_ s 4 = (m : Int) := by omega
      have hm255 : m ≤ 255 := by omega
      rw [hm4] at Hrs Hrn
      have j4 := h4s
      have g4 := by_get s 4 (by omega)
      have i4 : IntKind.i64.wrap (m : Int) = (m : Int) := i64_in _ (by omega) (by omega)
      rw [hm5] at g4
      clear hm4 hm5 b4
      obtain ⟨R, hR⟩ : ∃ R, phsL m (s.extract 22 s.size) [] = R := ⟨_, rfl⟩
      rw [hR] at Hrs Hrn
      have HR := Lib.hid hR
      clear hR HMg
      go_wp2_with fail
      go_loopg [6, 7] m (fun gk aa ii wr => ∃ (k a : Nat) (L : List PhV) (va : Value), k + gk = m ∧ aa = .int .i64 a ∧ ii = .int .i64 k ∧ 22 ≤ a ∧ a ≤ s.size ∧ L.length = k ∧ Hid (phsL gk (s.extract a s.size) L = R) ∧ CL W [(y, #[va, .int .i64 (by_ s 5), .int .i64 (by_ s 6), .int .i64 (by_ s 7), .int .i64 (num4 s 10), .int .i64 (num4 s 14), .int .i64 (by_ s 8), .int .i64 (num4 s 18), .int .i64 (by_ s 9)]), (z, #[.slice none 0 0, .int .i64 0, .int .i64 0, .int .i64 0, .int .i64 0, .int .i64 0, .int .i64 0, .int .i64 0, .int .i64 0])] 0 wr ∧ PhsB wr b0 va L ∧ b0 ≤ wr.heap.size ∧ Hid (∀ p ∈ L, p.area.length ≤ 255))
      case atStart => exact ⟨0, 22, [], .slice none 0 0, by omega, rfl, rfl, by omega, h22, rfl, HR, C, PhsB.nil _ _, hb0, Lib.hid (fun p hp => by simp at hp)⟩
      case round =>
        clear C hb0 HR
        obtain ⟨k, a, L, va, hk, rfl, rfl, ha22, has, hLk, HL, C, hP, hb0, Hsm⟩ := hrel
        replace hLk := Lib.hid hLk
        by_cases hlt : k < m
        · have k1 : (k : Int) < (m : Int) := by omega
          obtain ⟨g2, hg2⟩ : ∃ g2, gk = g2 + 1 := ⟨gk - 1, by omega⟩
          subst hg2
          have wa14 : IntKind.i64.wrap ((a : Int) + 14) = (a : Int) + 14 := i64_in _ (by omega) (by omega)
          by_cases h14 : a + 14 ≤ s.size
          · have hlt14 : ¬((s.size : Int) < (a : Int) + 14) := by omega
            have ba := by_bd s a
            obtain ⟨m2, hm2⟩ : ∃ m2, (by_ s a).toNat = m2 := ⟨_, rfl⟩
            have hm22 : by_ s a = (m2 : Int) := by omega
            have hm255b : m2 ≤ 255 := by omega
            have HL2 := Lib.hid (fun h8 => (phsL_yes (n := g2) (L := L) s a h14 h8).symm.trans HL.out)
            have HLn : Hid (¬ (a + 14 + 8 * m2 ≤ s.size) → R = none) := Lib.hid (fun h => by rw [← HL.out]; exact phsL_no (by rw [okPh_at s a h14, hm2]; exact decide_eq_false h))
            have Hop := Lib.hid (show onePhAt s a = ⟨ptsAt s (a + 14) (by_ s a).toNat, by_ s (a + 1), num4 s (a + 2), num4 s (a + 6), num4 s (a + 10)⟩ from rfl)
            rw [hm2] at HL2 Hop
            have ja0 : (0 : Int) ≤ (a : Int) := by omega
            have ja1 : (a : Int) < (s.size : Int) := by omega
            have ja2 : (a : Int).toNat = a := by omega
            have ga := by_get s a (by omega)
            rw [hm22] at ga
            have ia : IntKind.i64.wrap (m2 : Int) = (m2 : Int) := i64_in _ (by omega) (by omega)
            clear hm2 hm22 ba HL
            go_upto_region 16 with fail
            clear ga ia ja0 ja1 ja2 wa14 hlt14
            have wq1 : IntKind.i64.wrap ((a : Int) + 1) = (a : Int) + 1 := i64_in _ (by omega) (by omega)
            have wq2 : IntKind.i64.wrap ((a : Int) + 2) = (a : Int) + 2 := i64_in _ (by omega) (by omega)
            have wq6 : IntKind.i64.wrap ((a : Int) + 6) = (a : Int) + 6 := i64_in _ (by omega) (by omega)
            have wq10 : IntKind.i64.wrap ((a : Int) + 10) = (a : Int) + 10 := i64_in _ (by omega) (by omega)
            have jb0 : (0 : Int) ≤ (a : Int) + 1 := by omega
            have jb1 : (a : Int) + 1 < (s.size : Int) := by omega
            have jb2 : ((a : Int) + 1).toNat = a + 1 := by omega
            have gb := by_get s (a + 1) (by omega)
            have bb1 := by_bd s (a + 1)
            have ib : IntKind.i64.wrap (by_ s (a + 1)) = by_ s (a + 1) := i64_in _ (by omega) (by omega)
            have hC := (CL.new wr 0).cb
            obtain ⟨zd, hzd⟩ : ∃ zd, wr.heap.size = zd := ⟨_, rfl⟩
            rw [hzd] at hC
            have hzd2 : b0 ≤ zd := by omega
            have hzd3 : wr.heap.size ≤ zd := by omega
            have hWzd : W.heap.size ≤ zd := by rw [← hzd]; exact C.x.size
            clear hzd
            refine wp_region_ex (fun _ => CB wr [] zd) (fun _ => RY zd #[.slice none 0 0, .int .i64 (by_ s (a + 1)), .int .i64 (num4 s (a + 2)), .int .i64 (num4 s (a + 6)), .int .i64 (num4 s (a + 10))]) [] [(0, 0, false), (0, 0, false), (0, 0, false), (0, 0, false), (0, 0, false), (0, 0, false), (0, 0, false), (0, 0, false), (0, 0, false), (0, 0, false), (0, 0, false), (0, 0, false), (0, 0, false), (0, 0, false), (0, 0, false), (0, 0, false), (0, 0, false), (0, 0, false), (0, 0, false), (0, 0, false), (0, 0, false), (0, 0, false), (0, 0, false)] [74, 75, 76, 77, 78, 79, 80, 81, 82, 83, 84, 85, 86, 87, 88, 89, 90, 91, 92, 93, 94, 9] (by kernel_rfl) rfl (by kernel_rfl) (by kernel_rfl) (hC.drew) ?_
            simp only [List.zip_cons_cons, List.zip_nil_right]
            refine ex_det 74 [0] rfl rfl (fun _ _ _ _ _ _ _ _ => rfl) ?_
            apply Exists.intro
            refine ⟨?_, ?_⟩
            · intro wx bX kX hk1 hk2 hC hb hd K hK
              have e0 := hb 0 rfl
              simp only [exSlot, List.getD_cons_succ, List.getD_cons_zero] at e0
              simp only [execOp, e0]
              clear hb hd
              go_simp
              exact hK _ hC (RY.refl _ _ _)
            refine ex_det 75 [6] rfl rfl (fun _ _ _ _ _ _ _ _ => rfl) ?_
            apply Exists.intro
            refine ⟨?_, ?_⟩
            · intro wx bX kX hk1 hk2 hC hb hd K hK
              have e6 := hb 6 rfl
              simp only [exSlot, List.getD_cons_succ, List.getD_cons_zero] at e6
              simp only [execOp, e6]
              clear hb hd
              go_simp
              exact hK _ hC (RY.refl _ _ _)
            refine ex_det 76 [75] rfl rfl (fun _ _ _ _ _ _ _ _ => rfl) ?_
            apply Exists.intro
            refine ⟨?_, ?_⟩
            · intro wx bX kX hk1 hk2 hC hb hd K hK
              have e75 := hd 75 _ _ rfl rfl
              try dsimp only at e75
              simp only [execOp, e75]
              clear hb hd
              go_simp
              exact hK _ hC (RY.refl _ _ _)
            refine ex_det 77 [74, 76] rfl rfl (fun _ _ _ _ _ _ _ _ => rfl) ?_
            apply Exists.intro
            refine ⟨?_, ?_⟩
            · intro wx bX kX hk1 hk2 hC hb hd K hK
              have e74 := hd 74 _ _ rfl rfl
              try dsimp only at e74
              have e76 := hd 76 _ _ rfl rfl
              try dsimp only at e76
              simp only [execOp, e74, e76]
              clear hb hd
              go_simp
              exact hK _ hC (RY.refl _ _ _)
            refine ex_det 78 [77] rfl rfl (fun _ _ _ _ _ _ _ _ => rfl) ?_
            apply Exists.intro
            refine ⟨?_, ?_⟩
            · intro wx bX kX hk1 hk2 hC hb hd K hK
              have e77 := hd 77 _ _ rfl rfl
              try dsimp only at e77
              simp only [execOp, e77]
              clear hb hd
              go_simp
              exact hK _ hC (RY.refl _ _ _)
            refine ex_det 79 [0] rfl rfl (fun _ _ _ _ _ _ _ _ => rfl) ?_
            apply Exists.intro
            refine ⟨?_, ?_⟩
            · intro wx bX kX hk1 hk2 hC hb hd K hK
              have e0 := hb 0 rfl
              simp only [exSlot, List.getD_cons_succ, List.getD_cons_zero] at e0
              simp only [execOp, e0]
              clear hb hd
              go_simp
              exact hK _ hC (RY.refl _ _ _)
            refine ex_det 80 [6] rfl rfl (fun _ _ _ _ _ _ _ _ => rfl) ?_
            apply Exists.intro
            refine ⟨?_, ?_⟩
            · intro wx bX kX hk1 hk2 hC hb hd K hK
              have e6 := hb 6 rfl
              simp only [exSlot, List.getD_cons_succ, List.getD_cons_zero] at e6
              simp only [execOp, e6]
              clear hb hd
              go_simp
              exact hK _ hC (RY.refl _ _ _)
            refine ex_det 81 [80] rfl rfl (fun _ _ _ _ _ _ _ _ => rfl) ?_
            apply Exists.intro
            refine ⟨?_, ?_⟩
            · intro wx bX kX hk1 hk2 hC hb hd K hK
              have e80 := hd 80 _ _ rfl rfl
              try dsimp only at e80
              simp only [execOp, e80]
              clear hb hd
              go_simp
              exact hK _ hC (RY.refl _ _ _)
            refine ex_det 82 [79, 81] rfl rfl (fun _ _ _ _ _ _ _ _ => rfl) ?_
            apply Exists.intro
            refine ⟨?_, ?_⟩
            · intro wx bX kX hk1 hk2 hC hb hd K hK
              have e79 := hd 79 _ _ rfl rfl
              try dsimp only at e79
              have e81 := hd 81 _ _ rfl rfl
              try dsimp only at e81
              have sq := slice_from wx s (i := (a : Int) + 2) (a := a + 2) (by omega) (by omega)
              simp only [execOp, Option.map_some, Option.map_none, e79, e81]
              clear hb hd
              go_simp
              exact hK _ hC (RY.refl _ _ _)
            refine ex_det 83 [82] rfl rfl (fun _ _ _ _ _ _ _ _ => rfl) ?_
            apply Exists.intro
            refine ⟨?_, ?_⟩
            · intro wx bX kX hk1 hk2 hC hb hd K hK
              have e82 := hd 82 _ _ rfl rfl
              try dsimp only at e82
              simp only [execOp, resolve, List.map_toArray, List.map_cons, List.map_nil, e82]
              clear hb hd
              go_simp
              refine (qnumber_any wx (s.extract (a + 2) s.size) (by simp; omega) (by simp; omega)).mono ?_; rintro e w' ⟨rfl, hX⟩
              rw [num4_tail s (a + 2) (by omega)]
              exact ⟨_, rfl, hK _ (hC.step hX) (.inl hX)⟩
            refine ex_det 84 [0] rfl rfl (fun _ _ _ _ _ _ _ _ => rfl) ?_
            apply Exists.intro
            refine ⟨?_, ?_⟩
            · intro wx bX kX hk1 hk2 hC hb hd K hK
              have e0 := hb 0 rfl
              simp only [exSlot, List.getD_cons_succ, List.getD_cons_zero] at e0
              simp only [execOp, e0]
              clear hb hd
              go_simp
              exact hK _ hC (RY.refl _ _ _)
            refine ex_det 85 [6] rfl rfl (fun _ _ _ _ _ _ _ _ => rfl) ?_
            apply Exists.intro
            refine ⟨?_, ?_⟩
            · intro wx bX kX hk1 hk2 hC hb hd K hK
              have e6 := hb 6 rfl
              simp only [exSlot, List.getD_cons_succ, List.getD_cons_zero] at e6
              simp only [execOp, e6]
              clear hb hd
              go_simp
              exact hK _ hC (RY.refl _ _ _)
            refine ex_det 86 [85] rfl rfl (fun _ _ _ _ _ _ _ _ => rfl) ?_
            apply Exists.intro
            refine ⟨?_, ?_⟩
            · intro wx bX kX hk1 hk2 hC hb hd K hK
              have e85 := hd 85 _ _ rfl rfl
              try dsimp only at e85
              simp only [execOp, e85]
              clear hb hd
              go_simp
              exact hK _ hC (RY.refl _ _ _)
            refine ex_det 87 [84, 86] rfl rfl (fun _ _ _ _ _ _ _ _ => rfl) ?_
            apply Exists.intro
            refine ⟨?_, ?_⟩
            · intro wx bX kX hk1 hk2 hC hb hd K hK
              have e84 := hd 84 _ _ rfl rfl
              try dsimp only at e84
              have e86 := hd 86 _ _ rfl rfl
              try dsimp only at e86
              have sq := slice_from wx s (i := (a : Int) + 6) (a := a + 6) (by omega) (by omega)
              simp only [execOp, Option.map_some, Option.map_none, e84, e86]
              clear hb hd
              go_simp
              exact hK _ hC (RY.refl _ _ _)
            refine ex_det 88 [87] rfl rfl (fun _ _ _ _ _ _ _ _ => rfl) ?_
            apply Exists.intro
            refine ⟨?_, ?_⟩
            · intro wx bX kX hk1 hk2 hC hb hd K hK
              have e87 := hd 87 _ _ rfl rfl
              try dsimp only at e87
              simp only [execOp, resolve, List.map_toArray, List.map_cons, List.map_nil, e87]
              clear hb hd
              go_simp
              refine (qnumber_any wx (s.extract (a + 6) s.size) (by simp; omega) (by simp; omega)).mono ?_; rintro e w' ⟨rfl, hX⟩
              rw [num4_tail s (a + 6) (by omega)]
              exact ⟨_, rfl, hK _ (hC.step hX) (.inl hX)⟩
            refine ex_det 89 [0] rfl rfl (fun _ _ _ _ _ _ _ _ => rfl) ?_
            apply Exists.intro
            refine ⟨?_, ?_⟩
            · intro wx bX kX hk1 hk2 hC hb hd K hK
              have e0 := hb 0 rfl
              simp only [exSlot, List.getD_cons_succ, List.getD_cons_zero] at e0
              simp only [execOp, e0]
              clear hb hd
              go_simp
              exact hK _ hC (RY.refl _ _ _)
            refine ex_det 90 [6] rfl rfl (fun _ _ _ _ _ _ _ _ => rfl) ?_
            apply Exists.intro
            refine ⟨?_, ?_⟩
            · intro wx bX kX hk1 hk2 hC hb hd K hK
              have e6 := hb 6 rfl
              simp only [exSlot, List.getD_cons_succ, List.getD_cons_zero] at e6
              simp only [execOp, e6]
              clear hb hd
              go_simp
              exact hK _ hC (RY.refl _ _ _)
            refine ex_det 91 [90] rfl rfl (fun _ _ _ _ _ _ _ _ => rfl) ?_
            apply Exists.intro
            refine ⟨?_, ?_⟩
            · intro wx bX kX hk1 hk2 hC hb hd K hK
              have e90 := hd 90 _ _ rfl rfl
              try dsimp only at e90
              simp only [execOp, e90]
              clear hb hd
              go_simp
              exact hK _ hC (RY.refl _ _ _)
            refine ex_det 92 [89, 91] rfl rfl (fun _ _ _ _ _ _ _ _ => rfl) ?_
            apply Exists.intro
            refine ⟨?_, ?_⟩
            · intro wx bX kX hk1 hk2 hC hb hd K hK
              have e89 := hd 89 _ _ rfl rfl
              try dsimp only at e89
              have e91 := hd 91 _ _ rfl rfl
              try dsimp only at e91
              have sq := slice_from wx s (i := (a : Int) + 10) (a := a + 10) (by omega) (by omega)
              simp only [execOp, Option.map_some, Option.map_none, e89, e91]
              clear hb hd
              go_simp
              exact hK _ hC (RY.refl _ _ _)
            refine ex_det 93 [92] rfl rfl (fun _ _ _ _ _ _ _ _ => rfl) ?_
            apply Exists.intro
            refine ⟨?_, ?_⟩
            · intro wx bX kX hk1 hk2 hC hb hd K hK
              have e92 := hd 92 _ _ rfl rfl
              try dsimp only at e92
              simp only [execOp, resolve, List.map_toArray, List.map_cons, List.map_nil, e92]
              clear hb hd
              go_simp
              refine (qnumber_any wx (s.extract (a + 10) s.size) (by simp; omega) (by simp; omega)).mono ?_; rintro e w' ⟨rfl, hX⟩
              rw [num4_tail s (a + 10) (by omega)]
              exact ⟨_, rfl, hK _ (hC.step hX) (.inl hX)⟩
            refine ex_det 94 [78, 83, 88, 93] rfl rfl (fun _ _ _ _ _ _ _ _ => rfl) ?_
            apply Exists.intro
            refine ⟨?_, ?_⟩
            · intro wx bX kX hk1 hk2 hC hb hd K hK
              have e78 := hd 78 _ _ rfl rfl
              try dsimp only at e78
              have e83 := hd 83 _ _ rfl rfl
              try dsimp only at e83
              have e88 := hd 88 _ _ rfl rfl
              try dsimp only at e88
              have e93 := hd 93 _ _ rfl rfl
              try dsimp only at e93
              simp only [execOp, List.map_toArray, List.map_cons, List.map_nil, e78, e83, e88, e93]
              clear hb hd
              go_simp
              exact hK _ hC (RY.refl _ _ _)
            refine ex_any (fun _ v w => AY zd #[.slice none 0 0, .int .i64 0, .int .i64 0, .int .i64 0, .int .i64 0] #[.slice none 0 0, .int .i64 (by_ s (a + 1)), .int .i64 (num4 s (a + 2)), .int .i64 (num4 s (a + 6)), .int .i64 (num4 s (a + 10))] v w) 9 [] rfl rfl (fun _ _ _ _ _ _ _ _ => rfl) (fun _ _ => (fun _ _ _ _ h hr => h.step hr)) ?_ ?_
            · intro wx bX kX hk1 hk2 hC hb hd K hK
              simp only [execOp]
              clear hb hd
              go_simp
              exact hK _ _ ⟨_, rfl, hC.sz, .inl (At.new _ _ _)⟩ (hC.alloc0 _) (.inl ((Chg.refl _ _).alloc _))
            refine ex_unit (fun g w => SY zd #[.slice none 0 0, .int .i64 (by_ s (a + 1)), .int .i64 (num4 s (a + 2)), .int .i64 (num4 s (a + 6)), .int .i64 (num4 s (a + 10))] (g 9) w) [9, 94] rfl rfl (fun _ _ _ _ _ _ _ _ => rfl) (fun _ _ => (fun _ _ _ h hr => h.step hr)) ?_ ?_
            · intro wx bX kX hk1 hk2 hC hb hd K hK
              have e9 := hd 9 _ _ rfl rfl
              try dsimp only at e9
              have e94 := hd 94 _ _ rfl rfl
              try dsimp only at e94
              obtain ⟨y, wy, hy, hrun, hyb, hAy, hXy⟩ := AY.store e9 51 rfl (by kernel_rfl) (by simp [Value.oneCell'])
              clear e9
              rw [hy] at hrun
              simp only [execOp, hy, e94]
              clear hb hd
              simp only [Sem.run_bind, hrun, Result.andThen_ok, Sem.run_pure, invUpon]
              exact hK _ ⟨y, by simp [exSeen, hy], hyb, hAy⟩ (hC.at_y hXy hyb) (.inr ⟨y, hyb, hAy, hXy⟩)
            refine ex_end ?_
            intro us w2 hus hC hall
            obtain ⟨v0, us, rfl⟩ := List.exists_cons_of_length_eq_add_one hus
            replace hus := Nat.succ.inj hus
            obtain ⟨v1, us, rfl⟩ := List.exists_cons_of_length_eq_add_one hus
            replace hus := Nat.succ.inj hus
            obtain ⟨v2, us, rfl⟩ := List.exists_cons_of_length_eq_add_one hus
            replace hus := Nat.succ.inj hus
            obtain ⟨v3, us, rfl⟩ := List.exists_cons_of_length_eq_add_one hus
            replace hus := Nat.succ.inj hus
            obtain ⟨v4, us, rfl⟩ := List.exists_cons_of_length_eq_add_one hus
            replace hus := Nat.succ.inj hus
            obtain ⟨v5, us, rfl⟩ := List.exists_cons_of_length_eq_add_one hus
            replace hus := Nat.succ.inj hus
            obtain ⟨v6, us, rfl⟩ := List.exists_cons_of_length_eq_add_one hus
            replace hus := Nat.succ.inj hus
            obtain ⟨v7, us, rfl⟩ := List.exists_cons_of_length_eq_add_one hus
            replace hus := Nat.succ.inj hus
            obtain ⟨v8, us, rfl⟩ := List.exists_cons_of_length_eq_add_one hus
            replace hus := Nat.succ.inj hus
            obtain ⟨v9, us, rfl⟩ := List.exists_cons_of_length_eq_add_one hus
            replace hus := Nat.succ.inj hus
            obtain ⟨v10, us, rfl⟩ := List.exists_cons_of_length_eq_add_one hus
            replace hus := Nat.succ.inj hus
            obtain ⟨v11, us, rfl⟩ := List.exists_cons_of_length_eq_add_one hus
            replace hus := Nat.succ.inj hus
            obtain ⟨v12, us, rfl⟩ := List.exists_cons_of_length_eq_add_one hus
            replace hus := Nat.succ.inj hus
            obtain ⟨v13, us, rfl⟩ := List.exists_cons_of_length_eq_add_one hus
            replace hus := Nat.succ.inj hus
            obtain ⟨v14, us, rfl⟩ := List.exists_cons_of_length_eq_add_one hus
            replace hus := Nat.succ.inj hus
            obtain ⟨v15, us, rfl⟩ := List.exists_cons_of_length_eq_add_one hus
            replace hus := Nat.succ.inj hus
            obtain ⟨v16, us, rfl⟩ := List.exists_cons_of_length_eq_add_one hus
            replace hus := Nat.succ.inj hus
            obtain ⟨v17, us, rfl⟩ := List.exists_cons_of_length_eq_add_one hus
            replace hus := Nat.succ.inj hus
            obtain ⟨v18, us, rfl⟩ := List.exists_cons_of_length_eq_add_one hus
            replace hus := Nat.succ.inj hus
            obtain ⟨v19, us, rfl⟩ := List.exists_cons_of_length_eq_add_one hus
            replace hus := Nat.succ.inj hus
            obtain ⟨v20, us, rfl⟩ := List.exists_cons_of_length_eq_add_one hus
            replace hus := Nat.succ.inj hus
            obtain ⟨v21, us, rfl⟩ := List.exists_cons_of_length_eq_add_one hus
            replace hus := Nat.succ.inj hus
            obtain ⟨v22, us, rfl⟩ := List.exists_cons_of_length_eq_add_one hus
            replace hus := Nat.succ.inj hus
            obtain rfl := List.length_eq_zero_iff.1 hus
            clear hus
            generalize hbb : exPuts _ _ _ = bb at hall ⊢
            simp only [exPuts, Act.put, List.setIfInBounds_toArray, List.set_cons_succ, List.set_cons_zero] at hbb
            subst hbb
            obtain ⟨h22, h21, h20, h19, h18, h17, h16, h15, h14, h13, h12, h11, h10, h9, h8, h7, h6, h5, h4, h3, h2, h1, h0, -⟩ := hall
            obtain rfl : v0 = _ := h0
            obtain rfl : v1 = _ := h1
            obtain rfl : v2 = _ := h2
            obtain rfl : v3 = _ := h3
            obtain rfl : v4 = _ := h4
            obtain rfl : v5 = _ := h5
            obtain rfl : v6 = _ := h6
            obtain rfl : v7 = _ := h7
            obtain rfl : v8 = _ := h8
            obtain rfl : v9 = _ := h9
            obtain rfl : v10 = _ := h10
            obtain rfl : v11 = _ := h11
            obtain rfl : v12 = _ := h12
            obtain rfl : v13 = _ := h13
            obtain rfl : v14 = _ := h14
            obtain rfl : v15 = _ := h15
            obtain rfl : v16 = _ := h16
            obtain rfl : v17 = _ := h17
            obtain rfl : v18 = _ := h18
            obtain rfl : v19 = _ := h19
            obtain rfl : v20 = _ := h20
            clear h21
            obtain ⟨y21, hy21, hyb21, hAy21⟩ := h22
            obtain rfl : v21 = _ := hy21
            clear v22
            clear wq1 wq2 wq6 wq10 jb0 jb1 jb2 gb bb1 ib
            have hX9 := hC.x
            clear hC
            generalize y21 = y9 at *
            generalize hpg : by_ s (a + 1) = pg at *
            generalize hpm : num4 s (a + 2) = pm at *
            generalize hpn : num4 s (a + 6) = pn at *
            generalize hpu : num4 s (a + 10) = pu at *
            clear hpg hpm hpn hpu
            generalize hW9 : wr = W9 at *
            clear hW9
            have wa14 : IntKind.i64.wrap ((a : Int) + 14) = (a : Int) + 14 := i64_in _ (by omega) (by omega)
            have w8m : IntKind.i64.wrap (8 * (m2 : Int)) = 8 * (m2 : Int) := i64_in _ (by omega) (by omega)
            have wam : IntKind.i64.wrap ((a : Int) + 14 + 8 * (m2 : Int)) = (a : Int) + 14 + 8 * (m2 : Int) := i64_in _ (by omega) (by omega)
            by_cases h8 : a + 14 + 8 * m2 ≤ s.size
            · have HL3 := Lib.hid (HL2.out h8)
              have hl8 : ¬((s.size : Int) < (a : Int) + 14 + 8 * (m2 : Int)) := by omega
              clear HL2 HLn
              skip
              have hy9l := hAy21.lt
              go_wp2_with fail
              go_loopg [6, 10] m2 (fun gq aa jj wr => ∃ (q x : Nat) (va2 : Value), q + gq = m2 ∧ jj = .int .i64 q ∧ aa = .int .i64 x ∧ Hid (x = a + 14 + 8 * q) ∧ At wr y9 #[va2, .int .i64 pg, .int .i64 pm, .int .i64 pn, .int .i64 pu] ∧ wr.ownsRow (y9 + 1) 53 2 va2 q (ptCells (ptsAt s (a + 14) q)) ∧ Chg [] W9 wr ∧ y9 + 1 ≤ wr.heap.size)
              case atStart => exact ⟨0, a + 14, .slice none 0 0, by omega, rfl, by go_num, Lib.hid rfl, hAy21, World.ownsRow_nil _ _ _ _, hX9, hy9l⟩
              case round =>
                clear hX9 hAy21 hy9l
                obtain ⟨q, x, va2, hq, rfl, rfl, Hx, hA9, hR9, hX9, hz9⟩ := hrel
                by_cases hlq : q < m2
                · have q1 : (q : Int) < (m2 : Int) := by omega
                  have hx0 := Hx.out
                  have hxs : x + 8 ≤ s.size := by omega
                  have wx4 : IntKind.i64.wrap ((x : Int) + 4) = (x : Int) + 4 := i64_in _ (by omega) (by omega)
                  have wx8 : IntKind.i64.wrap ((x : Int) + 8) = (x : Int) + 8 := i64_in _ (by omega) (by omega)
                  have HXS := Lib.hid (ptsAt_succ s (a + 14) q)
                  rw [← hx0] at HXS
                  have HG1 := fun w => qsigned_any w (s.extract x s.size) (by simp; omega) (by simp; omega)
                  have HG2 := fun w => qsigned_any w (s.extract (x + 4) s.size) (by simp; omega) (by simp; omega)
                  rw [num4_tail s x (by omega)] at HG1
                  rw [num4_tail s (x + 4) (by omega)] at HG2
                  generalize sg32 (num4 s x) = px at *
                  generalize sg32 (num4 s (x + 4)) = py at *
                  generalize ptCells (ptsAt s (a + 14) q) = XS at *
                  replace HG1 := Lib.hid HG1
                  replace HG2 := Lib.hid HG2
                  clear hx0
                  have hW9y : W9.heap.size ≤ y9 := by omega
                  skip
                  go_upto_region 23 with fail
                  refine wp_region_ex (fun k w => (k = 0 → At w y9 #[va2, .int .i64 pg, .int .i64 pm, .int .i64 pn, .int .i64 pu] ∧ w.ownsRow (y9 + 1) 53 2 va2 q XS ∧ Chg [] W9 w ∧ y9 + 1 ≤ w.heap.size) ∧ (k = 1 → At w y9 #[va2, .int .i64 pg, .int .i64 pm, .int .i64 pn, .int .i64 pu] ∧ Chg [] W9 w) ∧ (k = 2 → ∃ v9, At w y9 #[v9, .int .i64 pg, .int .i64 pm, .int .i64 pn, .int .i64 pu] ∧ w.ownsRow (y9 + 1) 53 2 v9 (q + 1) (XS ++ [.int .i64 px, .int .i64 py]) ∧ Chg [] W9 w)) (fun k w w' => RelP va2 y9 k w w') [13, 15] [(0, 0, false), (0, 0, false), (0, 0, false), (0, 0, false), (0, 0, false), (0, 0, false), (0, 0, false), (0, 0, false), (0, 0, false), (0, 0, false), (0, 0, false), (0, 0, false), (0, 0, false), (0, 0, true), (1, 1, false), (1, 1, true)] [110, 111, 112, 113, 114, 115, 116, 117, 118, 119, 120, 121, 122, 123, 124] (by kernel_rfl) rfl (by kernel_rfl) (by kernel_rfl) (⟨fun _ => ⟨hA9.drew, hR9.drew, hX9.drew, hz9⟩, fun h => absurd h (by decide), fun h => absurd h (by decide)⟩) ?_
                  simp only [List.zip_cons_cons, List.zip_nil_right]
                  refine ex_det 110 [9] rfl rfl (fun _ _ _ _ _ _ _ _ => rfl) ?_
                  apply Exists.intro
                  refine ⟨?_, ?_⟩
                  · intro wx bX kX hk1 hk2 hC hb hd K hK
                    have e9 := hb 9 rfl
                    simp only [exSlot, List.getD_cons_succ, List.getD_cons_zero] at e9
                    simp only [execOp, e9]
                    clear hb hd
                    go_simp
                    exact hK _ hC (RelP.of (Chg.refl _ _) _ _ _)
                  refine ex_det 111 [110] rfl rfl (fun _ _ _ _ _ _ _ _ => rfl) ?_
                  apply Exists.intro
                  refine ⟨?_, ?_⟩
                  · intro wx bX kX hk1 hk2 hC hb hd K hK
                    have e110 := hd 110 _ _ rfl rfl
                    try dsimp only at e110
                    have hcz := (hC.1 (by omega)).1.cell 0
                    try dsimp only at hcz
                    simp only [execOp, e110]
                    clear hb hd
                    go_simp
                    exact hK _ hC (RelP.of (Chg.refl _ _) _ _ _)
                  refine ex_det 112 [0] rfl rfl (fun _ _ _ _ _ _ _ _ => rfl) ?_
                  apply Exists.intro
                  refine ⟨?_, ?_⟩
                  · intro wx bX kX hk1 hk2 hC hb hd K hK
                    have e0 := hb 0 rfl
                    simp only [exSlot, List.getD_cons_succ, List.getD_cons_zero] at e0
                    simp only [execOp, e0]
                    clear hb hd
                    go_simp
                    exact hK _ hC (RelP.of (Chg.refl _ _) _ _ _)
                  refine ex_det 113 [6] rfl rfl (fun _ _ _ _ _ _ _ _ => rfl) ?_
                  apply Exists.intro
                  refine ⟨?_, ?_⟩
                  · intro wx bX kX hk1 hk2 hC hb hd K hK
                    have e6 := hb 6 rfl
                    simp only [exSlot, List.getD_cons_succ, List.getD_cons_zero] at e6
                    simp only [execOp, e6]
                    clear hb hd
                    go_simp
                    exact hK _ hC (RelP.of (Chg.refl _ _) _ _ _)
                  refine ex_det 114 [112, 113] rfl rfl (fun _ _ _ _ _ _ _ _ => rfl) ?_
                  apply Exists.intro
                  refine ⟨?_, ?_⟩
                  · intro wx bX kX hk1 hk2 hC hb hd K hK
                    have e112 := hd 112 _ _ rfl rfl
                    try dsimp only at e112
                    have e113 := hd 113 _ _ rfl rfl
                    try dsimp only at e113
                    have sq := slice_from wx s (i := (x : Int)) (a := x) rfl (by omega)
                    simp only [execOp, Option.map_some, Option.map_none, e112, e113]
                    clear hb hd
                    go_simp
                    exact hK _ hC (RelP.of (Chg.refl _ _) _ _ _)
                  refine ex_det 115 [114] rfl rfl (fun _ _ _ _ _ _ _ _ => rfl) ?_
                  apply Exists.intro
                  refine ⟨?_, ?_⟩
                  · intro wx bX kX hk1 hk2 hC hb hd K hK
                    have e114 := hd 114 _ _ rfl rfl
                    try dsimp only at e114
                    simp only [execOp, resolve, List.map_toArray, List.map_cons, List.map_nil, e114]
                    clear hb hd
                    go_simp
                    refine (HG1.out wx).mono ?_; rintro e w' ⟨rfl, hX⟩
                    exact ⟨_, rfl, hK _ ⟨fun h => by obtain ⟨a1, a2, a3, a4⟩ := hC.1 h; exact ⟨hX.at a1 (by simp), row_keep a2 hX (by simp), a3.trans hX, Nat.le_trans a4 hX.size⟩, fun h => ⟨hX.at (hC.2.1 h).1 (by simp), (hC.2.1 h).2.trans hX⟩, fun h => absurd h (by simp; omega)⟩ (RelP.of hX _ _ _)⟩
                  refine ex_det 116 [0] rfl rfl (fun _ _ _ _ _ _ _ _ => rfl) ?_
                  apply Exists.intro
                  refine ⟨?_, ?_⟩
                  · intro wx bX kX hk1 hk2 hC hb hd K hK
                    have e0 := hb 0 rfl
                    simp only [exSlot, List.getD_cons_succ, List.getD_cons_zero] at e0
                    simp only [execOp, e0]
                    clear hb hd
                    go_simp
                    exact hK _ hC (RelP.of (Chg.refl _ _) _ _ _)
                  refine ex_det 117 [6] rfl rfl (fun _ _ _ _ _ _ _ _ => rfl) ?_
                  apply Exists.intro
                  refine ⟨?_, ?_⟩
                  · intro wx bX kX hk1 hk2 hC hb hd K hK
                    have e6 := hb 6 rfl
                    simp only [exSlot, List.getD_cons_succ, List.getD_cons_zero] at e6
                    simp only [execOp, e6]
                    clear hb hd
                    go_simp
                    exact hK _ hC (RelP.of (Chg.refl _ _) _ _ _)
                  refine ex_det 118 [117] rfl rfl (fun _ _ _ _ _ _ _ _ => rfl) ?_
                  apply Exists.intro
                  refine ⟨?_, ?_⟩
                  · intro wx bX kX hk1 hk2 hC hb hd K hK
                    have e117 := hd 117 _ _ rfl rfl
                    try dsimp only at e117
                    simp only [execOp, e117]
                    clear hb hd
                    go_simp
                    exact hK _ hC (RelP.of (Chg.refl _ _) _ _ _)
                  refine ex_det 119 [116, 118] rfl rfl (fun _ _ _ _ _ _ _ _ => rfl) ?_
                  apply Exists.intro
                  refine ⟨?_, ?_⟩
                  · intro wx bX kX hk1 hk2 hC hb hd K hK
                    have e116 := hd 116 _ _ rfl rfl
                    try dsimp only at e116
                    have e118 := hd 118 _ _ rfl rfl
                    try dsimp only at e118
                    have sq := slice_from wx s (i := (x : Int) + 4) (a := x + 4) (by omega) (by omega)
                    simp only [execOp, Option.map_some, Option.map_none, e116, e118]
                    clear hb hd
                    go_simp
                    exact hK _ hC (RelP.of (Chg.refl _ _) _ _ _)
                  refine ex_det 120 [119] rfl rfl (fun _ _ _ _ _ _ _ _ => rfl) ?_
                  apply Exists.intro
                  refine ⟨?_, ?_⟩
                  · intro wx bX kX hk1 hk2 hC hb hd K hK
                    have e119 := hd 119 _ _ rfl rfl
                    try dsimp only at e119
                    simp only [execOp, resolve, List.map_toArray, List.map_cons, List.map_nil, e119]
                    clear hb hd
                    go_simp
                    refine (HG2.out wx).mono ?_; rintro e w' ⟨rfl, hX⟩
                    exact ⟨_, rfl, hK _ ⟨fun h => by obtain ⟨a1, a2, a3, a4⟩ := hC.1 h; exact ⟨hX.at a1 (by simp), row_keep a2 hX (by simp), a3.trans hX, Nat.le_trans a4 hX.size⟩, fun h => ⟨hX.at (hC.2.1 h).1 (by simp), (hC.2.1 h).2.trans hX⟩, fun h => absurd h (by simp; omega)⟩ (RelP.of hX _ _ _)⟩
                  refine ex_det 121 [115, 120] rfl rfl (fun _ _ _ _ _ _ _ _ => rfl) ?_
                  apply Exists.intro
                  refine ⟨?_, ?_⟩
                  · intro wx bX kX hk1 hk2 hC hb hd K hK
                    have e115 := hd 115 _ _ rfl rfl
                    try dsimp only at e115
                    have e120 := hd 120 _ _ rfl rfl
                    try dsimp only at e120
                    simp only [execOp, List.map_toArray, List.map_cons, List.map_nil, e115, e120]
                    clear hb hd
                    go_simp
                    exact hK _ hC (RelP.of (Chg.refl _ _) _ _ _)
                  refine ex_any (fun _ v w => ∃ yb, v = .slice (some ⟨yb, 0, none⟩) 1 1 ∧ At w yb #[.int .i64 px, .int .i64 py] ∧ yb ≠ y9 ∧ va2.ownBlock ≠ some yb) 122 [121] rfl rfl (fun _ _ _ _ _ _ _ _ => rfl) (fun k hk g v w w' ⟨yb, h1, h2, h3, h4⟩ hR => ⟨yb, h1, hR.at_ h2 h3 h4, h3, h4⟩) ?_ ?_
                  · intro wx bX kX hk1 hk2 hC hb hd K hK
                    have e121 := hd 121 _ _ rfl rfl
                    try dsimp only at e121
                    simp only [execOp, List.map_toArray, List.map_cons, List.map_nil, e121]
                    clear hb hd
                    go_simp
                    obtain ⟨a1, a2, a3, a4⟩ := hC.1 (by omega)
                    have hzl := a1.lt
                    exact hK _ _ ⟨_, rfl, At.new _ _ _, by omega, fun hh => by have := (World.ownsRow.lt a2 _ hh).2; omega⟩ ⟨fun h => ⟨a1.alloc _, World.ownsRow.alloc a2 _, a3.alloc _, by simp; omega⟩, fun h => absurd h (by simp; omega), fun h => absurd h (by simp; omega)⟩ (RelP.of ((Chg.refl _ _).alloc _) _ _ _)
                  refine ex_any (fun _ v w => ∃ g9 cap9, v = .slice (some ⟨g9, 0, none⟩) (q + 1) cap9 ∧ w.ownsRow (y9 + 1) 53 2 (.slice (some ⟨g9, 0, none⟩) (q + 1) cap9) (q + 1) (XS ++ [.int .i64 px, .int .i64 py])) 123 [111, 122] rfl rfl (fun _ _ _ _ _ _ _ _ => rfl) (fun k hk g v w w' ⟨g9, cap9, h1, h2⟩ hR => ⟨g9, cap9, h1, row_keep h2 (hR.late (by simpa using hk)) (by simp)⟩) ?_ ?_
                  · intro wx bX kX hk1 hk2 hC hb hd K hK
                    have e111 := hd 111 _ _ rfl rfl
                    try dsimp only at e111
                    have e122 := hd 122 _ _ rfl rfl
                    try dsimp only at e122
                    obtain ⟨yb, e122, K122, -, -⟩ := e122
                    simp only [execOp, resolve, List.map_toArray, List.map_cons, List.map_nil, e111, e122]
                    clear hb hd
                    obtain ⟨a1, a2, a3, a4⟩ := hC.1 (by omega)
                    obtain ⟨v9, w9, hrun, h9, hg9⟩ := app_pt wx y9 va2 q XS a2 yb px py K122 (by omega) a4
                    obtain ⟨g9, cap9, rfl, -, -⟩ := World.ownsRow.form h9 (by omega)
                    simp only [Go.invoke, builtin, Sem.run_bind, hrun, Result.andThen_ok, Sem.run_pure, invUpon]
                    have hfar := row_far a2 hg9 a1 (by omega)
                    exact hK _ _ ⟨g9, cap9, rfl, h9⟩ ⟨fun h => absurd h (by simp), fun _ => ⟨hfar, row_grown a2 a3 hg9 (by omega)⟩, fun h => absurd h (by simp; omega)⟩ ⟨fun b hb hv hl => hg9.block b hl (fun e => hv e.symm), hg9.size, fun h => absurd h (by omega)⟩
                  refine ex_det 124 [9] rfl rfl (fun _ _ _ _ _ _ _ _ => rfl) ?_
                  apply Exists.intro
                  refine ⟨?_, ?_⟩
                  · intro wx bX kX hk1 hk2 hC hb hd K hK
                    have e9 := hb 9 rfl
                    simp only [exSlot, List.getD_cons_succ, List.getD_cons_zero] at e9
                    simp only [execOp, e9]
                    clear hb hd
                    go_simp
                    exact hK _ hC (RelP.of (Chg.refl _ _) _ _ _)
                  refine ex_unit (fun _ _ => True) [124, 123] rfl rfl (fun _ _ _ _ _ _ _ _ => rfl) (fun _ _ => (fun _ _ _ _ _ => trivial)) ?_ ?_
                  · intro wx bX kX hk1 hk2 hC hb hd K hK
                    have e124 := hd 124 _ _ rfl rfl
                    try dsimp only at e124
                    have e123 := hd 123 _ _ rfl rfl
                    try dsimp only at e123
                    obtain ⟨g9, cap9, e123, K123⟩ := e123
                    simp only [execOp, e124, e123]
                    clear hb hd
                    obtain ⟨a1, a3⟩ := hC.2.1 (by omega)
                    have hcz := a1.cell 0
                    have hfz := a1.frozen 0
                    try dsimp only at hcz
                    go_simp
                    exact hK _ trivial ⟨fun h => absurd h (by simp), fun h => absurd h (by simp; omega), fun _ => ⟨_, a1.set 0 _ rfl, row_keep K123 ((Chg.refl [y9] wx).setCell (.inl (by simp)) _) (by simp), a3.setCell (.inr hW9y) _⟩⟩ ⟨fun b hb hv hl => ((Chg.refl [y9] wx).setCell (p := ⟨y9, 0, none⟩) (.inl (by simp)) _).block b hl (by simpa using hb), by simp [World.setCell], fun _ => (Chg.refl [y9] wx).setCell (.inl (by simp)) _⟩
                  refine ex_end ?_
                  intro us w2 hus hC hall
                  obtain ⟨v0, us, rfl⟩ := List.exists_cons_of_length_eq_add_one hus
                  replace hus := Nat.succ.inj hus
                  obtain ⟨v1, us, rfl⟩ := List.exists_cons_of_length_eq_add_one hus
                  replace hus := Nat.succ.inj hus
                  obtain ⟨v2, us, rfl⟩ := List.exists_cons_of_length_eq_add_one hus
                  replace hus := Nat.succ.inj hus
                  obtain ⟨v3, us, rfl⟩ := List.exists_cons_of_length_eq_add_one hus
                  replace hus := Nat.succ.inj hus
                  obtain ⟨v4, us, rfl⟩ := List.exists_cons_of_length_eq_add_one hus
                  replace hus := Nat.succ.inj hus
                  obtain ⟨v5, us, rfl⟩ := List.exists_cons_of_length_eq_add_one hus
                  replace hus := Nat.succ.inj hus
                  obtain ⟨v6, us, rfl⟩ := List.exists_cons_of_length_eq_add_one hus
                  replace hus := Nat.succ.inj hus
                  obtain ⟨v7, us, rfl⟩ := List.exists_cons_of_length_eq_add_one hus
                  replace hus := Nat.succ.inj hus
                  obtain ⟨v8, us, rfl⟩ := List.exists_cons_of_length_eq_add_one hus
                  replace hus := Nat.succ.inj hus
                  obtain ⟨v9, us, rfl⟩ := List.exists_cons_of_length_eq_add_one hus
                  replace hus := Nat.succ.inj hus
                  obtain ⟨v10, us, rfl⟩ := List.exists_cons_of_length_eq_add_one hus
                  replace hus := Nat.succ.inj hus
                  obtain ⟨v11, us, rfl⟩ := List.exists_cons_of_length_eq_add_one hus
                  replace hus := Nat.succ.inj hus
                  obtain ⟨v12, us, rfl⟩ := List.exists_cons_of_length_eq_add_one hus
                  replace hus := Nat.succ.inj hus
                  obtain ⟨v13, us, rfl⟩ := List.exists_cons_of_length_eq_add_one hus
                  replace hus := Nat.succ.inj hus
                  obtain ⟨v14, us, rfl⟩ := List.exists_cons_of_length_eq_add_one hus
                  replace hus := Nat.succ.inj hus
                  obtain ⟨v15, us, rfl⟩ := List.exists_cons_of_length_eq_add_one hus
                  replace hus := Nat.succ.inj hus
                  obtain rfl := List.length_eq_zero_iff.1 hus
                  clear hus
                  generalize hbb : exPuts _ _ _ = bb at hall ⊢
                  simp only [exPuts, Act.put, List.setIfInBounds_toArray, List.set_cons_succ, List.set_cons_zero] at hbb
                  subst hbb
                  obtain ⟨h15, h14, h13, h12, h11, h10, h9, h8, h7, h6, h5, h4, h3, h2, h1, h0, -⟩ := hall
                  obtain rfl : v0 = _ := h0
                  obtain rfl : v1 = _ := h1
                  obtain rfl : v2 = _ := h2
                  obtain rfl : v3 = _ := h3
                  obtain rfl : v4 = _ := h4
                  obtain rfl : v5 = _ := h5
                  obtain rfl : v6 = _ := h6
                  obtain rfl : v7 = _ := h7
                  obtain rfl : v8 = _ := h8
                  obtain rfl : v9 = _ := h9
                  obtain rfl : v10 = _ := h10
                  obtain rfl : v11 = _ := h11
                  obtain ⟨yb, e122, K122, -, -⟩ := h12
                  obtain rfl : v12 = _ := e122
                  obtain ⟨g9, cap9, e123, K123⟩ := h13
                  obtain rfl : v13 = _ := e123
                  obtain rfl : v14 = _ := h14
                  clear v15
                  obtain ⟨v9, hA9b, hR9b, hX9b⟩ := hC.2.2 rfl
                  clear hC K123 HG1 HG2 hR9 hA9 hX9
                  rw [← HXS.out] at hR9b
                  have hzs9 : y9 + 1 ≤ w2.heap.size := hA9b.lt
                  go_wp2_with fail
                  go_roundg (gk - 1)
                  case rel => exact ⟨q + 1, x + 8, v9, by omega, by go_num, by go_num, Lib.hid (by have := Hx.out; omega), hA9b, hR9b, hX9b, hzs9⟩
                  case measure => omega
                · obtain rfl : gk = 0 := by omega
                  have hqm : m2 = q := by omega
                  subst hqm
                  have hxm : x = a + 14 + 8 * m2 := Hx.out
                  subst hxm
                  clear Hx
                  have hC9 := C.step (j := 0) hX9
                  have hP9 := hP.keep hX9 (by simp)
                  obtain ⟨vs, v1, v2, v3⟩ := hP9.ex
                  have hone := row_one hR9
                  have hY := hC9.get 0 rfl
                  dsimp only at hY
                  have cY := hY.cell 0
                  have hAr : AreaB wr b0 va2 (ptsAt s (a + 14) m2) := by unfold AreaB; rw [ptsAt_len]; exact World.ownsRow.mono hR9 (by omega)
                  generalize hone0 : onePhAt s a = p at *
                  have hN := At.new wr #[va2, .int .i64 pg, .int .i64 pm, .int .i64 pn, .int .i64 pu] 51
                  have hXn : Chg [] wr (wr.alloc (.cells #[va2, .int .i64 pg, .int .i64 pm, .int .i64 pn, .int .i64 pu] 51)) := (Chg.refl _ _).alloc _
                  have v2n := row_keep v2 hXn (by simp)
                  have v3n := fun i va p h1 h2 => row_keep (v3 i va p h1 h2) hXn (S := []) (by simp)
                  have hArn : AreaB _ b0 va2 (ptsAt s (a + 14) m2) := row_keep hAr hXn (by simp)
                  obtain ⟨ti, hi, hz0, hz1, hzb5⟩ := info_parts info_ph
                  have hnews : ∀ j u, ([va2, .int .i64 pg, .int .i64 pm, .int .i64 pn, .int .i64 pu] : List Value)[j]? = some u → (wr.alloc (.cells #[va2, .int .i64 pg, .int .i64 pm, .int .i64 pn, .int .i64 pu] 51)).cell? ((⟨wr.heap.size, 0, none⟩ : Addr).add j) = some u := by
                    intro j u hu
                    rw [addr_add, hN.cell j]
                    simpa using hu
                  have hone5 : ∀ u ∈ ([va2, .int .i64 pg, .int .i64 pm, .int .i64 pn, .int .i64 pu] : List Value), u.oneCell' = true := by
                    intro u hu
                    simp only [List.mem_cons, List.not_mem_nil, or_false] at hu
                    rcases hu with rfl | rfl | rfl | rfl | rfl
                    · exact hone
                    · rfl
                    · rfl
                    · rfl
                    · rfl
                  have hL255 : L.length ≤ 255 := by have := hLk.out; omega
                  have hWr : b0 ≤ wr.heap.size := by have := hX9.size; omega
                  have Hnews := Lib.hid hnews
                  have Hone5 := Lib.hid hone5
                  have Hi := Lib.hid hi
                  have Hz0 := Lib.hid hz0
                  have Hz1 := Lib.hid hz1
                  have Hzb := Lib.hid hzb5
                  have Hv1 := Lib.hid v1
                  have Hv3 := Lib.hid v3n
                  have Hp := Lib.hid hone0
                  clear hnews hone5 hi hz0 hz1 hzb5 v1 v3 v3n hone0
                  go_wp2_with (first
                    | (refine wpList_get rfl rfl rfl hA9 (by kernel_rfl) ?_)
                    | (at_builtin; refine wpList_append_own _ rfl (.tmp 128) (.tmp 130) 23 rfl b0 51 ti (.agg #[.slice none 0 0, .int .i64 0, .int .i64 0, .int .i64 0, .int .i64 0]) 5 56 und_phs Hi.out Hz0.out Hz1.out Hzb.out rfl (by decide) va L.length (phCells vs L) rfl v2n ⟨wr.heap.size, 0, none⟩ 1 1 [va2, .int .i64 pg, .int .i64 pm, .int .i64 pn, .int .i64 pu] rfl rfl Hnews.out Hone5.out (by unfold maxLen; omega) (by omega) (by simp; omega) ?_; intro v9 w9 h9 hg9 _; refine Hid.out ?_))
                  refine Lib.hid ?_
                  have hP9 : PhsB w9 b0 v9 (L ++ [p]) := PhsB.app1 vs Hv1.out v2n Hv3.out (by rw [Hop.out]; exact hArn) (by rw [Hop.out]; exact h9) hg9
                  have hXa : Chg [] W w9 := row_grown v2n ((C.x.trans hX9).trans hXn) hg9 (by omega)
                  have hY9 : At w9 y #[va, .int .i64 (by_ s 5), .int .i64 (by_ s 6), .int .i64 (by_ s 7), .int .i64 (num4 s 10), .int .i64 (num4 s 14), .int .i64 (by_ s 8), .int .i64 (num4 s 18), .int .i64 (by_ s 9)] := row_far v2n hg9 (hXn.at hY (by simp)) hyb
                  have hZ9 : At w9 z #[.slice none 0 0, .int .i64 0, .int .i64 0, .int .i64 0, .int .i64 0, .int .i64 0, .int .i64 0, .int .i64 0, .int .i64 0] := row_far v2n hg9 (hXn.at (hC9.get 1 rfl) (by simp)) (by omega)
                  obtain ⟨g9, cap9, rfl, -, -⟩ := World.ownsRow.form h9 (by omega)
                  have cY9 := hY9.cell 0
                  have fY9 := hY9.frozen 0
                  clear cY
                  have hYs := hY9.set 0 (.slice (some ⟨g9, 0, none⟩) (L.length + 1) cap9) rfl
                  simp only [List.setIfInBounds_toArray, List.set_cons_zero] at hYs
                  have hXs : Chg [y] w9 (w9.setCell ⟨y, 0, none⟩ (.slice (some ⟨g9, 0, none⟩) (L.length + 1) cap9)) := (Chg.refl [y] w9).setCell (.inl (by simp)) _
                  have hZs := hXs.at hZ9 (by simp; omega)
                  have hPs := hP9.keep hXs (by simp; omega)
                  have hXw := hXa.then hXs (fun x hx hl => by simp at hx; omega)
                  have hbs : b0 ≤ (w9.setCell ⟨y, 0, none⟩ (.slice (some ⟨g9, 0, none⟩) (L.length + 1) cap9)).heap.size := by have := hZs.lt; have := hg9.size; simp [World.setCell]; simp at this; omega
                  have hCs : CL W [(y, #[.slice (some ⟨g9, 0, none⟩) (L.length + 1) cap9, .int .i64 (by_ s 5), .int .i64 (by_ s 6), .int .i64 (by_ s 7), .int .i64 (num4 s 10), .int .i64 (num4 s 14), .int .i64 (by_ s 8), .int .i64 (num4 s 18), .int .i64 (by_ s 9)]), (z, #[.slice none 0 0, .int .i64 0, .int .i64 0, .int .i64 0, .int .i64 0, .int .i64 0, .int .i64 0, .int .i64 0, .int .i64 0])] 0 _ := ⟨fun e he => by simp only [List.mem_cons, List.not_mem_nil, or_false] at he; rcases he with rfl | rfl; exact hYs; exact hZs, hXw⟩
                  skip
                  go_wp2_with fail
                  go_roundg g2
                  case rel => exact ⟨k + 1, a + 14 + 8 * m2, L ++ [p], _, by omega, by go_num, by go_num, by omega, h8, by have := hLk.out; simp; omega, HL3, hCs, hPs, hbs, Lib.hid (fun r hr => by simp only [List.mem_append, List.mem_singleton] at hr; rcases hr with hr | rfl; exact Hsm.out r hr; rw [Hop.out]; show (ptsAt s (a + 14) m2).length ≤ 255; rw [ptsAt_len]; exact hm255b)⟩
                  case measure => omega
            · have HV : Hid (readV s = (zRu, 5)) := Lib.hid (Hrn.out (HLn.out h8))
              have hl8 : (s.size : Int) < (a : Int) + 14 + 8 * (m2 : Int) := by omega
              clear h8
              have C9 := C.step (j := 0) hX9
              go_upto_region 19 with fail
              have hz := C9.get 1 rfl
              dsimp only at hz
              refine wp_region_lit ?_
              refine wpList_bld rfl rfl #[.slice none 0 0, .int .i64 0, .int .i64 0, .int .i64 0, .int .i64 0, .int .i64 0, .int .i64 0, .int .i64 0, .int .i64 0] (by kernel_rfl) ?_
              refine wpList_put rfl rfl rfl rfl hz rfl (by kernel_rfl) (by simp [Value.oneCell']) ?_
              intro w5 hA5 hX5
              go_wp2_with (with_reducible refine hold_post ?_)
              refine Lib.hid ?_
              exact bodyPost_ret (res_ct rfl hA5 (by kernel_rfl) rfl) rfl ⟨.slice none 0 0, by rw [HV.out]; rfl, by intro S wq hS hq; rw [HV.out]; exact nil_phs _, C9.x.then hX5 (fun x hx hl => by simp at hx; omega)⟩
          · have HV : Hid (readV s = (zRu, 5)) := Lib.hid (Hrn.out (by rw [← HL.out]; exact phsL_no (okPh_no1 s a (by omega))))
            have hlt14 : (s.size : Int) < (a : Int) + 14 := by omega
            clear h14
            go_upto_region 14 with fail
            have hz := C.get 1 rfl
            dsimp only at hz
            refine wp_region_lit ?_
            refine wpList_bld rfl rfl #[.slice none 0 0, .int .i64 0, .int .i64 0, .int .i64 0, .int .i64 0, .int .i64 0, .int .i64 0, .int .i64 0, .int .i64 0] (by kernel_rfl) ?_
            refine wpList_put rfl rfl rfl rfl hz rfl (by kernel_rfl) (by simp [Value.oneCell']) ?_
            intro w5 hA5 hX5
            go_wp2_with (with_reducible refine hold_post ?_)
            refine Lib.hid ?_
            exact bodyPost_ret (res_ct rfl hA5 (by kernel_rfl) rfl) rfl ⟨.slice none 0 0, by rw [HV.out]; rfl, by intro S wq hS hq; rw [HV.out]; exact nil_phs _, C.x.then hX5 (fun x hx hl => by simp at hx; omega)⟩
        · obtain rfl : gk = 0 := by omega
          have hkm : m = k := by omega
          subst hkm
          have HE := Lib.hid (Hrs.out L a has (by rw [← HL.out]; rfl))
          clear Hrn Hrs HL
          have wa4 : IntKind.i64.wrap ((a : Int) + 4) = (a : Int) + 4 := i64_in _ (by omega) (by omega)
          have k1 : ¬((m : Int) < (m : Int)) := by omega
          unfold endV at HE
          by_cases h4a : s.size < a + 4
          · have HV := HE.out
            rw [if_pos h4a] at HV
            replace HV := Lib.hid HV
            have hl4 : (s.size : Int) < (a : Int) + 4 := by omega
            clear h4a
            go_upto_region 27 with fail
            have hz := C.get 1 rfl
            dsimp only at hz
            refine wp_region_lit ?_
            refine wpList_bld rfl rfl #[.slice none 0 0, .int .i64 0, .int .i64 0, .int .i64 0, .int .i64 0, .int .i64 0, .int .i64 0, .int .i64 0, .int .i64 0] (by kernel_rfl) ?_
            refine wpList_put rfl rfl rfl rfl hz rfl (by kernel_rfl) (by simp [Value.oneCell']) ?_
            intro w5 hA5 hX5
            go_wp2_with (with_reducible refine hold_post ?_)
            refine Lib.hid ?_
            exact bodyPost_ret (res_ct rfl hA5 (by kernel_rfl) rfl) rfl ⟨.slice none 0 0, by rw [HV.out]; rfl, by intro S wq hS hq; rw [HV.out]; exact nil_phs _, C.x.then hX5 (fun x hx hl => by simp at hx; omega)⟩
          · have hl4 : ¬((s.size : Int) < (a : Int) + 4) := by omega
            have HE1 := HE.out
            rw [if_neg h4a] at HE1
            replace HE1 := Lib.hid HE1
            by_cases h4b : a + 4 < s.size
            · have HV := HE1.out
              rw [if_pos h4b] at HV
              replace HV := Lib.hid HV
              have hl5 : (a : Int) + 4 < (s.size : Int) := by omega
              clear h4b
              go_upto_region 29 with fail
              have hz := C.get 1 rfl
              dsimp only at hz
              refine wp_region_lit ?_
              refine wpList_bld rfl rfl #[.slice none 0 0, .int .i64 0, .int .i64 0, .int .i64 0, .int .i64 0, .int .i64 0, .int .i64 0, .int .i64 0, .int .i64 0] (by kernel_rfl) ?_
              refine wpList_put rfl rfl rfl rfl hz rfl (by kernel_rfl) (by simp [Value.oneCell']) ?_
              intro w5 hA5 hX5
              go_wp2_with (with_reducible refine hold_post ?_)
              refine Lib.hid ?_
              exact bodyPost_ret (res_ct rfl hA5 (by kernel_rfl) rfl) rfl ⟨.slice none 0 0, by rw [HV.out]; rfl, by intro S wq hS hq; rw [HV.out]; exact nil_phs _, C.x.then hX5 (fun x hx hl => by simp at hx; omega)⟩
            · have hl5 : ¬((a : Int) + 4 < (s.size : Int)) := by omega
              have HE2 := HE1.out
              rw [if_neg h4b] at HE2
              replace HE2 := Lib.hid HE2
              clear HE HE1
              have HS := fun w => rsum32_any w (s.extract 0 a) (by simp; unfold maxLen; omega)
              have HG := fun w => qnumber_any w (s.extract a s.size) (by simp; omega) (by simp; omega)
              rw [num4_tail s a (by omega)] at HG
              have hsb : (0 : Int) ≤ ((sum32 (s.extract 0 a)).toNat : Int) ∧ ((sum32 (s.extract 0 a)).toNat : Int) ≤ 4294967295 := by have := (sum32 (s.extract 0 a)).isLt; omega
              generalize hx1 : ((sum32 (s.extract 0 a)).toNat : Int) = x1 at *
              generalize num4 s a = x2 at *
              have Hwx : Hid (IntKind.i64.wrap x1 = x1) := Lib.hid (i64_in _ (by omega) (by omega))
              clear hx1 hsb
              generalize hs1 : s.extract 0 a = s1 at *
              generalize hs2 : s.extract a s.size = s2 at *
              have Hs1 := Lib.hid hs1
              have Hs2 := Lib.hid hs2
              clear hs1 hs2
              replace HS := Lib.hid HS
              replace HG := Lib.hid HG
              go_upto_region 30 with fail
              generalize hwt : wr = wt at *
              clear hwt
              have hXt := Chg.refl [] wt
              refine wp_region_ex (fun _ w => Chg [] wt w) (fun _ => Chg []) [] [(0, 0, false), (0, 0, false), (0, 0, false), (0, 0, false), (0, 0, false), (0, 0, false), (0, 0, false), (0, 0, false), (0, 0, false), (0, 0, false)] [145, 146, 147, 148, 149, 150, 151, 152, 153, 154] (by kernel_rfl) rfl (by kernel_rfl) (by kernel_rfl) (hXt.drew) ?_
              simp only [List.zip_cons_cons, List.zip_nil_right]
              refine ex_det 145 [0] rfl rfl (fun _ _ _ _ _ _ _ _ => rfl) ?_
              apply Exists.intro
              refine ⟨?_, ?_⟩
              · intro wx bX kX hk1 hk2 hC hb hd K hK
                have e0 := hb 0 rfl
                simp only [exSlot, List.getD_cons_succ, List.getD_cons_zero] at e0
                simp only [execOp, e0]
                clear hb hd
                go_simp
                exact hK _ hC (Chg.refl _ _)
              refine ex_det 146 [6] rfl rfl (fun _ _ _ _ _ _ _ _ => rfl) ?_
              apply Exists.intro
              refine ⟨?_, ?_⟩
              · intro wx bX kX hk1 hk2 hC hb hd K hK
                have e6 := hb 6 rfl
                simp only [exSlot, List.getD_cons_succ, List.getD_cons_zero] at e6
                simp only [execOp, e6]
                clear hb hd
                go_simp
                exact hK _ hC (Chg.refl _ _)
              refine ex_det 147 [145, 146] rfl rfl (fun _ _ _ _ _ _ _ _ => rfl) ?_
              apply Exists.intro
              refine ⟨?_, ?_⟩
              · intro wx bX kX hk1 hk2 hC hb hd K hK
                have e145 := hd 145 _ _ rfl rfl
                try dsimp only at e145
                have e146 := hd 146 _ _ rfl rfl
                try dsimp only at e146
                have sq := slice_to wx s (j := (a : Int)) (b := a) rfl (by omega)
                rw [Hs1.out] at sq
                simp only [execOp, Option.map_some, Option.map_none, e145, e146]
                clear hb hd
                go_simp
                exact hK _ hC (Chg.refl _ _)
              refine ex_det 148 [147] rfl rfl (fun _ _ _ _ _ _ _ _ => rfl) ?_
              apply Exists.intro
              refine ⟨?_, ?_⟩
              · intro wx bX kX hk1 hk2 hC hb hd K hK
                have e147 := hd 147 _ _ rfl rfl
                try dsimp only at e147
                simp only [execOp, resolve, List.map_toArray, List.map_cons, List.map_nil, e147]
                clear hb hd
                go_simp
                refine (HS.out wx).mono ?_; rintro e w' ⟨rfl, rfl⟩
                exact ⟨_, rfl, hK _ hC (Chg.refl _ _)⟩
              refine ex_det 149 [148] rfl rfl (fun _ _ _ _ _ _ _ _ => rfl) ?_
              apply Exists.intro
              refine ⟨?_, ?_⟩
              · intro wx bX kX hk1 hk2 hC hb hd K hK
                have e148 := hd 148 _ _ rfl rfl
                try dsimp only at e148
                have hwx := Hwx.out
                simp only [execOp, e148]
                clear hb hd
                go_simp
                exact hK _ hC (Chg.refl _ _)
              refine ex_det 150 [0] rfl rfl (fun _ _ _ _ _ _ _ _ => rfl) ?_
              apply Exists.intro
              refine ⟨?_, ?_⟩
              · intro wx bX kX hk1 hk2 hC hb hd K hK
                have e0 := hb 0 rfl
                simp only [exSlot, List.getD_cons_succ, List.getD_cons_zero] at e0
                simp only [execOp, e0]
                clear hb hd
                go_simp
                exact hK _ hC (Chg.refl _ _)
              refine ex_det 151 [6] rfl rfl (fun _ _ _ _ _ _ _ _ => rfl) ?_
              apply Exists.intro
              refine ⟨?_, ?_⟩
              · intro wx bX kX hk1 hk2 hC hb hd K hK
                have e6 := hb 6 rfl
                simp only [exSlot, List.getD_cons_succ, List.getD_cons_zero] at e6
                simp only [execOp, e6]
                clear hb hd
                go_simp
                exact hK _ hC (Chg.refl _ _)
              refine ex_det 152 [150, 151] rfl rfl (fun _ _ _ _ _ _ _ _ => rfl) ?_
              apply Exists.intro
              refine ⟨?_, ?_⟩
              · intro wx bX kX hk1 hk2 hC hb hd K hK
                have e150 := hd 150 _ _ rfl rfl
                try dsimp only at e150
                have e151 := hd 151 _ _ rfl rfl
                try dsimp only at e151
                have sq := slice_from wx s (i := (a : Int)) (a := a) rfl (by omega)
                rw [Hs2.out] at sq
                simp only [execOp, Option.map_some, Option.map_none, e150, e151]
                clear hb hd
                go_simp
                exact hK _ hC (Chg.refl _ _)
              refine ex_det 153 [152] rfl rfl (fun _ _ _ _ _ _ _ _ => rfl) ?_
              apply Exists.intro
              refine ⟨?_, ?_⟩
              · intro wx bX kX hk1 hk2 hC hb hd K hK
                have e152 := hd 152 _ _ rfl rfl
                try dsimp only at e152
                simp only [execOp, resolve, List.map_toArray, List.map_cons, List.map_nil, e152]
                clear hb hd
                go_simp
                refine (HG.out wx).mono ?_; rintro e w' ⟨rfl, hX⟩
                exact ⟨_, rfl, hK _ (hC.trans hX) hX⟩
              refine ex_det 154 [149, 153] rfl rfl (fun _ _ _ _ _ _ _ _ => rfl) ?_
              apply Exists.intro
              refine ⟨?_, ?_⟩
              · intro wx bX kX hk1 hk2 hC hb hd K hK
                have e149 := hd 149 _ _ rfl rfl
                try dsimp only at e149
                have e153 := hd 153 _ _ rfl rfl
                try dsimp only at e153
                simp only [execOp, e149, e153]
                clear hb hd
                go_simp
                exact hK _ hC (Chg.refl _ _)
              refine ex_end ?_
              intro us w2 hus hC hall
              obtain ⟨v0, us, rfl⟩ := List.exists_cons_of_length_eq_add_one hus
              replace hus := Nat.succ.inj hus
              obtain ⟨v1, us, rfl⟩ := List.exists_cons_of_length_eq_add_one hus
              replace hus := Nat.succ.inj hus
              obtain ⟨v2, us, rfl⟩ := List.exists_cons_of_length_eq_add_one hus
              replace hus := Nat.succ.inj hus
              obtain ⟨v3, us, rfl⟩ := List.exists_cons_of_length_eq_add_one hus
              replace hus := Nat.succ.inj hus
              obtain ⟨v4, us, rfl⟩ := List.exists_cons_of_length_eq_add_one hus
              replace hus := Nat.succ.inj hus
              obtain ⟨v5, us, rfl⟩ := List.exists_cons_of_length_eq_add_one hus
              replace hus := Nat.succ.inj hus
              obtain ⟨v6, us, rfl⟩ := List.exists_cons_of_length_eq_add_one hus
              replace hus := Nat.succ.inj hus
              obtain ⟨v7, us, rfl⟩ := List.exists_cons_of_length_eq_add_one hus
              replace hus := Nat.succ.inj hus
              obtain ⟨v8, us, rfl⟩ := List.exists_cons_of_length_eq_add_one hus
              replace hus := Nat.succ.inj hus
              obtain ⟨v9, us, rfl⟩ := List.exists_cons_of_length_eq_add_one hus
              replace hus := Nat.succ.inj hus
              obtain rfl := List.length_eq_zero_iff.1 hus
              clear hus
              generalize hbb : exPuts _ _ _ = bb at hall ⊢
              simp only [exPuts, Act.put, List.setIfInBounds_toArray, List.set_cons_succ, List.set_cons_zero] at hbb
              subst hbb
              obtain ⟨h9, h8, h7, h6, h5, h4, h3, h2, h1, h0, -⟩ := hall
              obtain rfl : v0 = _ := h0
              obtain rfl : v1 = _ := h1
              obtain rfl : v2 = _ := h2
              obtain rfl : v3 = _ := h3
              obtain rfl : v4 = _ := h4
              obtain rfl : v5 = _ := h5
              obtain rfl : v6 = _ := h6
              obtain rfl : v7 = _ := h7
              obtain rfl : v8 = _ := h8
              obtain rfl : v9 = _ := h9
              replace C := C.step (j := 0) hC
              replace hP := hP.keep hC (by simp)
              clear hC hXt
              by_cases hx : x1 = x2
              · subst hx
                have HR6 := HE2.out
                rw [if_neg (fun h => h rfl)] at HR6
                replace HR6 := Lib.hid HR6
                clear HE2 HS HG
                obtain ⟨ad, cap, rfl⟩ := hP.toA.len_
                have hy := C.get 0 rfl
                dsimp only at hy
                have hsl : ∀ b ∈ [y, z], SlAt w2 b := sl2 hy (C.get 1 rfl) rfl rfl
                have hPR : PhsR w2 (.slice ad L.length cap) L := hP.phs (by have := hLk.out; omega) (fun p hp => by have := Hsm.out p hp; omega)
                have HRR := rwrong_any (rpright_any rsimple_any) w2 (.slice ad L.length cap) (headRu s L) hPR
                have Hcs := Lib.hid (show (headRu s L).cells (.slice ad L.length cap) = #[.slice ad L.length cap, .int .i64 (by_ s 5), .int .i64 (by_ s 6), .int .i64 (by_ s 7), .int .i64 (num4 s 10), .int .i64 (num4 s 14), .int .i64 (by_ s 8), .int .i64 (num4 s 18), .int .i64 (by_ s 9)] from rfl)
                replace HRR : Calls Tryz.prog 16 #[.agg #[.slice ad L.length cap, .int .i64 (by_ s 5), .int .i64 (by_ s 6), .int .i64 (by_ s 7), .int .i64 (num4 s 10), .int .i64 (num4 s 14), .int .i64 (by_ s 8), .int .i64 (num4 s 18), .int .i64 (by_ s 9)]] w2 fun e w' => e = .returned (.int .i64 (wrongN (headRu s L))) ∧ Chg [] w2 w' := HRR
                generalize hwr2 : wrongN (headRu s L) = wn at *
                have Hph : Hid ((headRu s L).phs = L) := Lib.hid rfl
                generalize headRu s L = hr at *
                go_wp2_with (refine wpList_get rfl rfl rfl hy (by kernel_rfl) ?_)
                refine HRR.mono ?_; rintro e w7 ⟨rfl, hX7⟩
                replace C := C.step (j := 0) hX7
                clear hy
                have hy := C.get 0 rfl
                have hz := C.get 1 rfl
                dsimp only at hy hz
                by_cases hw0 : wn = 0
                · have HV := HR6.out
                  rw [if_pos hw0] at HV
                  replace HV := Lib.hid HV
                  subst hw0
                  clear HR6
                  go_upto_region 34 with fail
                  refine wp_region_lit ?_
                  refine wpList_get rfl rfl rfl hy (by kernel_rfl) ?_
                  refine wpList_put rfl rfl rfl rfl hz rfl (by kernel_rfl) (by simp [Value.oneCell']) ?_
                  intro w8 hz8 hX8
                  go_wp2_with (with_reducible refine hold_post ?_)
                  refine Lib.hid ?_
                  have hX58 : Chg [y, z] w2 w8 := (hX7.mono (by simp)).trans (hX8.mono (by simp))
                  exact bodyPost_ret (res_ct rfl hz8 (by kernel_rfl) rfl) rfl ⟨.slice ad L.length cap, by rw [HV.out]; show _ = Ending.returned (.tuple #[.agg (hr.cells _), .int .i64 0]); rw [Hcs.out]; rfl, by intro S wq hS hq; rw [HV.out, Hph.out]; exact ((hP.keep hX58 (by simp; omega)).keep hq (fun b hb => by have := hS b hb; omega)).phs (by have := hLk.out; omega) (fun p hp => by have := Hsm.out p hp; omega), C.x.then hX8 (fun x hx hl => by simp at hx; omega)⟩
                · have HV := HR6.out
                  rw [if_neg hw0] at HV
                  replace HV := Lib.hid HV
                  have hbw : decide (wn = 0) = false := decide_eq_false hw0
                  clear HR6
                  go_upto_region 33 with fail
                  have hz := C.get 1 rfl
                  dsimp only at hz
                  refine wp_region_lit ?_
                  refine wpList_bld rfl rfl #[.slice none 0 0, .int .i64 0, .int .i64 0, .int .i64 0, .int .i64 0, .int .i64 0, .int .i64 0, .int .i64 0, .int .i64 0] (by kernel_rfl) ?_
                  refine wpList_put rfl rfl rfl rfl hz rfl (by kernel_rfl) (by simp [Value.oneCell']) ?_
                  intro w5 hA5 hX5
                  go_wp2_with (with_reducible refine hold_post ?_)
                  refine Lib.hid ?_
                  exact bodyPost_ret (res_ct rfl hA5 (by kernel_rfl) rfl) rfl ⟨.slice none 0 0, by rw [HV.out]; rfl, by intro S wq hS hq; rw [HV.out]; exact nil_phs _, C.x.then hX5 (fun x hx hl => by simp at hx; omega)⟩
              · have HV := HE2.out
                rw [if_pos hx] at HV
                replace HV := Lib.hid HV
                clear HE2 HS HG
                go_upto_region 31 with fail
                have hz := C.get 1 rfl
                dsimp only at hz
                refine wp_region_lit ?_
                refine wpList_bld rfl rfl #[.slice none 0 0, .int .i64 0, .int .i64 0, .int .i64 0, .int .i64 0, .int .i64 0, .int .i64 0, .int .i64 0, .int .i64 0] (by kernel_rfl) ?_
                refine wpList_put rfl rfl rfl rfl hz rfl (by kernel_rfl) (by simp [Value.oneCell']) ?_
                intro w5 hA5 hX5
                go_wp2_with (with_reducible refine hold_post ?_)
                refine Lib.hid ?_
                exact bodyPost_ret (res_ct rfl hA5 (by kernel_rfl) rfl) rfl ⟨.slice none 0 0, by rw [HV.out]; rfl, by intro S wq hS hq; rw [HV.out]; exact nil_phs _, C.x.then hX5 (fun x hx hl => by simp at hx; omega)⟩
end Go.Proofs.YtpfglmlpodjneaaGreat
