/- Rdp. -/
import Derived.Test.YtpfglmlpodjneaaGreatZ13
import Derived.Test.YtpfglmlpodjneaaGreatZ11
set_option linter.unusedSimpArgs false
set_option linter.unusedVariables false
namespace Go.Proofs.YtpfglmlpodjneaaGreat
open Go.RowKit

theorem read_mag {s : ByteArray} (h : magicB s = true) : readV s = ((if s.size < 22 then (zRu, 5) else
  match phsL (by_ s 4).toNat (s.extract 22 s.size) [] with
  | none => (zRu, 5)
  | some (L, t) => if t.size < 4 then (zRu, 5) else if 4 < t.size then (zRu, 3) else if ((sum32 (s.extract 0 (s.size - 4))).toNat : Int) ≠ num4 t 0 then (zRu, 4) else if wrongN (headRu s L) = 0 then (headRu s L, 0) else (zRu, 3)) : RuV × Int) := by
  exact if_neg (by rw [h]; simp)
theorem PhsA.len_ {w : World} {base : Nat} {v : Value} {L : List PhV} (h : PhsA w base v L) : ∃ a cap, v = .slice a L.length cap := by
  obtain ⟨vs, v1, v2, v3⟩ := h.ex
  rcases v2.2 with ⟨rfl, h0⟩ | ⟨g, cap, cur, rfl, _⟩
  · rw [h0]; exact ⟨_, _, rfl⟩
  · exact ⟨_, _, rfl⟩
theorem sl2 {w : World} {y z : Nat} {c d : Array Value} (hy : At w y c) (hz : At w z d) {a a' : Option Addr} {n n' k k' : Nat} (h0 : c[0]? = some (.slice a n k)) (h1 : d[0]? = some (.slice a' n' k')) : ∀ b ∈ [y, z], SlAt w b := by
  intro b hb
  simp only [List.mem_cons, List.not_mem_nil, or_false] at hb
  rcases hb with rfl | rfl
  · exact ⟨c, a, n, k, hy, h0⟩
  · exact ⟨d, a', n', k', hz, h1⟩
set_option maxRecDepth 100000 in
set_option maxHeartbeats 2000000 in
theorem read_any (W : World) (s : ByteArray) (hs0 : s.size ≤ 1000000) : Calls Tryz.prog 21 #[.string s] W (RdPost W (readV s)) := by
  have C := (CL.new W 0).push #[.slice none 0 0, .int .i64 0, .int .i64 0, .int .i64 0, .int .i64 0, .int .i64 0, .int .i64 0, .int .i64 0, .int .i64 0] 25
  have hmn := fun (w : World) ts t x y => run_min2 (P := Tryz.prog) w ts t x y
  have hsl0 := fun w => slice_to w aftu (j := min (s.size : Int) 4) (b := min s.size 4) (by omega) (by show min s.size 4 ≤ 4; omega)
  rw [show aftu = ⟨#[65, 70, 84, 85]⟩ from rfl] at hsl0
  have HM := fun w => has_any w s (aftu.extract 0 (min s.size 4)) (by unfold maxLen; omega) (by simp; unfold maxLen; omega)
  rw [show beginsB s (aftu.extract 0 (min s.size 4)) = magicB s from rfl, show aftu = ⟨#[65, 70, 84, 85]⟩ from rfl] at HM
  generalize ByteArray.extract ⟨#[65, 70, 84, 85]⟩ 0 (min s.size 4) = pre at *
  replace HM := Lib.hid HM
  go_enter Tryz.func21, Tryz.ntmps21
  go_upto_region 1 with fail
  generalize hz : W.heap.size = z at *
  have hzW : W.heap.size ≤ z := by omega
  generalize W.alloc (.cells #[.slice none 0 0, .int .i64 0, .int .i64 0, .int .i64 0, .int .i64 0, .int .i64 0, .int .i64 0, .int .i64 0, .int .i64 0] 25) = w1 at *
  clear hz
  have HM1 := HM.out w1
  cases hM : magicB s with
  | false =>
    rw [hM] at HM1
    have HV : readV s = (zRu, 3) := by unfold readV; rw [if_pos hM]
    replace HV := Lib.hid HV
    clear hM
    go_wp2_with fail
    refine HM1.mono ?_; rintro e w' ⟨rfl, rfl⟩
    go_upto_region 2 with fail
    have hz := C.get 0 rfl
    dsimp only at hz
    go_wp2_with (first | (refine wpList_get rfl rfl rfl hz (by kernel_rfl) ?_) | (refine wpList_put rfl rfl rfl rfl hz rfl (by kernel_rfl) (by simp [Value.oneCell']) ?_; intro w5 hA5 hX5; refine Hid.out ?_))
    refine Lib.hid ?_
    go_wp2_with (with_reducible refine hold_post ?_)
    refine Lib.hid ?_
    exact bodyPost_ret (res_ct rfl hA5 (by kernel_rfl) rfl) rfl ⟨.slice none 0 0, by rw [HV.out]; rfl, by intro S wq hS hq; rw [HV.out]; exact nil_phs _, C.x.then hX5 (fun x hx hl => by simp at hx; omega)⟩
  | true =>
    rw [hM] at HM1
    have HR1 := Lib.hid (read_mag hM)
    clear hM
    go_wp2_with fail
    refine HM1.mono ?_; rintro e w' ⟨rfl, rfl⟩
    by_cases h22 : s.size < 22
    · have HV := HR1.out
      rw [if_pos h22] at HV
      replace HV := Lib.hid HV
      have hlt : (s.size : Int) < 22 := by omega
      clear h22
      go_upto_region 4 with fail
      have hz := C.get 0 rfl
      dsimp only at hz
      go_wp2_with (first | (refine wpList_get rfl rfl rfl hz (by kernel_rfl) ?_) | (refine wpList_put rfl rfl rfl rfl hz rfl (by kernel_rfl) (by simp [Value.oneCell']) ?_; intro w5 hA5 hX5; refine Hid.out ?_))
      refine Lib.hid ?_
      go_wp2_with (with_reducible refine hold_post ?_)
      refine Lib.hid ?_
      exact bodyPost_ret (res_ct rfl hA5 (by kernel_rfl) rfl) rfl ⟨.slice none 0 0, by rw [HV.out]; rfl, by intro S wq hS hq; rw [HV.out]; exact nil_phs _, C.x.then hX5 (fun x hx hl => by simp at hx; omega)⟩
    · have hlt : ¬((s.size : Int) < 22) := by omega
      have HR2 := HR1.out
      rw [if_neg h22] at HR2
      replace HR2 := Lib.hid HR2
      replace h22 : 22 ≤ s.size := by omega
      clear HR1 HM1
      go_upto_region 5 with fail
      have q10 := num4_tail s 10 (by omega)
      have q14 := num4_tail s 14 (by omega)
      have q18 := num4_tail s 18 (by omega)
      have hC0 := C.cb
      have hC1 : z < w1.heap.size := (C.get 0 rfl).lt
      obtain ⟨zb, hzb⟩ : ∃ zb, w1.heap.size = zb := ⟨_, rfl⟩
      rw [hzb] at hC0 hC1
      clear hzb C
      have hC := hC0
      clear hC0
      have j5 : (5 : Int) < (s.size : Int) := by omega
      have g5 := by_get s 5 (by omega)
      have b5 := by_bd s 5
      have i5 : IntKind.i64.wrap (by_ s 5) = by_ s 5 := IntWalk.i64_in _ (by omega)
      have j6 : (6 : Int) < (s.size : Int) := by omega
      have g6 := by_get s 6 (by omega)
      have b6 := by_bd s 6
      have i6 : IntKind.i64.wrap (by_ s 6) = by_ s 6 := IntWalk.i64_in _ (by omega)
      have j7 : (7 : Int) < (s.size : Int) := by omega
      have g7 := by_get s 7 (by omega)
      have b7 := by_bd s 7
      have i7 : IntKind.i64.wrap (by_ s 7) = by_ s 7 := IntWalk.i64_in _ (by omega)
      have j8 : (8 : Int) < (s.size : Int) := by omega
      have g8 := by_get s 8 (by omega)
      have b8 := by_bd s 8
      have i8 : IntKind.i64.wrap (by_ s 8) = by_ s 8 := IntWalk.i64_in _ (by omega)
      have j9 : (9 : Int) < (s.size : Int) := by omega
      have g9 := by_get s 9 (by omega)
      have b9 := by_bd s 9
      have i9 : IntKind.i64.wrap (by_ s 9) = by_ s 9 := IntWalk.i64_in _ (by omega)
      have j4 : (4 : Int) < (s.size : Int) := by omega
      have g4 := by_get s 4 (by omega)
      have b4 := by_bd s 4
      have i4 : IntKind.i64.wrap (by_ s 4) = by_ s 4 := IntWalk.i64_in _ (by omega)
      have n10 := num4_bd s 10
      have i10 : IntKind.i64.wrap (num4 s 10) = num4 s 10 := IntWalk.i64_in _ (by omega)
      have n14 := num4_bd s 14
      have i14 : IntKind.i64.wrap (num4 s 14) = num4 s 14 := IntWalk.i64_in _ (by omega)
      have n18 := num4_bd s 18
      have i18 : IntKind.i64.wrap (num4 s 18) = num4 s 18 := IntWalk.i64_in _ (by omega)
      refine wp_region_ex (fun _ => CB W [(z, #[.slice none 0 0, .int .i64 0, .int .i64 0, .int .i64 0, .int .i64 0, .int .i64 0, .int .i64 0, .int .i64 0, .int .i64 0])] zb) (fun _ => RY zb #[.slice none 0 0, .int .i64 (by_ s 5), .int .i64 (by_ s 6), .int .i64 (by_ s 7), .int .i64 (num4 s 10), .int .i64 (num4 s 14), .int .i64 (by_ s 8), .int .i64 (num4 s 18), .int .i64 (by_ s 9)]) [] [(0, 0, false), (0, 0, false), (0, 0, false), (0, 0, false), (0, 0, false), (0, 0, false), (0, 0, false), (0, 0, false), (0, 0, false), (0, 0, false), (0, 0, false), (0, 0, false), (0, 0, false), (0, 0, false), (0, 0, false), (0, 0, false), (0, 0, false), (0, 0, false), (0, 0, false), (0, 0, false), (0, 0, false), (0, 0, false), (0, 0, false), (0, 0, false), (0, 0, false), (0, 0, false), (0, 0, false), (0, 0, false), (0, 0, false), (0, 0, false)] [21, 22, 23, 24, 25, 26, 27, 28, 29, 30, 31, 32, 33, 34, 35, 36, 37, 38, 39, 40, 41, 42, 43, 44, 45, 46, 47, 48, 4] (by kernel_rfl) rfl (by kernel_rfl) (by kernel_rfl) (hC.drew) ?_
      simp only [List.zip_cons_cons, List.zip_nil_right]
      refine ex_det 21 [0] rfl rfl (fun _ _ _ _ _ _ _ _ => rfl) ?_
      apply Exists.intro
      refine ⟨?_, ?_⟩
      · intro wx bX kX hk1 hk2 hC hb hd K hK
        have e0 := hb 0 rfl
        simp only [exSlot, List.getD_cons_succ, List.getD_cons_zero] at e0
        simp only [execOp, e0]
        clear hb hd
        go_simp
        exact hK _ hC (RY.refl _ _ _)
      refine ex_det 22 [21] rfl rfl (fun _ _ _ _ _ _ _ _ => rfl) ?_
      apply Exists.intro
      refine ⟨?_, ?_⟩
      · intro wx bX kX hk1 hk2 hC hb hd K hK
        have e21 := hd 21 _ _ rfl rfl
        try dsimp only at e21
        simp only [execOp, e21]
        clear hb hd
        go_simp
        exact hK _ hC (RY.refl _ _ _)
      refine ex_det 23 [22] rfl rfl (fun _ _ _ _ _ _ _ _ => rfl) ?_
      apply Exists.intro
      refine ⟨?_, ?_⟩
      · intro wx bX kX hk1 hk2 hC hb hd K hK
        have e22 := hd 22 _ _ rfl rfl
        try dsimp only at e22
        simp only [execOp, e22]
        clear hb hd
        go_simp
        exact hK _ hC (RY.refl _ _ _)
      refine ex_det 24 [0] rfl rfl (fun _ _ _ _ _ _ _ _ => rfl) ?_
      apply Exists.intro
      refine ⟨?_, ?_⟩
      · intro wx bX kX hk1 hk2 hC hb hd K hK
        have e0 := hb 0 rfl
        simp only [exSlot, List.getD_cons_succ, List.getD_cons_zero] at e0
        simp only [execOp, e0]
        clear hb hd
        go_simp
        exact hK _ hC (RY.refl _ _ _)
      refine ex_det 25 [24] rfl rfl (fun _ _ _ _ _ _ _ _ => rfl) ?_
      apply Exists.intro
      refine ⟨?_, ?_⟩
      · intro wx bX kX hk1 hk2 hC hb hd K hK
        have e24 := hd 24 _ _ rfl rfl
        try dsimp only at e24
        simp only [execOp, e24]
        clear hb hd
        go_simp
        exact hK _ hC (RY.refl _ _ _)
      refine ex_det 26 [25] rfl rfl (fun _ _ _ _ _ _ _ _ => rfl) ?_
      apply Exists.intro
      refine ⟨?_, ?_⟩
      · intro wx bX kX hk1 hk2 hC hb hd K hK
        have e25 := hd 25 _ _ rfl rfl
        try dsimp only at e25
        simp only [execOp, e25]
        clear hb hd
        go_simp
        exact hK _ hC (RY.refl _ _ _)
      refine ex_det 27 [0] rfl rfl (fun _ _ _ _ _ _ _ _ => rfl) ?_
      apply Exists.intro
      refine ⟨?_, ?_⟩
      · intro wx bX kX hk1 hk2 hC hb hd K hK
        have e0 := hb 0 rfl
        simp only [exSlot, List.getD_cons_succ, List.getD_cons_zero] at e0
        simp only [execOp, e0]
        clear hb hd
        go_simp
        exact hK _ hC (RY.refl _ _ _)
      refine ex_det 28 [27] rfl rfl (fun _ _ _ _ _ _ _ _ => rfl) ?_
      apply Exists.intro
      refine ⟨?_, ?_⟩
      · intro wx bX kX hk1 hk2 hC hb hd K hK
        have e27 := hd 27 _ _ rfl rfl
        try dsimp only at e27
        simp only [execOp, e27]
        clear hb hd
        go_simp
        exact hK _ hC (RY.refl _ _ _)
      refine ex_det 29 [28] rfl rfl (fun _ _ _ _ _ _ _ _ => rfl) ?_
      apply Exists.intro
      refine ⟨?_, ?_⟩
      · intro wx bX kX hk1 hk2 hC hb hd K hK
        have e28 := hd 28 _ _ rfl rfl
        try dsimp only at e28
        simp only [execOp, e28]
        clear hb hd
        go_simp
        exact hK _ hC (RY.refl _ _ _)
      refine ex_det 30 [0] rfl rfl (fun _ _ _ _ _ _ _ _ => rfl) ?_
      apply Exists.intro
      refine ⟨?_, ?_⟩
      · intro wx bX kX hk1 hk2 hC hb hd K hK
        have e0 := hb 0 rfl
        simp only [exSlot, List.getD_cons_succ, List.getD_cons_zero] at e0
        simp only [execOp, e0]
        clear hb hd
        go_simp
        exact hK _ hC (RY.refl _ _ _)
      refine ex_det 31 [30] rfl rfl (fun _ _ _ _ _ _ _ _ => rfl) ?_
      apply Exists.intro
      refine ⟨?_, ?_⟩
      · intro wx bX kX hk1 hk2 hC hb hd K hK
        have e30 := hd 30 _ _ rfl rfl
        try dsimp only at e30
        simp only [execOp, e30]
        clear hb hd
        go_simp
        exact hK _ hC (RY.refl _ _ _)
      refine ex_det 32 [31] rfl rfl (fun _ _ _ _ _ _ _ _ => rfl) ?_
      apply Exists.intro
      refine ⟨?_, ?_⟩
      · intro wx bX kX hk1 hk2 hC hb hd K hK
        have e31 := hd 31 _ _ rfl rfl
        try dsimp only at e31
        simp only [execOp, e31]
        clear hb hd
        go_simp
        exact hK _ hC (RY.refl _ _ _)
      refine ex_det 33 [0] rfl rfl (fun _ _ _ _ _ _ _ _ => rfl) ?_
      apply Exists.intro
      refine ⟨?_, ?_⟩
      · intro wx bX kX hk1 hk2 hC hb hd K hK
        have e0 := hb 0 rfl
        simp only [exSlot, List.getD_cons_succ, List.getD_cons_zero] at e0
        simp only [execOp, e0]
        clear hb hd
        go_simp
        exact hK _ hC (RY.refl _ _ _)
      refine ex_det 34 [33] rfl rfl (fun _ _ _ _ _ _ _ _ => rfl) ?_
      apply Exists.intro
      refine ⟨?_, ?_⟩
      · intro wx bX kX hk1 hk2 hC hb hd K hK
        have e33 := hd 33 _ _ rfl rfl
        try dsimp only at e33
        simp only [execOp, e33]
        clear hb hd
        go_simp
        exact hK _ hC (RY.refl _ _ _)
      refine ex_det 35 [34] rfl rfl (fun _ _ _ _ _ _ _ _ => rfl) ?_
      apply Exists.intro
      refine ⟨?_, ?_⟩
      · intro wx bX kX hk1 hk2 hC hb hd K hK
        have e34 := hd 34 _ _ rfl rfl
        try dsimp only at e34
        simp only [execOp, e34]
        clear hb hd
        go_simp
        exact hK _ hC (RY.refl _ _ _)
      refine ex_det 36 [0] rfl rfl (fun _ _ _ _ _ _ _ _ => rfl) ?_
      apply Exists.intro
      refine ⟨?_, ?_⟩
      · intro wx bX kX hk1 hk2 hC hb hd K hK
        have e0 := hb 0 rfl
        simp only [exSlot, List.getD_cons_succ, List.getD_cons_zero] at e0
        simp only [execOp, e0]
        clear hb hd
        go_simp
        exact hK _ hC (RY.refl _ _ _)
      refine ex_det 37 [36] rfl rfl (fun _ _ _ _ _ _ _ _ => rfl) ?_
      apply Exists.intro
      refine ⟨?_, ?_⟩
      · intro wx bX kX hk1 hk2 hC hb hd K hK
        have e36 := hd 36 _ _ rfl rfl
        try dsimp only at e36
        have sq := slice_from wx s (i := 10) (a := 10) rfl (by omega)
        simp only [execOp, Option.map_some, Option.map_none, e36]
        clear hb hd
        go_simp
        exact hK _ hC (RY.refl _ _ _)
      refine ex_det 38 [37] rfl rfl (fun _ _ _ _ _ _ _ _ => rfl) ?_
      apply Exists.intro
      refine ⟨?_, ?_⟩
      · intro wx bX kX hk1 hk2 hC hb hd K hK
        have e37 := hd 37 _ _ rfl rfl
        try dsimp only at e37
        simp only [execOp, resolve, List.map_toArray, List.map_cons, List.map_nil, e37]
        clear hb hd
        go_simp
        refine (rget_any wx (s.extract 10 s.size) (by simp; omega) (by simp; omega)).mono ?_; rintro e w' ⟨rfl, hX⟩
        rw [q10]
        exact ⟨_, rfl, hK _ (hC.step hX) (.inl hX)⟩
      refine ex_det 39 [38] rfl rfl (fun _ _ _ _ _ _ _ _ => rfl) ?_
      apply Exists.intro
      refine ⟨?_, ?_⟩
      · intro wx bX kX hk1 hk2 hC hb hd K hK
        have e38 := hd 38 _ _ rfl rfl
        try dsimp only at e38
        simp only [execOp, e38]
        clear hb hd
        go_simp
        exact hK _ hC (RY.refl _ _ _)
      refine ex_det 40 [0] rfl rfl (fun _ _ _ _ _ _ _ _ => rfl) ?_
      apply Exists.intro
      refine ⟨?_, ?_⟩
      · intro wx bX kX hk1 hk2 hC hb hd K hK
        have e0 := hb 0 rfl
        simp only [exSlot, List.getD_cons_succ, List.getD_cons_zero] at e0
        simp only [execOp, e0]
        clear hb hd
        go_simp
        exact hK _ hC (RY.refl _ _ _)
      refine ex_det 41 [40] rfl rfl (fun _ _ _ _ _ _ _ _ => rfl) ?_
      apply Exists.intro
      refine ⟨?_, ?_⟩
      · intro wx bX kX hk1 hk2 hC hb hd K hK
        have e40 := hd 40 _ _ rfl rfl
        try dsimp only at e40
        have sq := slice_from wx s (i := 14) (a := 14) rfl (by omega)
        simp only [execOp, Option.map_some, Option.map_none, e40]
        clear hb hd
        go_simp
        exact hK _ hC (RY.refl _ _ _)
      refine ex_det 42 [41] rfl rfl (fun _ _ _ _ _ _ _ _ => rfl) ?_
      apply Exists.intro
      refine ⟨?_, ?_⟩
      · intro wx bX kX hk1 hk2 hC hb hd K hK
        have e41 := hd 41 _ _ rfl rfl
        try dsimp only at e41
        simp only [execOp, resolve, List.map_toArray, List.map_cons, List.map_nil, e41]
        clear hb hd
        go_simp
        refine (rget_any wx (s.extract 14 s.size) (by simp; omega) (by simp; omega)).mono ?_; rintro e w' ⟨rfl, hX⟩
        rw [q14]
        exact ⟨_, rfl, hK _ (hC.step hX) (.inl hX)⟩
      refine ex_det 43 [42] rfl rfl (fun _ _ _ _ _ _ _ _ => rfl) ?_
      apply Exists.intro
      refine ⟨?_, ?_⟩
      · intro wx bX kX hk1 hk2 hC hb hd K hK
        have e42 := hd 42 _ _ rfl rfl
        try dsimp only at e42
        simp only [execOp, e42]
        clear hb hd
        go_simp
        exact hK _ hC (RY.refl _ _ _)
      refine ex_det 44 [0] rfl rfl (fun _ _ _ _ _ _ _ _ => rfl) ?_
      apply Exists.intro
      refine ⟨?_, ?_⟩
      · intro wx bX kX hk1 hk2 hC hb hd K hK
        have e0 := hb 0 rfl
        simp only [exSlot, List.getD_cons_succ, List.getD_cons_zero] at e0
        simp only [execOp, e0]
        clear hb hd
        go_simp
        exact hK _ hC (RY.refl _ _ _)
      refine ex_det 45 [44] rfl rfl (fun _ _ _ _ _ _ _ _ => rfl) ?_
      apply Exists.intro
      refine ⟨?_, ?_⟩
      · intro wx bX kX hk1 hk2 hC hb hd K hK
        have e44 := hd 44 _ _ rfl rfl
        try dsimp only at e44
        have sq := slice_from wx s (i := 18) (a := 18) rfl (by omega)
        simp only [execOp, Option.map_some, Option.map_none, e44]
        clear hb hd
        go_simp
        exact hK _ hC (RY.refl _ _ _)
      refine ex_det 46 [45] rfl rfl (fun _ _ _ _ _ _ _ _ => rfl) ?_
      apply Exists.intro
      refine ⟨?_, ?_⟩
      · intro wx bX kX hk1 hk2 hC hb hd K hK
        have e45 := hd 45 _ _ rfl rfl
        try dsimp only at e45
        simp only [execOp, resolve, List.map_toArray, List.map_cons, List.map_nil, e45]
        clear hb hd
        go_simp
        refine (rget_any wx (s.extract 18 s.size) (by simp; omega) (by simp; omega)).mono ?_; rintro e w' ⟨rfl, hX⟩
        rw [q18]
        exact ⟨_, rfl, hK _ (hC.step hX) (.inl hX)⟩
      refine ex_det 47 [46] rfl rfl (fun _ _ _ _ _ _ _ _ => rfl) ?_
      apply Exists.intro
      refine ⟨?_, ?_⟩
      · intro wx bX kX hk1 hk2 hC hb hd K hK
        have e46 := hd 46 _ _ rfl rfl
        try dsimp only at e46
        simp only [execOp, e46]
        clear hb hd
        go_simp
        exact hK _ hC (RY.refl _ _ _)
      refine ex_det 48 [23, 26, 29, 32, 35, 39, 43, 47] rfl rfl (fun _ _ _ _ _ _ _ _ => rfl) ?_
      apply Exists.intro
      refine ⟨?_, ?_⟩
      · intro wx bX kX hk1 hk2 hC hb hd K hK
        have e23 := hd 23 _ _ rfl rfl
        try dsimp only at e23
        have e26 := hd 26 _ _ rfl rfl
        try dsimp only at e26
        have e29 := hd 29 _ _ rfl rfl
        try dsimp only at e29
        have e32 := hd 32 _ _ rfl rfl
        try dsimp only at e32
        have e35 := hd 35 _ _ rfl rfl
        try dsimp only at e35
        have e39 := hd 39 _ _ rfl rfl
        try dsimp only at e39
        have e43 := hd 43 _ _ rfl rfl
        try dsimp only at e43
        have e47 := hd 47 _ _ rfl rfl
        try dsimp only at e47
        simp only [execOp, List.map_toArray, List.map_cons, List.map_nil, e23, e26, e29, e32, e35, e39, e43, e47]
        clear hb hd
        go_simp
        exact hK _ hC (RY.refl _ _ _)
      refine ex_any (fun _ v w => AY zb #[.slice none 0 0, .int .i64 0, .int .i64 0, .int .i64 0, .int .i64 0, .int .i64 0, .int .i64 0, .int .i64 0, .int .i64 0] #[.slice none 0 0, .int .i64 (by_ s 5), .int .i64 (by_ s 6), .int .i64 (by_ s 7), .int .i64 (num4 s 10), .int .i64 (num4 s 14), .int .i64 (by_ s 8), .int .i64 (num4 s 18), .int .i64 (by_ s 9)] v w) 4 [] rfl rfl (fun _ _ _ _ _ _ _ _ => rfl) (fun _ _ => (fun _ _ _ _ h hr => h.step hr)) ?_ ?_
      · intro wx bX kX hk1 hk2 hC hb hd K hK
        simp only [execOp]
        clear hb hd
        go_simp
        exact hK _ _ ⟨_, rfl, hC.sz, .inl (At.new _ _ _)⟩ (hC.alloc0 _) (.inl ((Chg.refl _ _).alloc _))
      refine ex_unit (fun g w => SY zb #[.slice none 0 0, .int .i64 (by_ s 5), .int .i64 (by_ s 6), .int .i64 (by_ s 7), .int .i64 (num4 s 10), .int .i64 (num4 s 14), .int .i64 (by_ s 8), .int .i64 (num4 s 18), .int .i64 (by_ s 9)] (g 4) w) [4, 48] rfl rfl (fun _ _ _ _ _ _ _ _ => rfl) (fun _ _ => (fun _ _ _ h hr => h.step hr)) ?_ ?_
      · intro wx bX kX hk1 hk2 hC hb hd K hK
        have e4 := hd 4 _ _ rfl rfl
        try dsimp only at e4
        have e48 := hd 48 _ _ rfl rfl
        try dsimp only at e48
        obtain ⟨y, wy, hy, hrun, hyb, hAy, hXy⟩ := AY.store e4 25 rfl (by kernel_rfl) (by simp [Value.oneCell'])
        clear e4
        rw [hy] at hrun
        simp only [execOp, hy, e48]
        clear hb hd
        simp only [Sem.run_bind, hrun, Result.andThen_ok, Sem.run_pure, invUpon]
        exact hK _ ⟨y, by simp [exSeen, hy], hyb, hAy⟩ (hC.at_y hXy hyb) (.inr ⟨y, hyb, hAy, hXy⟩)
      refine ex_end ?_
      intro us w2 hus hC hall
      obtain ⟨v0, us, rfl⟩ := List.exists_cons_of_length_eq_add_one hus
      replace hus := Nat.succ.inj hus
      obtain ⟨v1, us, rfl⟩ := List.exists_cons_of_length_eq_add_one hus
      replace hus := Nat.succ.inj hus
      obtain ⟨v2, us, rfl⟩ := List.exists_cons_of_length_eq_add_one hus
      replace hus := Nat.succ.inj hus
      obtain ⟨v3, us, rfl⟩ := List.exists_cons_of_length_eq_add_one hus
      replace hus := Nat.succ.inj hus
      obtain ⟨v4, us, rfl⟩ := List.exists_cons_of_length_eq_add_one hus
      replace hus := Nat.succ.inj hus
      obtain ⟨v5, us, rfl⟩ := List.exists_cons_of_length_eq_add_one hus
      replace hus := Nat.succ.inj hus
      obtain ⟨v6, us, rfl⟩ := List.exists_cons_of_length_eq_add_one hus
      replace hus := Nat.succ.inj hus
      obtain ⟨v7, us, rfl⟩ := List.exists_cons_of_length_eq_add_one hus
      replace hus := Nat.succ.inj hus
      obtain ⟨v8, us, rfl⟩ := List.exists_cons_of_length_eq_add_one hus
      replace hus := Nat.succ.inj hus
      obtain ⟨v9, us, rfl⟩ := List.exists_cons_of_length_eq_add_one hus
      replace hus := Nat.succ.inj hus
      obtain ⟨v10, us, rfl⟩ := List.exists_cons_of_length_eq_add_one hus
      replace hus := Nat.succ.inj hus
      obtain ⟨v11, us, rfl⟩ := List.exists_cons_of_length_eq_add_one hus
      replace hus := Nat.succ.inj hus
      obtain ⟨v12, us, rfl⟩ := List.exists_cons_of_length_eq_add_one hus
      replace hus := Nat.succ.inj hus
      obtain ⟨v13, us, rfl⟩ := List.exists_cons_of_length_eq_add_one hus
      replace hus := Nat.succ.inj hus
      obtain ⟨v14, us, rfl⟩ := List.exists_cons_of_length_eq_add_one hus
      replace hus := Nat.succ.inj hus
      obtain ⟨v15, us, rfl⟩ := List.exists_cons_of_length_eq_add_one hus
      replace hus := Nat.succ.inj hus
      obtain ⟨v16, us, rfl⟩ := List.exists_cons_of_length_eq_add_one hus
      replace hus := Nat.succ.inj hus
      obtain ⟨v17, us, rfl⟩ := List.exists_cons_of_length_eq_add_one hus
      replace hus := Nat.succ.inj hus
      obtain ⟨v18, us, rfl⟩ := List.exists_cons_of_length_eq_add_one hus
      replace hus := Nat.succ.inj hus
      obtain ⟨v19, us, rfl⟩ := List.exists_cons_of_length_eq_add_one hus
      replace hus := Nat.succ.inj hus
      obtain ⟨v20, us, rfl⟩ := List.exists_cons_of_length_eq_add_one hus
      replace hus := Nat.succ.inj hus
      obtain ⟨v21, us, rfl⟩ := List.exists_cons_of_length_eq_add_one hus
      replace hus := Nat.succ.inj hus
      obtain ⟨v22, us, rfl⟩ := List.exists_cons_of_length_eq_add_one hus
      replace hus := Nat.succ.inj hus
      obtain ⟨v23, us, rfl⟩ := List.exists_cons_of_length_eq_add_one hus
      replace hus := Nat.succ.inj hus
      obtain ⟨v24, us, rfl⟩ := List.exists_cons_of_length_eq_add_one hus
      replace hus := Nat.succ.inj hus
      obtain ⟨v25, us, rfl⟩ := List.exists_cons_of_length_eq_add_one hus
      replace hus := Nat.succ.inj hus
      obtain ⟨v26, us, rfl⟩ := List.exists_cons_of_length_eq_add_one hus
      replace hus := Nat.succ.inj hus
      obtain ⟨v27, us, rfl⟩ := List.exists_cons_of_length_eq_add_one hus
      replace hus := Nat.succ.inj hus
      obtain ⟨v28, us, rfl⟩ := List.exists_cons_of_length_eq_add_one hus
      replace hus := Nat.succ.inj hus
      obtain ⟨v29, us, rfl⟩ := List.exists_cons_of_length_eq_add_one hus
      replace hus := Nat.succ.inj hus
      obtain rfl := List.length_eq_zero_iff.1 hus
      clear hus
      generalize hbb : exPuts _ _ _ = bb at hall ⊢
      simp only [exPuts, Act.put, List.setIfInBounds_toArray, List.set_cons_succ, List.set_cons_zero] at hbb
      subst hbb
      obtain ⟨h29, h28, h27, h26, h25, h24, h23, h22, h21, h20, h19, h18, h17, h16, h15, h14, h13, h12, h11, h10, h9, h8, h7, h6, h5, h4, h3, h2, h1, h0, -⟩ := hall
      obtain rfl : v0 = _ := h0
      obtain rfl : v1 = _ := h1
      obtain rfl : v2 = _ := h2
      obtain rfl : v3 = _ := h3
      obtain rfl : v4 = _ := h4
      obtain rfl : v5 = _ := h5
      obtain rfl : v6 = _ := h6
      obtain rfl : v7 = _ := h7
      obtain rfl : v8 = _ := h8
      obtain rfl : v9 = _ := h9
      obtain rfl : v10 = _ := h10
      obtain rfl : v11 = _ := h11
      obtain rfl : v12 = _ := h12
      obtain rfl : v13 = _ := h13
      obtain rfl : v14 = _ := h14
      obtain rfl : v15 = _ := h15
      obtain rfl : v16 = _ := h16
      obtain rfl : v17 = _ := h17
      obtain rfl : v18 = _ := h18
      obtain rfl : v19 = _ := h19
      obtain rfl : v20 = _ := h20
      obtain rfl : v21 = _ := h21
      obtain rfl : v22 = _ := h22
      obtain rfl : v23 = _ := h23
      obtain rfl : v24 = _ := h24
      obtain rfl : v25 = _ := h25
      obtain rfl : v26 = _ := h26
      obtain rfl : v27 = _ := h27
      clear h28
      obtain ⟨y28, hy28, hyb28, hAy28⟩ := h29
      obtain rfl : v28 = _ := hy28
      clear v29
      have C := hC.cons hAy28
      have hne : y28 ≠ z := by omega
      have hzy : z < y28 := by omega
      clear hC hAy28 j5 g5 b5 i5 j6 g6 b6 i6 j7 g7 b7 i7 j8 g8 b8 i8 j9 g9 b9 i9 n10 i10 q10 n14 i14 q14 n18 i18 q18
      generalize y28 = y at *
      have hyb : y < w2.heap.size := (C.get 0 rfl).lt
      obtain ⟨zc, hzc⟩ : ∃ zc, w2.heap.size = zc := ⟨_, rfl⟩
      have hC := C.cb
      rw [hzc] at hC hyb
      clear hzc C
      go_upto_region 6 with fail
      have HP := fun w => phases_any w (by_ s 4).toNat (s.extract 22 s.size) (by omega) (by simp; omega)
      have hsm := fun L t h => phsL_small (by_ s 4).toNat (s.extract 22 s.size) [] L t h (by simp)
      have hbn : ((by_ s 4).toNat : Int) = by_ s 4 := by omega
      rw [hbn] at HP
      generalize hph : phsL (by_ s 4).toNat (s.extract 22 s.size) [] = R at *
      cases R with
      | none =>
        replace HP : Hid (∀ w, Calls Tryz.prog 39 #[.int .i64 (by_ s 4), .string (s.extract 22 s.size)] w fun e w' => Chg [] w w' ∧ ∃ t, e = .returned (.tuple #[.slice none 0 0, .string t, .int .i64 5])) := Lib.hid HP
        have HV := HR2.out
        dsimp only at HV
        replace HV := Lib.hid HV
        clear hsm hph HR2 hbn
        refine wp_region_ex (fun _ => CB W [(y, #[.slice none 0 0, .int .i64 (by_ s 5), .int .i64 (by_ s 6), .int .i64 (by_ s 7), .int .i64 (num4 s 10), .int .i64 (num4 s 14), .int .i64 (by_ s 8), .int .i64 (num4 s 18), .int .i64 (by_ s 9)]), (z, #[.slice none 0 0, .int .i64 0, .int .i64 0, .int .i64 0, .int .i64 0, .int .i64 0, .int .i64 0, .int .i64 0, .int .i64 0])] zc) (fun _ => Chg []) [] [(0, 0, false), (0, 0, false), (0, 0, false), (0, 0, false), (0, 0, false), (0, 0, false), (0, 0, false), (0, 0, false), (0, 0, false), (0, 0, false), (0, 0, false), (0, 0, false), (0, 0, false)] [50, 51, 52, 53, 54, 55, 49, 56, 57, 58, 5, 6, 3] (by kernel_rfl) rfl (by kernel_rfl) (by kernel_rfl) (hC.drew) ?_
        simp only [List.zip_cons_cons, List.zip_nil_right]
        refine ex_det 50 [0] rfl rfl (fun _ _ _ _ _ _ _ _ => rfl) ?_
        apply Exists.intro
        refine ⟨?_, ?_⟩
        · intro wx bX kX hk1 hk2 hC hb hd K hK
          have e0 := hb 0 rfl
          simp only [exSlot, List.getD_cons_succ, List.getD_cons_zero] at e0
          simp only [execOp, e0]
          clear hb hd
          go_simp
          exact hK _ hC (Chg.refl _ _)
        refine ex_det 51 [50] rfl rfl (fun _ _ _ _ _ _ _ _ => rfl) ?_
        apply Exists.intro
        refine ⟨?_, ?_⟩
        · intro wx bX kX hk1 hk2 hC hb hd K hK
          have e50 := hd 50 _ _ rfl rfl
          try dsimp only at e50
          simp only [execOp, e50]
          clear hb hd
          go_simp
          exact hK _ hC (Chg.refl _ _)
        refine ex_det 52 [51] rfl rfl (fun _ _ _ _ _ _ _ _ => rfl) ?_
        apply Exists.intro
        refine ⟨?_, ?_⟩
        · intro wx bX kX hk1 hk2 hC hb hd K hK
          have e51 := hd 51 _ _ rfl rfl
          try dsimp only at e51
          simp only [execOp, e51]
          clear hb hd
          go_simp
          exact hK _ hC (Chg.refl _ _)
        refine ex_det 53 [0] rfl rfl (fun _ _ _ _ _ _ _ _ => rfl) ?_
        apply Exists.intro
        refine ⟨?_, ?_⟩
        · intro wx bX kX hk1 hk2 hC hb hd K hK
          have e0 := hb 0 rfl
          simp only [exSlot, List.getD_cons_succ, List.getD_cons_zero] at e0
          simp only [execOp, e0]
          clear hb hd
          go_simp
          exact hK _ hC (Chg.refl _ _)
        refine ex_det 54 [53] rfl rfl (fun _ _ _ _ _ _ _ _ => rfl) ?_
        apply Exists.intro
        refine ⟨?_, ?_⟩
        · intro wx bX kX hk1 hk2 hC hb hd K hK
          have e53 := hd 53 _ _ rfl rfl
          try dsimp only at e53
          have sq := slice_from wx s (i := 22) (a := 22) rfl (by omega)
          simp only [execOp, Option.map_some, Option.map_none, e53]
          clear hb hd
          go_simp
          exact hK _ hC (Chg.refl _ _)
        refine ex_any (fun _ v w => ∃ t, v = .tuple #[.slice none 0 0, .string t, .int .i64 5]) 55 [52, 54] rfl rfl (fun _ _ _ _ _ _ _ _ => rfl) (fun _ _ => (fun _ v w w' h hr => h)) ?_ ?_
        · intro wx bX kX hk1 hk2 hC hb hd K hK
          have e52 := hd 52 _ _ rfl rfl
          try dsimp only at e52
          have e54 := hd 54 _ _ rfl rfl
          try dsimp only at e54
          simp only [execOp, resolve, List.map_toArray, List.map_cons, List.map_nil, e52, e54]
          clear hb hd
          go_simp
          refine (HP.out wx).mono ?_; rintro e w' ⟨hX, t, rfl⟩
          exact ⟨_, rfl, hK _ _ ⟨t, rfl⟩ (hC.step hX) hX⟩
        refine ex_any (fun _ v w => ∃ t, v = .tuple #[.slice none 0 0, .string t, .int .i64 5]) 49 [55] rfl rfl (fun _ _ _ _ _ _ _ _ => rfl) (fun _ _ => (fun _ v w w' h hr => h)) ?_ ?_
        · intro wx bX kX hk1 hk2 hC hb hd K hK
          have e55 := hd 55 _ _ rfl rfl
          try dsimp only at e55
          obtain ⟨t55, e55⟩ := e55
          simp only [execOp, e55]
          clear hb hd
          go_simp
          exact hK _ _ ⟨_, rfl⟩ hC (Chg.refl _ _)
        refine ex_det 56 [49] rfl rfl (fun _ _ _ _ _ _ _ _ => rfl) ?_
        apply Exists.intro
        refine ⟨?_, ?_⟩
        · intro wx bX kX hk1 hk2 hC hb hd K hK
          have e49 := hd 49 _ _ rfl rfl
          try dsimp only at e49
          obtain ⟨t49, e49⟩ := e49
          simp only [execOp, e49]
          clear hb hd
          go_simp
          exact hK _ hC (Chg.refl _ _)
        refine ex_any (fun _ v w => ∃ t, v = .string t) 57 [49] rfl rfl (fun _ _ _ _ _ _ _ _ => rfl) (fun _ _ => (fun _ v w w' h hr => h)) ?_ ?_
        · intro wx bX kX hk1 hk2 hC hb hd K hK
          have e49 := hd 49 _ _ rfl rfl
          try dsimp only at e49
          obtain ⟨t49, e49⟩ := e49
          simp only [execOp, e49]
          clear hb hd
          go_simp
          exact hK _ _ ⟨_, rfl⟩ hC (Chg.refl _ _)
        refine ex_det 58 [49] rfl rfl (fun _ _ _ _ _ _ _ _ => rfl) ?_
        apply Exists.intro
        refine ⟨?_, ?_⟩
        · intro wx bX kX hk1 hk2 hC hb hd K hK
          have e49 := hd 49 _ _ rfl rfl
          try dsimp only at e49
          obtain ⟨t49, e49⟩ := e49
          simp only [execOp, e49]
          clear hb hd
          go_simp
          exact hK _ hC (Chg.refl _ _)
        refine ex_det 5 [56] rfl rfl (fun _ _ _ _ _ _ _ _ => rfl) ?_
        apply Exists.intro
        refine ⟨?_, ?_⟩
        · intro wx bX kX hk1 hk2 hC hb hd K hK
          have e56 := hd 56 _ _ rfl rfl
          try dsimp only at e56
          simp only [execOp, e56]
          clear hb hd
          go_simp
          exact hK _ hC (Chg.refl _ _)
        refine ex_any (fun _ v w => ∃ t, v = .string t) 6 [57] rfl rfl (fun _ _ _ _ _ _ _ _ => rfl) (fun _ _ => (fun _ v w w' h hr => h)) ?_ ?_
        · intro wx bX kX hk1 hk2 hC hb hd K hK
          have e57 := hd 57 _ _ rfl rfl
          try dsimp only at e57
          obtain ⟨t57, e57⟩ := e57
          simp only [execOp, e57]
          clear hb hd
          go_simp
          exact hK _ _ ⟨_, rfl⟩ hC (Chg.refl _ _)
        refine ex_det 3 [58] rfl rfl (fun _ _ _ _ _ _ _ _ => rfl) ?_
        apply Exists.intro
        refine ⟨?_, ?_⟩
        · intro wx bX kX hk1 hk2 hC hb hd K hK
          have e58 := hd 58 _ _ rfl rfl
          try dsimp only at e58
          simp only [execOp, e58]
          clear hb hd
          go_simp
          exact hK _ hC (Chg.refl _ _)
        refine ex_end ?_
        intro us w2 hus hC hall
        obtain ⟨v0, us, rfl⟩ := List.exists_cons_of_length_eq_add_one hus
        replace hus := Nat.succ.inj hus
        obtain ⟨v1, us, rfl⟩ := List.exists_cons_of_length_eq_add_one hus
        replace hus := Nat.succ.inj hus
        obtain ⟨v2, us, rfl⟩ := List.exists_cons_of_length_eq_add_one hus
        replace hus := Nat.succ.inj hus
        obtain ⟨v3, us, rfl⟩ := List.exists_cons_of_length_eq_add_one hus
        replace hus := Nat.succ.inj hus
        obtain ⟨v4, us, rfl⟩ := List.exists_cons_of_length_eq_add_one hus
        replace hus := Nat.succ.inj hus
        obtain ⟨v5, us, rfl⟩ := List.exists_cons_of_length_eq_add_one hus
        replace hus := Nat.succ.inj hus
        obtain ⟨v6, us, rfl⟩ := List.exists_cons_of_length_eq_add_one hus
        replace hus := Nat.succ.inj hus
        obtain ⟨v7, us, rfl⟩ := List.exists_cons_of_length_eq_add_one hus
        replace hus := Nat.succ.inj hus
        obtain ⟨v8, us, rfl⟩ := List.exists_cons_of_length_eq_add_one hus
        replace hus := Nat.succ.inj hus
        obtain ⟨v9, us, rfl⟩ := List.exists_cons_of_length_eq_add_one hus
        replace hus := Nat.succ.inj hus
        obtain ⟨v10, us, rfl⟩ := List.exists_cons_of_length_eq_add_one hus
        replace hus := Nat.succ.inj hus
        obtain ⟨v11, us, rfl⟩ := List.exists_cons_of_length_eq_add_one hus
        replace hus := Nat.succ.inj hus
        obtain ⟨v12, us, rfl⟩ := List.exists_cons_of_length_eq_add_one hus
        replace hus := Nat.succ.inj hus
        obtain rfl := List.length_eq_zero_iff.1 hus
        clear hus
        generalize hbb : exPuts _ _ _ = bb at hall ⊢
        simp only [exPuts, Act.put, List.setIfInBounds_toArray, List.set_cons_succ, List.set_cons_zero] at hbb
        subst hbb
        obtain ⟨h12, h11, h10, h9, h8, h7, h6, h5, h4, h3, h2, h1, h0, -⟩ := hall
        obtain rfl : v0 = _ := h0
        obtain rfl : v1 = _ := h1
        obtain rfl : v2 = _ := h2
        obtain rfl : v3 = _ := h3
        obtain rfl : v4 = _ := h4
        obtain ⟨t55, e55⟩ := h5
        obtain rfl : v5 = _ := e55
        obtain ⟨t49, e49⟩ := h6
        obtain rfl : v6 = _ := e49
        obtain rfl : v7 = _ := h7
        obtain ⟨t57, e57⟩ := h8
        obtain rfl : v8 = _ := e57
        obtain rfl : v9 = _ := h9
        obtain rfl : v10 = _ := h10
        obtain ⟨t6, e6⟩ := h11
        obtain rfl : v11 = _ := e6
        obtain rfl : v12 = _ := h12
        clear j4 g4 b4 i4
        skip
        go_upto_region 8 with fail
        have hz := hC.get 1 rfl
        dsimp only at hz
        go_wp2_with (first | (refine wpList_get rfl rfl rfl hz (by kernel_rfl) ?_) | (refine wpList_put rfl rfl rfl rfl hz rfl (by kernel_rfl) (by simp [Value.oneCell']) ?_; intro w5 hA5 hX5; refine Hid.out ?_))
        refine Lib.hid ?_
        go_wp2_with (with_reducible refine hold_post ?_)
        refine Lib.hid ?_
        exact bodyPost_ret (res_ct rfl hA5 (by kernel_rfl) rfl) rfl ⟨.slice none 0 0, by rw [HV.out]; rfl, by intro S wq hS hq; rw [HV.out]; exact nil_phs _, hC.x.then hX5 (fun x hx hl => by simp at hx; omega)⟩
      | some LT =>
        obtain ⟨L, t⟩ := LT
        obtain ⟨hs1, hs2⟩ := hsm L t rfl
        replace hs2 : L.length ≤ 255 := by simp only [List.length_nil, Nat.zero_add] at hs2; omega
        replace HP : Hid (∀ w, Calls Tryz.prog 39 #[.int .i64 (by_ s 4), .string (s.extract 22 s.size)] w fun e w' => Chg [] w w' ∧ ∃ v, e = .returned (.tuple #[v, .string t, .int .i64 0]) ∧ PhsB w' w.heap.size v L ∧ t.size ≤ 1000000) := Lib.hid HP
        have HR3 := HR2.out
        dsimp only at HR3
        replace HR3 := Lib.hid HR3
        clear hsm hph HR2 hbn
        replace hs1 := Lib.hid hs1
        replace hs2 := Lib.hid hs2
        refine wp_region_ex (fun _ => CB W [(y, #[.slice none 0 0, .int .i64 (by_ s 5), .int .i64 (by_ s 6), .int .i64 (by_ s 7), .int .i64 (num4 s 10), .int .i64 (num4 s 14), .int .i64 (by_ s 8), .int .i64 (num4 s 18), .int .i64 (by_ s 9)]), (z, #[.slice none 0 0, .int .i64 0, .int .i64 0, .int .i64 0, .int .i64 0, .int .i64 0, .int .i64 0, .int .i64 0, .int .i64 0])] zc) (fun _ => Chg []) [] [(0, 0, false), (0, 0, false), (0, 0, false), (0, 0, false), (0, 0, false), (0, 0, false), (0, 0, false), (0, 0, false), (0, 0, false), (0, 0, false), (0, 0, false), (0, 0, false), (0, 0, false)] [50, 51, 52, 53, 54, 55, 49, 56, 57, 58, 5, 6, 3] (by kernel_rfl) rfl (by kernel_rfl) (by kernel_rfl) (hC.drew) ?_
        simp only [List.zip_cons_cons, List.zip_nil_right]
        refine ex_det 50 [0] rfl rfl (fun _ _ _ _ _ _ _ _ => rfl) ?_
        apply Exists.intro
        refine ⟨?_, ?_⟩
        · intro wx bX kX hk1 hk2 hC hb hd K hK
          have e0 := hb 0 rfl
          simp only [exSlot, List.getD_cons_succ, List.getD_cons_zero] at e0
          simp only [execOp, e0]
          clear hb hd
          go_simp
          exact hK _ hC (Chg.refl _ _)
        refine ex_det 51 [50] rfl rfl (fun _ _ _ _ _ _ _ _ => rfl) ?_
        apply Exists.intro
        refine ⟨?_, ?_⟩
        · intro wx bX kX hk1 hk2 hC hb hd K hK
          have e50 := hd 50 _ _ rfl rfl
          try dsimp only at e50
          simp only [execOp, e50]
          clear hb hd
          go_simp
          exact hK _ hC (Chg.refl _ _)
        refine ex_det 52 [51] rfl rfl (fun _ _ _ _ _ _ _ _ => rfl) ?_
        apply Exists.intro
        refine ⟨?_, ?_⟩
        · intro wx bX kX hk1 hk2 hC hb hd K hK
          have e51 := hd 51 _ _ rfl rfl
          try dsimp only at e51
          simp only [execOp, e51]
          clear hb hd
          go_simp
          exact hK _ hC (Chg.refl _ _)
        refine ex_det 53 [0] rfl rfl (fun _ _ _ _ _ _ _ _ => rfl) ?_
        apply Exists.intro
        refine ⟨?_, ?_⟩
        · intro wx bX kX hk1 hk2 hC hb hd K hK
          have e0 := hb 0 rfl
          simp only [exSlot, List.getD_cons_succ, List.getD_cons_zero] at e0
          simp only [execOp, e0]
          clear hb hd
          go_simp
          exact hK _ hC (Chg.refl _ _)
        refine ex_det 54 [53] rfl rfl (fun _ _ _ _ _ _ _ _ => rfl) ?_
        apply Exists.intro
        refine ⟨?_, ?_⟩
        · intro wx bX kX hk1 hk2 hC hb hd K hK
          have e53 := hd 53 _ _ rfl rfl
          try dsimp only at e53
          have sq := slice_from wx s (i := 22) (a := 22) rfl (by omega)
          simp only [execOp, Option.map_some, Option.map_none, e53]
          clear hb hd
          go_simp
          exact hK _ hC (Chg.refl _ _)
        refine ex_any (fun _ v w => ∃ a, v = .tuple #[a, .string t, .int .i64 0] ∧ PhsB w zc a L) 55 [52, 54] rfl rfl (fun _ _ _ _ _ _ _ _ => rfl) (fun _ _ => (fun _ v w w' ⟨a, h1, h2⟩ hr => ⟨a, h1, h2.keep hr (by simp)⟩)) ?_ ?_
        · intro wx bX kX hk1 hk2 hC hb hd K hK
          have e52 := hd 52 _ _ rfl rfl
          try dsimp only at e52
          have e54 := hd 54 _ _ rfl rfl
          try dsimp only at e54
          simp only [execOp, resolve, List.map_toArray, List.map_cons, List.map_nil, e52, e54]
          clear hb hd
          go_simp
          refine (HP.out wx).mono ?_; rintro e w' ⟨hX, a, rfl, hp, ht⟩
          exact ⟨_, rfl, hK _ _ ⟨a, rfl, hp.mono hC.sz⟩ (hC.step hX) hX⟩
        refine ex_any (fun _ v w => ∃ a, v = .tuple #[a, .string t, .int .i64 0] ∧ PhsB w zc a L) 49 [55] rfl rfl (fun _ _ _ _ _ _ _ _ => rfl) (fun _ _ => (fun _ v w w' ⟨a, h1, h2⟩ hr => ⟨a, h1, h2.keep hr (by simp)⟩)) ?_ ?_
        · intro wx bX kX hk1 hk2 hC hb hd K hK
          have e55 := hd 55 _ _ rfl rfl
          try dsimp only at e55
          obtain ⟨a55, e55, K55⟩ := e55
          simp only [execOp, e55]
          clear hb hd
          go_simp
          exact hK _ _ ⟨_, rfl, K55⟩ hC (Chg.refl _ _)
        refine ex_any (fun _ v w => ∃ a, v = a ∧ PhsB w zc a L) 56 [49] rfl rfl (fun _ _ _ _ _ _ _ _ => rfl) (fun _ _ => (fun _ v w w' ⟨a, h1, h2⟩ hr => ⟨a, h1, h2.keep hr (by simp)⟩)) ?_ ?_
        · intro wx bX kX hk1 hk2 hC hb hd K hK
          have e49 := hd 49 _ _ rfl rfl
          try dsimp only at e49
          obtain ⟨a49, e49, K49⟩ := e49
          simp only [execOp, e49]
          clear hb hd
          go_simp
          exact hK _ _ ⟨_, rfl, K49⟩ hC (Chg.refl _ _)
        refine ex_det 57 [49] rfl rfl (fun _ _ _ _ _ _ _ _ => rfl) ?_
        apply Exists.intro
        refine ⟨?_, ?_⟩
        · intro wx bX kX hk1 hk2 hC hb hd K hK
          have e49 := hd 49 _ _ rfl rfl
          try dsimp only at e49
          obtain ⟨a49, e49, K49⟩ := e49
          simp only [execOp, e49]
          clear hb hd
          go_simp
          exact hK _ hC (Chg.refl _ _)
        refine ex_det 58 [49] rfl rfl (fun _ _ _ _ _ _ _ _ => rfl) ?_
        apply Exists.intro
        refine ⟨?_, ?_⟩
        · intro wx bX kX hk1 hk2 hC hb hd K hK
          have e49 := hd 49 _ _ rfl rfl
          try dsimp only at e49
          obtain ⟨a49, e49, K49⟩ := e49
          simp only [execOp, e49]
          clear hb hd
          go_simp
          exact hK _ hC (Chg.refl _ _)
        refine ex_any (fun _ v w => ∃ a, v = a ∧ PhsB w zc a L) 5 [56] rfl rfl (fun _ _ _ _ _ _ _ _ => rfl) (fun _ _ => (fun _ v w w' ⟨a, h1, h2⟩ hr => ⟨a, h1, h2.keep hr (by simp)⟩)) ?_ ?_
        · intro wx bX kX hk1 hk2 hC hb hd K hK
          have e56 := hd 56 _ _ rfl rfl
          try dsimp only at e56
          obtain ⟨a56, e56, K56⟩ := e56
          simp only [execOp, e56]
          clear hb hd
          go_simp
          exact hK _ _ ⟨_, rfl, K56⟩ hC (Chg.refl _ _)
        refine ex_det 6 [57] rfl rfl (fun _ _ _ _ _ _ _ _ => rfl) ?_
        apply Exists.intro
        refine ⟨?_, ?_⟩
        · intro wx bX kX hk1 hk2 hC hb hd K hK
          have e57 := hd 57 _ _ rfl rfl
          try dsimp only at e57
          simp only [execOp, e57]
          clear hb hd
          go_simp
          exact hK _ hC (Chg.refl _ _)
        refine ex_det 3 [58] rfl rfl (fun _ _ _ _ _ _ _ _ => rfl) ?_
        apply Exists.intro
        refine ⟨?_, ?_⟩
        · intro wx bX kX hk1 hk2 hC hb hd K hK
          have e58 := hd 58 _ _ rfl rfl
          try dsimp only at e58
          simp only [execOp, e58]
          clear hb hd
          go_simp
          exact hK _ hC (Chg.refl _ _)
        refine ex_end ?_
        intro us w2 hus hC hall
        obtain ⟨v0, us, rfl⟩ := List.exists_cons_of_length_eq_add_one hus
        replace hus := Nat.succ.inj hus
        obtain ⟨v1, us, rfl⟩ := List.exists_cons_of_length_eq_add_one hus
        replace hus := Nat.succ.inj hus
        obtain ⟨v2, us, rfl⟩ := List.exists_cons_of_length_eq_add_one hus
        replace hus := Nat.succ.inj hus
        obtain ⟨v3, us, rfl⟩ := List.exists_cons_of_length_eq_add_one hus
        replace hus := Nat.succ.inj hus
        obtain ⟨v4, us, rfl⟩ := List.exists_cons_of_length_eq_add_one hus
        replace hus := Nat.succ.inj hus
        obtain ⟨v5, us, rfl⟩ := List.exists_cons_of_length_eq_add_one hus
        replace hus := Nat.succ.inj hus
        obtain ⟨v6, us, rfl⟩ := List.exists_cons_of_length_eq_add_one hus
        replace hus := Nat.succ.inj hus
        obtain ⟨v7, us, rfl⟩ := List.exists_cons_of_length_eq_add_one hus
        replace hus := Nat.succ.inj hus
        obtain ⟨v8, us, rfl⟩ := List.exists_cons_of_length_eq_add_one hus
        replace hus := Nat.succ.inj hus
        obtain ⟨v9, us, rfl⟩ := List.exists_cons_of_length_eq_add_one hus
        replace hus := Nat.succ.inj hus
        obtain ⟨v10, us, rfl⟩ := List.exists_cons_of_length_eq_add_one hus
        replace hus := Nat.succ.inj hus
        obtain ⟨v11, us, rfl⟩ := List.exists_cons_of_length_eq_add_one hus
        replace hus := Nat.succ.inj hus
        obtain ⟨v12, us, rfl⟩ := List.exists_cons_of_length_eq_add_one hus
        replace hus := Nat.succ.inj hus
        obtain rfl := List.length_eq_zero_iff.1 hus
        clear hus
        generalize hbb : exPuts _ _ _ = bb at hall ⊢
        simp only [exPuts, Act.put, List.setIfInBounds_toArray, List.set_cons_succ, List.set_cons_zero] at hbb
        subst hbb
        obtain ⟨h12, h11, h10, h9, h8, h7, h6, h5, h4, h3, h2, h1, h0, -⟩ := hall
        obtain rfl : v0 = _ := h0
        obtain rfl : v1 = _ := h1
        obtain rfl : v2 = _ := h2
        obtain rfl : v3 = _ := h3
        obtain rfl : v4 = _ := h4
        obtain ⟨a55, e55, K55⟩ := h5
        obtain rfl : v5 = _ := e55
        obtain ⟨a49, e49, K49⟩ := h6
        obtain rfl : v6 = _ := e49
        obtain ⟨a56, e56, K56⟩ := h7
        obtain rfl : v7 = _ := e56
        obtain rfl : v8 = _ := h8
        obtain rfl : v9 = _ := h9
        obtain ⟨va, e5, hP⟩ := h10
        obtain rfl : v10 = _ := e5
        obtain rfl : v11 = _ := h11
        obtain rfl : v12 = _ := h12
        clear j4 g4 b4 i4 K55 K49 K56
        by_cases ht4 : t.size < 4
        · have HV := HR3.out
          rw [if_pos ht4] at HV
          replace HV := Lib.hid HV
          have hg : (t.size : Int) < 4 := by omega
          clear ht4
          go_upto_region 10 with fail
          have hz := hC.get 1 rfl
          dsimp only at hz
          go_wp2_with (first | (refine wpList_get rfl rfl rfl hz (by kernel_rfl) ?_) | (refine wpList_put rfl rfl rfl rfl hz rfl (by kernel_rfl) (by simp [Value.oneCell']) ?_; intro w5 hA5 hX5; refine Hid.out ?_))
          refine Lib.hid ?_
          go_wp2_with (with_reducible refine hold_post ?_)
          refine Lib.hid ?_
          exact bodyPost_ret (res_ct rfl hA5 (by kernel_rfl) rfl) rfl ⟨.slice none 0 0, by rw [HV.out]; rfl, by intro S wq hS hq; rw [HV.out]; exact nil_phs _, hC.x.then hX5 (fun x hx hl => by simp at hx; omega)⟩
        · have HR4 := HR3.out
          rw [if_neg ht4] at HR4
          have hg : ¬((t.size : Int) < 4) := by omega
          replace HR4 := Lib.hid HR4
          by_cases ht5 : 4 < t.size
          · have HV := HR4.out
            rw [if_pos ht5] at HV
            replace HV := Lib.hid HV
            have hg5 : (4 : Int) < (t.size : Int) := by omega
            clear ht4 ht5 HR3 HR4
            go_upto_region 12 with fail
            have hz := hC.get 1 rfl
            dsimp only at hz
            go_wp2_with (first | (refine wpList_get rfl rfl rfl hz (by kernel_rfl) ?_) | (refine wpList_put rfl rfl rfl rfl hz rfl (by kernel_rfl) (by simp [Value.oneCell']) ?_; intro w5 hA5 hX5; refine Hid.out ?_))
            refine Lib.hid ?_
            go_wp2_with (with_reducible refine hold_post ?_)
            refine Lib.hid ?_
            exact bodyPost_ret (res_ct rfl hA5 (by kernel_rfl) rfl) rfl ⟨.slice none 0 0, by rw [HV.out]; rfl, by intro S wq hS hq; rw [HV.out]; exact nil_phs _, hC.x.then hX5 (fun x hx hl => by simp at hx; omega)⟩
          · have HR5 := HR4.out
            rw [if_neg ht5] at HR5
            have hg5 : ¬((4 : Int) < (t.size : Int)) := by omega
            replace HR5 := Lib.hid HR5
            replace ht4 := Lib.hid (show 4 ≤ t.size by omega)
            clear ht5 HR3 HR4
            have HS := fun w => sum32_any w (s.extract 0 (s.size - 4)) (by simp; unfold maxLen; omega)
            have HG := fun w => rget_any w t ht4.out (by have := ht4.out; omega)
            have sq := fun w => slice_to w s (j := (s.size : Int) - 4) (b := s.size - 4) (by omega) (by omega)
            have hwr : IntKind.i64.wrap ((s.size : Int) - 4) = (s.size : Int) - 4 := i64_in _ (by omega) (by omega)
            generalize s.extract 0 (s.size - 4) = s1 at *
            generalize hx1 : ((sum32 s1).toNat : Int) = x1 at *
            generalize num4 t 0 = x2 at *
            clear hx1
            replace HS := Lib.hid HS
            replace HG := Lib.hid HG
            skip
            have sq2 := sq w2
            go_wp2_with fail
            refine (HS.out _).mono ?_; rintro e w4 ⟨rfl, hX4⟩
            replace hC := hC.step hX4
            replace hP := hP.keep hX4 (by simp)
            clear sq2 sq
            go_wp2_with fail
            refine (HG.out _).mono ?_; rintro e w5 ⟨rfl, hX5⟩
            replace hC := hC.step hX5
            replace hP := hP.keep hX5 (by simp)
            by_cases hx : x1 = x2
            · subst hx
              have HR6 := HR5.out
              rw [if_neg (fun h => h rfl)] at HR6
              replace HR6 := Lib.hid HR6
              clear HR5 HS HG
              have hlen := hP.toA.len_
              obtain ⟨ad, cap, rfl⟩ := hlen
              have hy := hC.get 0 rfl
              dsimp only at hy
              have hy0 := hy.cell 0; have hf0 := hy.frozen 0
              have hyA := hy.set 0 (.slice ad L.length cap) rfl
              simp only [List.setIfInBounds_toArray, List.set_cons_zero] at hyA
              have hXy : Chg [y] w5 (w5.setCell ⟨y, 0, none⟩ (.slice ad L.length cap)) := (Chg.refl [y] w5).setCell (.inl (by simp)) _
              go_upto_region 16 with fail
              have hsl : ∀ b ∈ [y, z], SlAt w5 b := sl2 hy (hC.get 1 rfl) rfl rfl
              have hC6 : CL W [(y, #[.slice ad L.length cap, .int .i64 (by_ s 5), .int .i64 (by_ s 6), .int .i64 (by_ s 7), .int .i64 (num4 s 10), .int .i64 (num4 s 14), .int .i64 (by_ s 8), .int .i64 (num4 s 18), .int .i64 (by_ s 9)]), (z, #[.slice none 0 0, .int .i64 0, .int .i64 0, .int .i64 0, .int .i64 0, .int .i64 0, .int .i64 0, .int .i64 0, .int .i64 0])] 0 _ := hC.c.upd hXy hyA (Nat.le_trans hzW (Nat.le_of_lt hzy)) _ (by intro p hp; simp only [List.mem_cons, List.not_mem_nil, or_false] at hp; rcases hp with rfl | rfl; exact .inl rfl; exact .inr ⟨by simp, by simp; omega⟩)
              generalize w5.setCell ⟨y, 0, none⟩ (.slice ad L.length cap) = w6 at *
              clear hyA hy0 hf0
              have hPR : PhsR w6 (.slice ad L.length cap) L := (hP.keep hXy (by simp; omega)).phs (by have := hs2.out; omega) (fun p hp => by have := hs1.out p hp; omega)
              have HRR := rulesright_any w6 (.slice ad L.length cap) (headRu s L) hPR
              have hy := hC6.get 0 rfl
              dsimp only at hy
              have Hcs := Lib.hid (show (headRu s L).cells (.slice ad L.length cap) = #[.slice ad L.length cap, .int .i64 (by_ s 5), .int .i64 (by_ s 6), .int .i64 (by_ s 7), .int .i64 (num4 s 10), .int .i64 (num4 s 14), .int .i64 (by_ s 8), .int .i64 (num4 s 18), .int .i64 (by_ s 9)] from rfl)
              replace HRR : Calls Tryz.prog 40 #[.agg #[.slice ad L.length cap, .int .i64 (by_ s 5), .int .i64 (by_ s 6), .int .i64 (by_ s 7), .int .i64 (num4 s 10), .int .i64 (num4 s 14), .int .i64 (by_ s 8), .int .i64 (num4 s 18), .int .i64 (by_ s 9)]] w6 fun e w' => e = .returned (.bool (wrongN (headRu s L) == 0)) ∧ Chg [] w6 w' := HRR
              generalize hwr2 : wrongN (headRu s L) = wn at *
              have Hph : Hid ((headRu s L).phs = L) := Lib.hid rfl
              generalize headRu s L = hr at *
              skip
              go_wp2_with (refine wpList_get rfl rfl rfl hy (by kernel_rfl) ?_)
              refine HRR.mono ?_; rintro e w7 ⟨rfl, hX7⟩
              replace hC6 := hC6.step (j := 0) hX7
              clear hy
              have hy := hC6.get 0 rfl
              have hz := hC6.get 1 rfl
              dsimp only at hy hz
              by_cases hw0 : wn = 0
              · have HV := HR6.out
                rw [if_pos hw0] at HV
                replace HV := Lib.hid HV
                have hb0 : (wn == 0) = true := by rw [hw0]; rfl
                clear hw0 HR6
                go_upto_region 18 with fail
                refine wp_region_lit ?_
                refine wpList_get rfl rfl rfl hy (by kernel_rfl) ?_
                refine wpList_put rfl rfl rfl rfl hz rfl (by kernel_rfl) (by simp [Value.oneCell']) ?_
                intro w8 hz8 hX8
                go_wp2_with (with_reducible refine hold_post ?_)
                refine Lib.hid ?_
                have hX58 : Chg [y, z] w5 w8 := ((hXy.trans (hX7.mono (by simp))).mono (by simp)).trans (hX8.mono (by simp))
                exact bodyPost_ret (res_ct rfl hz8 (by kernel_rfl) rfl) rfl ⟨.slice ad L.length cap, by rw [HV.out]; show _ = Ending.returned (.tuple #[.agg (hr.cells _), .int .i64 0]); rw [Hcs.out]; rfl, by intro S wq hS hq; rw [HV.out, Hph.out]; exact ((hP.keep hX58 (by simp; omega)).keep hq (fun b hb => by have := hS b hb; omega)).phs (by have := hs2.out; omega) (fun p hp => by have := hs1.out p hp; omega), hC6.x.then hX8 (fun x hx hl => by simp at hx; omega)⟩
              · have HV := HR6.out
                rw [if_neg hw0] at HV
                replace HV := Lib.hid HV
                have hb0 : (wn == 0) = false := by simpa using hw0
                clear hw0 HR6
                go_upto_region 17 with fail
                have hz := hC6.get 1 rfl
                dsimp only at hz
                go_wp2_with (first | (refine wpList_get rfl rfl rfl hz (by kernel_rfl) ?_) | (refine wpList_put rfl rfl rfl rfl hz rfl (by kernel_rfl) (by simp [Value.oneCell']) ?_; intro w5 hA5 hX5; refine Hid.out ?_))
                refine Lib.hid ?_
                go_wp2_with (with_reducible refine hold_post ?_)
                refine Lib.hid ?_
                exact bodyPost_ret (res_ct rfl hA5 (by kernel_rfl) rfl) rfl ⟨.slice none 0 0, by rw [HV.out]; rfl, by intro S wq hS hq; rw [HV.out]; exact nil_phs _, hC6.x.then hX5 (fun x hx hl => by simp at hx; omega)⟩
            · have HV := HR5.out
              rw [if_pos hx] at HV
              replace HV := Lib.hid HV
              clear HR5 HS HG
              go_upto_region 14 with fail
              have hz := hC.get 1 rfl
              dsimp only at hz
              go_wp2_with (first | (refine wpList_get rfl rfl rfl hz (by kernel_rfl) ?_) | (refine wpList_put rfl rfl rfl rfl hz rfl (by kernel_rfl) (by simp [Value.oneCell']) ?_; intro w5 hA5 hX5; refine Hid.out ?_))
              refine Lib.hid ?_
              go_wp2_with (with_reducible refine hold_post ?_)
              refine Lib.hid ?_
              exact bodyPost_ret (res_ct rfl hA5 (by kernel_rfl) rfl) rfl ⟨.slice none 0 0, by rw [HV.out]; rfl, by intro S wq hS hq; rw [HV.out]; exact nil_phs _, hC.x.then hX5 (fun x hx hl => by simp at hx; omega)⟩
end Go.Proofs.YtpfglmlpodjneaaGreat
