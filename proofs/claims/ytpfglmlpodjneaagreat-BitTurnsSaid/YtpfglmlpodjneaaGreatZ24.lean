/- Rpr. -/
import Derived.Test.YtpfglmlpodjneaaGreatZ14
import Derived.Test.YtpfglmlpodjneaaGreatZ16
import Derived.Test.YtpfglmlpodjneaaGreatZ23
set_option linter.unusedSimpArgs false
set_option linter.unusedVariables false
namespace Go.Proofs.YtpfglmlpodjneaaGreat
open Go.RowKit

theorem conv2_at {w : World} {b : Nat} {x y : Int} (h : At w b #[.int .u8 x, .int .u8 y]) : (convert 37 9 (.slice (some ⟨b, 0, none⟩) 2 2)).run Tryz.prog w = .ok (.string (strOfNums [x, y])) w := by
  refine run_convert_bytes_arg w 37 5 und_bytes und_u8 b 0 2 2 [x, y] rfl (fun i hi => ?_) 9 und_str
  rw [Nat.zero_add, h.cell i]
  match i, hi with
  | 0, _ | 1, _ => rfl
  | n + 2, hi => omega
theorem conv6_at {w : World} {b : Nat} {x y z u v t : Int} (h : At w b #[.int .u8 x, .int .u8 y, .int .u8 z, .int .u8 u, .int .u8 v, .int .u8 t]) : (convert 37 9 (.slice (some ⟨b, 0, none⟩) 6 6)).run Tryz.prog w = .ok (.string (strOfNums [x, y, z, u, v, t])) w := by
  refine run_convert_bytes_arg w 37 5 und_bytes und_u8 b 0 6 6 [x, y, z, u, v, t] rfl (fun i hi => ?_) 9 und_str
  rw [Nat.zero_add, h.cell i]
  match i, hi with
  | 0, _ | 1, _ | 2, _ | 3, _ | 4, _ | 5, _ => rfl
  | n + 6, hi => omega
set_option maxRecDepth 100000 in
set_option maxHeartbeats 4000000 in
theorem qprint_any (W : World) (va : Value) (r : RuV) (h : PhsR W va r.phs) (h1 : r.phs.length ≤ 255) (h2 : ∀ p ∈ r.phs, p.area.length ≤ 255) : Calls Tryz.prog 17 #[.agg (r.cells va)] W fun e w' => e = .returned (.string (printV r)) ∧ Chg [] W w' := by
  have hbl := Lib.hid (bodyL_len r h1 h2)
  have Hp := Lib.hid (show printV r = strOfNums (bodyL r) ++ strOfNums (b4 (sum32 (strOfNums (bodyL r))).toNat) by
    unfold printV allL; rw [nums_app, b4_small _ (by omega) (by have := (sum32 (strOfNums (bodyL r))).isLt; omega)])
  generalize printV r = res at *
  obtain ⟨hm, ad, cap, rfl⟩ := h.len
  have Hb : Hid (bodyL r = headL r ++ (r.phs.take r.phs.length).flatMap phL) := Lib.hid (by rw [List.take_length]; rfl)
  have Hh : Hid (strOfNums (headL r) = ⟨#[65, 70, 84, 85]⟩ ++ strOfNums [(r.phs.length : Int) % 256, r.n % 256, r.d % 256, r.green % 256, r.age % 256, r.saf % 256] ++ strOfNums (b4 r.eps) ++ strOfNums (b4 r.step) ++ strOfNums (b4 r.lift)) := Lib.hid (by
    unfold headL; simp only [nums_app]; rfl)
  have Hph := Lib.hid h
  have H2 := Lib.hid h2
  have C := (CL.new W 0).push (r.cells (.slice ad r.phs.length cap)) 25
  unfold RuV.cells at *
  generalize bodyL r = BL at *
  generalize headL r = HL at *
  obtain ⟨phs, rn, rd, rg, re, rs, ra, rl, rf⟩ := r
  dsimp only at *
  clear h h2
  have hn255 : phs.length ≤ 255 := h1
  generalize hn : phs.length = n at *
  have Hn := Lib.hid hn
  clear hn h1
  have e1 : IntKind.u8.wrap (n : Int) = (n : Int) % 256 := conv8 _
  have e2 : IntKind.u8.wrap rn = rn % 256 := conv8 _
  have e3 : IntKind.u8.wrap rd = rd % 256 := conv8 _
  have e4 : IntKind.u8.wrap rg = rg % 256 := conv8 _
  have e5 : IntKind.u8.wrap ra = ra % 256 := conv8 _
  have e6 : IntKind.u8.wrap rf = rf % 256 := conv8 _
  go_enter Tryz.func17, Tryz.ntmps17
  go_upto_region 1 with fail
  generalize hz : W.heap.size = z at *
  have hzW : W.heap.size ≤ z := by omega
  clear hz
  generalize W.alloc (.cells #[.slice ad n cap, .int .i64 rn, .int .i64 rd, .int .i64 rg, .int .i64 re, .int .i64 rs, .int .i64 ra, .int .i64 rl, .int .i64 rf] 25) = w1 at *
  have hC := C
  refine wp_region_ex (fun _ => CL W [(z, #[.slice ad n cap, .int .i64 rn, .int .i64 rd, .int .i64 rg, .int .i64 re, .int .i64 rs, .int .i64 ra, .int .i64 rl, .int .i64 rf])] 0) (fun _ => Chg []) [] [(0, 0, false), (0, 0, false), (0, 0, false), (0, 0, false), (0, 0, false), (0, 0, false), (0, 0, false), (0, 0, false), (0, 0, false), (0, 0, false), (0, 0, false), (0, 0, false), (0, 0, false), (0, 0, false), (0, 0, false), (0, 0, false), (0, 0, false), (0, 0, false), (0, 0, false), (0, 0, false), (0, 0, false), (0, 0, false), (0, 0, false), (0, 0, false), (0, 0, false), (0, 0, false), (0, 0, false), (0, 0, false), (0, 0, false), (0, 0, false), (0, 0, false), (0, 0, false), (0, 0, false), (0, 0, false), (0, 0, false)] [7, 8, 9, 10, 11, 12, 13, 14, 15, 16, 17, 18, 19, 20, 21, 22, 23, 24, 25, 26, 27, 28, 29, 30, 31, 32, 33, 34, 35, 36, 37, 38, 39, 40, 3] (by kernel_rfl) rfl (by kernel_rfl) (by kernel_rfl) (hC.drew) ?_
  simp only [List.zip_cons_cons, List.zip_nil_right]
  refine ex_det 7 [1] rfl rfl (fun _ _ _ _ _ _ _ _ => rfl) ?_
  apply Exists.intro
  refine ⟨?_, ?_⟩
  · intro wx bX kX hk1 hk2 hC hb hd K hK
    have e1 := hb 1 rfl
    simp only [exSlot, List.getD_cons_succ, List.getD_cons_zero] at e1
    simp only [execOp, e1]
    clear hb hd
    go_simp
    exact hK _ hC (Chg.refl _ _)
  refine ex_det 8 [7] rfl rfl (fun _ _ _ _ _ _ _ _ => rfl) ?_
  apply Exists.intro
  refine ⟨?_, ?_⟩
  · intro wx bX kX hk1 hk2 hC hb hd K hK
    have e7 := hd 7 _ _ rfl rfl
    try dsimp only at e7
    have cc := (hC.get 0 rfl).cell
    dsimp only at cc
    have c0 := cc 0
    have c1 := cc 1
    have c2 := cc 2
    have c3 := cc 3
    have c4 := cc 4
    have c5 := cc 5
    have c6 := cc 6
    have c7 := cc 7
    have c8 := cc 8
    clear cc
    simp only [execOp, e7]
    clear hb hd
    go_simp
    exact hK _ hC (Chg.refl _ _)
  refine ex_det 9 [8] rfl rfl (fun _ _ _ _ _ _ _ _ => rfl) ?_
  apply Exists.intro
  refine ⟨?_, ?_⟩
  · intro wx bX kX hk1 hk2 hC hb hd K hK
    have e8 := hd 8 _ _ rfl rfl
    try dsimp only at e8
    simp only [execOp, resolve, List.map_toArray, List.map_cons, List.map_nil, e8]
    clear hb hd
    go_simp
    exact hK _ hC (Chg.refl _ _)
  refine ex_det 10 [9] rfl rfl (fun _ _ _ _ _ _ _ _ => rfl) ?_
  apply Exists.intro
  refine ⟨?_, ?_⟩
  · intro wx bX kX hk1 hk2 hC hb hd K hK
    have e9 := hd 9 _ _ rfl rfl
    try dsimp only at e9
    simp only [execOp, e9]
    clear hb hd
    go_simp
    exact hK _ hC (Chg.refl _ _)
  refine ex_det 11 [1] rfl rfl (fun _ _ _ _ _ _ _ _ => rfl) ?_
  apply Exists.intro
  refine ⟨?_, ?_⟩
  · intro wx bX kX hk1 hk2 hC hb hd K hK
    have e1 := hb 1 rfl
    simp only [exSlot, List.getD_cons_succ, List.getD_cons_zero] at e1
    simp only [execOp, e1]
    clear hb hd
    go_simp
    exact hK _ hC (Chg.refl _ _)
  refine ex_det 12 [11] rfl rfl (fun _ _ _ _ _ _ _ _ => rfl) ?_
  apply Exists.intro
  refine ⟨?_, ?_⟩
  · intro wx bX kX hk1 hk2 hC hb hd K hK
    have e11 := hd 11 _ _ rfl rfl
    try dsimp only at e11
    have cc := (hC.get 0 rfl).cell
    dsimp only at cc
    have c0 := cc 0
    have c1 := cc 1
    have c2 := cc 2
    have c3 := cc 3
    have c4 := cc 4
    have c5 := cc 5
    have c6 := cc 6
    have c7 := cc 7
    have c8 := cc 8
    clear cc
    simp only [execOp, e11]
    clear hb hd
    go_simp
    exact hK _ hC (Chg.refl _ _)
  refine ex_det 13 [12] rfl rfl (fun _ _ _ _ _ _ _ _ => rfl) ?_
  apply Exists.intro
  refine ⟨?_, ?_⟩
  · intro wx bX kX hk1 hk2 hC hb hd K hK
    have e12 := hd 12 _ _ rfl rfl
    try dsimp only at e12
    simp only [execOp, e12]
    clear hb hd
    go_simp
    exact hK _ hC (Chg.refl _ _)
  refine ex_det 14 [1] rfl rfl (fun _ _ _ _ _ _ _ _ => rfl) ?_
  apply Exists.intro
  refine ⟨?_, ?_⟩
  · intro wx bX kX hk1 hk2 hC hb hd K hK
    have e1 := hb 1 rfl
    simp only [exSlot, List.getD_cons_succ, List.getD_cons_zero] at e1
    simp only [execOp, e1]
    clear hb hd
    go_simp
    exact hK _ hC (Chg.refl _ _)
  refine ex_det 15 [14] rfl rfl (fun _ _ _ _ _ _ _ _ => rfl) ?_
  apply Exists.intro
  refine ⟨?_, ?_⟩
  · intro wx bX kX hk1 hk2 hC hb hd K hK
    have e14 := hd 14 _ _ rfl rfl
    try dsimp only at e14
    have cc := (hC.get 0 rfl).cell
    dsimp only at cc
    have c0 := cc 0
    have c1 := cc 1
    have c2 := cc 2
    have c3 := cc 3
    have c4 := cc 4
    have c5 := cc 5
    have c6 := cc 6
    have c7 := cc 7
    have c8 := cc 8
    clear cc
    simp only [execOp, e14]
    clear hb hd
    go_simp
    exact hK _ hC (Chg.refl _ _)
  refine ex_det 16 [15] rfl rfl (fun _ _ _ _ _ _ _ _ => rfl) ?_
  apply Exists.intro
  refine ⟨?_, ?_⟩
  · intro wx bX kX hk1 hk2 hC hb hd K hK
    have e15 := hd 15 _ _ rfl rfl
    try dsimp only at e15
    simp only [execOp, e15]
    clear hb hd
    go_simp
    exact hK _ hC (Chg.refl _ _)
  refine ex_det 17 [1] rfl rfl (fun _ _ _ _ _ _ _ _ => rfl) ?_
  apply Exists.intro
  refine ⟨?_, ?_⟩
  · intro wx bX kX hk1 hk2 hC hb hd K hK
    have e1 := hb 1 rfl
    simp only [exSlot, List.getD_cons_succ, List.getD_cons_zero] at e1
    simp only [execOp, e1]
    clear hb hd
    go_simp
    exact hK _ hC (Chg.refl _ _)
  refine ex_det 18 [17] rfl rfl (fun _ _ _ _ _ _ _ _ => rfl) ?_
  apply Exists.intro
  refine ⟨?_, ?_⟩
  · intro wx bX kX hk1 hk2 hC hb hd K hK
    have e17 := hd 17 _ _ rfl rfl
    try dsimp only at e17
    have cc := (hC.get 0 rfl).cell
    dsimp only at cc
    have c0 := cc 0
    have c1 := cc 1
    have c2 := cc 2
    have c3 := cc 3
    have c4 := cc 4
    have c5 := cc 5
    have c6 := cc 6
    have c7 := cc 7
    have c8 := cc 8
    clear cc
    simp only [execOp, e17]
    clear hb hd
    go_simp
    exact hK _ hC (Chg.refl _ _)
  refine ex_det 19 [18] rfl rfl (fun _ _ _ _ _ _ _ _ => rfl) ?_
  apply Exists.intro
  refine ⟨?_, ?_⟩
  · intro wx bX kX hk1 hk2 hC hb hd K hK
    have e18 := hd 18 _ _ rfl rfl
    try dsimp only at e18
    simp only [execOp, e18]
    clear hb hd
    go_simp
    exact hK _ hC (Chg.refl _ _)
  refine ex_det 20 [1] rfl rfl (fun _ _ _ _ _ _ _ _ => rfl) ?_
  apply Exists.intro
  refine ⟨?_, ?_⟩
  · intro wx bX kX hk1 hk2 hC hb hd K hK
    have e1 := hb 1 rfl
    simp only [exSlot, List.getD_cons_succ, List.getD_cons_zero] at e1
    simp only [execOp, e1]
    clear hb hd
    go_simp
    exact hK _ hC (Chg.refl _ _)
  refine ex_det 21 [20] rfl rfl (fun _ _ _ _ _ _ _ _ => rfl) ?_
  apply Exists.intro
  refine ⟨?_, ?_⟩
  · intro wx bX kX hk1 hk2 hC hb hd K hK
    have e20 := hd 20 _ _ rfl rfl
    try dsimp only at e20
    have cc := (hC.get 0 rfl).cell
    dsimp only at cc
    have c0 := cc 0
    have c1 := cc 1
    have c2 := cc 2
    have c3 := cc 3
    have c4 := cc 4
    have c5 := cc 5
    have c6 := cc 6
    have c7 := cc 7
    have c8 := cc 8
    clear cc
    simp only [execOp, e20]
    clear hb hd
    go_simp
    exact hK _ hC (Chg.refl _ _)
  refine ex_det 22 [21] rfl rfl (fun _ _ _ _ _ _ _ _ => rfl) ?_
  apply Exists.intro
  refine ⟨?_, ?_⟩
  · intro wx bX kX hk1 hk2 hC hb hd K hK
    have e21 := hd 21 _ _ rfl rfl
    try dsimp only at e21
    simp only [execOp, e21]
    clear hb hd
    go_simp
    exact hK _ hC (Chg.refl _ _)
  refine ex_det 23 [1] rfl rfl (fun _ _ _ _ _ _ _ _ => rfl) ?_
  apply Exists.intro
  refine ⟨?_, ?_⟩
  · intro wx bX kX hk1 hk2 hC hb hd K hK
    have e1 := hb 1 rfl
    simp only [exSlot, List.getD_cons_succ, List.getD_cons_zero] at e1
    simp only [execOp, e1]
    clear hb hd
    go_simp
    exact hK _ hC (Chg.refl _ _)
  refine ex_det 24 [23] rfl rfl (fun _ _ _ _ _ _ _ _ => rfl) ?_
  apply Exists.intro
  refine ⟨?_, ?_⟩
  · intro wx bX kX hk1 hk2 hC hb hd K hK
    have e23 := hd 23 _ _ rfl rfl
    try dsimp only at e23
    have cc := (hC.get 0 rfl).cell
    dsimp only at cc
    have c0 := cc 0
    have c1 := cc 1
    have c2 := cc 2
    have c3 := cc 3
    have c4 := cc 4
    have c5 := cc 5
    have c6 := cc 6
    have c7 := cc 7
    have c8 := cc 8
    clear cc
    simp only [execOp, e23]
    clear hb hd
    go_simp
    exact hK _ hC (Chg.refl _ _)
  refine ex_det 25 [24] rfl rfl (fun _ _ _ _ _ _ _ _ => rfl) ?_
  apply Exists.intro
  refine ⟨?_, ?_⟩
  · intro wx bX kX hk1 hk2 hC hb hd K hK
    have e24 := hd 24 _ _ rfl rfl
    try dsimp only at e24
    simp only [execOp, e24]
    clear hb hd
    go_simp
    exact hK _ hC (Chg.refl _ _)
  refine ex_any (fun _ v w => ∃ y, v = .slice (some ⟨y, 0, none⟩) 6 6 ∧ At w y #[.int .u8 (n % 256), .int .u8 (rn % 256), .int .u8 (rd % 256), .int .u8 (rg % 256), .int .u8 (ra % 256), .int .u8 (rf % 256)] ∧ W.heap.size ≤ y) 26 [10, 13, 16, 19, 22, 25] rfl rfl (fun _ _ _ _ _ _ _ _ => rfl) (fun _ _ => (fun _ v w w' ⟨y, h1, h2, h3⟩ hR => ⟨y, h1, hR.at h2 (by simp), h3⟩)) ?_ ?_
  · intro wx bX kX hk1 hk2 hC hb hd K hK
    have e10 := hd 10 _ _ rfl rfl
    try dsimp only at e10
    have e13 := hd 13 _ _ rfl rfl
    try dsimp only at e13
    have e16 := hd 16 _ _ rfl rfl
    try dsimp only at e16
    have e19 := hd 19 _ _ rfl rfl
    try dsimp only at e19
    have e22 := hd 22 _ _ rfl rfl
    try dsimp only at e22
    have e25 := hd 25 _ _ rfl rfl
    try dsimp only at e25
    simp only [execOp, List.map_toArray, List.map_cons, List.map_nil, e10, e13, e16, e19, e22, e25]
    clear hb hd
    go_simp
    exact hK _ _ ⟨_, rfl, At.new _ _ _, hC.x.size⟩ (hC.alloc0 _) ((Chg.refl _ _).alloc _)
  refine ex_det 27 [26] rfl rfl (fun _ _ _ _ _ _ _ _ => rfl) ?_
  apply Exists.intro
  refine ⟨?_, ?_⟩
  · intro wx bX kX hk1 hk2 hC hb hd K hK
    have e26 := hd 26 _ _ rfl rfl
    try dsimp only at e26
    obtain ⟨y, e26, K, hy⟩ := e26
    have cvq := conv6_at K
    simp only [execOp, e26]
    clear hb hd
    go_simp
    exact hK _ hC (Chg.refl _ _)
  refine ex_det 28 [27] rfl rfl (fun _ _ _ _ _ _ _ _ => rfl) ?_
  apply Exists.intro
  refine ⟨?_, ?_⟩
  · intro wx bX kX hk1 hk2 hC hb hd K hK
    have e27 := hd 27 _ _ rfl rfl
    try dsimp only at e27
    simp only [execOp, e27]
    clear hb hd
    go_simp
    exact hK _ hC (Chg.refl _ _)
  refine ex_det 29 [1] rfl rfl (fun _ _ _ _ _ _ _ _ => rfl) ?_
  apply Exists.intro
  refine ⟨?_, ?_⟩
  · intro wx bX kX hk1 hk2 hC hb hd K hK
    have e1 := hb 1 rfl
    simp only [exSlot, List.getD_cons_succ, List.getD_cons_zero] at e1
    simp only [execOp, e1]
    clear hb hd
    go_simp
    exact hK _ hC (Chg.refl _ _)
  refine ex_det 30 [29] rfl rfl (fun _ _ _ _ _ _ _ _ => rfl) ?_
  apply Exists.intro
  refine ⟨?_, ?_⟩
  · intro wx bX kX hk1 hk2 hC hb hd K hK
    have e29 := hd 29 _ _ rfl rfl
    try dsimp only at e29
    have cc := (hC.get 0 rfl).cell
    dsimp only at cc
    have c0 := cc 0
    have c1 := cc 1
    have c2 := cc 2
    have c3 := cc 3
    have c4 := cc 4
    have c5 := cc 5
    have c6 := cc 6
    have c7 := cc 7
    have c8 := cc 8
    clear cc
    simp only [execOp, e29]
    clear hb hd
    go_simp
    exact hK _ hC (Chg.refl _ _)
  refine ex_det 31 [30] rfl rfl (fun _ _ _ _ _ _ _ _ => rfl) ?_
  apply Exists.intro
  refine ⟨?_, ?_⟩
  · intro wx bX kX hk1 hk2 hC hb hd K hK
    have e30 := hd 30 _ _ rfl rfl
    try dsimp only at e30
    simp only [execOp, resolve, List.map_toArray, List.map_cons, List.map_nil, e30]
    clear hb hd
    go_simp
    refine (qfour_any wx _).mono ?_; rintro e w' ⟨rfl, hX⟩
    exact ⟨_, rfl, hK _ (hC.step hX) hX⟩
  refine ex_det 32 [28, 31] rfl rfl (fun _ _ _ _ _ _ _ _ => rfl) ?_
  apply Exists.intro
  refine ⟨?_, ?_⟩
  · intro wx bX kX hk1 hk2 hC hb hd K hK
    have e28 := hd 28 _ _ rfl rfl
    try dsimp only at e28
    have e31 := hd 31 _ _ rfl rfl
    try dsimp only at e31
    simp only [execOp, e28, e31]
    clear hb hd
    go_simp
    exact hK _ hC (Chg.refl _ _)
  refine ex_det 33 [1] rfl rfl (fun _ _ _ _ _ _ _ _ => rfl) ?_
  apply Exists.intro
  refine ⟨?_, ?_⟩
  · intro wx bX kX hk1 hk2 hC hb hd K hK
    have e1 := hb 1 rfl
    simp only [exSlot, List.getD_cons_succ, List.getD_cons_zero] at e1
    simp only [execOp, e1]
    clear hb hd
    go_simp
    exact hK _ hC (Chg.refl _ _)
  refine ex_det 34 [33] rfl rfl (fun _ _ _ _ _ _ _ _ => rfl) ?_
  apply Exists.intro
  refine ⟨?_, ?_⟩
  · intro wx bX kX hk1 hk2 hC hb hd K hK
    have e33 := hd 33 _ _ rfl rfl
    try dsimp only at e33
    have cc := (hC.get 0 rfl).cell
    dsimp only at cc
    have c0 := cc 0
    have c1 := cc 1
    have c2 := cc 2
    have c3 := cc 3
    have c4 := cc 4
    have c5 := cc 5
    have c6 := cc 6
    have c7 := cc 7
    have c8 := cc 8
    clear cc
    simp only [execOp, e33]
    clear hb hd
    go_simp
    exact hK _ hC (Chg.refl _ _)
  refine ex_det 35 [34] rfl rfl (fun _ _ _ _ _ _ _ _ => rfl) ?_
  apply Exists.intro
  refine ⟨?_, ?_⟩
  · intro wx bX kX hk1 hk2 hC hb hd K hK
    have e34 := hd 34 _ _ rfl rfl
    try dsimp only at e34
    simp only [execOp, resolve, List.map_toArray, List.map_cons, List.map_nil, e34]
    clear hb hd
    go_simp
    refine (qfour_any wx _).mono ?_; rintro e w' ⟨rfl, hX⟩
    exact ⟨_, rfl, hK _ (hC.step hX) hX⟩
  refine ex_det 36 [32, 35] rfl rfl (fun _ _ _ _ _ _ _ _ => rfl) ?_
  apply Exists.intro
  refine ⟨?_, ?_⟩
  · intro wx bX kX hk1 hk2 hC hb hd K hK
    have e32 := hd 32 _ _ rfl rfl
    try dsimp only at e32
    have e35 := hd 35 _ _ rfl rfl
    try dsimp only at e35
    simp only [execOp, e32, e35]
    clear hb hd
    go_simp
    exact hK _ hC (Chg.refl _ _)
  refine ex_det 37 [1] rfl rfl (fun _ _ _ _ _ _ _ _ => rfl) ?_
  apply Exists.intro
  refine ⟨?_, ?_⟩
  · intro wx bX kX hk1 hk2 hC hb hd K hK
    have e1 := hb 1 rfl
    simp only [exSlot, List.getD_cons_succ, List.getD_cons_zero] at e1
    simp only [execOp, e1]
    clear hb hd
    go_simp
    exact hK _ hC (Chg.refl _ _)
  refine ex_det 38 [37] rfl rfl (fun _ _ _ _ _ _ _ _ => rfl) ?_
  apply Exists.intro
  refine ⟨?_, ?_⟩
  · intro wx bX kX hk1 hk2 hC hb hd K hK
    have e37 := hd 37 _ _ rfl rfl
    try dsimp only at e37
    have cc := (hC.get 0 rfl).cell
    dsimp only at cc
    have c0 := cc 0
    have c1 := cc 1
    have c2 := cc 2
    have c3 := cc 3
    have c4 := cc 4
    have c5 := cc 5
    have c6 := cc 6
    have c7 := cc 7
    have c8 := cc 8
    clear cc
    simp only [execOp, e37]
    clear hb hd
    go_simp
    exact hK _ hC (Chg.refl _ _)
  refine ex_det 39 [38] rfl rfl (fun _ _ _ _ _ _ _ _ => rfl) ?_
  apply Exists.intro
  refine ⟨?_, ?_⟩
  · intro wx bX kX hk1 hk2 hC hb hd K hK
    have e38 := hd 38 _ _ rfl rfl
    try dsimp only at e38
    simp only [execOp, resolve, List.map_toArray, List.map_cons, List.map_nil, e38]
    clear hb hd
    go_simp
    refine (qfour_any wx _).mono ?_; rintro e w' ⟨rfl, hX⟩
    exact ⟨_, rfl, hK _ (hC.step hX) hX⟩
  refine ex_det 40 [36, 39] rfl rfl (fun _ _ _ _ _ _ _ _ => rfl) ?_
  apply Exists.intro
  refine ⟨?_, ?_⟩
  · intro wx bX kX hk1 hk2 hC hb hd K hK
    have e36 := hd 36 _ _ rfl rfl
    try dsimp only at e36
    have e39 := hd 39 _ _ rfl rfl
    try dsimp only at e39
    simp only [execOp, e36, e39]
    clear hb hd
    go_simp
    exact hK _ hC (Chg.refl _ _)
  refine ex_det 3 [40] rfl rfl (fun _ _ _ _ _ _ _ _ => rfl) ?_
  apply Exists.intro
  refine ⟨?_, ?_⟩
  · intro wx bX kX hk1 hk2 hC hb hd K hK
    have e40 := hd 40 _ _ rfl rfl
    try dsimp only at e40
    simp only [execOp, e40]
    clear hb hd
    go_simp
    exact hK _ hC (Chg.refl _ _)
  refine ex_end ?_
  intro us w2 hus hC hall
  obtain ⟨v0, us, rfl⟩ := List.exists_cons_of_length_eq_add_one hus
  replace hus := Nat.succ.inj hus
  obtain ⟨v1, us, rfl⟩ := List.exists_cons_of_length_eq_add_one hus
  replace hus := Nat.succ.inj hus
  obtain ⟨v2, us, rfl⟩ := List.exists_cons_of_length_eq_add_one hus
  replace hus := Nat.succ.inj hus
  obtain ⟨v3, us, rfl⟩ := List.exists_cons_of_length_eq_add_one hus
  replace hus := Nat.succ.inj hus
  obtain ⟨v4, us, rfl⟩ := List.exists_cons_of_length_eq_add_one hus
  replace hus := Nat.succ.inj hus
  obtain ⟨v5, us, rfl⟩ := List.exists_cons_of_length_eq_add_one hus
  replace hus := Nat.succ.inj hus
  obtain ⟨v6, us, rfl⟩ := List.exists_cons_of_length_eq_add_one hus
  replace hus := Nat.succ.inj hus
  obtain ⟨v7, us, rfl⟩ := List.exists_cons_of_length_eq_add_one hus
  replace hus := Nat.succ.inj hus
  obtain ⟨v8, us, rfl⟩ := List.exists_cons_of_length_eq_add_one hus
  replace hus := Nat.succ.inj hus
  obtain ⟨v9, us, rfl⟩ := List.exists_cons_of_length_eq_add_one hus
  replace hus := Nat.succ.inj hus
  obtain ⟨v10, us, rfl⟩ := List.exists_cons_of_length_eq_add_one hus
  replace hus := Nat.succ.inj hus
  obtain ⟨v11, us, rfl⟩ := List.exists_cons_of_length_eq_add_one hus
  replace hus := Nat.succ.inj hus
  obtain ⟨v12, us, rfl⟩ := List.exists_cons_of_length_eq_add_one hus
  replace hus := Nat.succ.inj hus
  obtain ⟨v13, us, rfl⟩ := List.exists_cons_of_length_eq_add_one hus
  replace hus := Nat.succ.inj hus
  obtain ⟨v14, us, rfl⟩ := List.exists_cons_of_length_eq_add_one hus
  replace hus := Nat.succ.inj hus
  obtain ⟨v15, us, rfl⟩ := List.exists_cons_of_length_eq_add_one hus
  replace hus := Nat.succ.inj hus
  obtain ⟨v16, us, rfl⟩ := List.exists_cons_of_length_eq_add_one hus
  replace hus := Nat.succ.inj hus
  obtain ⟨v17, us, rfl⟩ := List.exists_cons_of_length_eq_add_one hus
  replace hus := Nat.succ.inj hus
  obtain ⟨v18, us, rfl⟩ := List.exists_cons_of_length_eq_add_one hus
  replace hus := Nat.succ.inj hus
  obtain ⟨v19, us, rfl⟩ := List.exists_cons_of_length_eq_add_one hus
  replace hus := Nat.succ.inj hus
  obtain ⟨v20, us, rfl⟩ := List.exists_cons_of_length_eq_add_one hus
  replace hus := Nat.succ.inj hus
  obtain ⟨v21, us, rfl⟩ := List.exists_cons_of_length_eq_add_one hus
  replace hus := Nat.succ.inj hus
  obtain ⟨v22, us, rfl⟩ := List.exists_cons_of_length_eq_add_one hus
  replace hus := Nat.succ.inj hus
  obtain ⟨v23, us, rfl⟩ := List.exists_cons_of_length_eq_add_one hus
  replace hus := Nat.succ.inj hus
  obtain ⟨v24, us, rfl⟩ := List.exists_cons_of_length_eq_add_one hus
  replace hus := Nat.succ.inj hus
  obtain ⟨v25, us, rfl⟩ := List.exists_cons_of_length_eq_add_one hus
  replace hus := Nat.succ.inj hus
  obtain ⟨v26, us, rfl⟩ := List.exists_cons_of_length_eq_add_one hus
  replace hus := Nat.succ.inj hus
  obtain ⟨v27, us, rfl⟩ := List.exists_cons_of_length_eq_add_one hus
  replace hus := Nat.succ.inj hus
  obtain ⟨v28, us, rfl⟩ := List.exists_cons_of_length_eq_add_one hus
  replace hus := Nat.succ.inj hus
  obtain ⟨v29, us, rfl⟩ := List.exists_cons_of_length_eq_add_one hus
  replace hus := Nat.succ.inj hus
  obtain ⟨v30, us, rfl⟩ := List.exists_cons_of_length_eq_add_one hus
  replace hus := Nat.succ.inj hus
  obtain ⟨v31, us, rfl⟩ := List.exists_cons_of_length_eq_add_one hus
  replace hus := Nat.succ.inj hus
  obtain ⟨v32, us, rfl⟩ := List.exists_cons_of_length_eq_add_one hus
  replace hus := Nat.succ.inj hus
  obtain ⟨v33, us, rfl⟩ := List.exists_cons_of_length_eq_add_one hus
  replace hus := Nat.succ.inj hus
  obtain ⟨v34, us, rfl⟩ := List.exists_cons_of_length_eq_add_one hus
  replace hus := Nat.succ.inj hus
  obtain rfl := List.length_eq_zero_iff.1 hus
  clear hus
  generalize hbb : exPuts _ _ _ = bb at hall ⊢
  simp only [exPuts, Act.put, List.setIfInBounds_toArray, List.set_cons_succ, List.set_cons_zero] at hbb
  subst hbb
  obtain ⟨h34, h33, h32, h31, h30, h29, h28, h27, h26, h25, h24, h23, h22, h21, h20, h19, h18, h17, h16, h15, h14, h13, h12, h11, h10, h9, h8, h7, h6, h5, h4, h3, h2, h1, h0, -⟩ := hall
  obtain rfl : v0 = _ := h0
  obtain rfl : v1 = _ := h1
  obtain rfl : v2 = _ := h2
  obtain rfl : v3 = _ := h3
  obtain rfl : v4 = _ := h4
  obtain rfl : v5 = _ := h5
  obtain rfl : v6 = _ := h6
  obtain rfl : v7 = _ := h7
  obtain rfl : v8 = _ := h8
  obtain rfl : v9 = _ := h9
  obtain rfl : v10 = _ := h10
  obtain rfl : v11 = _ := h11
  obtain rfl : v12 = _ := h12
  obtain rfl : v13 = _ := h13
  obtain rfl : v14 = _ := h14
  obtain rfl : v15 = _ := h15
  obtain rfl : v16 = _ := h16
  obtain rfl : v17 = _ := h17
  obtain rfl : v18 = _ := h18
  obtain ⟨y, e26, K, hy⟩ := h19
  obtain rfl : v19 = _ := e26
  obtain rfl : v20 = _ := h20
  obtain rfl : v21 = _ := h21
  obtain rfl : v22 = _ := h22
  obtain rfl : v23 = _ := h23
  obtain rfl : v24 = _ := h24
  obtain rfl : v25 = _ := h25
  obtain rfl : v26 = _ := h26
  obtain rfl : v27 = _ := h27
  obtain rfl : v28 = _ := h28
  obtain rfl : v29 = _ := h29
  obtain rfl : v30 = _ := h30
  obtain rfl : v31 = _ := h31
  obtain rfl : v32 = _ := h32
  obtain rfl : v33 = _ := h33
  obtain rfl : v34 = _ := h34
  clear K hy e1 e3 e4 e5 e6
  rw [← Hh.out]
  have hX0 := hC.x
  have c0 := (hC.get 0 rfl).cell 0
  dsimp only at c0
  go_wp2_with fail
  go_loopg [3, 4] n (fun gk ss ii wr => ∃ k : Nat, k + gk = n ∧ ii = .int .i64 k ∧ ss = .string (strOfNums (HL ++ (phs.take k).flatMap phL)) ∧ CL W [(z, #[.slice ad n cap, .int .i64 rn, .int .i64 rd, .int .i64 rg, .int .i64 re, .int .i64 rs, .int .i64 ra, .int .i64 rl, .int .i64 rf])] 0 wr)
  case atStart => exact ⟨0, by omega, rfl, by simp, hC⟩
  case round =>
    clear hC c0 C hX0
    obtain ⟨k, hk, rfl, rfl, hC⟩ := hrel
    have c0 := (hC.get 0 rfl).cell 0
    dsimp only at c0
    by_cases hlt : k < n
    · have g0 : (0 : Int) ≤ (k : Int) := by omega
      have g1 : (k : Int) < (n : Int) := by omega
      have g2 : (k : Int).toNat = k := by omega
      obtain ⟨p, hp⟩ : ∃ p, phs[k]? = some p := ⟨phs[k]'(by rw [Hn.out]; exact hlt), List.getElem?_eq_getElem _⟩
      have hfl := flat_take phL phs k p hp
      have hm255 : p.area.length ≤ 255 := H2.out p (List.mem_of_getElem? hp)
      have hR := Hph.out.2
      rcases hR with ⟨rfl, _⟩ | ⟨bb, off, cap', hv, h0, hcl⟩
      · simp at hp
      · obtain ⟨rfl, -, rfl⟩ : ad = some ⟨bb, off, none⟩ ∧ n = phs.length ∧ cap = cap' := by
          simp only [Value.slice.injEq] at hv; exact hv
        obtain ⟨va, hpts, a0, a1, a2, a3, a4⟩ := hcl k p hp
        obtain ⟨-, ap, capp, rfl⟩ := hpts.len
        have Hpts := Lib.hid hpts
        clear hcl hpts hp hv
        have d0 := hC.x.cell a0 (by simp); have d1 := hC.x.cell a1 (by simp); have d2 := hC.x.cell a2 (by simp); have d3 := hC.x.cell a3 (by simp); have d4 := hC.x.cell a4 (by simp)
        clear a0 a1 a2 a3 a4
        have HplL : Hid (strOfNums (phHead p) = strOfNums [(p.area.length : Int) % 256, p.g % 256] ++ strOfNums (b4 p.mv) ++ strOfNums (b4 p.mn) ++ strOfNums (b4 p.up)) := Lib.hid (by unfold phHead; simp only [nums_app])
        have HphL : Hid (phL p = phHead p ++ (p.area.take p.area.length).flatMap ptL) := Lib.hid (by rw [List.take_length]; rfl)
        have hZ := At.new wr #[.slice none 0 0, .int .i64 0, .int .i64 0, .int .i64 0, .int .i64 0] 51
        have hXz : Chg [] wr (wr.alloc (.cells #[.slice none 0 0, .int .i64 0, .int .i64 0, .int .i64 0, .int .i64 0] 51)) := (Chg.refl _ _).alloc _
        have hfl2 := Lib.hid hfl
        clear hfl
        generalize hml : p.area.length = m at *
        have Hm := Lib.hid hml
        clear hml
        go_wp2_with (refine wpList_put rfl rfl rfl rfl hZ rfl (by kernel_rfl) (by simp [Value.oneCell']) ?_; intro w2 hA2 hX2; refine Hid.out ?_)
        refine Lib.hid ?_
        generalize hy5 : wr.heap.size = y5 at *
        have hWy : W.heap.size ≤ y5 := by rw [← hy5]; exact hC.x.size
        have hzy : z < y5 := by rw [← hy5]; exact (hC.get 0 rfl).lt
        have hC2 : CL W [(y5, #[.slice ap m capp, .int .i64 p.g, .int .i64 p.mv, .int .i64 p.mn, .int .i64 p.up]), (z, #[.slice (some ⟨bb, off, none⟩) n cap, .int .i64 rn, .int .i64 rd, .int .i64 rg, .int .i64 re, .int .i64 rs, .int .i64 ra, .int .i64 rl, .int .i64 rf])] 0 w2 := (hC.step (j := 0) hXz).upd hX2 hA2 hWy _ (by intro q hq; simp only [List.mem_cons, List.not_mem_nil, or_false] at hq; rcases hq with rfl | rfl; exact .inl rfl; exact .inr ⟨by simp, by simp; omega⟩)
        clear hC hX2 hA2 hZ hXz d0 d1 d2 d3 d4 c0 hy5
        have hC := hC2
        clear hC2
        have e1 : IntKind.u8.wrap (m : Int) = (m : Int) % 256 := conv8 _
        have e2 : IntKind.u8.wrap p.g = p.g % 256 := conv8 _
        have Hbk : Hid ((HL ++ (phs.take k).flatMap phL).length ≤ 600000) := Lib.hid (by
          have q1 := take_flat_le phL phs k
          have q2 := hbl.out
          rw [Hb.out, ← Hn.out, List.take_length] at q2
          simp only [List.length_append] at q2 ⊢; omega)
        have Hphl : Hid ((phHead p).length = 14) := Lib.hid rfl
        go_upto_region 6 with fail
        refine Ey.wp_region_ex (fun _ => CL W [(y5, #[.slice ap m capp, .int .i64 p.g, .int .i64 p.mv, .int .i64 p.mn, .int .i64 p.up]), (z, #[.slice (some ⟨bb, off, none⟩) n cap, .int .i64 rn, .int .i64 rd, .int .i64 rg, .int .i64 re, .int .i64 rs, .int .i64 ra, .int .i64 rl, .int .i64 rf])] 0) (fun _ => Chg []) [] [(0, 0, false), (0, 0, false), (0, 0, false), (0, 0, false), (0, 0, false), (0, 0, false), (0, 0, false), (0, 0, false), (0, 0, false), (0, 0, false), (0, 0, false), (0, 0, false), (0, 0, false), (0, 0, false), (0, 0, false), (0, 0, false), (0, 0, false), (0, 0, false), (0, 0, false), (0, 0, false), (0, 0, false), (0, 0, false), (0, 0, false), (0, 0, false)] [53, 54, 55, 56, 57, 58, 59, 60, 61, 62, 63, 64, 65, 66, 67, 68, 69, 70, 71, 72, 73, 74, 75, 3] [3] (by kernel_rfl) rfl (by kernel_rfl) (by kernel_rfl) (hC.drew) ?_
        simp only [List.zip_cons_cons, List.zip_nil_right]
        refine Ey.ex_det 53 [] [3] rfl rfl rfl (fun _ _ _ _ _ _ _ _ => rfl) ?_
        apply Exists.intro
        refine ⟨?_, ?_⟩
        · intro wx bX kX hk1 hk2 hC hb hd K hK
          have e3 := hb 3 rfl
          simp only [Ey.exSlot, List.getD_cons_succ, List.getD_cons_zero] at e3
          simp only [execOp, e3]
          clear hb hd
          go_simp
          exact hK _ hC (Chg.refl _ _)
        refine Ey.ex_det 54 [5] [] rfl rfl rfl (fun _ _ _ _ _ _ _ _ => rfl) ?_
        apply Exists.intro
        refine ⟨?_, ?_⟩
        · intro wx bX kX hk1 hk2 hC hb hd K hK
          have e5 := hb 5 rfl
          simp only [Ey.exSlot, List.getD_cons_succ, List.getD_cons_zero] at e5
          simp only [execOp, e5]
          clear hb hd
          go_simp
          exact hK _ hC (Chg.refl _ _)
        refine Ey.ex_det 55 [54] [] rfl rfl rfl (fun _ _ _ _ _ _ _ _ => rfl) ?_
        apply Exists.intro
        refine ⟨?_, ?_⟩
        · intro wx bX kX hk1 hk2 hC hb hd K hK
          have e54 := hd 54 _ _ rfl rfl
          try dsimp only at e54
          have cc := (hC.get 0 rfl).cell
          dsimp only at cc
          have c0 := cc 0
          have c1 := cc 1
          have c2 := cc 2
          have c3 := cc 3
          have c4 := cc 4
          clear cc
          simp only [execOp, e54]
          clear hb hd
          go_simp
          exact hK _ hC (Chg.refl _ _)
        refine Ey.ex_det 56 [55] [] rfl rfl rfl (fun _ _ _ _ _ _ _ _ => rfl) ?_
        apply Exists.intro
        refine ⟨?_, ?_⟩
        · intro wx bX kX hk1 hk2 hC hb hd K hK
          have e55 := hd 55 _ _ rfl rfl
          try dsimp only at e55
          simp only [execOp, resolve, List.map_toArray, List.map_cons, List.map_nil, e55]
          clear hb hd
          go_simp
          exact hK _ hC (Chg.refl _ _)
        refine Ey.ex_det 57 [56] [] rfl rfl rfl (fun _ _ _ _ _ _ _ _ => rfl) ?_
        apply Exists.intro
        refine ⟨?_, ?_⟩
        · intro wx bX kX hk1 hk2 hC hb hd K hK
          have e56 := hd 56 _ _ rfl rfl
          try dsimp only at e56
          simp only [execOp, e56]
          clear hb hd
          go_simp
          exact hK _ hC (Chg.refl _ _)
        refine Ey.ex_det 58 [5] [] rfl rfl rfl (fun _ _ _ _ _ _ _ _ => rfl) ?_
        apply Exists.intro
        refine ⟨?_, ?_⟩
        · intro wx bX kX hk1 hk2 hC hb hd K hK
          have e5 := hb 5 rfl
          simp only [Ey.exSlot, List.getD_cons_succ, List.getD_cons_zero] at e5
          simp only [execOp, e5]
          clear hb hd
          go_simp
          exact hK _ hC (Chg.refl _ _)
        refine Ey.ex_det 59 [58] [] rfl rfl rfl (fun _ _ _ _ _ _ _ _ => rfl) ?_
        apply Exists.intro
        refine ⟨?_, ?_⟩
        · intro wx bX kX hk1 hk2 hC hb hd K hK
          have e58 := hd 58 _ _ rfl rfl
          try dsimp only at e58
          have cc := (hC.get 0 rfl).cell
          dsimp only at cc
          have c0 := cc 0
          have c1 := cc 1
          have c2 := cc 2
          have c3 := cc 3
          have c4 := cc 4
          clear cc
          simp only [execOp, e58]
          clear hb hd
          go_simp
          exact hK _ hC (Chg.refl _ _)
        refine Ey.ex_det 60 [59] [] rfl rfl rfl (fun _ _ _ _ _ _ _ _ => rfl) ?_
        apply Exists.intro
        refine ⟨?_, ?_⟩
        · intro wx bX kX hk1 hk2 hC hb hd K hK
          have e59 := hd 59 _ _ rfl rfl
          try dsimp only at e59
          simp only [execOp, e59]
          clear hb hd
          go_simp
          exact hK _ hC (Chg.refl _ _)
        refine Ey.ex_any (fun _ v w => ∃ y, v = .slice (some ⟨y, 0, none⟩) 2 2 ∧ At w y #[.int .u8 (m % 256), .int .u8 (p.g % 256)] ∧ W.heap.size ≤ y) 61 [57, 60] [] rfl rfl rfl (fun _ _ _ _ _ _ _ _ => rfl) (fun _ _ => (fun _ v w w' ⟨y, h1, h2, h3⟩ hR => ⟨y, h1, hR.at h2 (by simp), h3⟩)) ?_ ?_
        · intro wx bX kX hk1 hk2 hC hb hd K hK
          have e57 := hd 57 _ _ rfl rfl
          try dsimp only at e57
          have e60 := hd 60 _ _ rfl rfl
          try dsimp only at e60
          simp only [execOp, List.map_toArray, List.map_cons, List.map_nil, e57, e60]
          clear hb hd
          go_simp
          exact hK _ _ ⟨_, rfl, At.new _ _ _, hC.x.size⟩ (hC.alloc0 _) ((Chg.refl _ _).alloc _)
        refine Ey.ex_det 62 [61] [] rfl rfl rfl (fun _ _ _ _ _ _ _ _ => rfl) ?_
        apply Exists.intro
        refine ⟨?_, ?_⟩
        · intro wx bX kX hk1 hk2 hC hb hd K hK
          have e61 := hd 61 _ _ rfl rfl
          try dsimp only at e61
          obtain ⟨y, e61, K, hy⟩ := e61
          have cvq := conv2_at K
          simp only [execOp, e61]
          clear hb hd
          go_simp
          exact hK _ hC (Chg.refl _ _)
        refine Ey.ex_det 63 [5] [] rfl rfl rfl (fun _ _ _ _ _ _ _ _ => rfl) ?_
        apply Exists.intro
        refine ⟨?_, ?_⟩
        · intro wx bX kX hk1 hk2 hC hb hd K hK
          have e5 := hb 5 rfl
          simp only [Ey.exSlot, List.getD_cons_succ, List.getD_cons_zero] at e5
          simp only [execOp, e5]
          clear hb hd
          go_simp
          exact hK _ hC (Chg.refl _ _)
        refine Ey.ex_det 64 [63] [] rfl rfl rfl (fun _ _ _ _ _ _ _ _ => rfl) ?_
        apply Exists.intro
        refine ⟨?_, ?_⟩
        · intro wx bX kX hk1 hk2 hC hb hd K hK
          have e63 := hd 63 _ _ rfl rfl
          try dsimp only at e63
          have cc := (hC.get 0 rfl).cell
          dsimp only at cc
          have c0 := cc 0
          have c1 := cc 1
          have c2 := cc 2
          have c3 := cc 3
          have c4 := cc 4
          clear cc
          simp only [execOp, e63]
          clear hb hd
          go_simp
          exact hK _ hC (Chg.refl _ _)
        refine Ey.ex_det 65 [64] [] rfl rfl rfl (fun _ _ _ _ _ _ _ _ => rfl) ?_
        apply Exists.intro
        refine ⟨?_, ?_⟩
        · intro wx bX kX hk1 hk2 hC hb hd K hK
          have e64 := hd 64 _ _ rfl rfl
          try dsimp only at e64
          simp only [execOp, resolve, List.map_toArray, List.map_cons, List.map_nil, e64]
          clear hb hd
          go_simp
          refine (qfour_any wx _).mono ?_; rintro e w' ⟨rfl, hX⟩
          exact ⟨_, rfl, hK _ (hC.step hX) hX⟩
        refine Ey.ex_det 66 [62, 65] [] rfl rfl rfl (fun _ _ _ _ _ _ _ _ => rfl) ?_
        apply Exists.intro
        refine ⟨?_, ?_⟩
        · intro wx bX kX hk1 hk2 hC hb hd K hK
          have e62 := hd 62 _ _ rfl rfl
          try dsimp only at e62
          have e65 := hd 65 _ _ rfl rfl
          try dsimp only at e65
          simp only [execOp, e62, e65]
          clear hb hd
          go_simp
          exact hK _ hC (Chg.refl _ _)
        refine Ey.ex_det 67 [5] [] rfl rfl rfl (fun _ _ _ _ _ _ _ _ => rfl) ?_
        apply Exists.intro
        refine ⟨?_, ?_⟩
        · intro wx bX kX hk1 hk2 hC hb hd K hK
          have e5 := hb 5 rfl
          simp only [Ey.exSlot, List.getD_cons_succ, List.getD_cons_zero] at e5
          simp only [execOp, e5]
          clear hb hd
          go_simp
          exact hK _ hC (Chg.refl _ _)
        refine Ey.ex_det 68 [67] [] rfl rfl rfl (fun _ _ _ _ _ _ _ _ => rfl) ?_
        apply Exists.intro
        refine ⟨?_, ?_⟩
        · intro wx bX kX hk1 hk2 hC hb hd K hK
          have e67 := hd 67 _ _ rfl rfl
          try dsimp only at e67
          have cc := (hC.get 0 rfl).cell
          dsimp only at cc
          have c0 := cc 0
          have c1 := cc 1
          have c2 := cc 2
          have c3 := cc 3
          have c4 := cc 4
          clear cc
          simp only [execOp, e67]
          clear hb hd
          go_simp
          exact hK _ hC (Chg.refl _ _)
        refine Ey.ex_det 69 [68] [] rfl rfl rfl (fun _ _ _ _ _ _ _ _ => rfl) ?_
        apply Exists.intro
        refine ⟨?_, ?_⟩
        · intro wx bX kX hk1 hk2 hC hb hd K hK
          have e68 := hd 68 _ _ rfl rfl
          try dsimp only at e68
          simp only [execOp, resolve, List.map_toArray, List.map_cons, List.map_nil, e68]
          clear hb hd
          go_simp
          refine (qfour_any wx _).mono ?_; rintro e w' ⟨rfl, hX⟩
          exact ⟨_, rfl, hK _ (hC.step hX) hX⟩
        refine Ey.ex_det 70 [66, 69] [] rfl rfl rfl (fun _ _ _ _ _ _ _ _ => rfl) ?_
        apply Exists.intro
        refine ⟨?_, ?_⟩
        · intro wx bX kX hk1 hk2 hC hb hd K hK
          have e66 := hd 66 _ _ rfl rfl
          try dsimp only at e66
          have e69 := hd 69 _ _ rfl rfl
          try dsimp only at e69
          simp only [execOp, e66, e69]
          clear hb hd
          go_simp
          exact hK _ hC (Chg.refl _ _)
        refine Ey.ex_det 71 [5] [] rfl rfl rfl (fun _ _ _ _ _ _ _ _ => rfl) ?_
        apply Exists.intro
        refine ⟨?_, ?_⟩
        · intro wx bX kX hk1 hk2 hC hb hd K hK
          have e5 := hb 5 rfl
          simp only [Ey.exSlot, List.getD_cons_succ, List.getD_cons_zero] at e5
          simp only [execOp, e5]
          clear hb hd
          go_simp
          exact hK _ hC (Chg.refl _ _)
        refine Ey.ex_det 72 [71] [] rfl rfl rfl (fun _ _ _ _ _ _ _ _ => rfl) ?_
        apply Exists.intro
        refine ⟨?_, ?_⟩
        · intro wx bX kX hk1 hk2 hC hb hd K hK
          have e71 := hd 71 _ _ rfl rfl
          try dsimp only at e71
          have cc := (hC.get 0 rfl).cell
          dsimp only at cc
          have c0 := cc 0
          have c1 := cc 1
          have c2 := cc 2
          have c3 := cc 3
          have c4 := cc 4
          clear cc
          simp only [execOp, e71]
          clear hb hd
          go_simp
          exact hK _ hC (Chg.refl _ _)
        refine Ey.ex_det 73 [72] [] rfl rfl rfl (fun _ _ _ _ _ _ _ _ => rfl) ?_
        apply Exists.intro
        refine ⟨?_, ?_⟩
        · intro wx bX kX hk1 hk2 hC hb hd K hK
          have e72 := hd 72 _ _ rfl rfl
          try dsimp only at e72
          simp only [execOp, resolve, List.map_toArray, List.map_cons, List.map_nil, e72]
          clear hb hd
          go_simp
          refine (qfour_any wx _).mono ?_; rintro e w' ⟨rfl, hX⟩
          exact ⟨_, rfl, hK _ (hC.step hX) hX⟩
        refine Ey.ex_det 74 [70, 73] [] rfl rfl rfl (fun _ _ _ _ _ _ _ _ => rfl) ?_
        apply Exists.intro
        refine ⟨?_, ?_⟩
        · intro wx bX kX hk1 hk2 hC hb hd K hK
          have e70 := hd 70 _ _ rfl rfl
          try dsimp only at e70
          have e73 := hd 73 _ _ rfl rfl
          try dsimp only at e73
          simp only [execOp, e70, e73]
          clear hb hd
          go_simp
          exact hK _ hC (Chg.refl _ _)
        refine Ey.ex_det 75 [53, 74] [] rfl rfl rfl (fun _ _ _ _ _ _ _ _ => rfl) ?_
        apply Exists.intro
        refine ⟨?_, ?_⟩
        · intro wx bX kX hk1 hk2 hC hb hd K hK
          have e53 := hd 53 _ _ rfl rfl
          try dsimp only at e53
          have e74 := hd 74 _ _ rfl rfl
          try dsimp only at e74
          have hcc : ¬(9223372036854775807 < (strOfNums (HL ++ List.flatMap phL (List.take k phs))).size + ((strOfNums [(m : Int) % 256, p.g % 256]).size + (strOfNums (b4 p.mv)).size + (strOfNums (b4 p.mn)).size + (strOfNums (b4 p.up)).size)) := by simp only [strOfNums_size, b4_len, List.length_cons, List.length_nil]; have := Hbk.out; omega
          simp only [execOp, e53, e74]
          clear hb hd
          go_simp
          exact hK _ hC (Chg.refl _ _)
        refine Ey.ex_det 3 [75] [] rfl rfl rfl (fun _ _ _ _ _ _ _ _ => rfl) ?_
        apply Exists.intro
        refine ⟨?_, ?_⟩
        · intro wx bX kX hk1 hk2 hC hb hd K hK
          have e75 := hd 75 _ _ rfl rfl
          try dsimp only at e75
          simp only [execOp, e75]
          clear hb hd
          go_simp
          exact hK _ hC (Chg.refl _ _)
        refine Ey.ex_end ?_
        intro us w2 hus hC hall
        obtain ⟨v0, us, rfl⟩ := List.exists_cons_of_length_eq_add_one hus
        replace hus := Nat.succ.inj hus
        obtain ⟨v1, us, rfl⟩ := List.exists_cons_of_length_eq_add_one hus
        replace hus := Nat.succ.inj hus
        obtain ⟨v2, us, rfl⟩ := List.exists_cons_of_length_eq_add_one hus
        replace hus := Nat.succ.inj hus
        obtain ⟨v3, us, rfl⟩ := List.exists_cons_of_length_eq_add_one hus
        replace hus := Nat.succ.inj hus
        obtain ⟨v4, us, rfl⟩ := List.exists_cons_of_length_eq_add_one hus
        replace hus := Nat.succ.inj hus
        obtain ⟨v5, us, rfl⟩ := List.exists_cons_of_length_eq_add_one hus
        replace hus := Nat.succ.inj hus
        obtain ⟨v6, us, rfl⟩ := List.exists_cons_of_length_eq_add_one hus
        replace hus := Nat.succ.inj hus
        obtain ⟨v7, us, rfl⟩ := List.exists_cons_of_length_eq_add_one hus
        replace hus := Nat.succ.inj hus
        obtain ⟨v8, us, rfl⟩ := List.exists_cons_of_length_eq_add_one hus
        replace hus := Nat.succ.inj hus
        obtain ⟨v9, us, rfl⟩ := List.exists_cons_of_length_eq_add_one hus
        replace hus := Nat.succ.inj hus
        obtain ⟨v10, us, rfl⟩ := List.exists_cons_of_length_eq_add_one hus
        replace hus := Nat.succ.inj hus
        obtain ⟨v11, us, rfl⟩ := List.exists_cons_of_length_eq_add_one hus
        replace hus := Nat.succ.inj hus
        obtain ⟨v12, us, rfl⟩ := List.exists_cons_of_length_eq_add_one hus
        replace hus := Nat.succ.inj hus
        obtain ⟨v13, us, rfl⟩ := List.exists_cons_of_length_eq_add_one hus
        replace hus := Nat.succ.inj hus
        obtain ⟨v14, us, rfl⟩ := List.exists_cons_of_length_eq_add_one hus
        replace hus := Nat.succ.inj hus
        obtain ⟨v15, us, rfl⟩ := List.exists_cons_of_length_eq_add_one hus
        replace hus := Nat.succ.inj hus
        obtain ⟨v16, us, rfl⟩ := List.exists_cons_of_length_eq_add_one hus
        replace hus := Nat.succ.inj hus
        obtain ⟨v17, us, rfl⟩ := List.exists_cons_of_length_eq_add_one hus
        replace hus := Nat.succ.inj hus
        obtain ⟨v18, us, rfl⟩ := List.exists_cons_of_length_eq_add_one hus
        replace hus := Nat.succ.inj hus
        obtain ⟨v19, us, rfl⟩ := List.exists_cons_of_length_eq_add_one hus
        replace hus := Nat.succ.inj hus
        obtain ⟨v20, us, rfl⟩ := List.exists_cons_of_length_eq_add_one hus
        replace hus := Nat.succ.inj hus
        obtain ⟨v21, us, rfl⟩ := List.exists_cons_of_length_eq_add_one hus
        replace hus := Nat.succ.inj hus
        obtain ⟨v22, us, rfl⟩ := List.exists_cons_of_length_eq_add_one hus
        replace hus := Nat.succ.inj hus
        obtain ⟨v23, us, rfl⟩ := List.exists_cons_of_length_eq_add_one hus
        replace hus := Nat.succ.inj hus
        obtain rfl := List.length_eq_zero_iff.1 hus
        clear hus
        generalize hbb : Ey.exPuts _ _ _ = bb at hall ⊢
        simp only [Ey.exPuts, Act.put, List.setIfInBounds_toArray, List.set_cons_succ, List.set_cons_zero] at hbb
        subst hbb
        obtain ⟨h23, h22, h21, h20, h19, h18, h17, h16, h15, h14, h13, h12, h11, h10, h9, h8, h7, h6, h5, h4, h3, h2, h1, h0, -⟩ := hall
        obtain rfl : v0 = _ := h0
        obtain rfl : v1 = _ := h1
        obtain rfl : v2 = _ := h2
        obtain rfl : v3 = _ := h3
        obtain rfl : v4 = _ := h4
        obtain rfl : v5 = _ := h5
        obtain rfl : v6 = _ := h6
        obtain rfl : v7 = _ := h7
        obtain ⟨y, e61, K, hy⟩ := h8
        obtain rfl : v8 = _ := e61
        obtain rfl : v9 = _ := h9
        obtain rfl : v10 = _ := h10
        obtain rfl : v11 = _ := h11
        obtain rfl : v12 = _ := h12
        obtain rfl : v13 = _ := h13
        obtain rfl : v14 = _ := h14
        obtain rfl : v15 = _ := h15
        obtain rfl : v16 = _ := h16
        obtain rfl : v17 = _ := h17
        obtain rfl : v18 = _ := h18
        obtain rfl : v19 = _ := h19
        obtain rfl : v20 = _ := h20
        obtain rfl : v21 = _ := h21
        obtain rfl : v22 = _ := h22
        obtain rfl : v23 = _ := h23
        clear K hy e1
        rw [← HplL.out, ← nums_app]
        generalize phHead p = PH at *
        generalize hBK : HL ++ (phs.take k).flatMap phL = BK at *
        have HBK := Lib.hid hBK
        clear hBK
        have c0 := (hC.get 0 rfl).cell 0
        dsimp only at c0
        have hC7 := hC
        go_wp2_with fail
        go_loopg [3, 6] m (fun gk ss jj wr => ∃ j : Nat, j + gk = m ∧ jj = .int .i64 j ∧ ss = .string (strOfNums (BK ++ (PH ++ (p.area.take j).flatMap ptL))) ∧ CL W [(y5, #[.slice ap m capp, .int .i64 p.g, .int .i64 p.mv, .int .i64 p.mn, .int .i64 p.up]), (z, #[.slice (some ⟨bb, off, none⟩) n cap, .int .i64 rn, .int .i64 rd, .int .i64 rg, .int .i64 re, .int .i64 rs, .int .i64 ra, .int .i64 rl, .int .i64 rf])] 0 wr)
        case atStart => exact ⟨0, by omega, rfl, by simp, hC7⟩
        case round =>
          clear hC c0 hC7
          obtain ⟨j, hj, rfl, rfl, hC⟩ := hrel
          have c0 := (hC.get 0 rfl).cell 0
          dsimp only at c0
          by_cases hlj : j < m
          · have f0 : (0 : Int) ≤ (j : Int) := by omega
            have f1 : (j : Int) < (m : Int) := by omega
            have f2 : (j : Int).toNat = j := by omega
            obtain ⟨q, hq⟩ : ∃ q, p.area[j]? = some q := ⟨p.area[j]'(by rw [Hm.out]; exact hlj), List.getElem?_eq_getElem _⟩
            have hfa := Lib.hid (flat_take ptL p.area j q hq)
            have Hqq := Lib.hid hq
            have hPR := Hpts.out.2
            rcases hPR with ⟨he, _⟩ | ⟨bp, offp, cap2, hv2, h02, hcl2⟩
            · rw [he] at hq; simp at hq
            · clear hq
              obtain ⟨rfl, -, rfl⟩ : ap = some ⟨bp, offp, none⟩ ∧ m = p.area.length ∧ capp = cap2 := by
                simp only [Value.slice.injEq] at hv2; exact hv2
              have Hq := Lib.hid hcl2
              clear hcl2 hv2
              have Hptl : Hid (strOfNums (ptL q) = strOfNums (b4 q.x) ++ strOfNums (b4 q.y)) := Lib.hid (nums_app _ _)
              have Hbj : Hid ((BK ++ (PH ++ (p.area.take j).flatMap ptL)).length ≤ 700000) := Lib.hid (by
                have q1 := take_flat_le ptL p.area j
                rw [area_len p.area] at q1
                have q2 := Hbk.out
                have q3 := Hphl.out
                have q4 := Hm.out
                simp only [List.length_append] at q2 ⊢; omega)
              go_upto_region 10 with fail
              refine Ey.wp_region_ex (fun _ => CL W [(y5, #[.slice (some ⟨bp, offp, none⟩) m capp, .int .i64 p.g, .int .i64 p.mv, .int .i64 p.mn, .int .i64 p.up]), (z, #[.slice (some ⟨bb, off, none⟩) n cap, .int .i64 rn, .int .i64 rd, .int .i64 rg, .int .i64 re, .int .i64 rs, .int .i64 ra, .int .i64 rl, .int .i64 rf])] 0) (fun _ => Chg []) [] [(0, 0, false), (0, 0, false), (0, 0, false), (0, 0, false), (0, 0, false), (0, 0, false), (0, 0, false), (0, 0, false), (0, 0, false), (0, 0, false), (0, 0, false), (0, 0, false), (0, 0, false), (0, 0, false), (0, 0, false), (0, 0, false), (0, 0, false), (0, 0, false)] [83, 84, 85, 86, 87, 88, 89, 90, 91, 92, 93, 94, 95, 96, 97, 98, 99, 3] [3] (by kernel_rfl) rfl (by kernel_rfl) (by kernel_rfl) (hC.drew) ?_
              simp only [List.zip_cons_cons, List.zip_nil_right]
              refine Ey.ex_det 83 [] [3] rfl rfl rfl (fun _ _ _ _ _ _ _ _ => rfl) ?_
              apply Exists.intro
              refine ⟨?_, ?_⟩
              · intro wx bX kX hk1 hk2 hC hb hd K hK
                have e3 := hb 3 rfl
                simp only [Ey.exSlot, List.getD_cons_succ, List.getD_cons_zero] at e3
                simp only [execOp, e3]
                clear hb hd
                go_simp
                exact hK _ hC (Chg.refl _ _)
              refine Ey.ex_det 84 [5] [] rfl rfl rfl (fun _ _ _ _ _ _ _ _ => rfl) ?_
              apply Exists.intro
              refine ⟨?_, ?_⟩
              · intro wx bX kX hk1 hk2 hC hb hd K hK
                have e5 := hb 5 rfl
                simp only [Ey.exSlot, List.getD_cons_succ, List.getD_cons_zero] at e5
                simp only [execOp, e5]
                clear hb hd
                go_simp
                exact hK _ hC (Chg.refl _ _)
              refine Ey.ex_det 85 [84] [] rfl rfl rfl (fun _ _ _ _ _ _ _ _ => rfl) ?_
              apply Exists.intro
              refine ⟨?_, ?_⟩
              · intro wx bX kX hk1 hk2 hC hb hd K hK
                have e84 := hd 84 _ _ rfl rfl
                try dsimp only at e84
                have cc := (hC.get 0 rfl).cell
                dsimp only at cc
                have c0 := cc 0
                have c1 := cc 1
                have c2 := cc 2
                have c3 := cc 3
                have c4 := cc 4
                clear cc
                simp only [execOp, e84]
                clear hb hd
                go_simp
                exact hK _ hC (Chg.refl _ _)
              refine Ey.ex_det 86 [6] [] rfl rfl rfl (fun _ _ _ _ _ _ _ _ => rfl) ?_
              apply Exists.intro
              refine ⟨?_, ?_⟩
              · intro wx bX kX hk1 hk2 hC hb hd K hK
                have e6 := hb 6 rfl
                simp only [Ey.exSlot, List.getD_cons_succ, List.getD_cons_zero] at e6
                simp only [execOp, e6]
                clear hb hd
                go_simp
                exact hK _ hC (Chg.refl _ _)
              refine Ey.ex_det 87 [85, 86] [] rfl rfl rfl (fun _ _ _ _ _ _ _ _ => rfl) ?_
              apply Exists.intro
              refine ⟨?_, ?_⟩
              · intro wx bX kX hk1 hk2 hC hb hd K hK
                have e85 := hd 85 _ _ rfl rfl
                try dsimp only at e85
                have e86 := hd 86 _ _ rfl rfl
                try dsimp only at e86
                simp only [execOp, e85, e86]
                clear hb hd
                go_simp
                exact hK _ hC (Chg.refl _ _)
              refine Ey.ex_det 88 [87] [] rfl rfl rfl (fun _ _ _ _ _ _ _ _ => rfl) ?_
              apply Exists.intro
              refine ⟨?_, ?_⟩
              · intro wx bX kX hk1 hk2 hC hb hd K hK
                have e87 := hd 87 _ _ rfl rfl
                try dsimp only at e87
                simp only [execOp, e87]
                clear hb hd
                go_simp
                exact hK _ hC (Chg.refl _ _)
              refine Ey.ex_det 89 [88] [] rfl rfl rfl (fun _ _ _ _ _ _ _ _ => rfl) ?_
              apply Exists.intro
              refine ⟨?_, ?_⟩
              · intro wx bX kX hk1 hk2 hC hb hd K hK
                have e88 := hd 88 _ _ rfl rfl
                try dsimp only at e88
                have d0 := (hC.x).cell (Hq.out j q Hqq.out).1 (by simp)
                have d1 := (hC.x).cell (Hq.out j q Hqq.out).2 (by simp)
                simp only [execOp, e88]
                clear hb hd
                go_simp
                exact hK _ hC (Chg.refl _ _)
              refine Ey.ex_det 90 [89] [] rfl rfl rfl (fun _ _ _ _ _ _ _ _ => rfl) ?_
              apply Exists.intro
              refine ⟨?_, ?_⟩
              · intro wx bX kX hk1 hk2 hC hb hd K hK
                have e89 := hd 89 _ _ rfl rfl
                try dsimp only at e89
                simp only [execOp, resolve, List.map_toArray, List.map_cons, List.map_nil, e89]
                clear hb hd
                go_simp
                refine (qfour_any wx _).mono ?_; rintro e w' ⟨rfl, hX⟩
                exact ⟨_, rfl, hK _ (hC.step hX) hX⟩
              refine Ey.ex_det 91 [5] [] rfl rfl rfl (fun _ _ _ _ _ _ _ _ => rfl) ?_
              apply Exists.intro
              refine ⟨?_, ?_⟩
              · intro wx bX kX hk1 hk2 hC hb hd K hK
                have e5 := hb 5 rfl
                simp only [Ey.exSlot, List.getD_cons_succ, List.getD_cons_zero] at e5
                simp only [execOp, e5]
                clear hb hd
                go_simp
                exact hK _ hC (Chg.refl _ _)
              refine Ey.ex_det 92 [91] [] rfl rfl rfl (fun _ _ _ _ _ _ _ _ => rfl) ?_
              apply Exists.intro
              refine ⟨?_, ?_⟩
              · intro wx bX kX hk1 hk2 hC hb hd K hK
                have e91 := hd 91 _ _ rfl rfl
                try dsimp only at e91
                have cc := (hC.get 0 rfl).cell
                dsimp only at cc
                have c0 := cc 0
                have c1 := cc 1
                have c2 := cc 2
                have c3 := cc 3
                have c4 := cc 4
                clear cc
                simp only [execOp, e91]
                clear hb hd
                go_simp
                exact hK _ hC (Chg.refl _ _)
              refine Ey.ex_det 93 [6] [] rfl rfl rfl (fun _ _ _ _ _ _ _ _ => rfl) ?_
              apply Exists.intro
              refine ⟨?_, ?_⟩
              · intro wx bX kX hk1 hk2 hC hb hd K hK
                have e6 := hb 6 rfl
                simp only [Ey.exSlot, List.getD_cons_succ, List.getD_cons_zero] at e6
                simp only [execOp, e6]
                clear hb hd
                go_simp
                exact hK _ hC (Chg.refl _ _)
              refine Ey.ex_det 94 [92, 93] [] rfl rfl rfl (fun _ _ _ _ _ _ _ _ => rfl) ?_
              apply Exists.intro
              refine ⟨?_, ?_⟩
              · intro wx bX kX hk1 hk2 hC hb hd K hK
                have e92 := hd 92 _ _ rfl rfl
                try dsimp only at e92
                have e93 := hd 93 _ _ rfl rfl
                try dsimp only at e93
                simp only [execOp, e92, e93]
                clear hb hd
                go_simp
                exact hK _ hC (Chg.refl _ _)
              refine Ey.ex_det 95 [94] [] rfl rfl rfl (fun _ _ _ _ _ _ _ _ => rfl) ?_
              apply Exists.intro
              refine ⟨?_, ?_⟩
              · intro wx bX kX hk1 hk2 hC hb hd K hK
                have e94 := hd 94 _ _ rfl rfl
                try dsimp only at e94
                simp only [execOp, e94]
                clear hb hd
                go_simp
                exact hK _ hC (Chg.refl _ _)
              refine Ey.ex_det 96 [95] [] rfl rfl rfl (fun _ _ _ _ _ _ _ _ => rfl) ?_
              apply Exists.intro
              refine ⟨?_, ?_⟩
              · intro wx bX kX hk1 hk2 hC hb hd K hK
                have e95 := hd 95 _ _ rfl rfl
                try dsimp only at e95
                have d0 := (hC.x).cell (Hq.out j q Hqq.out).1 (by simp)
                have d1 := (hC.x).cell (Hq.out j q Hqq.out).2 (by simp)
                simp only [execOp, e95]
                clear hb hd
                go_simp
                exact hK _ hC (Chg.refl _ _)
              refine Ey.ex_det 97 [96] [] rfl rfl rfl (fun _ _ _ _ _ _ _ _ => rfl) ?_
              apply Exists.intro
              refine ⟨?_, ?_⟩
              · intro wx bX kX hk1 hk2 hC hb hd K hK
                have e96 := hd 96 _ _ rfl rfl
                try dsimp only at e96
                simp only [execOp, resolve, List.map_toArray, List.map_cons, List.map_nil, e96]
                clear hb hd
                go_simp
                refine (qfour_any wx _).mono ?_; rintro e w' ⟨rfl, hX⟩
                exact ⟨_, rfl, hK _ (hC.step hX) hX⟩
              refine Ey.ex_det 98 [90, 97] [] rfl rfl rfl (fun _ _ _ _ _ _ _ _ => rfl) ?_
              apply Exists.intro
              refine ⟨?_, ?_⟩
              · intro wx bX kX hk1 hk2 hC hb hd K hK
                have e90 := hd 90 _ _ rfl rfl
                try dsimp only at e90
                have e97 := hd 97 _ _ rfl rfl
                try dsimp only at e97
                simp only [execOp, e90, e97]
                clear hb hd
                go_simp
                exact hK _ hC (Chg.refl _ _)
              refine Ey.ex_det 99 [83, 98] [] rfl rfl rfl (fun _ _ _ _ _ _ _ _ => rfl) ?_
              apply Exists.intro
              refine ⟨?_, ?_⟩
              · intro wx bX kX hk1 hk2 hC hb hd K hK
                have e83 := hd 83 _ _ rfl rfl
                try dsimp only at e83
                have e98 := hd 98 _ _ rfl rfl
                try dsimp only at e98
                have hcc : ¬(9223372036854775807 < (strOfNums (BK ++ (PH ++ List.flatMap ptL (List.take j p.area)))).size + ((strOfNums (b4 q.x)).size + (strOfNums (b4 q.y)).size)) := by simp only [strOfNums_size, b4_len]; have := Hbj.out; omega
                simp only [execOp, e83, e98]
                clear hb hd
                go_simp
                exact hK _ hC (Chg.refl _ _)
              refine Ey.ex_det 3 [99] [] rfl rfl rfl (fun _ _ _ _ _ _ _ _ => rfl) ?_
              apply Exists.intro
              refine ⟨?_, ?_⟩
              · intro wx bX kX hk1 hk2 hC hb hd K hK
                have e99 := hd 99 _ _ rfl rfl
                try dsimp only at e99
                simp only [execOp, e99]
                clear hb hd
                go_simp
                exact hK _ hC (Chg.refl _ _)
              refine Ey.ex_end ?_
              intro us w2 hus hC hall
              obtain ⟨v0, us, rfl⟩ := List.exists_cons_of_length_eq_add_one hus
              replace hus := Nat.succ.inj hus
              obtain ⟨v1, us, rfl⟩ := List.exists_cons_of_length_eq_add_one hus
              replace hus := Nat.succ.inj hus
              obtain ⟨v2, us, rfl⟩ := List.exists_cons_of_length_eq_add_one hus
              replace hus := Nat.succ.inj hus
              obtain ⟨v3, us, rfl⟩ := List.exists_cons_of_length_eq_add_one hus
              replace hus := Nat.succ.inj hus
              obtain ⟨v4, us, rfl⟩ := List.exists_cons_of_length_eq_add_one hus
              replace hus := Nat.succ.inj hus
              obtain ⟨v5, us, rfl⟩ := List.exists_cons_of_length_eq_add_one hus
              replace hus := Nat.succ.inj hus
              obtain ⟨v6, us, rfl⟩ := List.exists_cons_of_length_eq_add_one hus
              replace hus := Nat.succ.inj hus
              obtain ⟨v7, us, rfl⟩ := List.exists_cons_of_length_eq_add_one hus
              replace hus := Nat.succ.inj hus
              obtain ⟨v8, us, rfl⟩ := List.exists_cons_of_length_eq_add_one hus
              replace hus := Nat.succ.inj hus
              obtain ⟨v9, us, rfl⟩ := List.exists_cons_of_length_eq_add_one hus
              replace hus := Nat.succ.inj hus
              obtain ⟨v10, us, rfl⟩ := List.exists_cons_of_length_eq_add_one hus
              replace hus := Nat.succ.inj hus
              obtain ⟨v11, us, rfl⟩ := List.exists_cons_of_length_eq_add_one hus
              replace hus := Nat.succ.inj hus
              obtain ⟨v12, us, rfl⟩ := List.exists_cons_of_length_eq_add_one hus
              replace hus := Nat.succ.inj hus
              obtain ⟨v13, us, rfl⟩ := List.exists_cons_of_length_eq_add_one hus
              replace hus := Nat.succ.inj hus
              obtain ⟨v14, us, rfl⟩ := List.exists_cons_of_length_eq_add_one hus
              replace hus := Nat.succ.inj hus
              obtain ⟨v15, us, rfl⟩ := List.exists_cons_of_length_eq_add_one hus
              replace hus := Nat.succ.inj hus
              obtain ⟨v16, us, rfl⟩ := List.exists_cons_of_length_eq_add_one hus
              replace hus := Nat.succ.inj hus
              obtain ⟨v17, us, rfl⟩ := List.exists_cons_of_length_eq_add_one hus
              replace hus := Nat.succ.inj hus
              obtain rfl := List.length_eq_zero_iff.1 hus
              clear hus
              generalize hbb : Ey.exPuts _ _ _ = bb at hall ⊢
              simp only [Ey.exPuts, Act.put, List.setIfInBounds_toArray, List.set_cons_succ, List.set_cons_zero] at hbb
              subst hbb
              obtain ⟨h17, h16, h15, h14, h13, h12, h11, h10, h9, h8, h7, h6, h5, h4, h3, h2, h1, h0, -⟩ := hall
              obtain rfl : v0 = _ := h0
              obtain rfl : v1 = _ := h1
              obtain rfl : v2 = _ := h2
              obtain rfl : v3 = _ := h3
              obtain rfl : v4 = _ := h4
              obtain rfl : v5 = _ := h5
              obtain rfl : v6 = _ := h6
              obtain rfl : v7 = _ := h7
              obtain rfl : v8 = _ := h8
              obtain rfl : v9 = _ := h9
              obtain rfl : v10 = _ := h10
              obtain rfl : v11 = _ := h11
              obtain rfl : v12 = _ := h12
              obtain rfl : v13 = _ := h13
              obtain rfl : v14 = _ := h14
              obtain rfl : v15 = _ := h15
              obtain rfl : v16 = _ := h16
              obtain rfl : v17 = _ := h17
              rw [← Hptl.out, ← nums_app]
              go_wp2_with fail
              go_roundg (gk - 1)
              case rel => exact ⟨j + 1, by omega, by go_num, by rw [hfa.out]; simp only [List.append_assoc], hC⟩
              case measure => omega
          · obtain rfl : gk = 0 := by omega
            have hjm : m = j := by omega
            subst hjm
            go_wp2_with fail
            go_roundg (n - k - 1)
            case rel => exact ⟨k + 1, by omega, by go_num, by rw [← HBK.out, hfl2.out, HphL.out]; (try simp only [List.append_assoc]), ⟨fun x hx => hC.A x (by simp at hx; simp [hx]), hC.x⟩⟩
            case measure => omega
    · obtain rfl : gk = 0 := by omega
      have hkn : n = k := by omega
      subst hkn
      rw [← Hb.out]
      have HS := fun w => rsum32_any w (strOfNums BL) (by rw [strOfNums_size]; have := hbl.out; unfold maxLen; omega)
      have hsb : (0 : Int) ≤ ((sum32 (strOfNums BL)).toNat : Int) ∧ ((sum32 (strOfNums BL)).toNat : Int) ≤ 4294967295 := by have := (sum32 (strOfNums BL)).isLt; omega
      generalize ((sum32 (strOfNums BL)).toNat : Int) = x at *
      have hwx : IntKind.i64.wrap x = x := i64_in _ (by omega) (by omega)
      have hsz : (strOfNums BL).size ≤ 600000 := by rw [strOfNums_size]; exact hbl.out
      generalize strOfNums BL = sb at *
      have hcc : ¬(9223372036854775807 < sb.size + (strOfNums (b4 x)).size) := by simp only [strOfNums_size, b4_len]; omega
      go_wp2_with fail
      refine (HS _).mono ?_; rintro e w' ⟨rfl, rfl⟩
      go_wp2_with fail
      refine (qfour_any _ x).mono ?_; rintro e w3 ⟨rfl, hX3⟩
      go_wp2
      go_returns
      exact ⟨by rw [Hp.out]; rfl, hC.x.trans hX3⟩
end Go.Proofs.YtpfglmlpodjneaaGreat
