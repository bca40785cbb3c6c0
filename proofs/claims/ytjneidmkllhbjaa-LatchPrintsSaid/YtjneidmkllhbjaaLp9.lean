/- The law LatchPrints. -/
import Derived.Test.YtjneidmkllhbjaaLn9
namespace Go.Proofs.Ytjneidmkllhbjaa
open Go.RowKit

theorem lprints_long (W : World) (q : RcV) (s : ByteArray) (hs : 100 < s.size) : Calls Try.prog 3 #[.agg q.cells, .string s] W fun e w' => e = .returned (.bool true) ∧ Below W.heap.size W w' := by
  have C := (CL.new W 0).push q.cells 23
  rw [show q.cells = #[.int .i64 q.seq, .int .i64 q.cyc, .int .i64 q.ph, .int .i64 q.st, .int .i64 q.fl, .int .i64 q.vi, .int .i64 q.di, .int .i64 q.inv, .int .i64 q.inph] from rfl] at *
  go_enter Try.func3, Try.ntmps3
  go_wp2_with fail
  refine (awake09 _).mono ?_; rintro e w1 ⟨rfl, hX1⟩
  have hsi : (100 : Int) < (s.size : Int) := by omega
  go_wp2_with fail
  refine (awake09 _).mono ?_; rintro e w2 ⟨rfl, hX2⟩
  go_wp2
  go_returns
  exact ⟨rfl, (C.x.trans (hX1.trans hX2)).to_below⟩
theorem lread_is {s : ByteArray} (h : isRec s = true) : (lread s).print = s := by
  have hz : s.size = 24 := by unfold isRec at h; simp only [Bool.and_eq_true, decide_eq_true_eq] at h; exact h.1.1.1
  unfold lread
  rw [if_pos h]
  exact (isRec_iff s hz).1 h
set_option maxRecDepth 100000 in
set_option maxHeartbeats 8000000 in
theorem lprints_tt (W : World) (q : RcV) (s : ByteArray) (hs : s.size ≤ 100) (hq : q.right = true) (hd : isRec s = true) : Calls Try.prog 3 #[.agg q.cells, .string s] W fun e w' => e = .returned (.bool true) ∧ Below W.heap.size W w' := by
  have HLP0 := fun w => lprint_any w q
  have HRP := fun w => rprint_any w q
  have HLR := fun w => lright_any w q
  have HRR := fun w => rright_any w q
  have HLq := fun w => like_any w q
  have HS := fun w => lread_any w s (by omega)
  have HS2 := fun w => rread_any w s (by unfold maxLen; omega)
  have HLx := fun w => like_any w (lread s)
  have HLP := fun w => lprint_any w (lread s)
  have hpr : q.print = strOfNums q.all := by unfold RcV.print; rw [hq]; rfl
  have hisr := isRec_print hq
  have hz24 : (strOfNums q.all).size = 24 := by rw [strOfNums_size, RcV.all_len]
  have hne := str24_ne hz24
  have HT := fun w => lread_any w (strOfNums q.all) (by omega)
  rw [show lread (strOfNums q.all) = q by rw [lread, hisr.1]; exact hisr.2, hisr.1] at HT
  rw [hpr] at HLP0 HRP
  clear hpr hisr
  generalize strOfNums q.all = t at *
  rw [hq] at HLR HRR
  rw [hd] at HS HS2
  rw [lread_is hd] at HLP
  generalize lread s = x at *
  have C := (CL.new W 0).push q.cells 23
  rw [show q.cells = #[.int .i64 q.seq, .int .i64 q.cyc, .int .i64 q.ph, .int .i64 q.st, .int .i64 q.fl, .int .i64 q.vi, .int .i64 q.di, .int .i64 q.inv, .int .i64 q.inph] from rfl] at *
  rw [show x.cells = #[.int .i64 x.seq, .int .i64 x.cyc, .int .i64 x.ph, .int .i64 x.st, .int .i64 x.fl, .int .i64 x.vi, .int .i64 x.di, .int .i64 x.inv, .int .i64 x.inph] from rfl] at *
  have hsi : (s.size : Int) ≤ 100 := by omega
  clear hs hd hq
  replace HLP0 := Lib.hid HLP0
  replace HRP := Lib.hid HRP
  replace HLR := Lib.hid HLR
  replace HRR := Lib.hid HRR
  replace HLq := Lib.hid HLq
  replace HS := Lib.hid HS
  replace HS2 := Lib.hid HS2
  replace HLx := Lib.hid HLx
  replace HLP := Lib.hid HLP
  replace HT := Lib.hid HT
  go_enter Try.func3, Try.ntmps3
  go_upto_region 1 with fail
  generalize hz : W.heap.size = z2 at *
  have hzW : W.heap.size ≤ z2 := by omega
  generalize W.alloc (.cells #[.int .i64 q.seq, .int .i64 q.cyc, .int .i64 q.ph, .int .i64 q.st, .int .i64 q.fl, .int .i64 q.vi, .int .i64 q.di, .int .i64 q.inv, .int .i64 q.inph] 23) = w0 at *
  go_wp2_with fail
  refine (awake09 _).mono ?_; rintro e w1 ⟨rfl, hX1⟩
  replace C := C.step (j := 0) hX1
  clear hX1
  have cc := (C.get 0 rfl).cell
  dsimp only at cc
  have c0 := cc 0
  have c1 := cc 1
  have c2 := cc 2
  have c3 := cc 3
  have c4 := cc 4
  have c5 := cc 5
  have c6 := cc 6
  have c7 := cc 7
  have c8 := cc 8
  clear cc
  go_wp2_with fail
  refine (HLP0.out _).mono ?_; rintro e w2 ⟨rfl, hX2⟩
  replace C := C.step (j := 0) hX2
  clear hX2 c0 c1 c2 c3 c4 c5 c6 c7 c8
  go_wp2_with fail
  refine (HT.out _).mono ?_; rintro e w3 ⟨rfl, hX3⟩
  replace C := C.step (j := 0) hX3
  clear hX3
  go_wp2_with (refine wpList_put rfl rfl rfl rfl (At.new _ _ _) rfl (by kernel_rfl) (by simp [Value.oneCell']) ?_; intro w4 hz4 hX4; refine Hid.out ?_)
  refine Lib.hid ?_
  replace C := C.fill hX4 hz4
  clear hX4 hz4
  generalize w3.heap.size = z6 at *
  go_wp2_with fail
  refine (HS.out _).mono ?_; rintro e w5 ⟨rfl, hX5⟩
  replace C := C.step (j := 0) hX5
  clear hX5
  go_wp2_with (refine wpList_put rfl rfl rfl rfl (At.new _ _ _) rfl (by kernel_rfl) (by simp [Value.oneCell']) ?_; intro w6 hz6 hX6; refine Hid.out ?_)
  refine Lib.hid ?_
  replace C := C.fill hX6 hz6
  clear hX6 hz6
  generalize w5.heap.size = z8 at *
  go_wp2_with fail
  refine (HS2.out _).mono ?_; rintro e w7 ⟨rfl, hX7⟩
  replace C := C.step (j := 0) hX7
  clear hX7
  go_wp2_with (refine wpList_put rfl rfl rfl rfl (At.new _ _ _) rfl (by kernel_rfl) (by simp [Value.oneCell']) ?_; intro w8 hz8 hX8; refine Hid.out ?_)
  refine Lib.hid ?_
  replace C := C.fill hX8 hz8
  clear hX8 hz8
  generalize w7.heap.size = z10 at *
  go_upto_region 7 with fail
  refine wp_region_ex (fun _ => CL W [(z10, #[.int .i64 x.seq, .int .i64 x.cyc, .int .i64 x.ph, .int .i64 x.st, .int .i64 x.fl, .int .i64 x.vi, .int .i64 x.di, .int .i64 x.inv, .int .i64 x.inph]), (z8, #[.int .i64 x.seq, .int .i64 x.cyc, .int .i64 x.ph, .int .i64 x.st, .int .i64 x.fl, .int .i64 x.vi, .int .i64 x.di, .int .i64 x.inv, .int .i64 x.inph]), (z6, #[.int .i64 q.seq, .int .i64 q.cyc, .int .i64 q.ph, .int .i64 q.st, .int .i64 q.fl, .int .i64 q.vi, .int .i64 q.di, .int .i64 q.inv, .int .i64 q.inph]), (z2, #[.int .i64 q.seq, .int .i64 q.cyc, .int .i64 q.ph, .int .i64 q.st, .int .i64 q.fl, .int .i64 q.vi, .int .i64 q.di, .int .i64 q.inv, .int .i64 q.inph])] 0) (Chg []) [] [(0, 0, false), (0, 0, false), (0, 0, false), (0, 0, false), (0, 0, false), (0, 0, false), (0, 0, false), (0, 0, false), (0, 0, false), (0, 0, false), (0, 0, false), (0, 0, false), (0, 0, false), (0, 0, false), (0, 0, false), (0, 0, false), (0, 0, false), (0, 0, false), (0, 0, false), (0, 0, false), (0, 0, false), (0, 0, false), (0, 0, false), (0, 0, false), (0, 0, false), (0, 0, false), (0, 0, false), (0, 0, false), (0, 0, false), (0, 0, false), (0, 0, false), (0, 0, false), (0, 0, false), (0, 0, false), (0, 0, false), (0, 0, false), (0, 0, false), (0, 0, false), (0, 0, false), (0, 0, false), (0, 0, false), (0, 0, false), (0, 0, false), (0, 0, false), (0, 0, false), (0, 0, false), (0, 0, false), (0, 0, false), (0, 0, false), (0, 0, false)] [37, 38, 39, 40, 41, 42, 43, 44, 45, 46, 47, 48, 49, 50, 51, 52, 53, 54, 55, 56, 57, 58, 59, 60, 61, 62, 63, 64, 65, 66, 67, 68, 69, 70, 71, 72, 73, 74, 75, 76, 77, 78, 79, 80, 81, 82, 83, 84, 85, 4] (by kernel_rfl) rfl (by kernel_rfl) (by kernel_rfl) (C.drew) ?_
  simp only [List.zip_cons_cons, List.zip_nil_right]
  refine ex_det 37 [5] rfl rfl (fun _ _ _ _ _ _ _ _ => rfl) ?_
  apply Exists.intro
  refine ⟨?_, ?_⟩
  · intro wx b k hk1 hk2 hC hb hd K hK
    have e5 := hb 5 rfl
    simp only [exSlot, List.getD_cons_succ, List.getD_cons_zero] at e5
    simp only [execOp, e5]
    clear hb hd
    go_simp
    exact hK _ hC (Chg.refl _ _)
  refine ex_det 38 [2] rfl rfl (fun _ _ _ _ _ _ _ _ => rfl) ?_
  apply Exists.intro
  refine ⟨?_, ?_⟩
  · intro wx b k hk1 hk2 hC hb hd K hK
    have e2 := hb 2 rfl
    simp only [exSlot, List.getD_cons_succ, List.getD_cons_zero] at e2
    simp only [execOp, e2]
    clear hb hd
    have hrun := (hC.get 3 rfl).load 23 (by kernel_rfl)
    simp only [Sem.run_bind, hrun, Result.andThen_ok, Sem.run_pure, invUpon]
    exact hK _ hC (Chg.refl _ _)
  refine ex_det 39 [38] rfl rfl (fun _ _ _ _ _ _ _ _ => rfl) ?_
  apply Exists.intro
  refine ⟨?_, ?_⟩
  · intro wx b k hk1 hk2 hC hb hd K hK
    have e38 := hd 38 _ _ rfl rfl
    try dsimp only at e38
    simp only [execOp, resolve, List.map_toArray, List.map_cons, List.map_nil, e38]
    clear hb hd
    go_simp
    refine (HLq.out wx).mono ?_; rintro e w' ⟨rfl, hX⟩
    exact ⟨_, rfl, hK _ (hC.step hX) hX⟩
  refine ex_det 40 [39] rfl rfl (fun _ _ _ _ _ _ _ _ => rfl) ?_
  apply Exists.intro
  refine ⟨?_, ?_⟩
  · intro wx b k hk1 hk2 hC hb hd K hK
    have e39 := hd 39 _ _ rfl rfl
    try dsimp only at e39
    simp only [execOp, resolve, List.map_toArray, List.map_cons, List.map_nil, e39]
    clear hb hd
    go_simp
    refine (HRP.out wx).mono ?_; rintro e w' ⟨rfl, hX⟩
    exact ⟨_, rfl, hK _ (hC.step hX) hX⟩
  refine ex_det 41 [37, 40] rfl rfl (fun _ _ _ _ _ _ _ _ => rfl) ?_
  apply Exists.intro
  refine ⟨?_, ?_⟩
  · intro wx b k hk1 hk2 hC hb hd K hK
    have e37 := hd 37 _ _ rfl rfl
    try dsimp only at e37
    have e40 := hd 40 _ _ rfl rfl
    try dsimp only at e40
    simp only [execOp, e37, e40]
    clear hb hd
    go_simp
    exact hK _ hC (Chg.refl _ _)
  refine ex_det 42 [41] rfl rfl (fun _ _ _ _ _ _ _ _ => rfl) ?_
  apply Exists.intro
  refine ⟨?_, ?_⟩
  · intro wx b k hk1 hk2 hC hb hd K hK
    have e41 := hd 41 _ _ rfl rfl
    try dsimp only at e41
    simp only [execOp, e41]
    clear hb hd
    go_simp
    exact hK _ hC (Chg.refl _ _)
  refine ex_det 43 [2, 42] rfl rfl (fun _ b _ _ _ _ hb hd => (wanted_guard b rfl rfl (hd 42 _ _ rfl rfl)).trans rfl) ?_
  apply Exists.intro
  refine ⟨?_, ?_⟩
  · intro wx b k hk1 hk2 hC hb hd K hK
    have e2 := hb 2 rfl
    simp only [exSlot, List.getD_cons_succ, List.getD_cons_zero] at e2
    simp only [execOp, e2]
    clear hb hd
    have hrun := (hC.get 3 rfl).load 23 (by kernel_rfl)
    simp only [Sem.run_bind, hrun, Result.andThen_ok, Sem.run_pure, invUpon]
    exact hK _ hC (Chg.refl _ _)
  refine ex_det 44 [43, 42] rfl rfl (fun _ b _ _ _ _ hb hd => (wanted_guard b rfl rfl (hd 42 _ _ rfl rfl)).trans rfl) ?_
  apply Exists.intro
  refine ⟨?_, ?_⟩
  · intro wx b k hk1 hk2 hC hb hd K hK
    have e43 := hd 43 _ _ rfl rfl
    try dsimp only at e43
    simp only [execOp, resolve, List.map_toArray, List.map_cons, List.map_nil, e43]
    clear hb hd
    go_simp
    refine (HLR.out wx).mono ?_; rintro e w' ⟨rfl, hX⟩
    exact ⟨_, rfl, hK _ (hC.step hX) hX⟩
  refine ex_det 45 [2, 42] rfl rfl (fun _ b _ _ _ _ hb hd => (wanted_guard b rfl rfl (hd 42 _ _ rfl rfl)).trans rfl) ?_
  apply Exists.intro
  refine ⟨?_, ?_⟩
  · intro wx b k hk1 hk2 hC hb hd K hK
    have e2 := hb 2 rfl
    simp only [exSlot, List.getD_cons_succ, List.getD_cons_zero] at e2
    simp only [execOp, e2]
    clear hb hd
    have hrun := (hC.get 3 rfl).load 23 (by kernel_rfl)
    simp only [Sem.run_bind, hrun, Result.andThen_ok, Sem.run_pure, invUpon]
    exact hK _ hC (Chg.refl _ _)
  refine ex_det 46 [45, 42] rfl rfl (fun _ b _ _ _ _ hb hd => (wanted_guard b rfl rfl (hd 42 _ _ rfl rfl)).trans rfl) ?_
  apply Exists.intro
  refine ⟨?_, ?_⟩
  · intro wx b k hk1 hk2 hC hb hd K hK
    have e45 := hd 45 _ _ rfl rfl
    try dsimp only at e45
    simp only [execOp, resolve, List.map_toArray, List.map_cons, List.map_nil, e45]
    clear hb hd
    go_simp
    refine (HLq.out wx).mono ?_; rintro e w' ⟨rfl, hX⟩
    exact ⟨_, rfl, hK _ (hC.step hX) hX⟩
  refine ex_det 47 [46, 42] rfl rfl (fun _ b _ _ _ _ hb hd => (wanted_guard b rfl rfl (hd 42 _ _ rfl rfl)).trans rfl) ?_
  apply Exists.intro
  refine ⟨?_, ?_⟩
  · intro wx b k hk1 hk2 hC hb hd K hK
    have e46 := hd 46 _ _ rfl rfl
    try dsimp only at e46
    simp only [execOp, resolve, List.map_toArray, List.map_cons, List.map_nil, e46]
    clear hb hd
    go_simp
    refine (HRR.out wx).mono ?_; rintro e w' ⟨rfl, hX⟩
    exact ⟨_, rfl, hK _ (hC.step hX) hX⟩
  refine ex_det 48 [44, 47, 42] rfl rfl (fun _ b _ _ _ _ hb hd => (wanted_guard b rfl rfl (hd 42 _ _ rfl rfl)).trans rfl) ?_
  apply Exists.intro
  refine ⟨?_, ?_⟩
  · intro wx b k hk1 hk2 hC hb hd K hK
    have e44 := hd 44 _ _ rfl rfl
    try dsimp only at e44
    have e47 := hd 47 _ _ rfl rfl
    try dsimp only at e47
    simp only [execOp, e44, e47]
    clear hb hd
    go_simp
    exact hK _ hC (Chg.refl _ _)
  refine ex_det 49 [42, 48] rfl rfl (fun _ _ _ _ _ _ _ _ => rfl) ?_
  apply Exists.intro
  refine ⟨?_, ?_⟩
  · intro wx b k hk1 hk2 hC hb hd K hK
    have e42 := hd 42 _ _ rfl rfl
    try dsimp only at e42
    have e48 := hd 48 _ _ rfl rfl
    try dsimp only at e48
    simp only [execOp, e42, e48]
    clear hb hd
    go_simp
    exact hK _ hC (Chg.refl _ _)
  refine ex_det 50 [49] rfl rfl (fun _ _ _ _ _ _ _ _ => rfl) ?_
  apply Exists.intro
  refine ⟨?_, ?_⟩
  · intro wx b k hk1 hk2 hC hb hd K hK
    have e49 := hd 49 _ _ rfl rfl
    try dsimp only at e49
    simp only [execOp, e49]
    clear hb hd
    go_simp
    exact hK _ hC (Chg.refl _ _)
  refine ex_det 51 [7, 50] rfl rfl (fun _ b _ _ _ _ hb hd => (wanted_guard b rfl rfl (hd 50 _ _ rfl rfl)).trans rfl) ?_
  apply Exists.intro
  refine ⟨?_, ?_⟩
  · intro wx b k hk1 hk2 hC hb hd K hK
    have e7 := hb 7 rfl
    simp only [exSlot, List.getD_cons_succ, List.getD_cons_zero] at e7
    simp only [execOp, e7]
    clear hb hd
    go_simp
    exact hK _ hC (Chg.refl _ _)
  refine ex_det 52 [5, 50] rfl rfl (fun _ b _ _ _ _ hb hd => (wanted_guard b rfl rfl (hd 50 _ _ rfl rfl)).trans rfl) ?_
  apply Exists.intro
  refine ⟨?_, ?_⟩
  · intro wx b k hk1 hk2 hC hb hd K hK
    have e5 := hb 5 rfl
    simp only [exSlot, List.getD_cons_succ, List.getD_cons_zero] at e5
    simp only [execOp, e5]
    clear hb hd
    go_simp
    exact hK _ hC (Chg.refl _ _)
  refine ex_det 53 [52, 50] rfl rfl (fun _ b _ _ _ _ hb hd => (wanted_guard b rfl rfl (hd 50 _ _ rfl rfl)).trans rfl) ?_
  apply Exists.intro
  refine ⟨?_, ?_⟩
  · intro wx b k hk1 hk2 hC hb hd K hK
    have e52 := hd 52 _ _ rfl rfl
    try dsimp only at e52
    simp only [execOp, e52]
    clear hb hd
    go_simp
    exact hK _ hC (Chg.refl _ _)
  refine ex_det 54 [51, 53, 50] rfl rfl (fun _ b _ _ _ _ hb hd => (wanted_guard b rfl rfl (hd 50 _ _ rfl rfl)).trans rfl) ?_
  apply Exists.intro
  refine ⟨?_, ?_⟩
  · intro wx b k hk1 hk2 hC hb hd K hK
    have e51 := hd 51 _ _ rfl rfl
    try dsimp only at e51
    have e53 := hd 53 _ _ rfl rfl
    try dsimp only at e53
    simp only [execOp, e51, e53]
    clear hb hd
    go_simp
    exact hK _ hC (Chg.refl _ _)
  refine ex_det 55 [50, 54] rfl rfl (fun _ _ _ _ _ _ _ _ => rfl) ?_
  apply Exists.intro
  refine ⟨?_, ?_⟩
  · intro wx b k hk1 hk2 hC hb hd K hK
    have e50 := hd 50 _ _ rfl rfl
    try dsimp only at e50
    have e54 := hd 54 _ _ rfl rfl
    try dsimp only at e54
    simp only [execOp, e50, e54]
    clear hb hd
    go_simp
    exact hK _ hC (Chg.refl _ _)
  refine ex_det 56 [55] rfl rfl (fun _ _ _ _ _ _ _ _ => rfl) ?_
  apply Exists.intro
  refine ⟨?_, ?_⟩
  · intro wx b k hk1 hk2 hC hb hd K hK
    have e55 := hd 55 _ _ rfl rfl
    try dsimp only at e55
    simp only [execOp, e55]
    clear hb hd
    go_simp
    exact hK _ hC (Chg.refl _ _)
  refine ex_det 57 [7, 56] rfl rfl (fun _ b _ _ _ _ hb hd => (wanted_guard b rfl rfl (hd 56 _ _ rfl rfl)).trans rfl) ?_
  apply Exists.intro
  refine ⟨?_, ?_⟩
  · intro wx b k hk1 hk2 hC hb hd K hK
    have e7 := hb 7 rfl
    simp only [exSlot, List.getD_cons_succ, List.getD_cons_zero] at e7
    simp only [execOp, e7]
    clear hb hd
    go_simp
    exact hK _ hC (Chg.refl _ _)
  refine ex_det 58 [57, 56] rfl rfl (fun _ b _ _ _ _ hb hd => (wanted_guard b rfl rfl (hd 56 _ _ rfl rfl)).trans rfl) ?_
  apply Exists.intro
  refine ⟨?_, ?_⟩
  · intro wx b k hk1 hk2 hC hb hd K hK
    have e57 := hd 57 _ _ rfl rfl
    try dsimp only at e57
    simp only [execOp, e57]
    clear hb hd
    go_simp
    exact hK _ hC (Chg.refl _ _)
  refine ex_det 59 [58, 56] rfl rfl (fun _ b _ _ _ _ hb hd => (wanted_guard b rfl rfl (hd 56 _ _ rfl rfl)).trans rfl) ?_
  apply Exists.intro
  refine ⟨?_, ?_⟩
  · intro wx b k hk1 hk2 hC hb hd K hK
    have e58 := hd 58 _ _ rfl rfl
    try dsimp only at e58
    simp only [execOp, e58]
    clear hb hd
    go_simp
    exact hK _ hC (Chg.refl _ _)
  refine ex_det 60 [6, 59] rfl rfl (fun _ b _ _ _ _ hb hd => (wanted_guard b rfl rfl (hd 59 _ _ rfl rfl)).trans rfl) ?_
  apply Exists.intro
  refine ⟨?_, ?_⟩
  · intro wx b k hk1 hk2 hC hb hd K hK
    have e6 := hb 6 rfl
    simp only [exSlot, List.getD_cons_succ, List.getD_cons_zero] at e6
    simp only [execOp, e6]
    clear hb hd
    have hrun := (hC.get 2 rfl).load 23 (by kernel_rfl)
    simp only [Sem.run_bind, hrun, Result.andThen_ok, Sem.run_pure, invUpon]
    exact hK _ hC (Chg.refl _ _)
  refine ex_det 61 [2, 59] rfl rfl (fun _ b _ _ _ _ hb hd => (wanted_guard b rfl rfl (hd 59 _ _ rfl rfl)).trans rfl) ?_
  apply Exists.intro
  refine ⟨?_, ?_⟩
  · intro wx b k hk1 hk2 hC hb hd K hK
    have e2 := hb 2 rfl
    simp only [exSlot, List.getD_cons_succ, List.getD_cons_zero] at e2
    simp only [execOp, e2]
    clear hb hd
    have hrun := (hC.get 3 rfl).load 23 (by kernel_rfl)
    simp only [Sem.run_bind, hrun, Result.andThen_ok, Sem.run_pure, invUpon]
    exact hK _ hC (Chg.refl _ _)
  refine ex_det 62 [60, 61, 59] rfl rfl (fun _ b _ _ _ _ hb hd => (wanted_guard b rfl rfl (hd 59 _ _ rfl rfl)).trans rfl) ?_
  apply Exists.intro
  refine ⟨?_, ?_⟩
  · intro wx b k hk1 hk2 hC hb hd K hK
    have e60 := hd 60 _ _ rfl rfl
    try dsimp only at e60
    have e61 := hd 61 _ _ rfl rfl
    try dsimp only at e61
    simp only [execOp, e60, e61]
    clear hb hd
    go_simp
    exact hK _ hC (Chg.refl _ _)
  refine ex_det 63 [59, 62, 56] rfl rfl (fun _ b _ _ _ _ hb hd => (wanted_guard b rfl rfl (hd 56 _ _ rfl rfl)).trans rfl) ?_
  apply Exists.intro
  refine ⟨?_, ?_⟩
  · intro wx b k hk1 hk2 hC hb hd K hK
    have e59 := hd 59 _ _ rfl rfl
    try dsimp only at e59
    have e62 := hd 62 _ _ rfl rfl
    try dsimp only at e62
    simp only [execOp, e59, e62]
    clear hb hd
    go_simp
    exact hK _ hC (Chg.refl _ _)
  refine ex_det 64 [56, 63] rfl rfl (fun _ _ _ _ _ _ _ _ => rfl) ?_
  apply Exists.intro
  refine ⟨?_, ?_⟩
  · intro wx b k hk1 hk2 hC hb hd K hK
    have e56 := hd 56 _ _ rfl rfl
    try dsimp only at e56
    have e63 := hd 63 _ _ rfl rfl
    try dsimp only at e63
    simp only [execOp, e56, e63]
    clear hb hd
    go_simp
    exact hK _ hC (Chg.refl _ _)
  refine ex_det 65 [64] rfl rfl (fun _ _ _ _ _ _ _ _ => rfl) ?_
  apply Exists.intro
  refine ⟨?_, ?_⟩
  · intro wx b k hk1 hk2 hC hb hd K hK
    have e64 := hd 64 _ _ rfl rfl
    try dsimp only at e64
    simp only [execOp, e64]
    clear hb hd
    go_simp
    exact hK _ hC (Chg.refl _ _)
  refine ex_det 66 [8, 65] rfl rfl (fun _ b _ _ _ _ hb hd => (wanted_guard b rfl rfl (hd 65 _ _ rfl rfl)).trans rfl) ?_
  apply Exists.intro
  refine ⟨?_, ?_⟩
  · intro wx b k hk1 hk2 hC hb hd K hK
    have e8 := hb 8 rfl
    simp only [exSlot, List.getD_cons_succ, List.getD_cons_zero] at e8
    simp only [execOp, e8]
    clear hb hd
    have hrun := (hC.get 1 rfl).load 23 (by kernel_rfl)
    simp only [Sem.run_bind, hrun, Result.andThen_ok, Sem.run_pure, invUpon]
    exact hK _ hC (Chg.refl _ _)
  refine ex_det 67 [66, 65] rfl rfl (fun _ b _ _ _ _ hb hd => (wanted_guard b rfl rfl (hd 65 _ _ rfl rfl)).trans rfl) ?_
  apply Exists.intro
  refine ⟨?_, ?_⟩
  · intro wx b k hk1 hk2 hC hb hd K hK
    have e66 := hd 66 _ _ rfl rfl
    try dsimp only at e66
    simp only [execOp, resolve, List.map_toArray, List.map_cons, List.map_nil, e66]
    clear hb hd
    go_simp
    refine (HLx.out wx).mono ?_; rintro e w' ⟨rfl, hX⟩
    exact ⟨_, rfl, hK _ (hC.step hX) hX⟩
  refine ex_det 68 [10, 65] rfl rfl (fun _ b _ _ _ _ hb hd => (wanted_guard b rfl rfl (hd 65 _ _ rfl rfl)).trans rfl) ?_
  apply Exists.intro
  refine ⟨?_, ?_⟩
  · intro wx b k hk1 hk2 hC hb hd K hK
    have e10 := hb 10 rfl
    simp only [exSlot, List.getD_cons_succ, List.getD_cons_zero] at e10
    simp only [execOp, e10]
    clear hb hd
    have hrun := (hC.get 0 rfl).load 28 (by kernel_rfl)
    simp only [Sem.run_bind, hrun, Result.andThen_ok, Sem.run_pure, invUpon]
    exact hK _ hC (Chg.refl _ _)
  refine ex_det 69 [67, 68, 65] rfl rfl (fun _ b _ _ _ _ hb hd => (wanted_guard b rfl rfl (hd 65 _ _ rfl rfl)).trans rfl) ?_
  apply Exists.intro
  refine ⟨?_, ?_⟩
  · intro wx b k hk1 hk2 hC hb hd K hK
    have e67 := hd 67 _ _ rfl rfl
    try dsimp only at e67
    have e68 := hd 68 _ _ rfl rfl
    try dsimp only at e68
    simp only [execOp, e67, e68]
    clear hb hd
    go_simp
    exact hK _ hC (Chg.refl _ _)
  refine ex_det 70 [65, 69] rfl rfl (fun _ _ _ _ _ _ _ _ => rfl) ?_
  apply Exists.intro
  refine ⟨?_, ?_⟩
  · intro wx b k hk1 hk2 hC hb hd K hK
    have e65 := hd 65 _ _ rfl rfl
    try dsimp only at e65
    have e69 := hd 69 _ _ rfl rfl
    try dsimp only at e69
    simp only [execOp, e65, e69]
    clear hb hd
    go_simp
    exact hK _ hC (Chg.refl _ _)
  refine ex_det 71 [70] rfl rfl (fun _ _ _ _ _ _ _ _ => rfl) ?_
  apply Exists.intro
  refine ⟨?_, ?_⟩
  · intro wx b k hk1 hk2 hC hb hd K hK
    have e70 := hd 70 _ _ rfl rfl
    try dsimp only at e70
    simp only [execOp, e70]
    clear hb hd
    go_simp
    exact hK _ hC (Chg.refl _ _)
  refine ex_det 72 [9, 71] rfl rfl (fun _ b _ _ _ _ hb hd => (wanted_guard b rfl rfl (hd 71 _ _ rfl rfl)).trans rfl) ?_
  apply Exists.intro
  refine ⟨?_, ?_⟩
  · intro wx b k hk1 hk2 hC hb hd K hK
    have e9 := hb 9 rfl
    simp only [exSlot, List.getD_cons_succ, List.getD_cons_zero] at e9
    simp only [execOp, e9]
    clear hb hd
    go_simp
    exact hK _ hC (Chg.refl _ _)
  refine ex_det 73 [11, 71] rfl rfl (fun _ b _ _ _ _ hb hd => (wanted_guard b rfl rfl (hd 71 _ _ rfl rfl)).trans rfl) ?_
  apply Exists.intro
  refine ⟨?_, ?_⟩
  · intro wx b k hk1 hk2 hC hb hd K hK
    have e11 := hb 11 rfl
    simp only [exSlot, List.getD_cons_succ, List.getD_cons_zero] at e11
    simp only [execOp, e11]
    clear hb hd
    go_simp
    exact hK _ hC (Chg.refl _ _)
  refine ex_det 74 [72, 73, 71] rfl rfl (fun _ b _ _ _ _ hb hd => (wanted_guard b rfl rfl (hd 71 _ _ rfl rfl)).trans rfl) ?_
  apply Exists.intro
  refine ⟨?_, ?_⟩
  · intro wx b k hk1 hk2 hC hb hd K hK
    have e72 := hd 72 _ _ rfl rfl
    try dsimp only at e72
    have e73 := hd 73 _ _ rfl rfl
    try dsimp only at e73
    simp only [execOp, e72, e73]
    clear hb hd
    go_simp
    exact hK _ hC (Chg.refl _ _)
  refine ex_det 75 [71, 74] rfl rfl (fun _ _ _ _ _ _ _ _ => rfl) ?_
  apply Exists.intro
  refine ⟨?_, ?_⟩
  · intro wx b k hk1 hk2 hC hb hd K hK
    have e71 := hd 71 _ _ rfl rfl
    try dsimp only at e71
    have e74 := hd 74 _ _ rfl rfl
    try dsimp only at e74
    simp only [execOp, e71, e74]
    clear hb hd
    go_simp
    exact hK _ hC (Chg.refl _ _)
  refine ex_det 76 [75] rfl rfl (fun _ _ _ _ _ _ _ _ => rfl) ?_
  apply Exists.intro
  refine ⟨?_, ?_⟩
  · intro wx b k hk1 hk2 hC hb hd K hK
    have e75 := hd 75 _ _ rfl rfl
    try dsimp only at e75
    simp only [execOp, e75]
    clear hb hd
    go_simp
    exact hK _ hC (Chg.refl _ _)
  refine ex_det 77 [9, 76] rfl rfl (fun _ b _ _ _ _ hb hd => (wanted_guard b rfl rfl (hd 76 _ _ rfl rfl)).trans rfl) ?_
  apply Exists.intro
  refine ⟨?_, ?_⟩
  · intro wx b k hk1 hk2 hC hb hd K hK
    have e9 := hb 9 rfl
    simp only [exSlot, List.getD_cons_succ, List.getD_cons_zero] at e9
    simp only [execOp, e9]
    clear hb hd
    go_simp
    exact hK _ hC (Chg.refl _ _)
  refine ex_det 78 [77, 76] rfl rfl (fun _ b _ _ _ _ hb hd => (wanted_guard b rfl rfl (hd 76 _ _ rfl rfl)).trans rfl) ?_
  apply Exists.intro
  refine ⟨?_, ?_⟩
  · intro wx b k hk1 hk2 hC hb hd K hK
    have e77 := hd 77 _ _ rfl rfl
    try dsimp only at e77
    simp only [execOp, e77]
    clear hb hd
    go_simp
    exact hK _ hC (Chg.refl _ _)
  refine ex_det 79 [78, 76] rfl rfl (fun _ b _ _ _ _ hb hd => (wanted_guard b rfl rfl (hd 76 _ _ rfl rfl)).trans rfl) ?_
  apply Exists.intro
  refine ⟨?_, ?_⟩
  · intro wx b k hk1 hk2 hC hb hd K hK
    have e78 := hd 78 _ _ rfl rfl
    try dsimp only at e78
    simp only [execOp, e78]
    clear hb hd
    go_simp
    exact hK _ hC (Chg.refl _ _)
  refine ex_det 80 [8, 79] rfl rfl (fun _ b _ _ _ _ hb hd => (wanted_guard b rfl rfl (hd 79 _ _ rfl rfl)).trans rfl) ?_
  apply Exists.intro
  refine ⟨?_, ?_⟩
  · intro wx b k hk1 hk2 hC hb hd K hK
    have e8 := hb 8 rfl
    simp only [exSlot, List.getD_cons_succ, List.getD_cons_zero] at e8
    simp only [execOp, e8]
    clear hb hd
    have hrun := (hC.get 1 rfl).load 23 (by kernel_rfl)
    simp only [Sem.run_bind, hrun, Result.andThen_ok, Sem.run_pure, invUpon]
    exact hK _ hC (Chg.refl _ _)
  refine ex_det 81 [80, 79] rfl rfl (fun _ b _ _ _ _ hb hd => (wanted_guard b rfl rfl (hd 79 _ _ rfl rfl)).trans rfl) ?_
  apply Exists.intro
  refine ⟨?_, ?_⟩
  · intro wx b k hk1 hk2 hC hb hd K hK
    have e80 := hd 80 _ _ rfl rfl
    try dsimp only at e80
    simp only [execOp, resolve, List.map_toArray, List.map_cons, List.map_nil, e80]
    clear hb hd
    go_simp
    refine (HLP.out wx).mono ?_; rintro e w' ⟨rfl, hX⟩
    exact ⟨_, rfl, hK _ (hC.step hX) hX⟩
  refine ex_det 82 [1, 79] rfl rfl (fun _ b _ _ _ _ hb hd => (wanted_guard b rfl rfl (hd 79 _ _ rfl rfl)).trans rfl) ?_
  apply Exists.intro
  refine ⟨?_, ?_⟩
  · intro wx b k hk1 hk2 hC hb hd K hK
    have e1 := hb 1 rfl
    simp only [exSlot, List.getD_cons_succ, List.getD_cons_zero] at e1
    simp only [execOp, e1]
    clear hb hd
    go_simp
    exact hK _ hC (Chg.refl _ _)
  refine ex_det 83 [81, 82, 79] rfl rfl (fun _ b _ _ _ _ hb hd => (wanted_guard b rfl rfl (hd 79 _ _ rfl rfl)).trans rfl) ?_
  apply Exists.intro
  refine ⟨?_, ?_⟩
  · intro wx b k hk1 hk2 hC hb hd K hK
    have e81 := hd 81 _ _ rfl rfl
    try dsimp only at e81
    have e82 := hd 82 _ _ rfl rfl
    try dsimp only at e82
    simp only [execOp, e81, e82]
    clear hb hd
    go_simp
    exact hK _ hC (Chg.refl _ _)
  refine ex_det 84 [79, 83, 76] rfl rfl (fun _ b _ _ _ _ hb hd => (wanted_guard b rfl rfl (hd 76 _ _ rfl rfl)).trans rfl) ?_
  apply Exists.intro
  refine ⟨?_, ?_⟩
  · intro wx b k hk1 hk2 hC hb hd K hK
    have e79 := hd 79 _ _ rfl rfl
    try dsimp only at e79
    have e83 := hd 83 _ _ rfl rfl
    try dsimp only at e83
    simp only [execOp, e79, e83]
    clear hb hd
    go_simp
    exact hK _ hC (Chg.refl _ _)
  refine ex_det 85 [76, 84] rfl rfl (fun _ _ _ _ _ _ _ _ => rfl) ?_
  apply Exists.intro
  refine ⟨?_, ?_⟩
  · intro wx b k hk1 hk2 hC hb hd K hK
    have e76 := hd 76 _ _ rfl rfl
    try dsimp only at e76
    have e84 := hd 84 _ _ rfl rfl
    try dsimp only at e84
    simp only [execOp, e76, e84]
    clear hb hd
    go_simp
    exact hK _ hC (Chg.refl _ _)
  refine ex_det 4 [85] rfl rfl (fun _ _ _ _ _ _ _ _ => rfl) ?_
  apply Exists.intro
  refine ⟨?_, ?_⟩
  · intro wx b k hk1 hk2 hC hb hd K hK
    have e85 := hd 85 _ _ rfl rfl
    try dsimp only at e85
    simp only [execOp, e85]
    clear hb hd
    go_simp
    exact hK _ hC (Chg.refl _ _)
  refine ex_end ?_
  intro us w2 hus hC hall
  obtain ⟨v0, us, rfl⟩ := List.exists_cons_of_length_eq_add_one hus
  replace hus := Nat.succ.inj hus
  obtain ⟨v1, us, rfl⟩ := List.exists_cons_of_length_eq_add_one hus
  replace hus := Nat.succ.inj hus
  obtain ⟨v2, us, rfl⟩ := List.exists_cons_of_length_eq_add_one hus
  replace hus := Nat.succ.inj hus
  obtain ⟨v3, us, rfl⟩ := List.exists_cons_of_length_eq_add_one hus
  replace hus := Nat.succ.inj hus
  obtain ⟨v4, us, rfl⟩ := List.exists_cons_of_length_eq_add_one hus
  replace hus := Nat.succ.inj hus
  obtain ⟨v5, us, rfl⟩ := List.exists_cons_of_length_eq_add_one hus
  replace hus := Nat.succ.inj hus
  obtain ⟨v6, us, rfl⟩ := List.exists_cons_of_length_eq_add_one hus
  replace hus := Nat.succ.inj hus
  obtain ⟨v7, us, rfl⟩ := List.exists_cons_of_length_eq_add_one hus
  replace hus := Nat.succ.inj hus
  obtain ⟨v8, us, rfl⟩ := List.exists_cons_of_length_eq_add_one hus
  replace hus := Nat.succ.inj hus
  obtain ⟨v9, us, rfl⟩ := List.exists_cons_of_length_eq_add_one hus
  replace hus := Nat.succ.inj hus
  obtain ⟨v10, us, rfl⟩ := List.exists_cons_of_length_eq_add_one hus
  replace hus := Nat.succ.inj hus
  obtain ⟨v11, us, rfl⟩ := List.exists_cons_of_length_eq_add_one hus
  replace hus := Nat.succ.inj hus
  obtain ⟨v12, us, rfl⟩ := List.exists_cons_of_length_eq_add_one hus
  replace hus := Nat.succ.inj hus
  obtain ⟨v13, us, rfl⟩ := List.exists_cons_of_length_eq_add_one hus
  replace hus := Nat.succ.inj hus
  obtain ⟨v14, us, rfl⟩ := List.exists_cons_of_length_eq_add_one hus
  replace hus := Nat.succ.inj hus
  obtain ⟨v15, us, rfl⟩ := List.exists_cons_of_length_eq_add_one hus
  replace hus := Nat.succ.inj hus
  obtain ⟨v16, us, rfl⟩ := List.exists_cons_of_length_eq_add_one hus
  replace hus := Nat.succ.inj hus
  obtain ⟨v17, us, rfl⟩ := List.exists_cons_of_length_eq_add_one hus
  replace hus := Nat.succ.inj hus
  obtain ⟨v18, us, rfl⟩ := List.exists_cons_of_length_eq_add_one hus
  replace hus := Nat.succ.inj hus
  obtain ⟨v19, us, rfl⟩ := List.exists_cons_of_length_eq_add_one hus
  replace hus := Nat.succ.inj hus
  obtain ⟨v20, us, rfl⟩ := List.exists_cons_of_length_eq_add_one hus
  replace hus := Nat.succ.inj hus
  obtain ⟨v21, us, rfl⟩ := List.exists_cons_of_length_eq_add_one hus
  replace hus := Nat.succ.inj hus
  obtain ⟨v22, us, rfl⟩ := List.exists_cons_of_length_eq_add_one hus
  replace hus := Nat.succ.inj hus
  obtain ⟨v23, us, rfl⟩ := List.exists_cons_of_length_eq_add_one hus
  replace hus := Nat.succ.inj hus
  obtain ⟨v24, us, rfl⟩ := List.exists_cons_of_length_eq_add_one hus
  replace hus := Nat.succ.inj hus
  obtain ⟨v25, us, rfl⟩ := List.exists_cons_of_length_eq_add_one hus
  replace hus := Nat.succ.inj hus
  obtain ⟨v26, us, rfl⟩ := List.exists_cons_of_length_eq_add_one hus
  replace hus := Nat.succ.inj hus
  obtain ⟨v27, us, rfl⟩ := List.exists_cons_of_length_eq_add_one hus
  replace hus := Nat.succ.inj hus
  obtain ⟨v28, us, rfl⟩ := List.exists_cons_of_length_eq_add_one hus
  replace hus := Nat.succ.inj hus
  obtain ⟨v29, us, rfl⟩ := List.exists_cons_of_length_eq_add_one hus
  replace hus := Nat.succ.inj hus
  obtain ⟨v30, us, rfl⟩ := List.exists_cons_of_length_eq_add_one hus
  replace hus := Nat.succ.inj hus
  obtain ⟨v31, us, rfl⟩ := List.exists_cons_of_length_eq_add_one hus
  replace hus := Nat.succ.inj hus
  obtain ⟨v32, us, rfl⟩ := List.exists_cons_of_length_eq_add_one hus
  replace hus := Nat.succ.inj hus
  obtain ⟨v33, us, rfl⟩ := List.exists_cons_of_length_eq_add_one hus
  replace hus := Nat.succ.inj hus
  obtain ⟨v34, us, rfl⟩ := List.exists_cons_of_length_eq_add_one hus
  replace hus := Nat.succ.inj hus
  obtain ⟨v35, us, rfl⟩ := List.exists_cons_of_length_eq_add_one hus
  replace hus := Nat.succ.inj hus
  obtain ⟨v36, us, rfl⟩ := List.exists_cons_of_length_eq_add_one hus
  replace hus := Nat.succ.inj hus
  obtain ⟨v37, us, rfl⟩ := List.exists_cons_of_length_eq_add_one hus
  replace hus := Nat.succ.inj hus
  obtain ⟨v38, us, rfl⟩ := List.exists_cons_of_length_eq_add_one hus
  replace hus := Nat.succ.inj hus
  obtain ⟨v39, us, rfl⟩ := List.exists_cons_of_length_eq_add_one hus
  replace hus := Nat.succ.inj hus
  obtain ⟨v40, us, rfl⟩ := List.exists_cons_of_length_eq_add_one hus
  replace hus := Nat.succ.inj hus
  obtain ⟨v41, us, rfl⟩ := List.exists_cons_of_length_eq_add_one hus
  replace hus := Nat.succ.inj hus
  obtain ⟨v42, us, rfl⟩ := List.exists_cons_of_length_eq_add_one hus
  replace hus := Nat.succ.inj hus
  obtain ⟨v43, us, rfl⟩ := List.exists_cons_of_length_eq_add_one hus
  replace hus := Nat.succ.inj hus
  obtain ⟨v44, us, rfl⟩ := List.exists_cons_of_length_eq_add_one hus
  replace hus := Nat.succ.inj hus
  obtain ⟨v45, us, rfl⟩ := List.exists_cons_of_length_eq_add_one hus
  replace hus := Nat.succ.inj hus
  obtain ⟨v46, us, rfl⟩ := List.exists_cons_of_length_eq_add_one hus
  replace hus := Nat.succ.inj hus
  obtain ⟨v47, us, rfl⟩ := List.exists_cons_of_length_eq_add_one hus
  replace hus := Nat.succ.inj hus
  obtain ⟨v48, us, rfl⟩ := List.exists_cons_of_length_eq_add_one hus
  replace hus := Nat.succ.inj hus
  obtain ⟨v49, us, rfl⟩ := List.exists_cons_of_length_eq_add_one hus
  replace hus := Nat.succ.inj hus
  obtain rfl := List.length_eq_zero_iff.1 hus
  clear hus
  generalize hbb : exPuts _ _ _ = bb at hall ⊢
  simp only [exPuts, Act.put, List.setIfInBounds_toArray, List.set_cons_succ, List.set_cons_zero] at hbb
  subst hbb
  obtain ⟨h49, h48, h47, h46, h45, h44, h43, h42, h41, h40, h39, h38, h37, h36, h35, h34, h33, h32, h31, h30, h29, h28, h27, h26, h25, h24, h23, h22, h21, h20, h19, h18, h17, h16, h15, h14, h13, h12, h11, h10, h9, h8, h7, h6, h5, h4, h3, h2, h1, h0, -⟩ := hall
  obtain rfl : v0 = _ := h0
  obtain rfl : v1 = _ := h1
  obtain rfl : v2 = _ := h2
  obtain rfl : v3 = _ := h3
  obtain rfl : v4 = _ := h4
  obtain rfl : v5 = _ := h5
  obtain rfl : v6 = _ := h6
  obtain rfl : v7 = _ := h7
  obtain rfl : v8 = _ := h8
  obtain rfl : v9 = _ := h9
  obtain rfl : v10 = _ := h10
  obtain rfl : v11 = _ := h11
  obtain rfl : v12 = _ := h12
  obtain rfl : v13 = _ := h13
  obtain rfl : v14 = _ := h14
  obtain rfl : v15 = _ := h15
  obtain rfl : v16 = _ := h16
  obtain rfl : v17 = _ := h17
  obtain rfl : v18 = _ := h18
  obtain rfl : v19 = _ := h19
  obtain rfl : v20 = _ := h20
  obtain rfl : v21 = _ := h21
  obtain rfl : v22 = _ := h22
  obtain rfl : v23 = _ := h23
  obtain rfl : v24 = _ := h24
  obtain rfl : v25 = _ := h25
  obtain rfl : v26 = _ := h26
  obtain rfl : v27 = _ := h27
  obtain rfl : v28 = _ := h28
  obtain rfl : v29 = _ := h29
  obtain rfl : v30 = _ := h30
  obtain rfl : v31 = _ := h31
  obtain rfl : v32 = _ := h32
  obtain rfl : v33 = _ := h33
  obtain rfl : v34 = _ := h34
  obtain rfl : v35 = _ := h35
  obtain rfl : v36 = _ := h36
  obtain rfl : v37 = _ := h37
  obtain rfl : v38 = _ := h38
  obtain rfl : v39 = _ := h39
  obtain rfl : v40 = _ := h40
  obtain rfl : v41 = _ := h41
  obtain rfl : v42 = _ := h42
  obtain rfl : v43 = _ := h43
  obtain rfl : v44 = _ := h44
  obtain rfl : v45 = _ := h45
  obtain rfl : v46 = _ := h46
  obtain rfl : v47 = _ := h47
  obtain rfl : v48 = _ := h48
  obtain rfl : v49 = _ := h49
  go_wp2
  go_returns
  exact ⟨rfl, hC.x.to_below⟩
set_option maxRecDepth 100000 in
set_option maxHeartbeats 8000000 in
theorem lprints_tf (W : World) (q : RcV) (s : ByteArray) (hs : s.size ≤ 100) (hq : q.right = true) (hd : isRec s = false) : Calls Try.prog 3 #[.agg q.cells, .string s] W fun e w' => e = .returned (.bool true) ∧ Below W.heap.size W w' := by
  have HLP0 := fun w => lprint_any w q
  have HRP := fun w => rprint_any w q
  have HLR := fun w => lright_any w q
  have HRR := fun w => rright_any w q
  have HLq := fun w => like_any w q
  have HS := fun w => lread_any w s (by omega)
  have HS2 := fun w => rread_any w s (by unfold maxLen; omega)
  have HLx := fun w => like_any w (lread s)
  have HLP := fun w => lprint_any w (lread s)
  have hpr : q.print = strOfNums q.all := by unfold RcV.print; rw [hq]; rfl
  have hisr := isRec_print hq
  have hz24 : (strOfNums q.all).size = 24 := by rw [strOfNums_size, RcV.all_len]
  have hne := str24_ne hz24
  have HT := fun w => lread_any w (strOfNums q.all) (by omega)
  rw [show lread (strOfNums q.all) = q by rw [lread, hisr.1]; exact hisr.2, hisr.1] at HT
  rw [hpr] at HLP0 HRP
  clear hpr hisr
  generalize strOfNums q.all = t at *
  rw [hq] at HLR HRR
  rw [hd] at HS HS2
  skip
  generalize lread s = x at *
  have C := (CL.new W 0).push q.cells 23
  rw [show q.cells = #[.int .i64 q.seq, .int .i64 q.cyc, .int .i64 q.ph, .int .i64 q.st, .int .i64 q.fl, .int .i64 q.vi, .int .i64 q.di, .int .i64 q.inv, .int .i64 q.inph] from rfl] at *
  rw [show x.cells = #[.int .i64 x.seq, .int .i64 x.cyc, .int .i64 x.ph, .int .i64 x.st, .int .i64 x.fl, .int .i64 x.vi, .int .i64 x.di, .int .i64 x.inv, .int .i64 x.inph] from rfl] at *
  have hsi : (s.size : Int) ≤ 100 := by omega
  clear hs hd hq
  replace HLP0 := Lib.hid HLP0
  replace HRP := Lib.hid HRP
  replace HLR := Lib.hid HLR
  replace HRR := Lib.hid HRR
  replace HLq := Lib.hid HLq
  replace HS := Lib.hid HS
  replace HS2 := Lib.hid HS2
  replace HLx := Lib.hid HLx
  replace HLP := Lib.hid HLP
  replace HT := Lib.hid HT
  go_enter Try.func3, Try.ntmps3
  go_upto_region 1 with fail
  generalize hz : W.heap.size = z2 at *
  have hzW : W.heap.size ≤ z2 := by omega
  generalize W.alloc (.cells #[.int .i64 q.seq, .int .i64 q.cyc, .int .i64 q.ph, .int .i64 q.st, .int .i64 q.fl, .int .i64 q.vi, .int .i64 q.di, .int .i64 q.inv, .int .i64 q.inph] 23) = w0 at *
  go_wp2_with fail
  refine (awake09 _).mono ?_; rintro e w1 ⟨rfl, hX1⟩
  replace C := C.step (j := 0) hX1
  clear hX1
  have cc := (C.get 0 rfl).cell
  dsimp only at cc
  have c0 := cc 0
  have c1 := cc 1
  have c2 := cc 2
  have c3 := cc 3
  have c4 := cc 4
  have c5 := cc 5
  have c6 := cc 6
  have c7 := cc 7
  have c8 := cc 8
  clear cc
  go_wp2_with fail
  refine (HLP0.out _).mono ?_; rintro e w2 ⟨rfl, hX2⟩
  replace C := C.step (j := 0) hX2
  clear hX2 c0 c1 c2 c3 c4 c5 c6 c7 c8
  go_wp2_with fail
  refine (HT.out _).mono ?_; rintro e w3 ⟨rfl, hX3⟩
  replace C := C.step (j := 0) hX3
  clear hX3
  go_wp2_with (refine wpList_put rfl rfl rfl rfl (At.new _ _ _) rfl (by kernel_rfl) (by simp [Value.oneCell']) ?_; intro w4 hz4 hX4; refine Hid.out ?_)
  refine Lib.hid ?_
  replace C := C.fill hX4 hz4
  clear hX4 hz4
  generalize w3.heap.size = z6 at *
  go_wp2_with fail
  refine (HS.out _).mono ?_; rintro e w5 ⟨rfl, hX5⟩
  replace C := C.step (j := 0) hX5
  clear hX5
  go_wp2_with (refine wpList_put rfl rfl rfl rfl (At.new _ _ _) rfl (by kernel_rfl) (by simp [Value.oneCell']) ?_; intro w6 hz6 hX6; refine Hid.out ?_)
  refine Lib.hid ?_
  replace C := C.fill hX6 hz6
  clear hX6 hz6
  generalize w5.heap.size = z8 at *
  go_wp2_with fail
  refine (HS2.out _).mono ?_; rintro e w7 ⟨rfl, hX7⟩
  replace C := C.step (j := 0) hX7
  clear hX7
  go_wp2_with (refine wpList_put rfl rfl rfl rfl (At.new _ _ _) rfl (by kernel_rfl) (by simp [Value.oneCell']) ?_; intro w8 hz8 hX8; refine Hid.out ?_)
  refine Lib.hid ?_
  replace C := C.fill hX8 hz8
  clear hX8 hz8
  generalize w7.heap.size = z10 at *
  go_upto_region 7 with fail
  refine wp_region_ex (fun _ => CL W [(z10, #[.int .i64 x.seq, .int .i64 x.cyc, .int .i64 x.ph, .int .i64 x.st, .int .i64 x.fl, .int .i64 x.vi, .int .i64 x.di, .int .i64 x.inv, .int .i64 x.inph]), (z8, #[.int .i64 x.seq, .int .i64 x.cyc, .int .i64 x.ph, .int .i64 x.st, .int .i64 x.fl, .int .i64 x.vi, .int .i64 x.di, .int .i64 x.inv, .int .i64 x.inph]), (z6, #[.int .i64 q.seq, .int .i64 q.cyc, .int .i64 q.ph, .int .i64 q.st, .int .i64 q.fl, .int .i64 q.vi, .int .i64 q.di, .int .i64 q.inv, .int .i64 q.inph]), (z2, #[.int .i64 q.seq, .int .i64 q.cyc, .int .i64 q.ph, .int .i64 q.st, .int .i64 q.fl, .int .i64 q.vi, .int .i64 q.di, .int .i64 q.inv, .int .i64 q.inph])] 0) (Chg []) [] [(0, 0, false), (0, 0, false), (0, 0, false), (0, 0, false), (0, 0, false), (0, 0, false), (0, 0, false), (0, 0, false), (0, 0, false), (0, 0, false), (0, 0, false), (0, 0, false), (0, 0, false), (0, 0, false), (0, 0, false), (0, 0, false), (0, 0, false), (0, 0, false), (0, 0, false), (0, 0, false), (0, 0, false), (0, 0, false), (0, 0, false), (0, 0, false), (0, 0, false), (0, 0, false), (0, 0, false), (0, 0, false), (0, 0, false), (0, 0, false), (0, 0, false), (0, 0, false), (0, 0, false), (0, 0, false), (0, 0, false), (0, 0, false), (0, 0, false), (0, 0, false), (0, 0, false), (0, 0, false), (0, 0, false), (0, 0, false), (0, 0, false), (0, 0, false), (0, 0, false), (0, 0, false), (0, 0, false), (0, 0, false), (0, 0, false), (0, 0, false)] [37, 38, 39, 40, 41, 42, 43, 44, 45, 46, 47, 48, 49, 50, 51, 52, 53, 54, 55, 56, 57, 58, 59, 60, 61, 62, 63, 64, 65, 66, 67, 68, 69, 70, 71, 72, 73, 74, 75, 76, 77, 78, 79, 80, 81, 82, 83, 84, 85, 4] (by kernel_rfl) rfl (by kernel_rfl) (by kernel_rfl) (C.drew) ?_
  simp only [List.zip_cons_cons, List.zip_nil_right]
  refine ex_det 37 [5] rfl rfl (fun _ _ _ _ _ _ _ _ => rfl) ?_
  apply Exists.intro
  refine ⟨?_, ?_⟩
  · intro wx b k hk1 hk2 hC hb hd K hK
    have e5 := hb 5 rfl
    simp only [exSlot, List.getD_cons_succ, List.getD_cons_zero] at e5
    simp only [execOp, e5]
    clear hb hd
    go_simp
    exact hK _ hC (Chg.refl _ _)
  refine ex_det 38 [2] rfl rfl (fun _ _ _ _ _ _ _ _ => rfl) ?_
  apply Exists.intro
  refine ⟨?_, ?_⟩
  · intro wx b k hk1 hk2 hC hb hd K hK
    have e2 := hb 2 rfl
    simp only [exSlot, List.getD_cons_succ, List.getD_cons_zero] at e2
    simp only [execOp, e2]
    clear hb hd
    have hrun := (hC.get 3 rfl).load 23 (by kernel_rfl)
    simp only [Sem.run_bind, hrun, Result.andThen_ok, Sem.run_pure, invUpon]
    exact hK _ hC (Chg.refl _ _)
  refine ex_det 39 [38] rfl rfl (fun _ _ _ _ _ _ _ _ => rfl) ?_
  apply Exists.intro
  refine ⟨?_, ?_⟩
  · intro wx b k hk1 hk2 hC hb hd K hK
    have e38 := hd 38 _ _ rfl rfl
    try dsimp only at e38
    simp only [execOp, resolve, List.map_toArray, List.map_cons, List.map_nil, e38]
    clear hb hd
    go_simp
    refine (HLq.out wx).mono ?_; rintro e w' ⟨rfl, hX⟩
    exact ⟨_, rfl, hK _ (hC.step hX) hX⟩
  refine ex_det 40 [39] rfl rfl (fun _ _ _ _ _ _ _ _ => rfl) ?_
  apply Exists.intro
  refine ⟨?_, ?_⟩
  · intro wx b k hk1 hk2 hC hb hd K hK
    have e39 := hd 39 _ _ rfl rfl
    try dsimp only at e39
    simp only [execOp, resolve, List.map_toArray, List.map_cons, List.map_nil, e39]
    clear hb hd
    go_simp
    refine (HRP.out wx).mono ?_; rintro e w' ⟨rfl, hX⟩
    exact ⟨_, rfl, hK _ (hC.step hX) hX⟩
  refine ex_det 41 [37, 40] rfl rfl (fun _ _ _ _ _ _ _ _ => rfl) ?_
  apply Exists.intro
  refine ⟨?_, ?_⟩
  · intro wx b k hk1 hk2 hC hb hd K hK
    have e37 := hd 37 _ _ rfl rfl
    try dsimp only at e37
    have e40 := hd 40 _ _ rfl rfl
    try dsimp only at e40
    simp only [execOp, e37, e40]
    clear hb hd
    go_simp
    exact hK _ hC (Chg.refl _ _)
  refine ex_det 42 [41] rfl rfl (fun _ _ _ _ _ _ _ _ => rfl) ?_
  apply Exists.intro
  refine ⟨?_, ?_⟩
  · intro wx b k hk1 hk2 hC hb hd K hK
    have e41 := hd 41 _ _ rfl rfl
    try dsimp only at e41
    simp only [execOp, e41]
    clear hb hd
    go_simp
    exact hK _ hC (Chg.refl _ _)
  refine ex_det 43 [2, 42] rfl rfl (fun _ b _ _ _ _ hb hd => (wanted_guard b rfl rfl (hd 42 _ _ rfl rfl)).trans rfl) ?_
  apply Exists.intro
  refine ⟨?_, ?_⟩
  · intro wx b k hk1 hk2 hC hb hd K hK
    have e2 := hb 2 rfl
    simp only [exSlot, List.getD_cons_succ, List.getD_cons_zero] at e2
    simp only [execOp, e2]
    clear hb hd
    have hrun := (hC.get 3 rfl).load 23 (by kernel_rfl)
    simp only [Sem.run_bind, hrun, Result.andThen_ok, Sem.run_pure, invUpon]
    exact hK _ hC (Chg.refl _ _)
  refine ex_det 44 [43, 42] rfl rfl (fun _ b _ _ _ _ hb hd => (wanted_guard b rfl rfl (hd 42 _ _ rfl rfl)).trans rfl) ?_
  apply Exists.intro
  refine ⟨?_, ?_⟩
  · intro wx b k hk1 hk2 hC hb hd K hK
    have e43 := hd 43 _ _ rfl rfl
    try dsimp only at e43
    simp only [execOp, resolve, List.map_toArray, List.map_cons, List.map_nil, e43]
    clear hb hd
    go_simp
    refine (HLR.out wx).mono ?_; rintro e w' ⟨rfl, hX⟩
    exact ⟨_, rfl, hK _ (hC.step hX) hX⟩
  refine ex_det 45 [2, 42] rfl rfl (fun _ b _ _ _ _ hb hd => (wanted_guard b rfl rfl (hd 42 _ _ rfl rfl)).trans rfl) ?_
  apply Exists.intro
  refine ⟨?_, ?_⟩
  · intro wx b k hk1 hk2 hC hb hd K hK
    have e2 := hb 2 rfl
    simp only [exSlot, List.getD_cons_succ, List.getD_cons_zero] at e2
    simp only [execOp, e2]
    clear hb hd
    have hrun := (hC.get 3 rfl).load 23 (by kernel_rfl)
    simp only [Sem.run_bind, hrun, Result.andThen_ok, Sem.run_pure, invUpon]
    exact hK _ hC (Chg.refl _ _)
  refine ex_det 46 [45, 42] rfl rfl (fun _ b _ _ _ _ hb hd => (wanted_guard b rfl rfl (hd 42 _ _ rfl rfl)).trans rfl) ?_
  apply Exists.intro
  refine ⟨?_, ?_⟩
  · intro wx b k hk1 hk2 hC hb hd K hK
    have e45 := hd 45 _ _ rfl rfl
    try dsimp only at e45
    simp only [execOp, resolve, List.map_toArray, List.map_cons, List.map_nil, e45]
    clear hb hd
    go_simp
    refine (HLq.out wx).mono ?_; rintro e w' ⟨rfl, hX⟩
    exact ⟨_, rfl, hK _ (hC.step hX) hX⟩
  refine ex_det 47 [46, 42] rfl rfl (fun _ b _ _ _ _ hb hd => (wanted_guard b rfl rfl (hd 42 _ _ rfl rfl)).trans rfl) ?_
  apply Exists.intro
  refine ⟨?_, ?_⟩
  · intro wx b k hk1 hk2 hC hb hd K hK
    have e46 := hd 46 _ _ rfl rfl
    try dsimp only at e46
    simp only [execOp, resolve, List.map_toArray, List.map_cons, List.map_nil, e46]
    clear hb hd
    go_simp
    refine (HRR.out wx).mono ?_; rintro e w' ⟨rfl, hX⟩
    exact ⟨_, rfl, hK _ (hC.step hX) hX⟩
  refine ex_det 48 [44, 47, 42] rfl rfl (fun _ b _ _ _ _ hb hd => (wanted_guard b rfl rfl (hd 42 _ _ rfl rfl)).trans rfl) ?_
  apply Exists.intro
  refine ⟨?_, ?_⟩
  · intro wx b k hk1 hk2 hC hb hd K hK
    have e44 := hd 44 _ _ rfl rfl
    try dsimp only at e44
    have e47 := hd 47 _ _ rfl rfl
    try dsimp only at e47
    simp only [execOp, e44, e47]
    clear hb hd
    go_simp
    exact hK _ hC (Chg.refl _ _)
  refine ex_det 49 [42, 48] rfl rfl (fun _ _ _ _ _ _ _ _ => rfl) ?_
  apply Exists.intro
  refine ⟨?_, ?_⟩
  · intro wx b k hk1 hk2 hC hb hd K hK
    have e42 := hd 42 _ _ rfl rfl
    try dsimp only at e42
    have e48 := hd 48 _ _ rfl rfl
    try dsimp only at e48
    simp only [execOp, e42, e48]
    clear hb hd
    go_simp
    exact hK _ hC (Chg.refl _ _)
  refine ex_det 50 [49] rfl rfl (fun _ _ _ _ _ _ _ _ => rfl) ?_
  apply Exists.intro
  refine ⟨?_, ?_⟩
  · intro wx b k hk1 hk2 hC hb hd K hK
    have e49 := hd 49 _ _ rfl rfl
    try dsimp only at e49
    simp only [execOp, e49]
    clear hb hd
    go_simp
    exact hK _ hC (Chg.refl _ _)
  refine ex_det 51 [7, 50] rfl rfl (fun _ b _ _ _ _ hb hd => (wanted_guard b rfl rfl (hd 50 _ _ rfl rfl)).trans rfl) ?_
  apply Exists.intro
  refine ⟨?_, ?_⟩
  · intro wx b k hk1 hk2 hC hb hd K hK
    have e7 := hb 7 rfl
    simp only [exSlot, List.getD_cons_succ, List.getD_cons_zero] at e7
    simp only [execOp, e7]
    clear hb hd
    go_simp
    exact hK _ hC (Chg.refl _ _)
  refine ex_det 52 [5, 50] rfl rfl (fun _ b _ _ _ _ hb hd => (wanted_guard b rfl rfl (hd 50 _ _ rfl rfl)).trans rfl) ?_
  apply Exists.intro
  refine ⟨?_, ?_⟩
  · intro wx b k hk1 hk2 hC hb hd K hK
    have e5 := hb 5 rfl
    simp only [exSlot, List.getD_cons_succ, List.getD_cons_zero] at e5
    simp only [execOp, e5]
    clear hb hd
    go_simp
    exact hK _ hC (Chg.refl _ _)
  refine ex_det 53 [52, 50] rfl rfl (fun _ b _ _ _ _ hb hd => (wanted_guard b rfl rfl (hd 50 _ _ rfl rfl)).trans rfl) ?_
  apply Exists.intro
  refine ⟨?_, ?_⟩
  · intro wx b k hk1 hk2 hC hb hd K hK
    have e52 := hd 52 _ _ rfl rfl
    try dsimp only at e52
    simp only [execOp, e52]
    clear hb hd
    go_simp
    exact hK _ hC (Chg.refl _ _)
  refine ex_det 54 [51, 53, 50] rfl rfl (fun _ b _ _ _ _ hb hd => (wanted_guard b rfl rfl (hd 50 _ _ rfl rfl)).trans rfl) ?_
  apply Exists.intro
  refine ⟨?_, ?_⟩
  · intro wx b k hk1 hk2 hC hb hd K hK
    have e51 := hd 51 _ _ rfl rfl
    try dsimp only at e51
    have e53 := hd 53 _ _ rfl rfl
    try dsimp only at e53
    simp only [execOp, e51, e53]
    clear hb hd
    go_simp
    exact hK _ hC (Chg.refl _ _)
  refine ex_det 55 [50, 54] rfl rfl (fun _ _ _ _ _ _ _ _ => rfl) ?_
  apply Exists.intro
  refine ⟨?_, ?_⟩
  · intro wx b k hk1 hk2 hC hb hd K hK
    have e50 := hd 50 _ _ rfl rfl
    try dsimp only at e50
    have e54 := hd 54 _ _ rfl rfl
    try dsimp only at e54
    simp only [execOp, e50, e54]
    clear hb hd
    go_simp
    exact hK _ hC (Chg.refl _ _)
  refine ex_det 56 [55] rfl rfl (fun _ _ _ _ _ _ _ _ => rfl) ?_
  apply Exists.intro
  refine ⟨?_, ?_⟩
  · intro wx b k hk1 hk2 hC hb hd K hK
    have e55 := hd 55 _ _ rfl rfl
    try dsimp only at e55
    simp only [execOp, e55]
    clear hb hd
    go_simp
    exact hK _ hC (Chg.refl _ _)
  refine ex_det 57 [7, 56] rfl rfl (fun _ b _ _ _ _ hb hd => (wanted_guard b rfl rfl (hd 56 _ _ rfl rfl)).trans rfl) ?_
  apply Exists.intro
  refine ⟨?_, ?_⟩
  · intro wx b k hk1 hk2 hC hb hd K hK
    have e7 := hb 7 rfl
    simp only [exSlot, List.getD_cons_succ, List.getD_cons_zero] at e7
    simp only [execOp, e7]
    clear hb hd
    go_simp
    exact hK _ hC (Chg.refl _ _)
  refine ex_det 58 [57, 56] rfl rfl (fun _ b _ _ _ _ hb hd => (wanted_guard b rfl rfl (hd 56 _ _ rfl rfl)).trans rfl) ?_
  apply Exists.intro
  refine ⟨?_, ?_⟩
  · intro wx b k hk1 hk2 hC hb hd K hK
    have e57 := hd 57 _ _ rfl rfl
    try dsimp only at e57
    simp only [execOp, e57]
    clear hb hd
    go_simp
    exact hK _ hC (Chg.refl _ _)
  refine ex_det 59 [58, 56] rfl rfl (fun _ b _ _ _ _ hb hd => (wanted_guard b rfl rfl (hd 56 _ _ rfl rfl)).trans rfl) ?_
  apply Exists.intro
  refine ⟨?_, ?_⟩
  · intro wx b k hk1 hk2 hC hb hd K hK
    have e58 := hd 58 _ _ rfl rfl
    try dsimp only at e58
    simp only [execOp, e58]
    clear hb hd
    go_simp
    exact hK _ hC (Chg.refl _ _)
  refine ex_det 60 [6, 59] rfl rfl (fun _ b _ _ _ _ hb hd => (wanted_guard b rfl rfl (hd 59 _ _ rfl rfl)).trans rfl) ?_
  apply Exists.intro
  refine ⟨?_, ?_⟩
  · intro wx b k hk1 hk2 hC hb hd K hK
    have e6 := hb 6 rfl
    simp only [exSlot, List.getD_cons_succ, List.getD_cons_zero] at e6
    simp only [execOp, e6]
    clear hb hd
    have hrun := (hC.get 2 rfl).load 23 (by kernel_rfl)
    simp only [Sem.run_bind, hrun, Result.andThen_ok, Sem.run_pure, invUpon]
    exact hK _ hC (Chg.refl _ _)
  refine ex_det 61 [2, 59] rfl rfl (fun _ b _ _ _ _ hb hd => (wanted_guard b rfl rfl (hd 59 _ _ rfl rfl)).trans rfl) ?_
  apply Exists.intro
  refine ⟨?_, ?_⟩
  · intro wx b k hk1 hk2 hC hb hd K hK
    have e2 := hb 2 rfl
    simp only [exSlot, List.getD_cons_succ, List.getD_cons_zero] at e2
    simp only [execOp, e2]
    clear hb hd
    have hrun := (hC.get 3 rfl).load 23 (by kernel_rfl)
    simp only [Sem.run_bind, hrun, Result.andThen_ok, Sem.run_pure, invUpon]
    exact hK _ hC (Chg.refl _ _)
  refine ex_det 62 [60, 61, 59] rfl rfl (fun _ b _ _ _ _ hb hd => (wanted_guard b rfl rfl (hd 59 _ _ rfl rfl)).trans rfl) ?_
  apply Exists.intro
  refine ⟨?_, ?_⟩
  · intro wx b k hk1 hk2 hC hb hd K hK
    have e60 := hd 60 _ _ rfl rfl
    try dsimp only at e60
    have e61 := hd 61 _ _ rfl rfl
    try dsimp only at e61
    simp only [execOp, e60, e61]
    clear hb hd
    go_simp
    exact hK _ hC (Chg.refl _ _)
  refine ex_det 63 [59, 62, 56] rfl rfl (fun _ b _ _ _ _ hb hd => (wanted_guard b rfl rfl (hd 56 _ _ rfl rfl)).trans rfl) ?_
  apply Exists.intro
  refine ⟨?_, ?_⟩
  · intro wx b k hk1 hk2 hC hb hd K hK
    have e59 := hd 59 _ _ rfl rfl
    try dsimp only at e59
    have e62 := hd 62 _ _ rfl rfl
    try dsimp only at e62
    simp only [execOp, e59, e62]
    clear hb hd
    go_simp
    exact hK _ hC (Chg.refl _ _)
  refine ex_det 64 [56, 63] rfl rfl (fun _ _ _ _ _ _ _ _ => rfl) ?_
  apply Exists.intro
  refine ⟨?_, ?_⟩
  · intro wx b k hk1 hk2 hC hb hd K hK
    have e56 := hd 56 _ _ rfl rfl
    try dsimp only at e56
    have e63 := hd 63 _ _ rfl rfl
    try dsimp only at e63
    simp only [execOp, e56, e63]
    clear hb hd
    go_simp
    exact hK _ hC (Chg.refl _ _)
  refine ex_det 65 [64] rfl rfl (fun _ _ _ _ _ _ _ _ => rfl) ?_
  apply Exists.intro
  refine ⟨?_, ?_⟩
  · intro wx b k hk1 hk2 hC hb hd K hK
    have e64 := hd 64 _ _ rfl rfl
    try dsimp only at e64
    simp only [execOp, e64]
    clear hb hd
    go_simp
    exact hK _ hC (Chg.refl _ _)
  refine ex_det 66 [8, 65] rfl rfl (fun _ b _ _ _ _ hb hd => (wanted_guard b rfl rfl (hd 65 _ _ rfl rfl)).trans rfl) ?_
  apply Exists.intro
  refine ⟨?_, ?_⟩
  · intro wx b k hk1 hk2 hC hb hd K hK
    have e8 := hb 8 rfl
    simp only [exSlot, List.getD_cons_succ, List.getD_cons_zero] at e8
    simp only [execOp, e8]
    clear hb hd
    have hrun := (hC.get 1 rfl).load 23 (by kernel_rfl)
    simp only [Sem.run_bind, hrun, Result.andThen_ok, Sem.run_pure, invUpon]
    exact hK _ hC (Chg.refl _ _)
  refine ex_det 67 [66, 65] rfl rfl (fun _ b _ _ _ _ hb hd => (wanted_guard b rfl rfl (hd 65 _ _ rfl rfl)).trans rfl) ?_
  apply Exists.intro
  refine ⟨?_, ?_⟩
  · intro wx b k hk1 hk2 hC hb hd K hK
    have e66 := hd 66 _ _ rfl rfl
    try dsimp only at e66
    simp only [execOp, resolve, List.map_toArray, List.map_cons, List.map_nil, e66]
    clear hb hd
    go_simp
    refine (HLx.out wx).mono ?_; rintro e w' ⟨rfl, hX⟩
    exact ⟨_, rfl, hK _ (hC.step hX) hX⟩
  refine ex_det 68 [10, 65] rfl rfl (fun _ b _ _ _ _ hb hd => (wanted_guard b rfl rfl (hd 65 _ _ rfl rfl)).trans rfl) ?_
  apply Exists.intro
  refine ⟨?_, ?_⟩
  · intro wx b k hk1 hk2 hC hb hd K hK
    have e10 := hb 10 rfl
    simp only [exSlot, List.getD_cons_succ, List.getD_cons_zero] at e10
    simp only [execOp, e10]
    clear hb hd
    have hrun := (hC.get 0 rfl).load 28 (by kernel_rfl)
    simp only [Sem.run_bind, hrun, Result.andThen_ok, Sem.run_pure, invUpon]
    exact hK _ hC (Chg.refl _ _)
  refine ex_det 69 [67, 68, 65] rfl rfl (fun _ b _ _ _ _ hb hd => (wanted_guard b rfl rfl (hd 65 _ _ rfl rfl)).trans rfl) ?_
  apply Exists.intro
  refine ⟨?_, ?_⟩
  · intro wx b k hk1 hk2 hC hb hd K hK
    have e67 := hd 67 _ _ rfl rfl
    try dsimp only at e67
    have e68 := hd 68 _ _ rfl rfl
    try dsimp only at e68
    simp only [execOp, e67, e68]
    clear hb hd
    go_simp
    exact hK _ hC (Chg.refl _ _)
  refine ex_det 70 [65, 69] rfl rfl (fun _ _ _ _ _ _ _ _ => rfl) ?_
  apply Exists.intro
  refine ⟨?_, ?_⟩
  · intro wx b k hk1 hk2 hC hb hd K hK
    have e65 := hd 65 _ _ rfl rfl
    try dsimp only at e65
    have e69 := hd 69 _ _ rfl rfl
    try dsimp only at e69
    simp only [execOp, e65, e69]
    clear hb hd
    go_simp
    exact hK _ hC (Chg.refl _ _)
  refine ex_det 71 [70] rfl rfl (fun _ _ _ _ _ _ _ _ => rfl) ?_
  apply Exists.intro
  refine ⟨?_, ?_⟩
  · intro wx b k hk1 hk2 hC hb hd K hK
    have e70 := hd 70 _ _ rfl rfl
    try dsimp only at e70
    simp only [execOp, e70]
    clear hb hd
    go_simp
    exact hK _ hC (Chg.refl _ _)
  refine ex_det 72 [9, 71] rfl rfl (fun _ b _ _ _ _ hb hd => (wanted_guard b rfl rfl (hd 71 _ _ rfl rfl)).trans rfl) ?_
  apply Exists.intro
  refine ⟨?_, ?_⟩
  · intro wx b k hk1 hk2 hC hb hd K hK
    have e9 := hb 9 rfl
    simp only [exSlot, List.getD_cons_succ, List.getD_cons_zero] at e9
    simp only [execOp, e9]
    clear hb hd
    go_simp
    exact hK _ hC (Chg.refl _ _)
  refine ex_det 73 [11, 71] rfl rfl (fun _ b _ _ _ _ hb hd => (wanted_guard b rfl rfl (hd 71 _ _ rfl rfl)).trans rfl) ?_
  apply Exists.intro
  refine ⟨?_, ?_⟩
  · intro wx b k hk1 hk2 hC hb hd K hK
    have e11 := hb 11 rfl
    simp only [exSlot, List.getD_cons_succ, List.getD_cons_zero] at e11
    simp only [execOp, e11]
    clear hb hd
    go_simp
    exact hK _ hC (Chg.refl _ _)
  refine ex_det 74 [72, 73, 71] rfl rfl (fun _ b _ _ _ _ hb hd => (wanted_guard b rfl rfl (hd 71 _ _ rfl rfl)).trans rfl) ?_
  apply Exists.intro
  refine ⟨?_, ?_⟩
  · intro wx b k hk1 hk2 hC hb hd K hK
    have e72 := hd 72 _ _ rfl rfl
    try dsimp only at e72
    have e73 := hd 73 _ _ rfl rfl
    try dsimp only at e73
    simp only [execOp, e72, e73]
    clear hb hd
    go_simp
    exact hK _ hC (Chg.refl _ _)
  refine ex_det 75 [71, 74] rfl rfl (fun _ _ _ _ _ _ _ _ => rfl) ?_
  apply Exists.intro
  refine ⟨?_, ?_⟩
  · intro wx b k hk1 hk2 hC hb hd K hK
    have e71 := hd 71 _ _ rfl rfl
    try dsimp only at e71
    have e74 := hd 74 _ _ rfl rfl
    try dsimp only at e74
    simp only [execOp, e71, e74]
    clear hb hd
    go_simp
    exact hK _ hC (Chg.refl _ _)
  refine ex_det 76 [75] rfl rfl (fun _ _ _ _ _ _ _ _ => rfl) ?_
  apply Exists.intro
  refine ⟨?_, ?_⟩
  · intro wx b k hk1 hk2 hC hb hd K hK
    have e75 := hd 75 _ _ rfl rfl
    try dsimp only at e75
    simp only [execOp, e75]
    clear hb hd
    go_simp
    exact hK _ hC (Chg.refl _ _)
  refine ex_det 77 [9, 76] rfl rfl (fun _ b _ _ _ _ hb hd => (wanted_guard b rfl rfl (hd 76 _ _ rfl rfl)).trans rfl) ?_
  apply Exists.intro
  refine ⟨?_, ?_⟩
  · intro wx b k hk1 hk2 hC hb hd K hK
    have e9 := hb 9 rfl
    simp only [exSlot, List.getD_cons_succ, List.getD_cons_zero] at e9
    simp only [execOp, e9]
    clear hb hd
    go_simp
    exact hK _ hC (Chg.refl _ _)
  refine ex_det 78 [77, 76] rfl rfl (fun _ b _ _ _ _ hb hd => (wanted_guard b rfl rfl (hd 76 _ _ rfl rfl)).trans rfl) ?_
  apply Exists.intro
  refine ⟨?_, ?_⟩
  · intro wx b k hk1 hk2 hC hb hd K hK
    have e77 := hd 77 _ _ rfl rfl
    try dsimp only at e77
    simp only [execOp, e77]
    clear hb hd
    go_simp
    exact hK _ hC (Chg.refl _ _)
  refine ex_det 79 [78, 76] rfl rfl (fun _ b _ _ _ _ hb hd => (wanted_guard b rfl rfl (hd 76 _ _ rfl rfl)).trans rfl) ?_
  apply Exists.intro
  refine ⟨?_, ?_⟩
  · intro wx b k hk1 hk2 hC hb hd K hK
    have e78 := hd 78 _ _ rfl rfl
    try dsimp only at e78
    simp only [execOp, e78]
    clear hb hd
    go_simp
    exact hK _ hC (Chg.refl _ _)
  refine ex_pass 80 [8, 79] rfl rfl (fun _ => Chg.refl _ _) (fun _ b _ _ _ _ hb hd => (wanted_guard b rfl rfl (hd 79 _ _ rfl rfl)).trans rfl) ?_
  refine ex_pass 81 [80, 79] rfl rfl (fun _ => Chg.refl _ _) (fun _ b _ _ _ _ hb hd => (wanted_guard b rfl rfl (hd 79 _ _ rfl rfl)).trans rfl) ?_
  refine ex_pass 82 [1, 79] rfl rfl (fun _ => Chg.refl _ _) (fun _ b _ _ _ _ hb hd => (wanted_guard b rfl rfl (hd 79 _ _ rfl rfl)).trans rfl) ?_
  refine ex_pass 83 [81, 82, 79] rfl rfl (fun _ => Chg.refl _ _) (fun _ b _ _ _ _ hb hd => (wanted_guard b rfl rfl (hd 79 _ _ rfl rfl)).trans rfl) ?_
  refine ex_det 84 [79, 83, 76] rfl rfl (fun _ b _ _ _ _ hb hd => (wanted_guard b rfl rfl (hd 76 _ _ rfl rfl)).trans rfl) ?_
  apply Exists.intro
  refine ⟨?_, ?_⟩
  · intro wx b k hk1 hk2 hC hb hd K hK
    have e79 := hd 79 _ _ rfl rfl
    try dsimp only at e79
    have e83 := hd 83 _ _ rfl rfl
    try dsimp only at e83
    simp only [execOp, e79, e83]
    clear hb hd
    go_simp
    exact hK _ hC (Chg.refl _ _)
  refine ex_det 85 [76, 84] rfl rfl (fun _ _ _ _ _ _ _ _ => rfl) ?_
  apply Exists.intro
  refine ⟨?_, ?_⟩
  · intro wx b k hk1 hk2 hC hb hd K hK
    have e76 := hd 76 _ _ rfl rfl
    try dsimp only at e76
    have e84 := hd 84 _ _ rfl rfl
    try dsimp only at e84
    simp only [execOp, e76, e84]
    clear hb hd
    go_simp
    exact hK _ hC (Chg.refl _ _)
  refine ex_det 4 [85] rfl rfl (fun _ _ _ _ _ _ _ _ => rfl) ?_
  apply Exists.intro
  refine ⟨?_, ?_⟩
  · intro wx b k hk1 hk2 hC hb hd K hK
    have e85 := hd 85 _ _ rfl rfl
    try dsimp only at e85
    simp only [execOp, e85]
    clear hb hd
    go_simp
    exact hK _ hC (Chg.refl _ _)
  refine ex_end ?_
  intro us w2 hus hC hall
  obtain ⟨v0, us, rfl⟩ := List.exists_cons_of_length_eq_add_one hus
  replace hus := Nat.succ.inj hus
  obtain ⟨v1, us, rfl⟩ := List.exists_cons_of_length_eq_add_one hus
  replace hus := Nat.succ.inj hus
  obtain ⟨v2, us, rfl⟩ := List.exists_cons_of_length_eq_add_one hus
  replace hus := Nat.succ.inj hus
  obtain ⟨v3, us, rfl⟩ := List.exists_cons_of_length_eq_add_one hus
  replace hus := Nat.succ.inj hus
  obtain ⟨v4, us, rfl⟩ := List.exists_cons_of_length_eq_add_one hus
  replace hus := Nat.succ.inj hus
  obtain ⟨v5, us, rfl⟩ := List.exists_cons_of_length_eq_add_one hus
  replace hus := Nat.succ.inj hus
  obtain ⟨v6, us, rfl⟩ := List.exists_cons_of_length_eq_add_one hus
  replace hus := Nat.succ.inj hus
  obtain ⟨v7, us, rfl⟩ := List.exists_cons_of_length_eq_add_one hus
  replace hus := Nat.succ.inj hus
  obtain ⟨v8, us, rfl⟩ := List.exists_cons_of_length_eq_add_one hus
  replace hus := Nat.succ.inj hus
  obtain ⟨v9, us, rfl⟩ := List.exists_cons_of_length_eq_add_one hus
  replace hus := Nat.succ.inj hus
  obtain ⟨v10, us, rfl⟩ := List.exists_cons_of_length_eq_add_one hus
  replace hus := Nat.succ.inj hus
  obtain ⟨v11, us, rfl⟩ := List.exists_cons_of_length_eq_add_one hus
  replace hus := Nat.succ.inj hus
  obtain ⟨v12, us, rfl⟩ := List.exists_cons_of_length_eq_add_one hus
  replace hus := Nat.succ.inj hus
  obtain ⟨v13, us, rfl⟩ := List.exists_cons_of_length_eq_add_one hus
  replace hus := Nat.succ.inj hus
  obtain ⟨v14, us, rfl⟩ := List.exists_cons_of_length_eq_add_one hus
  replace hus := Nat.succ.inj hus
  obtain ⟨v15, us, rfl⟩ := List.exists_cons_of_length_eq_add_one hus
  replace hus := Nat.succ.inj hus
  obtain ⟨v16, us, rfl⟩ := List.exists_cons_of_length_eq_add_one hus
  replace hus := Nat.succ.inj hus
  obtain ⟨v17, us, rfl⟩ := List.exists_cons_of_length_eq_add_one hus
  replace hus := Nat.succ.inj hus
  obtain ⟨v18, us, rfl⟩ := List.exists_cons_of_length_eq_add_one hus
  replace hus := Nat.succ.inj hus
  obtain ⟨v19, us, rfl⟩ := List.exists_cons_of_length_eq_add_one hus
  replace hus := Nat.succ.inj hus
  obtain ⟨v20, us, rfl⟩ := List.exists_cons_of_length_eq_add_one hus
  replace hus := Nat.succ.inj hus
  obtain ⟨v21, us, rfl⟩ := List.exists_cons_of_length_eq_add_one hus
  replace hus := Nat.succ.inj hus
  obtain ⟨v22, us, rfl⟩ := List.exists_cons_of_length_eq_add_one hus
  replace hus := Nat.succ.inj hus
  obtain ⟨v23, us, rfl⟩ := List.exists_cons_of_length_eq_add_one hus
  replace hus := Nat.succ.inj hus
  obtain ⟨v24, us, rfl⟩ := List.exists_cons_of_length_eq_add_one hus
  replace hus := Nat.succ.inj hus
  obtain ⟨v25, us, rfl⟩ := List.exists_cons_of_length_eq_add_one hus
  replace hus := Nat.succ.inj hus
  obtain ⟨v26, us, rfl⟩ := List.exists_cons_of_length_eq_add_one hus
  replace hus := Nat.succ.inj hus
  obtain ⟨v27, us, rfl⟩ := List.exists_cons_of_length_eq_add_one hus
  replace hus := Nat.succ.inj hus
  obtain ⟨v28, us, rfl⟩ := List.exists_cons_of_length_eq_add_one hus
  replace hus := Nat.succ.inj hus
  obtain ⟨v29, us, rfl⟩ := List.exists_cons_of_length_eq_add_one hus
  replace hus := Nat.succ.inj hus
  obtain ⟨v30, us, rfl⟩ := List.exists_cons_of_length_eq_add_one hus
  replace hus := Nat.succ.inj hus
  obtain ⟨v31, us, rfl⟩ := List.exists_cons_of_length_eq_add_one hus
  replace hus := Nat.succ.inj hus
  obtain ⟨v32, us, rfl⟩ := List.exists_cons_of_length_eq_add_one hus
  replace hus := Nat.succ.inj hus
  obtain ⟨v33, us, rfl⟩ := List.exists_cons_of_length_eq_add_one hus
  replace hus := Nat.succ.inj hus
  obtain ⟨v34, us, rfl⟩ := List.exists_cons_of_length_eq_add_one hus
  replace hus := Nat.succ.inj hus
  obtain ⟨v35, us, rfl⟩ := List.exists_cons_of_length_eq_add_one hus
  replace hus := Nat.succ.inj hus
  obtain ⟨v36, us, rfl⟩ := List.exists_cons_of_length_eq_add_one hus
  replace hus := Nat.succ.inj hus
  obtain ⟨v37, us, rfl⟩ := List.exists_cons_of_length_eq_add_one hus
  replace hus := Nat.succ.inj hus
  obtain ⟨v38, us, rfl⟩ := List.exists_cons_of_length_eq_add_one hus
  replace hus := Nat.succ.inj hus
  obtain ⟨v39, us, rfl⟩ := List.exists_cons_of_length_eq_add_one hus
  replace hus := Nat.succ.inj hus
  obtain ⟨v40, us, rfl⟩ := List.exists_cons_of_length_eq_add_one hus
  replace hus := Nat.succ.inj hus
  obtain ⟨v41, us, rfl⟩ := List.exists_cons_of_length_eq_add_one hus
  replace hus := Nat.succ.inj hus
  obtain ⟨v42, us, rfl⟩ := List.exists_cons_of_length_eq_add_one hus
  replace hus := Nat.succ.inj hus
  obtain ⟨v43, us, rfl⟩ := List.exists_cons_of_length_eq_add_one hus
  replace hus := Nat.succ.inj hus
  obtain ⟨v44, us, rfl⟩ := List.exists_cons_of_length_eq_add_one hus
  replace hus := Nat.succ.inj hus
  obtain ⟨v45, us, rfl⟩ := List.exists_cons_of_length_eq_add_one hus
  replace hus := Nat.succ.inj hus
  obtain ⟨v46, us, rfl⟩ := List.exists_cons_of_length_eq_add_one hus
  replace hus := Nat.succ.inj hus
  obtain ⟨v47, us, rfl⟩ := List.exists_cons_of_length_eq_add_one hus
  replace hus := Nat.succ.inj hus
  obtain ⟨v48, us, rfl⟩ := List.exists_cons_of_length_eq_add_one hus
  replace hus := Nat.succ.inj hus
  obtain ⟨v49, us, rfl⟩ := List.exists_cons_of_length_eq_add_one hus
  replace hus := Nat.succ.inj hus
  obtain rfl := List.length_eq_zero_iff.1 hus
  clear hus
  generalize hbb : exPuts _ _ _ = bb at hall ⊢
  simp only [exPuts, Act.put, List.setIfInBounds_toArray, List.set_cons_succ, List.set_cons_zero] at hbb
  subst hbb
  obtain ⟨h49, h48, h47, h46, h45, h44, h43, h42, h41, h40, h39, h38, h37, h36, h35, h34, h33, h32, h31, h30, h29, h28, h27, h26, h25, h24, h23, h22, h21, h20, h19, h18, h17, h16, h15, h14, h13, h12, h11, h10, h9, h8, h7, h6, h5, h4, h3, h2, h1, h0, -⟩ := hall
  obtain rfl : v0 = _ := h0
  obtain rfl : v1 = _ := h1
  obtain rfl : v2 = _ := h2
  obtain rfl : v3 = _ := h3
  obtain rfl : v4 = _ := h4
  obtain rfl : v5 = _ := h5
  obtain rfl : v6 = _ := h6
  obtain rfl : v7 = _ := h7
  obtain rfl : v8 = _ := h8
  obtain rfl : v9 = _ := h9
  obtain rfl : v10 = _ := h10
  obtain rfl : v11 = _ := h11
  obtain rfl : v12 = _ := h12
  obtain rfl : v13 = _ := h13
  obtain rfl : v14 = _ := h14
  obtain rfl : v15 = _ := h15
  obtain rfl : v16 = _ := h16
  obtain rfl : v17 = _ := h17
  obtain rfl : v18 = _ := h18
  obtain rfl : v19 = _ := h19
  obtain rfl : v20 = _ := h20
  obtain rfl : v21 = _ := h21
  obtain rfl : v22 = _ := h22
  obtain rfl : v23 = _ := h23
  obtain rfl : v24 = _ := h24
  obtain rfl : v25 = _ := h25
  obtain rfl : v26 = _ := h26
  obtain rfl : v27 = _ := h27
  obtain rfl : v28 = _ := h28
  obtain rfl : v29 = _ := h29
  obtain rfl : v30 = _ := h30
  obtain rfl : v31 = _ := h31
  obtain rfl : v32 = _ := h32
  obtain rfl : v33 = _ := h33
  obtain rfl : v34 = _ := h34
  obtain rfl : v35 = _ := h35
  obtain rfl : v36 = _ := h36
  obtain rfl : v37 = _ := h37
  obtain rfl : v38 = _ := h38
  obtain rfl : v39 = _ := h39
  obtain rfl : v40 = _ := h40
  obtain rfl : v41 = _ := h41
  obtain rfl : v42 = _ := h42
  obtain rfl : v43 = _ := h43
  obtain rfl : v44 = _ := h44
  obtain rfl : v45 = _ := h45
  obtain rfl : v46 = _ := h46
  obtain rfl : v47 = _ := h47
  obtain rfl : v48 = _ := h48
  obtain rfl : v49 = _ := h49
  go_wp2
  go_returns
  exact ⟨rfl, hC.x.to_below⟩
set_option maxRecDepth 100000 in
set_option maxHeartbeats 8000000 in
theorem lprints_ft (W : World) (q : RcV) (s : ByteArray) (hs : s.size ≤ 100) (hq : q.right = false) (hd : isRec s = true) : Calls Try.prog 3 #[.agg q.cells, .string s] W fun e w' => e = .returned (.bool true) ∧ Below W.heap.size W w' := by
  have HLP0 := fun w => lprint_any w q
  have HRP := fun w => rprint_any w q
  have HLR := fun w => lright_any w q
  have HRR := fun w => rright_any w q
  have HLq := fun w => like_any w q
  have HS := fun w => lread_any w s (by omega)
  have HS2 := fun w => rread_any w s (by unfold maxLen; omega)
  have HLx := fun w => like_any w (lread s)
  have HLP := fun w => lprint_any w (lread s)
  have hpr : q.print = ByteArray.empty := by unfold RcV.print; rw [hq]; rfl
  have HT := fun w => lread_any w ByteArray.empty (by decide)
  rw [show isRec ByteArray.empty = false by kernel_rfl, show (lread ByteArray.empty).cells = #[.int .i64 0, .int .i64 0, .int .i64 0, .int .i64 0, .int .i64 0, .int .i64 0, .int .i64 0, .int .i64 0, .int .i64 0] from by kernel_rfl] at HT
  rw [hpr] at HLP0 HRP
  clear hpr
  rw [hq] at HLR HRR
  rw [hd] at HS HS2
  rw [lread_is hd] at HLP
  generalize lread s = x at *
  have C := (CL.new W 0).push q.cells 23
  rw [show q.cells = #[.int .i64 q.seq, .int .i64 q.cyc, .int .i64 q.ph, .int .i64 q.st, .int .i64 q.fl, .int .i64 q.vi, .int .i64 q.di, .int .i64 q.inv, .int .i64 q.inph] from rfl] at *
  rw [show x.cells = #[.int .i64 x.seq, .int .i64 x.cyc, .int .i64 x.ph, .int .i64 x.st, .int .i64 x.fl, .int .i64 x.vi, .int .i64 x.di, .int .i64 x.inv, .int .i64 x.inph] from rfl] at *
  have hsi : (s.size : Int) ≤ 100 := by omega
  clear hs hd hq
  replace HLP0 := Lib.hid HLP0
  replace HRP := Lib.hid HRP
  replace HLR := Lib.hid HLR
  replace HRR := Lib.hid HRR
  replace HLq := Lib.hid HLq
  replace HS := Lib.hid HS
  replace HS2 := Lib.hid HS2
  replace HLx := Lib.hid HLx
  replace HLP := Lib.hid HLP
  replace HT := Lib.hid HT
  go_enter Try.func3, Try.ntmps3
  go_upto_region 1 with fail
  generalize hz : W.heap.size = z2 at *
  have hzW : W.heap.size ≤ z2 := by omega
  generalize W.alloc (.cells #[.int .i64 q.seq, .int .i64 q.cyc, .int .i64 q.ph, .int .i64 q.st, .int .i64 q.fl, .int .i64 q.vi, .int .i64 q.di, .int .i64 q.inv, .int .i64 q.inph] 23) = w0 at *
  go_wp2_with fail
  refine (awake09 _).mono ?_; rintro e w1 ⟨rfl, hX1⟩
  replace C := C.step (j := 0) hX1
  clear hX1
  have cc := (C.get 0 rfl).cell
  dsimp only at cc
  have c0 := cc 0
  have c1 := cc 1
  have c2 := cc 2
  have c3 := cc 3
  have c4 := cc 4
  have c5 := cc 5
  have c6 := cc 6
  have c7 := cc 7
  have c8 := cc 8
  clear cc
  go_wp2_with fail
  refine (HLP0.out _).mono ?_; rintro e w2 ⟨rfl, hX2⟩
  replace C := C.step (j := 0) hX2
  clear hX2 c0 c1 c2 c3 c4 c5 c6 c7 c8
  go_wp2_with fail
  refine (HT.out _).mono ?_; rintro e w3 ⟨rfl, hX3⟩
  replace C := C.step (j := 0) hX3
  clear hX3
  go_wp2_with (refine wpList_put rfl rfl rfl rfl (At.new _ _ _) rfl (by kernel_rfl) (by simp [Value.oneCell']) ?_; intro w4 hz4 hX4; refine Hid.out ?_)
  refine Lib.hid ?_
  replace C := C.fill hX4 hz4
  clear hX4 hz4
  generalize w3.heap.size = z6 at *
  go_wp2_with fail
  refine (HS.out _).mono ?_; rintro e w5 ⟨rfl, hX5⟩
  replace C := C.step (j := 0) hX5
  clear hX5
  go_wp2_with (refine wpList_put rfl rfl rfl rfl (At.new _ _ _) rfl (by kernel_rfl) (by simp [Value.oneCell']) ?_; intro w6 hz6 hX6; refine Hid.out ?_)
  refine Lib.hid ?_
  replace C := C.fill hX6 hz6
  clear hX6 hz6
  generalize w5.heap.size = z8 at *
  go_wp2_with fail
  refine (HS2.out _).mono ?_; rintro e w7 ⟨rfl, hX7⟩
  replace C := C.step (j := 0) hX7
  clear hX7
  go_wp2_with (refine wpList_put rfl rfl rfl rfl (At.new _ _ _) rfl (by kernel_rfl) (by simp [Value.oneCell']) ?_; intro w8 hz8 hX8; refine Hid.out ?_)
  refine Lib.hid ?_
  replace C := C.fill hX8 hz8
  clear hX8 hz8
  generalize w7.heap.size = z10 at *
  go_upto_region 7 with fail
  refine wp_region_ex (fun _ => CL W [(z10, #[.int .i64 x.seq, .int .i64 x.cyc, .int .i64 x.ph, .int .i64 x.st, .int .i64 x.fl, .int .i64 x.vi, .int .i64 x.di, .int .i64 x.inv, .int .i64 x.inph]), (z8, #[.int .i64 x.seq, .int .i64 x.cyc, .int .i64 x.ph, .int .i64 x.st, .int .i64 x.fl, .int .i64 x.vi, .int .i64 x.di, .int .i64 x.inv, .int .i64 x.inph]), (z6, #[.int .i64 0, .int .i64 0, .int .i64 0, .int .i64 0, .int .i64 0, .int .i64 0, .int .i64 0, .int .i64 0, .int .i64 0]), (z2, #[.int .i64 q.seq, .int .i64 q.cyc, .int .i64 q.ph, .int .i64 q.st, .int .i64 q.fl, .int .i64 q.vi, .int .i64 q.di, .int .i64 q.inv, .int .i64 q.inph])] 0) (Chg []) [] [(0, 0, false), (0, 0, false), (0, 0, false), (0, 0, false), (0, 0, false), (0, 0, false), (0, 0, false), (0, 0, false), (0, 0, false), (0, 0, false), (0, 0, false), (0, 0, false), (0, 0, false), (0, 0, false), (0, 0, false), (0, 0, false), (0, 0, false), (0, 0, false), (0, 0, false), (0, 0, false), (0, 0, false), (0, 0, false), (0, 0, false), (0, 0, false), (0, 0, false), (0, 0, false), (0, 0, false), (0, 0, false), (0, 0, false), (0, 0, false), (0, 0, false), (0, 0, false), (0, 0, false), (0, 0, false), (0, 0, false), (0, 0, false), (0, 0, false), (0, 0, false), (0, 0, false), (0, 0, false), (0, 0, false), (0, 0, false), (0, 0, false), (0, 0, false), (0, 0, false), (0, 0, false), (0, 0, false), (0, 0, false), (0, 0, false), (0, 0, false)] [37, 38, 39, 40, 41, 42, 43, 44, 45, 46, 47, 48, 49, 50, 51, 52, 53, 54, 55, 56, 57, 58, 59, 60, 61, 62, 63, 64, 65, 66, 67, 68, 69, 70, 71, 72, 73, 74, 75, 76, 77, 78, 79, 80, 81, 82, 83, 84, 85, 4] (by kernel_rfl) rfl (by kernel_rfl) (by kernel_rfl) (C.drew) ?_
  simp only [List.zip_cons_cons, List.zip_nil_right]
  refine ex_det 37 [5] rfl rfl (fun _ _ _ _ _ _ _ _ => rfl) ?_
  apply Exists.intro
  refine ⟨?_, ?_⟩
  · intro wx b k hk1 hk2 hC hb hd K hK
    have e5 := hb 5 rfl
    simp only [exSlot, List.getD_cons_succ, List.getD_cons_zero] at e5
    simp only [execOp, e5]
    clear hb hd
    go_simp
    exact hK _ hC (Chg.refl _ _)
  refine ex_det 38 [2] rfl rfl (fun _ _ _ _ _ _ _ _ => rfl) ?_
  apply Exists.intro
  refine ⟨?_, ?_⟩
  · intro wx b k hk1 hk2 hC hb hd K hK
    have e2 := hb 2 rfl
    simp only [exSlot, List.getD_cons_succ, List.getD_cons_zero] at e2
    simp only [execOp, e2]
    clear hb hd
    have hrun := (hC.get 3 rfl).load 23 (by kernel_rfl)
    simp only [Sem.run_bind, hrun, Result.andThen_ok, Sem.run_pure, invUpon]
    exact hK _ hC (Chg.refl _ _)
  refine ex_det 39 [38] rfl rfl (fun _ _ _ _ _ _ _ _ => rfl) ?_
  apply Exists.intro
  refine ⟨?_, ?_⟩
  · intro wx b k hk1 hk2 hC hb hd K hK
    have e38 := hd 38 _ _ rfl rfl
    try dsimp only at e38
    simp only [execOp, resolve, List.map_toArray, List.map_cons, List.map_nil, e38]
    clear hb hd
    go_simp
    refine (HLq.out wx).mono ?_; rintro e w' ⟨rfl, hX⟩
    exact ⟨_, rfl, hK _ (hC.step hX) hX⟩
  refine ex_det 40 [39] rfl rfl (fun _ _ _ _ _ _ _ _ => rfl) ?_
  apply Exists.intro
  refine ⟨?_, ?_⟩
  · intro wx b k hk1 hk2 hC hb hd K hK
    have e39 := hd 39 _ _ rfl rfl
    try dsimp only at e39
    simp only [execOp, resolve, List.map_toArray, List.map_cons, List.map_nil, e39]
    clear hb hd
    go_simp
    refine (HRP.out wx).mono ?_; rintro e w' ⟨rfl, hX⟩
    exact ⟨_, rfl, hK _ (hC.step hX) hX⟩
  refine ex_det 41 [37, 40] rfl rfl (fun _ _ _ _ _ _ _ _ => rfl) ?_
  apply Exists.intro
  refine ⟨?_, ?_⟩
  · intro wx b k hk1 hk2 hC hb hd K hK
    have e37 := hd 37 _ _ rfl rfl
    try dsimp only at e37
    have e40 := hd 40 _ _ rfl rfl
    try dsimp only at e40
    simp only [execOp, e37, e40]
    clear hb hd
    go_simp
    exact hK _ hC (Chg.refl _ _)
  refine ex_det 42 [41] rfl rfl (fun _ _ _ _ _ _ _ _ => rfl) ?_
  apply Exists.intro
  refine ⟨?_, ?_⟩
  · intro wx b k hk1 hk2 hC hb hd K hK
    have e41 := hd 41 _ _ rfl rfl
    try dsimp only at e41
    simp only [execOp, e41]
    clear hb hd
    go_simp
    exact hK _ hC (Chg.refl _ _)
  refine ex_det 43 [2, 42] rfl rfl (fun _ b _ _ _ _ hb hd => (wanted_guard b rfl rfl (hd 42 _ _ rfl rfl)).trans rfl) ?_
  apply Exists.intro
  refine ⟨?_, ?_⟩
  · intro wx b k hk1 hk2 hC hb hd K hK
    have e2 := hb 2 rfl
    simp only [exSlot, List.getD_cons_succ, List.getD_cons_zero] at e2
    simp only [execOp, e2]
    clear hb hd
    have hrun := (hC.get 3 rfl).load 23 (by kernel_rfl)
    simp only [Sem.run_bind, hrun, Result.andThen_ok, Sem.run_pure, invUpon]
    exact hK _ hC (Chg.refl _ _)
  refine ex_det 44 [43, 42] rfl rfl (fun _ b _ _ _ _ hb hd => (wanted_guard b rfl rfl (hd 42 _ _ rfl rfl)).trans rfl) ?_
  apply Exists.intro
  refine ⟨?_, ?_⟩
  · intro wx b k hk1 hk2 hC hb hd K hK
    have e43 := hd 43 _ _ rfl rfl
    try dsimp only at e43
    simp only [execOp, resolve, List.map_toArray, List.map_cons, List.map_nil, e43]
    clear hb hd
    go_simp
    refine (HLR.out wx).mono ?_; rintro e w' ⟨rfl, hX⟩
    exact ⟨_, rfl, hK _ (hC.step hX) hX⟩
  refine ex_det 45 [2, 42] rfl rfl (fun _ b _ _ _ _ hb hd => (wanted_guard b rfl rfl (hd 42 _ _ rfl rfl)).trans rfl) ?_
  apply Exists.intro
  refine ⟨?_, ?_⟩
  · intro wx b k hk1 hk2 hC hb hd K hK
    have e2 := hb 2 rfl
    simp only [exSlot, List.getD_cons_succ, List.getD_cons_zero] at e2
    simp only [execOp, e2]
    clear hb hd
    have hrun := (hC.get 3 rfl).load 23 (by kernel_rfl)
    simp only [Sem.run_bind, hrun, Result.andThen_ok, Sem.run_pure, invUpon]
    exact hK _ hC (Chg.refl _ _)
  refine ex_det 46 [45, 42] rfl rfl (fun _ b _ _ _ _ hb hd => (wanted_guard b rfl rfl (hd 42 _ _ rfl rfl)).trans rfl) ?_
  apply Exists.intro
  refine ⟨?_, ?_⟩
  · intro wx b k hk1 hk2 hC hb hd K hK
    have e45 := hd 45 _ _ rfl rfl
    try dsimp only at e45
    simp only [execOp, resolve, List.map_toArray, List.map_cons, List.map_nil, e45]
    clear hb hd
    go_simp
    refine (HLq.out wx).mono ?_; rintro e w' ⟨rfl, hX⟩
    exact ⟨_, rfl, hK _ (hC.step hX) hX⟩
  refine ex_det 47 [46, 42] rfl rfl (fun _ b _ _ _ _ hb hd => (wanted_guard b rfl rfl (hd 42 _ _ rfl rfl)).trans rfl) ?_
  apply Exists.intro
  refine ⟨?_, ?_⟩
  · intro wx b k hk1 hk2 hC hb hd K hK
    have e46 := hd 46 _ _ rfl rfl
    try dsimp only at e46
    simp only [execOp, resolve, List.map_toArray, List.map_cons, List.map_nil, e46]
    clear hb hd
    go_simp
    refine (HRR.out wx).mono ?_; rintro e w' ⟨rfl, hX⟩
    exact ⟨_, rfl, hK _ (hC.step hX) hX⟩
  refine ex_det 48 [44, 47, 42] rfl rfl (fun _ b _ _ _ _ hb hd => (wanted_guard b rfl rfl (hd 42 _ _ rfl rfl)).trans rfl) ?_
  apply Exists.intro
  refine ⟨?_, ?_⟩
  · intro wx b k hk1 hk2 hC hb hd K hK
    have e44 := hd 44 _ _ rfl rfl
    try dsimp only at e44
    have e47 := hd 47 _ _ rfl rfl
    try dsimp only at e47
    simp only [execOp, e44, e47]
    clear hb hd
    go_simp
    exact hK _ hC (Chg.refl _ _)
  refine ex_det 49 [42, 48] rfl rfl (fun _ _ _ _ _ _ _ _ => rfl) ?_
  apply Exists.intro
  refine ⟨?_, ?_⟩
  · intro wx b k hk1 hk2 hC hb hd K hK
    have e42 := hd 42 _ _ rfl rfl
    try dsimp only at e42
    have e48 := hd 48 _ _ rfl rfl
    try dsimp only at e48
    simp only [execOp, e42, e48]
    clear hb hd
    go_simp
    exact hK _ hC (Chg.refl _ _)
  refine ex_det 50 [49] rfl rfl (fun _ _ _ _ _ _ _ _ => rfl) ?_
  apply Exists.intro
  refine ⟨?_, ?_⟩
  · intro wx b k hk1 hk2 hC hb hd K hK
    have e49 := hd 49 _ _ rfl rfl
    try dsimp only at e49
    simp only [execOp, e49]
    clear hb hd
    go_simp
    exact hK _ hC (Chg.refl _ _)
  refine ex_det 51 [7, 50] rfl rfl (fun _ b _ _ _ _ hb hd => (wanted_guard b rfl rfl (hd 50 _ _ rfl rfl)).trans rfl) ?_
  apply Exists.intro
  refine ⟨?_, ?_⟩
  · intro wx b k hk1 hk2 hC hb hd K hK
    have e7 := hb 7 rfl
    simp only [exSlot, List.getD_cons_succ, List.getD_cons_zero] at e7
    simp only [execOp, e7]
    clear hb hd
    go_simp
    exact hK _ hC (Chg.refl _ _)
  refine ex_det 52 [5, 50] rfl rfl (fun _ b _ _ _ _ hb hd => (wanted_guard b rfl rfl (hd 50 _ _ rfl rfl)).trans rfl) ?_
  apply Exists.intro
  refine ⟨?_, ?_⟩
  · intro wx b k hk1 hk2 hC hb hd K hK
    have e5 := hb 5 rfl
    simp only [exSlot, List.getD_cons_succ, List.getD_cons_zero] at e5
    simp only [execOp, e5]
    clear hb hd
    go_simp
    exact hK _ hC (Chg.refl _ _)
  refine ex_det 53 [52, 50] rfl rfl (fun _ b _ _ _ _ hb hd => (wanted_guard b rfl rfl (hd 50 _ _ rfl rfl)).trans rfl) ?_
  apply Exists.intro
  refine ⟨?_, ?_⟩
  · intro wx b k hk1 hk2 hC hb hd K hK
    have e52 := hd 52 _ _ rfl rfl
    try dsimp only at e52
    simp only [execOp, e52]
    clear hb hd
    go_simp
    exact hK _ hC (Chg.refl _ _)
  refine ex_det 54 [51, 53, 50] rfl rfl (fun _ b _ _ _ _ hb hd => (wanted_guard b rfl rfl (hd 50 _ _ rfl rfl)).trans rfl) ?_
  apply Exists.intro
  refine ⟨?_, ?_⟩
  · intro wx b k hk1 hk2 hC hb hd K hK
    have e51 := hd 51 _ _ rfl rfl
    try dsimp only at e51
    have e53 := hd 53 _ _ rfl rfl
    try dsimp only at e53
    simp only [execOp, e51, e53]
    clear hb hd
    go_simp
    exact hK _ hC (Chg.refl _ _)
  refine ex_det 55 [50, 54] rfl rfl (fun _ _ _ _ _ _ _ _ => rfl) ?_
  apply Exists.intro
  refine ⟨?_, ?_⟩
  · intro wx b k hk1 hk2 hC hb hd K hK
    have e50 := hd 50 _ _ rfl rfl
    try dsimp only at e50
    have e54 := hd 54 _ _ rfl rfl
    try dsimp only at e54
    simp only [execOp, e50, e54]
    clear hb hd
    go_simp
    exact hK _ hC (Chg.refl _ _)
  refine ex_det 56 [55] rfl rfl (fun _ _ _ _ _ _ _ _ => rfl) ?_
  apply Exists.intro
  refine ⟨?_, ?_⟩
  · intro wx b k hk1 hk2 hC hb hd K hK
    have e55 := hd 55 _ _ rfl rfl
    try dsimp only at e55
    simp only [execOp, e55]
    clear hb hd
    go_simp
    exact hK _ hC (Chg.refl _ _)
  refine ex_det 57 [7, 56] rfl rfl (fun _ b _ _ _ _ hb hd => (wanted_guard b rfl rfl (hd 56 _ _ rfl rfl)).trans rfl) ?_
  apply Exists.intro
  refine ⟨?_, ?_⟩
  · intro wx b k hk1 hk2 hC hb hd K hK
    have e7 := hb 7 rfl
    simp only [exSlot, List.getD_cons_succ, List.getD_cons_zero] at e7
    simp only [execOp, e7]
    clear hb hd
    go_simp
    exact hK _ hC (Chg.refl _ _)
  refine ex_det 58 [57, 56] rfl rfl (fun _ b _ _ _ _ hb hd => (wanted_guard b rfl rfl (hd 56 _ _ rfl rfl)).trans rfl) ?_
  apply Exists.intro
  refine ⟨?_, ?_⟩
  · intro wx b k hk1 hk2 hC hb hd K hK
    have e57 := hd 57 _ _ rfl rfl
    try dsimp only at e57
    simp only [execOp, e57]
    clear hb hd
    go_simp
    exact hK _ hC (Chg.refl _ _)
  refine ex_det 59 [58, 56] rfl rfl (fun _ b _ _ _ _ hb hd => (wanted_guard b rfl rfl (hd 56 _ _ rfl rfl)).trans rfl) ?_
  apply Exists.intro
  refine ⟨?_, ?_⟩
  · intro wx b k hk1 hk2 hC hb hd K hK
    have e58 := hd 58 _ _ rfl rfl
    try dsimp only at e58
    simp only [execOp, e58]
    clear hb hd
    go_simp
    exact hK _ hC (Chg.refl _ _)
  refine ex_pass 60 [6, 59] rfl rfl (fun _ => Chg.refl _ _) (fun _ b _ _ _ _ hb hd => (wanted_guard b rfl rfl (hd 59 _ _ rfl rfl)).trans rfl) ?_
  refine ex_pass 61 [2, 59] rfl rfl (fun _ => Chg.refl _ _) (fun _ b _ _ _ _ hb hd => (wanted_guard b rfl rfl (hd 59 _ _ rfl rfl)).trans rfl) ?_
  refine ex_pass 62 [60, 61, 59] rfl rfl (fun _ => Chg.refl _ _) (fun _ b _ _ _ _ hb hd => (wanted_guard b rfl rfl (hd 59 _ _ rfl rfl)).trans rfl) ?_
  refine ex_det 63 [59, 62, 56] rfl rfl (fun _ b _ _ _ _ hb hd => (wanted_guard b rfl rfl (hd 56 _ _ rfl rfl)).trans rfl) ?_
  apply Exists.intro
  refine ⟨?_, ?_⟩
  · intro wx b k hk1 hk2 hC hb hd K hK
    have e59 := hd 59 _ _ rfl rfl
    try dsimp only at e59
    have e62 := hd 62 _ _ rfl rfl
    try dsimp only at e62
    simp only [execOp, e59, e62]
    clear hb hd
    go_simp
    exact hK _ hC (Chg.refl _ _)
  refine ex_det 64 [56, 63] rfl rfl (fun _ _ _ _ _ _ _ _ => rfl) ?_
  apply Exists.intro
  refine ⟨?_, ?_⟩
  · intro wx b k hk1 hk2 hC hb hd K hK
    have e56 := hd 56 _ _ rfl rfl
    try dsimp only at e56
    have e63 := hd 63 _ _ rfl rfl
    try dsimp only at e63
    simp only [execOp, e56, e63]
    clear hb hd
    go_simp
    exact hK _ hC (Chg.refl _ _)
  refine ex_det 65 [64] rfl rfl (fun _ _ _ _ _ _ _ _ => rfl) ?_
  apply Exists.intro
  refine ⟨?_, ?_⟩
  · intro wx b k hk1 hk2 hC hb hd K hK
    have e64 := hd 64 _ _ rfl rfl
    try dsimp only at e64
    simp only [execOp, e64]
    clear hb hd
    go_simp
    exact hK _ hC (Chg.refl _ _)
  refine ex_det 66 [8, 65] rfl rfl (fun _ b _ _ _ _ hb hd => (wanted_guard b rfl rfl (hd 65 _ _ rfl rfl)).trans rfl) ?_
  apply Exists.intro
  refine ⟨?_, ?_⟩
  · intro wx b k hk1 hk2 hC hb hd K hK
    have e8 := hb 8 rfl
    simp only [exSlot, List.getD_cons_succ, List.getD_cons_zero] at e8
    simp only [execOp, e8]
    clear hb hd
    have hrun := (hC.get 1 rfl).load 23 (by kernel_rfl)
    simp only [Sem.run_bind, hrun, Result.andThen_ok, Sem.run_pure, invUpon]
    exact hK _ hC (Chg.refl _ _)
  refine ex_det 67 [66, 65] rfl rfl (fun _ b _ _ _ _ hb hd => (wanted_guard b rfl rfl (hd 65 _ _ rfl rfl)).trans rfl) ?_
  apply Exists.intro
  refine ⟨?_, ?_⟩
  · intro wx b k hk1 hk2 hC hb hd K hK
    have e66 := hd 66 _ _ rfl rfl
    try dsimp only at e66
    simp only [execOp, resolve, List.map_toArray, List.map_cons, List.map_nil, e66]
    clear hb hd
    go_simp
    refine (HLx.out wx).mono ?_; rintro e w' ⟨rfl, hX⟩
    exact ⟨_, rfl, hK _ (hC.step hX) hX⟩
  refine ex_det 68 [10, 65] rfl rfl (fun _ b _ _ _ _ hb hd => (wanted_guard b rfl rfl (hd 65 _ _ rfl rfl)).trans rfl) ?_
  apply Exists.intro
  refine ⟨?_, ?_⟩
  · intro wx b k hk1 hk2 hC hb hd K hK
    have e10 := hb 10 rfl
    simp only [exSlot, List.getD_cons_succ, List.getD_cons_zero] at e10
    simp only [execOp, e10]
    clear hb hd
    have hrun := (hC.get 0 rfl).load 28 (by kernel_rfl)
    simp only [Sem.run_bind, hrun, Result.andThen_ok, Sem.run_pure, invUpon]
    exact hK _ hC (Chg.refl _ _)
  refine ex_det 69 [67, 68, 65] rfl rfl (fun _ b _ _ _ _ hb hd => (wanted_guard b rfl rfl (hd 65 _ _ rfl rfl)).trans rfl) ?_
  apply Exists.intro
  refine ⟨?_, ?_⟩
  · intro wx b k hk1 hk2 hC hb hd K hK
    have e67 := hd 67 _ _ rfl rfl
    try dsimp only at e67
    have e68 := hd 68 _ _ rfl rfl
    try dsimp only at e68
    simp only [execOp, e67, e68]
    clear hb hd
    go_simp
    exact hK _ hC (Chg.refl _ _)
  refine ex_det 70 [65, 69] rfl rfl (fun _ _ _ _ _ _ _ _ => rfl) ?_
  apply Exists.intro
  refine ⟨?_, ?_⟩
  · intro wx b k hk1 hk2 hC hb hd K hK
    have e65 := hd 65 _ _ rfl rfl
    try dsimp only at e65
    have e69 := hd 69 _ _ rfl rfl
    try dsimp only at e69
    simp only [execOp, e65, e69]
    clear hb hd
    go_simp
    exact hK _ hC (Chg.refl _ _)
  refine ex_det 71 [70] rfl rfl (fun _ _ _ _ _ _ _ _ => rfl) ?_
  apply Exists.intro
  refine ⟨?_, ?_⟩
  · intro wx b k hk1 hk2 hC hb hd K hK
    have e70 := hd 70 _ _ rfl rfl
    try dsimp only at e70
    simp only [execOp, e70]
    clear hb hd
    go_simp
    exact hK _ hC (Chg.refl _ _)
  refine ex_det 72 [9, 71] rfl rfl (fun _ b _ _ _ _ hb hd => (wanted_guard b rfl rfl (hd 71 _ _ rfl rfl)).trans rfl) ?_
  apply Exists.intro
  refine ⟨?_, ?_⟩
  · intro wx b k hk1 hk2 hC hb hd K hK
    have e9 := hb 9 rfl
    simp only [exSlot, List.getD_cons_succ, List.getD_cons_zero] at e9
    simp only [execOp, e9]
    clear hb hd
    go_simp
    exact hK _ hC (Chg.refl _ _)
  refine ex_det 73 [11, 71] rfl rfl (fun _ b _ _ _ _ hb hd => (wanted_guard b rfl rfl (hd 71 _ _ rfl rfl)).trans rfl) ?_
  apply Exists.intro
  refine ⟨?_, ?_⟩
  · intro wx b k hk1 hk2 hC hb hd K hK
    have e11 := hb 11 rfl
    simp only [exSlot, List.getD_cons_succ, List.getD_cons_zero] at e11
    simp only [execOp, e11]
    clear hb hd
    go_simp
    exact hK _ hC (Chg.refl _ _)
  refine ex_det 74 [72, 73, 71] rfl rfl (fun _ b _ _ _ _ hb hd => (wanted_guard b rfl rfl (hd 71 _ _ rfl rfl)).trans rfl) ?_
  apply Exists.intro
  refine ⟨?_, ?_⟩
  · intro wx b k hk1 hk2 hC hb hd K hK
    have e72 := hd 72 _ _ rfl rfl
    try dsimp only at e72
    have e73 := hd 73 _ _ rfl rfl
    try dsimp only at e73
    simp only [execOp, e72, e73]
    clear hb hd
    go_simp
    exact hK _ hC (Chg.refl _ _)
  refine ex_det 75 [71, 74] rfl rfl (fun _ _ _ _ _ _ _ _ => rfl) ?_
  apply Exists.intro
  refine ⟨?_, ?_⟩
  · intro wx b k hk1 hk2 hC hb hd K hK
    have e71 := hd 71 _ _ rfl rfl
    try dsimp only at e71
    have e74 := hd 74 _ _ rfl rfl
    try dsimp only at e74
    simp only [execOp, e71, e74]
    clear hb hd
    go_simp
    exact hK _ hC (Chg.refl _ _)
  refine ex_det 76 [75] rfl rfl (fun _ _ _ _ _ _ _ _ => rfl) ?_
  apply Exists.intro
  refine ⟨?_, ?_⟩
  · intro wx b k hk1 hk2 hC hb hd K hK
    have e75 := hd 75 _ _ rfl rfl
    try dsimp only at e75
    simp only [execOp, e75]
    clear hb hd
    go_simp
    exact hK _ hC (Chg.refl _ _)
  refine ex_det 77 [9, 76] rfl rfl (fun _ b _ _ _ _ hb hd => (wanted_guard b rfl rfl (hd 76 _ _ rfl rfl)).trans rfl) ?_
  apply Exists.intro
  refine ⟨?_, ?_⟩
  · intro wx b k hk1 hk2 hC hb hd K hK
    have e9 := hb 9 rfl
    simp only [exSlot, List.getD_cons_succ, List.getD_cons_zero] at e9
    simp only [execOp, e9]
    clear hb hd
    go_simp
    exact hK _ hC (Chg.refl _ _)
  refine ex_det 78 [77, 76] rfl rfl (fun _ b _ _ _ _ hb hd => (wanted_guard b rfl rfl (hd 76 _ _ rfl rfl)).trans rfl) ?_
  apply Exists.intro
  refine ⟨?_, ?_⟩
  · intro wx b k hk1 hk2 hC hb hd K hK
    have e77 := hd 77 _ _ rfl rfl
    try dsimp only at e77
    simp only [execOp, e77]
    clear hb hd
    go_simp
    exact hK _ hC (Chg.refl _ _)
  refine ex_det 79 [78, 76] rfl rfl (fun _ b _ _ _ _ hb hd => (wanted_guard b rfl rfl (hd 76 _ _ rfl rfl)).trans rfl) ?_
  apply Exists.intro
  refine ⟨?_, ?_⟩
  · intro wx b k hk1 hk2 hC hb hd K hK
    have e78 := hd 78 _ _ rfl rfl
    try dsimp only at e78
    simp only [execOp, e78]
    clear hb hd
    go_simp
    exact hK _ hC (Chg.refl _ _)
  refine ex_det 80 [8, 79] rfl rfl (fun _ b _ _ _ _ hb hd => (wanted_guard b rfl rfl (hd 79 _ _ rfl rfl)).trans rfl) ?_
  apply Exists.intro
  refine ⟨?_, ?_⟩
  · intro wx b k hk1 hk2 hC hb hd K hK
    have e8 := hb 8 rfl
    simp only [exSlot, List.getD_cons_succ, List.getD_cons_zero] at e8
    simp only [execOp, e8]
    clear hb hd
    have hrun := (hC.get 1 rfl).load 23 (by kernel_rfl)
    simp only [Sem.run_bind, hrun, Result.andThen_ok, Sem.run_pure, invUpon]
    exact hK _ hC (Chg.refl _ _)
  refine ex_det 81 [80, 79] rfl rfl (fun _ b _ _ _ _ hb hd => (wanted_guard b rfl rfl (hd 79 _ _ rfl rfl)).trans rfl) ?_
  apply Exists.intro
  refine ⟨?_, ?_⟩
  · intro wx b k hk1 hk2 hC hb hd K hK
    have e80 := hd 80 _ _ rfl rfl
    try dsimp only at e80
    simp only [execOp, resolve, List.map_toArray, List.map_cons, List.map_nil, e80]
    clear hb hd
    go_simp
    refine (HLP.out wx).mono ?_; rintro e w' ⟨rfl, hX⟩
    exact ⟨_, rfl, hK _ (hC.step hX) hX⟩
  refine ex_det 82 [1, 79] rfl rfl (fun _ b _ _ _ _ hb hd => (wanted_guard b rfl rfl (hd 79 _ _ rfl rfl)).trans rfl) ?_
  apply Exists.intro
  refine ⟨?_, ?_⟩
  · intro wx b k hk1 hk2 hC hb hd K hK
    have e1 := hb 1 rfl
    simp only [exSlot, List.getD_cons_succ, List.getD_cons_zero] at e1
    simp only [execOp, e1]
    clear hb hd
    go_simp
    exact hK _ hC (Chg.refl _ _)
  refine ex_det 83 [81, 82, 79] rfl rfl (fun _ b _ _ _ _ hb hd => (wanted_guard b rfl rfl (hd 79 _ _ rfl rfl)).trans rfl) ?_
  apply Exists.intro
  refine ⟨?_, ?_⟩
  · intro wx b k hk1 hk2 hC hb hd K hK
    have e81 := hd 81 _ _ rfl rfl
    try dsimp only at e81
    have e82 := hd 82 _ _ rfl rfl
    try dsimp only at e82
    simp only [execOp, e81, e82]
    clear hb hd
    go_simp
    exact hK _ hC (Chg.refl _ _)
  refine ex_det 84 [79, 83, 76] rfl rfl (fun _ b _ _ _ _ hb hd => (wanted_guard b rfl rfl (hd 76 _ _ rfl rfl)).trans rfl) ?_
  apply Exists.intro
  refine ⟨?_, ?_⟩
  · intro wx b k hk1 hk2 hC hb hd K hK
    have e79 := hd 79 _ _ rfl rfl
    try dsimp only at e79
    have e83 := hd 83 _ _ rfl rfl
    try dsimp only at e83
    simp only [execOp, e79, e83]
    clear hb hd
    go_simp
    exact hK _ hC (Chg.refl _ _)
  refine ex_det 85 [76, 84] rfl rfl (fun _ _ _ _ _ _ _ _ => rfl) ?_
  apply Exists.intro
  refine ⟨?_, ?_⟩
  · intro wx b k hk1 hk2 hC hb hd K hK
    have e76 := hd 76 _ _ rfl rfl
    try dsimp only at e76
    have e84 := hd 84 _ _ rfl rfl
    try dsimp only at e84
    simp only [execOp, e76, e84]
    clear hb hd
    go_simp
    exact hK _ hC (Chg.refl _ _)
  refine ex_det 4 [85] rfl rfl (fun _ _ _ _ _ _ _ _ => rfl) ?_
  apply Exists.intro
  refine ⟨?_, ?_⟩
  · intro wx b k hk1 hk2 hC hb hd K hK
    have e85 := hd 85 _ _ rfl rfl
    try dsimp only at e85
    simp only [execOp, e85]
    clear hb hd
    go_simp
    exact hK _ hC (Chg.refl _ _)
  refine ex_end ?_
  intro us w2 hus hC hall
  obtain ⟨v0, us, rfl⟩ := List.exists_cons_of_length_eq_add_one hus
  replace hus := Nat.succ.inj hus
  obtain ⟨v1, us, rfl⟩ := List.exists_cons_of_length_eq_add_one hus
  replace hus := Nat.succ.inj hus
  obtain ⟨v2, us, rfl⟩ := List.exists_cons_of_length_eq_add_one hus
  replace hus := Nat.succ.inj hus
  obtain ⟨v3, us, rfl⟩ := List.exists_cons_of_length_eq_add_one hus
  replace hus := Nat.succ.inj hus
  obtain ⟨v4, us, rfl⟩ := List.exists_cons_of_length_eq_add_one hus
  replace hus := Nat.succ.inj hus
  obtain ⟨v5, us, rfl⟩ := List.exists_cons_of_length_eq_add_one hus
  replace hus := Nat.succ.inj hus
  obtain ⟨v6, us, rfl⟩ := List.exists_cons_of_length_eq_add_one hus
  replace hus := Nat.succ.inj hus
  obtain ⟨v7, us, rfl⟩ := List.exists_cons_of_length_eq_add_one hus
  replace hus := Nat.succ.inj hus
  obtain ⟨v8, us, rfl⟩ := List.exists_cons_of_length_eq_add_one hus
  replace hus := Nat.succ.inj hus
  obtain ⟨v9, us, rfl⟩ := List.exists_cons_of_length_eq_add_one hus
  replace hus := Nat.succ.inj hus
  obtain ⟨v10, us, rfl⟩ := List.exists_cons_of_length_eq_add_one hus
  replace hus := Nat.succ.inj hus
  obtain ⟨v11, us, rfl⟩ := List.exists_cons_of_length_eq_add_one hus
  replace hus := Nat.succ.inj hus
  obtain ⟨v12, us, rfl⟩ := List.exists_cons_of_length_eq_add_one hus
  replace hus := Nat.succ.inj hus
  obtain ⟨v13, us, rfl⟩ := List.exists_cons_of_length_eq_add_one hus
  replace hus := Nat.succ.inj hus
  obtain ⟨v14, us, rfl⟩ := List.exists_cons_of_length_eq_add_one hus
  replace hus := Nat.succ.inj hus
  obtain ⟨v15, us, rfl⟩ := List.exists_cons_of_length_eq_add_one hus
  replace hus := Nat.succ.inj hus
  obtain ⟨v16, us, rfl⟩ := List.exists_cons_of_length_eq_add_one hus
  replace hus := Nat.succ.inj hus
  obtain ⟨v17, us, rfl⟩ := List.exists_cons_of_length_eq_add_one hus
  replace hus := Nat.succ.inj hus
  obtain ⟨v18, us, rfl⟩ := List.exists_cons_of_length_eq_add_one hus
  replace hus := Nat.succ.inj hus
  obtain ⟨v19, us, rfl⟩ := List.exists_cons_of_length_eq_add_one hus
  replace hus := Nat.succ.inj hus
  obtain ⟨v20, us, rfl⟩ := List.exists_cons_of_length_eq_add_one hus
  replace hus := Nat.succ.inj hus
  obtain ⟨v21, us, rfl⟩ := List.exists_cons_of_length_eq_add_one hus
  replace hus := Nat.succ.inj hus
  obtain ⟨v22, us, rfl⟩ := List.exists_cons_of_length_eq_add_one hus
  replace hus := Nat.succ.inj hus
  obtain ⟨v23, us, rfl⟩ := List.exists_cons_of_length_eq_add_one hus
  replace hus := Nat.succ.inj hus
  obtain ⟨v24, us, rfl⟩ := List.exists_cons_of_length_eq_add_one hus
  replace hus := Nat.succ.inj hus
  obtain ⟨v25, us, rfl⟩ := List.exists_cons_of_length_eq_add_one hus
  replace hus := Nat.succ.inj hus
  obtain ⟨v26, us, rfl⟩ := List.exists_cons_of_length_eq_add_one hus
  replace hus := Nat.succ.inj hus
  obtain ⟨v27, us, rfl⟩ := List.exists_cons_of_length_eq_add_one hus
  replace hus := Nat.succ.inj hus
  obtain ⟨v28, us, rfl⟩ := List.exists_cons_of_length_eq_add_one hus
  replace hus := Nat.succ.inj hus
  obtain ⟨v29, us, rfl⟩ := List.exists_cons_of_length_eq_add_one hus
  replace hus := Nat.succ.inj hus
  obtain ⟨v30, us, rfl⟩ := List.exists_cons_of_length_eq_add_one hus
  replace hus := Nat.succ.inj hus
  obtain ⟨v31, us, rfl⟩ := List.exists_cons_of_length_eq_add_one hus
  replace hus := Nat.succ.inj hus
  obtain ⟨v32, us, rfl⟩ := List.exists_cons_of_length_eq_add_one hus
  replace hus := Nat.succ.inj hus
  obtain ⟨v33, us, rfl⟩ := List.exists_cons_of_length_eq_add_one hus
  replace hus := Nat.succ.inj hus
  obtain ⟨v34, us, rfl⟩ := List.exists_cons_of_length_eq_add_one hus
  replace hus := Nat.succ.inj hus
  obtain ⟨v35, us, rfl⟩ := List.exists_cons_of_length_eq_add_one hus
  replace hus := Nat.succ.inj hus
  obtain ⟨v36, us, rfl⟩ := List.exists_cons_of_length_eq_add_one hus
  replace hus := Nat.succ.inj hus
  obtain ⟨v37, us, rfl⟩ := List.exists_cons_of_length_eq_add_one hus
  replace hus := Nat.succ.inj hus
  obtain ⟨v38, us, rfl⟩ := List.exists_cons_of_length_eq_add_one hus
  replace hus := Nat.succ.inj hus
  obtain ⟨v39, us, rfl⟩ := List.exists_cons_of_length_eq_add_one hus
  replace hus := Nat.succ.inj hus
  obtain ⟨v40, us, rfl⟩ := List.exists_cons_of_length_eq_add_one hus
  replace hus := Nat.succ.inj hus
  obtain ⟨v41, us, rfl⟩ := List.exists_cons_of_length_eq_add_one hus
  replace hus := Nat.succ.inj hus
  obtain ⟨v42, us, rfl⟩ := List.exists_cons_of_length_eq_add_one hus
  replace hus := Nat.succ.inj hus
  obtain ⟨v43, us, rfl⟩ := List.exists_cons_of_length_eq_add_one hus
  replace hus := Nat.succ.inj hus
  obtain ⟨v44, us, rfl⟩ := List.exists_cons_of_length_eq_add_one hus
  replace hus := Nat.succ.inj hus
  obtain ⟨v45, us, rfl⟩ := List.exists_cons_of_length_eq_add_one hus
  replace hus := Nat.succ.inj hus
  obtain ⟨v46, us, rfl⟩ := List.exists_cons_of_length_eq_add_one hus
  replace hus := Nat.succ.inj hus
  obtain ⟨v47, us, rfl⟩ := List.exists_cons_of_length_eq_add_one hus
  replace hus := Nat.succ.inj hus
  obtain ⟨v48, us, rfl⟩ := List.exists_cons_of_length_eq_add_one hus
  replace hus := Nat.succ.inj hus
  obtain ⟨v49, us, rfl⟩ := List.exists_cons_of_length_eq_add_one hus
  replace hus := Nat.succ.inj hus
  obtain rfl := List.length_eq_zero_iff.1 hus
  clear hus
  generalize hbb : exPuts _ _ _ = bb at hall ⊢
  simp only [exPuts, Act.put, List.setIfInBounds_toArray, List.set_cons_succ, List.set_cons_zero] at hbb
  subst hbb
  obtain ⟨h49, h48, h47, h46, h45, h44, h43, h42, h41, h40, h39, h38, h37, h36, h35, h34, h33, h32, h31, h30, h29, h28, h27, h26, h25, h24, h23, h22, h21, h20, h19, h18, h17, h16, h15, h14, h13, h12, h11, h10, h9, h8, h7, h6, h5, h4, h3, h2, h1, h0, -⟩ := hall
  obtain rfl : v0 = _ := h0
  obtain rfl : v1 = _ := h1
  obtain rfl : v2 = _ := h2
  obtain rfl : v3 = _ := h3
  obtain rfl : v4 = _ := h4
  obtain rfl : v5 = _ := h5
  obtain rfl : v6 = _ := h6
  obtain rfl : v7 = _ := h7
  obtain rfl : v8 = _ := h8
  obtain rfl : v9 = _ := h9
  obtain rfl : v10 = _ := h10
  obtain rfl : v11 = _ := h11
  obtain rfl : v12 = _ := h12
  obtain rfl : v13 = _ := h13
  obtain rfl : v14 = _ := h14
  obtain rfl : v15 = _ := h15
  obtain rfl : v16 = _ := h16
  obtain rfl : v17 = _ := h17
  obtain rfl : v18 = _ := h18
  obtain rfl : v19 = _ := h19
  obtain rfl : v20 = _ := h20
  obtain rfl : v21 = _ := h21
  obtain rfl : v22 = _ := h22
  obtain rfl : v23 = _ := h23
  obtain rfl : v24 = _ := h24
  obtain rfl : v25 = _ := h25
  obtain rfl : v26 = _ := h26
  obtain rfl : v27 = _ := h27
  obtain rfl : v28 = _ := h28
  obtain rfl : v29 = _ := h29
  obtain rfl : v30 = _ := h30
  obtain rfl : v31 = _ := h31
  obtain rfl : v32 = _ := h32
  obtain rfl : v33 = _ := h33
  obtain rfl : v34 = _ := h34
  obtain rfl : v35 = _ := h35
  obtain rfl : v36 = _ := h36
  obtain rfl : v37 = _ := h37
  obtain rfl : v38 = _ := h38
  obtain rfl : v39 = _ := h39
  obtain rfl : v40 = _ := h40
  obtain rfl : v41 = _ := h41
  obtain rfl : v42 = _ := h42
  obtain rfl : v43 = _ := h43
  obtain rfl : v44 = _ := h44
  obtain rfl : v45 = _ := h45
  obtain rfl : v46 = _ := h46
  obtain rfl : v47 = _ := h47
  obtain rfl : v48 = _ := h48
  obtain rfl : v49 = _ := h49
  go_wp2
  go_returns
  exact ⟨rfl, hC.x.to_below⟩
set_option maxRecDepth 100000 in
set_option maxHeartbeats 8000000 in
theorem lprints_ff (W : World) (q : RcV) (s : ByteArray) (hs : s.size ≤ 100) (hq : q.right = false) (hd : isRec s = false) : Calls Try.prog 3 #[.agg q.cells, .string s] W fun e w' => e = .returned (.bool true) ∧ Below W.heap.size W w' := by
  have HLP0 := fun w => lprint_any w q
  have HRP := fun w => rprint_any w q
  have HLR := fun w => lright_any w q
  have HRR := fun w => rright_any w q
  have HLq := fun w => like_any w q
  have HS := fun w => lread_any w s (by omega)
  have HS2 := fun w => rread_any w s (by unfold maxLen; omega)
  have HLx := fun w => like_any w (lread s)
  have HLP := fun w => lprint_any w (lread s)
  have hpr : q.print = ByteArray.empty := by unfold RcV.print; rw [hq]; rfl
  have HT := fun w => lread_any w ByteArray.empty (by decide)
  rw [show isRec ByteArray.empty = false by kernel_rfl, show (lread ByteArray.empty).cells = #[.int .i64 0, .int .i64 0, .int .i64 0, .int .i64 0, .int .i64 0, .int .i64 0, .int .i64 0, .int .i64 0, .int .i64 0] from by kernel_rfl] at HT
  rw [hpr] at HLP0 HRP
  clear hpr
  rw [hq] at HLR HRR
  rw [hd] at HS HS2
  skip
  generalize lread s = x at *
  have C := (CL.new W 0).push q.cells 23
  rw [show q.cells = #[.int .i64 q.seq, .int .i64 q.cyc, .int .i64 q.ph, .int .i64 q.st, .int .i64 q.fl, .int .i64 q.vi, .int .i64 q.di, .int .i64 q.inv, .int .i64 q.inph] from rfl] at *
  rw [show x.cells = #[.int .i64 x.seq, .int .i64 x.cyc, .int .i64 x.ph, .int .i64 x.st, .int .i64 x.fl, .int .i64 x.vi, .int .i64 x.di, .int .i64 x.inv, .int .i64 x.inph] from rfl] at *
  have hsi : (s.size : Int) ≤ 100 := by omega
  clear hs hd hq
  replace HLP0 := Lib.hid HLP0
  replace HRP := Lib.hid HRP
  replace HLR := Lib.hid HLR
  replace HRR := Lib.hid HRR
  replace HLq := Lib.hid HLq
  replace HS := Lib.hid HS
  replace HS2 := Lib.hid HS2
  replace HLx := Lib.hid HLx
  replace HLP := Lib.hid HLP
  replace HT := Lib.hid HT
  go_enter Try.func3, Try.ntmps3
  go_upto_region 1 with fail
  generalize hz : W.heap.size = z2 at *
  have hzW : W.heap.size ≤ z2 := by omega
  generalize W.alloc (.cells #[.int .i64 q.seq, .int .i64 q.cyc, .int .i64 q.ph, .int .i64 q.st, .int .i64 q.fl, .int .i64 q.vi, .int .i64 q.di, .int .i64 q.inv, .int .i64 q.inph] 23) = w0 at *
  go_wp2_with fail
  refine (awake09 _).mono ?_; rintro e w1 ⟨rfl, hX1⟩
  replace C := C.step (j := 0) hX1
  clear hX1
  have cc := (C.get 0 rfl).cell
  dsimp only at cc
  have c0 := cc 0
  have c1 := cc 1
  have c2 := cc 2
  have c3 := cc 3
  have c4 := cc 4
  have c5 := cc 5
  have c6 := cc 6
  have c7 := cc 7
  have c8 := cc 8
  clear cc
  go_wp2_with fail
  refine (HLP0.out _).mono ?_; rintro e w2 ⟨rfl, hX2⟩
  replace C := C.step (j := 0) hX2
  clear hX2 c0 c1 c2 c3 c4 c5 c6 c7 c8
  go_wp2_with fail
  refine (HT.out _).mono ?_; rintro e w3 ⟨rfl, hX3⟩
  replace C := C.step (j := 0) hX3
  clear hX3
  go_wp2_with (refine wpList_put rfl rfl rfl rfl (At.new _ _ _) rfl (by kernel_rfl) (by simp [Value.oneCell']) ?_; intro w4 hz4 hX4; refine Hid.out ?_)
  refine Lib.hid ?_
  replace C := C.fill hX4 hz4
  clear hX4 hz4
  generalize w3.heap.size = z6 at *
  go_wp2_with fail
  refine (HS.out _).mono ?_; rintro e w5 ⟨rfl, hX5⟩
  replace C := C.step (j := 0) hX5
  clear hX5
  go_wp2_with (refine wpList_put rfl rfl rfl rfl (At.new _ _ _) rfl (by kernel_rfl) (by simp [Value.oneCell']) ?_; intro w6 hz6 hX6; refine Hid.out ?_)
  refine Lib.hid ?_
  replace C := C.fill hX6 hz6
  clear hX6 hz6
  generalize w5.heap.size = z8 at *
  go_wp2_with fail
  refine (HS2.out _).mono ?_; rintro e w7 ⟨rfl, hX7⟩
  replace C := C.step (j := 0) hX7
  clear hX7
  go_wp2_with (refine wpList_put rfl rfl rfl rfl (At.new _ _ _) rfl (by kernel_rfl) (by simp [Value.oneCell']) ?_; intro w8 hz8 hX8; refine Hid.out ?_)
  refine Lib.hid ?_
  replace C := C.fill hX8 hz8
  clear hX8 hz8
  generalize w7.heap.size = z10 at *
  go_upto_region 7 with fail
  refine wp_region_ex (fun _ => CL W [(z10, #[.int .i64 x.seq, .int .i64 x.cyc, .int .i64 x.ph, .int .i64 x.st, .int .i64 x.fl, .int .i64 x.vi, .int .i64 x.di, .int .i64 x.inv, .int .i64 x.inph]), (z8, #[.int .i64 x.seq, .int .i64 x.cyc, .int .i64 x.ph, .int .i64 x.st, .int .i64 x.fl, .int .i64 x.vi, .int .i64 x.di, .int .i64 x.inv, .int .i64 x.inph]), (z6, #[.int .i64 0, .int .i64 0, .int .i64 0, .int .i64 0, .int .i64 0, .int .i64 0, .int .i64 0, .int .i64 0, .int .i64 0]), (z2, #[.int .i64 q.seq, .int .i64 q.cyc, .int .i64 q.ph, .int .i64 q.st, .int .i64 q.fl, .int .i64 q.vi, .int .i64 q.di, .int .i64 q.inv, .int .i64 q.inph])] 0) (Chg []) [] [(0, 0, false), (0, 0, false), (0, 0, false), (0, 0, false), (0, 0, false), (0, 0, false), (0, 0, false), (0, 0, false), (0, 0, false), (0, 0, false), (0, 0, false), (0, 0, false), (0, 0, false), (0, 0, false), (0, 0, false), (0, 0, false), (0, 0, false), (0, 0, false), (0, 0, false), (0, 0, false), (0, 0, false), (0, 0, false), (0, 0, false), (0, 0, false), (0, 0, false), (0, 0, false), (0, 0, false), (0, 0, false), (0, 0, false), (0, 0, false), (0, 0, false), (0, 0, false), (0, 0, false), (0, 0, false), (0, 0, false), (0, 0, false), (0, 0, false), (0, 0, false), (0, 0, false), (0, 0, false), (0, 0, false), (0, 0, false), (0, 0, false), (0, 0, false), (0, 0, false), (0, 0, false), (0, 0, false), (0, 0, false), (0, 0, false), (0, 0, false)] [37, 38, 39, 40, 41, 42, 43, 44, 45, 46, 47, 48, 49, 50, 51, 52, 53, 54, 55, 56, 57, 58, 59, 60, 61, 62, 63, 64, 65, 66, 67, 68, 69, 70, 71, 72, 73, 74, 75, 76, 77, 78, 79, 80, 81, 82, 83, 84, 85, 4] (by kernel_rfl) rfl (by kernel_rfl) (by kernel_rfl) (C.drew) ?_
  simp only [List.zip_cons_cons, List.zip_nil_right]
  refine ex_det 37 [5] rfl rfl (fun _ _ _ _ _ _ _ _ => rfl) ?_
  apply Exists.intro
  refine ⟨?_, ?_⟩
  · intro wx b k hk1 hk2 hC hb hd K hK
    have e5 := hb 5 rfl
    simp only [exSlot, List.getD_cons_succ, List.getD_cons_zero] at e5
    simp only [execOp, e5]
    clear hb hd
    go_simp
    exact hK _ hC (Chg.refl _ _)
  refine ex_det 38 [2] rfl rfl (fun _ _ _ _ _ _ _ _ => rfl) ?_
  apply Exists.intro
  refine ⟨?_, ?_⟩
  · intro wx b k hk1 hk2 hC hb hd K hK
    have e2 := hb 2 rfl
    simp only [exSlot, List.getD_cons_succ, List.getD_cons_zero] at e2
    simp only [execOp, e2]
    clear hb hd
    have hrun := (hC.get 3 rfl).load 23 (by kernel_rfl)
    simp only [Sem.run_bind, hrun, Result.andThen_ok, Sem.run_pure, invUpon]
    exact hK _ hC (Chg.refl _ _)
  refine ex_det 39 [38] rfl rfl (fun _ _ _ _ _ _ _ _ => rfl) ?_
  apply Exists.intro
  refine ⟨?_, ?_⟩
  · intro wx b k hk1 hk2 hC hb hd K hK
    have e38 := hd 38 _ _ rfl rfl
    try dsimp only at e38
    simp only [execOp, resolve, List.map_toArray, List.map_cons, List.map_nil, e38]
    clear hb hd
    go_simp
    refine (HLq.out wx).mono ?_; rintro e w' ⟨rfl, hX⟩
    exact ⟨_, rfl, hK _ (hC.step hX) hX⟩
  refine ex_det 40 [39] rfl rfl (fun _ _ _ _ _ _ _ _ => rfl) ?_
  apply Exists.intro
  refine ⟨?_, ?_⟩
  · intro wx b k hk1 hk2 hC hb hd K hK
    have e39 := hd 39 _ _ rfl rfl
    try dsimp only at e39
    simp only [execOp, resolve, List.map_toArray, List.map_cons, List.map_nil, e39]
    clear hb hd
    go_simp
    refine (HRP.out wx).mono ?_; rintro e w' ⟨rfl, hX⟩
    exact ⟨_, rfl, hK _ (hC.step hX) hX⟩
  refine ex_det 41 [37, 40] rfl rfl (fun _ _ _ _ _ _ _ _ => rfl) ?_
  apply Exists.intro
  refine ⟨?_, ?_⟩
  · intro wx b k hk1 hk2 hC hb hd K hK
    have e37 := hd 37 _ _ rfl rfl
    try dsimp only at e37
    have e40 := hd 40 _ _ rfl rfl
    try dsimp only at e40
    simp only [execOp, e37, e40]
    clear hb hd
    go_simp
    exact hK _ hC (Chg.refl _ _)
  refine ex_det 42 [41] rfl rfl (fun _ _ _ _ _ _ _ _ => rfl) ?_
  apply Exists.intro
  refine ⟨?_, ?_⟩
  · intro wx b k hk1 hk2 hC hb hd K hK
    have e41 := hd 41 _ _ rfl rfl
    try dsimp only at e41
    simp only [execOp, e41]
    clear hb hd
    go_simp
    exact hK _ hC (Chg.refl _ _)
  refine ex_det 43 [2, 42] rfl rfl (fun _ b _ _ _ _ hb hd => (wanted_guard b rfl rfl (hd 42 _ _ rfl rfl)).trans rfl) ?_
  apply Exists.intro
  refine ⟨?_, ?_⟩
  · intro wx b k hk1 hk2 hC hb hd K hK
    have e2 := hb 2 rfl
    simp only [exSlot, List.getD_cons_succ, List.getD_cons_zero] at e2
    simp only [execOp, e2]
    clear hb hd
    have hrun := (hC.get 3 rfl).load 23 (by kernel_rfl)
    simp only [Sem.run_bind, hrun, Result.andThen_ok, Sem.run_pure, invUpon]
    exact hK _ hC (Chg.refl _ _)
  refine ex_det 44 [43, 42] rfl rfl (fun _ b _ _ _ _ hb hd => (wanted_guard b rfl rfl (hd 42 _ _ rfl rfl)).trans rfl) ?_
  apply Exists.intro
  refine ⟨?_, ?_⟩
  · intro wx b k hk1 hk2 hC hb hd K hK
    have e43 := hd 43 _ _ rfl rfl
    try dsimp only at e43
    simp only [execOp, resolve, List.map_toArray, List.map_cons, List.map_nil, e43]
    clear hb hd
    go_simp
    refine (HLR.out wx).mono ?_; rintro e w' ⟨rfl, hX⟩
    exact ⟨_, rfl, hK _ (hC.step hX) hX⟩
  refine ex_det 45 [2, 42] rfl rfl (fun _ b _ _ _ _ hb hd => (wanted_guard b rfl rfl (hd 42 _ _ rfl rfl)).trans rfl) ?_
  apply Exists.intro
  refine ⟨?_, ?_⟩
  · intro wx b k hk1 hk2 hC hb hd K hK
    have e2 := hb 2 rfl
    simp only [exSlot, List.getD_cons_succ, List.getD_cons_zero] at e2
    simp only [execOp, e2]
    clear hb hd
    have hrun := (hC.get 3 rfl).load 23 (by kernel_rfl)
    simp only [Sem.run_bind, hrun, Result.andThen_ok, Sem.run_pure, invUpon]
    exact hK _ hC (Chg.refl _ _)
  refine ex_det 46 [45, 42] rfl rfl (fun _ b _ _ _ _ hb hd => (wanted_guard b rfl rfl (hd 42 _ _ rfl rfl)).trans rfl) ?_
  apply Exists.intro
  refine ⟨?_, ?_⟩
  · intro wx b k hk1 hk2 hC hb hd K hK
    have e45 := hd 45 _ _ rfl rfl
    try dsimp only at e45
    simp only [execOp, resolve, List.map_toArray, List.map_cons, List.map_nil, e45]
    clear hb hd
    go_simp
    refine (HLq.out wx).mono ?_; rintro e w' ⟨rfl, hX⟩
    exact ⟨_, rfl, hK _ (hC.step hX) hX⟩
  refine ex_det 47 [46, 42] rfl rfl (fun _ b _ _ _ _ hb hd => (wanted_guard b rfl rfl (hd 42 _ _ rfl rfl)).trans rfl) ?_
  apply Exists.intro
  refine ⟨?_, ?_⟩
  · intro wx b k hk1 hk2 hC hb hd K hK
    have e46 := hd 46 _ _ rfl rfl
    try dsimp only at e46
    simp only [execOp, resolve, List.map_toArray, List.map_cons, List.map_nil, e46]
    clear hb hd
    go_simp
    refine (HRR.out wx).mono ?_; rintro e w' ⟨rfl, hX⟩
    exact ⟨_, rfl, hK _ (hC.step hX) hX⟩
  refine ex_det 48 [44, 47, 42] rfl rfl (fun _ b _ _ _ _ hb hd => (wanted_guard b rfl rfl (hd 42 _ _ rfl rfl)).trans rfl) ?_
  apply Exists.intro
  refine ⟨?_, ?_⟩
  · intro wx b k hk1 hk2 hC hb hd K hK
    have e44 := hd 44 _ _ rfl rfl
    try dsimp only at e44
    have e47 := hd 47 _ _ rfl rfl
    try dsimp only at e47
    simp only [execOp, e44, e47]
    clear hb hd
    go_simp
    exact hK _ hC (Chg.refl _ _)
  refine ex_det 49 [42, 48] rfl rfl (fun _ _ _ _ _ _ _ _ => rfl) ?_
  apply Exists.intro
  refine ⟨?_, ?_⟩
  · intro wx b k hk1 hk2 hC hb hd K hK
    have e42 := hd 42 _ _ rfl rfl
    try dsimp only at e42
    have e48 := hd 48 _ _ rfl rfl
    try dsimp only at e48
    simp only [execOp, e42, e48]
    clear hb hd
    go_simp
    exact hK _ hC (Chg.refl _ _)
  refine ex_det 50 [49] rfl rfl (fun _ _ _ _ _ _ _ _ => rfl) ?_
  apply Exists.intro
  refine ⟨?_, ?_⟩
  · intro wx b k hk1 hk2 hC hb hd K hK
    have e49 := hd 49 _ _ rfl rfl
    try dsimp only at e49
    simp only [execOp, e49]
    clear hb hd
    go_simp
    exact hK _ hC (Chg.refl _ _)
  refine ex_det 51 [7, 50] rfl rfl (fun _ b _ _ _ _ hb hd => (wanted_guard b rfl rfl (hd 50 _ _ rfl rfl)).trans rfl) ?_
  apply Exists.intro
  refine ⟨?_, ?_⟩
  · intro wx b k hk1 hk2 hC hb hd K hK
    have e7 := hb 7 rfl
    simp only [exSlot, List.getD_cons_succ, List.getD_cons_zero] at e7
    simp only [execOp, e7]
    clear hb hd
    go_simp
    exact hK _ hC (Chg.refl _ _)
  refine ex_det 52 [5, 50] rfl rfl (fun _ b _ _ _ _ hb hd => (wanted_guard b rfl rfl (hd 50 _ _ rfl rfl)).trans rfl) ?_
  apply Exists.intro
  refine ⟨?_, ?_⟩
  · intro wx b k hk1 hk2 hC hb hd K hK
    have e5 := hb 5 rfl
    simp only [exSlot, List.getD_cons_succ, List.getD_cons_zero] at e5
    simp only [execOp, e5]
    clear hb hd
    go_simp
    exact hK _ hC (Chg.refl _ _)
  refine ex_det 53 [52, 50] rfl rfl (fun _ b _ _ _ _ hb hd => (wanted_guard b rfl rfl (hd 50 _ _ rfl rfl)).trans rfl) ?_
  apply Exists.intro
  refine ⟨?_, ?_⟩
  · intro wx b k hk1 hk2 hC hb hd K hK
    have e52 := hd 52 _ _ rfl rfl
    try dsimp only at e52
    simp only [execOp, e52]
    clear hb hd
    go_simp
    exact hK _ hC (Chg.refl _ _)
  refine ex_det 54 [51, 53, 50] rfl rfl (fun _ b _ _ _ _ hb hd => (wanted_guard b rfl rfl (hd 50 _ _ rfl rfl)).trans rfl) ?_
  apply Exists.intro
  refine ⟨?_, ?_⟩
  · intro wx b k hk1 hk2 hC hb hd K hK
    have e51 := hd 51 _ _ rfl rfl
    try dsimp only at e51
    have e53 := hd 53 _ _ rfl rfl
    try dsimp only at e53
    simp only [execOp, e51, e53]
    clear hb hd
    go_simp
    exact hK _ hC (Chg.refl _ _)
  refine ex_det 55 [50, 54] rfl rfl (fun _ _ _ _ _ _ _ _ => rfl) ?_
  apply Exists.intro
  refine ⟨?_, ?_⟩
  · intro wx b k hk1 hk2 hC hb hd K hK
    have e50 := hd 50 _ _ rfl rfl
    try dsimp only at e50
    have e54 := hd 54 _ _ rfl rfl
    try dsimp only at e54
    simp only [execOp, e50, e54]
    clear hb hd
    go_simp
    exact hK _ hC (Chg.refl _ _)
  refine ex_det 56 [55] rfl rfl (fun _ _ _ _ _ _ _ _ => rfl) ?_
  apply Exists.intro
  refine ⟨?_, ?_⟩
  · intro wx b k hk1 hk2 hC hb hd K hK
    have e55 := hd 55 _ _ rfl rfl
    try dsimp only at e55
    simp only [execOp, e55]
    clear hb hd
    go_simp
    exact hK _ hC (Chg.refl _ _)
  refine ex_det 57 [7, 56] rfl rfl (fun _ b _ _ _ _ hb hd => (wanted_guard b rfl rfl (hd 56 _ _ rfl rfl)).trans rfl) ?_
  apply Exists.intro
  refine ⟨?_, ?_⟩
  · intro wx b k hk1 hk2 hC hb hd K hK
    have e7 := hb 7 rfl
    simp only [exSlot, List.getD_cons_succ, List.getD_cons_zero] at e7
    simp only [execOp, e7]
    clear hb hd
    go_simp
    exact hK _ hC (Chg.refl _ _)
  refine ex_det 58 [57, 56] rfl rfl (fun _ b _ _ _ _ hb hd => (wanted_guard b rfl rfl (hd 56 _ _ rfl rfl)).trans rfl) ?_
  apply Exists.intro
  refine ⟨?_, ?_⟩
  · intro wx b k hk1 hk2 hC hb hd K hK
    have e57 := hd 57 _ _ rfl rfl
    try dsimp only at e57
    simp only [execOp, e57]
    clear hb hd
    go_simp
    exact hK _ hC (Chg.refl _ _)
  refine ex_det 59 [58, 56] rfl rfl (fun _ b _ _ _ _ hb hd => (wanted_guard b rfl rfl (hd 56 _ _ rfl rfl)).trans rfl) ?_
  apply Exists.intro
  refine ⟨?_, ?_⟩
  · intro wx b k hk1 hk2 hC hb hd K hK
    have e58 := hd 58 _ _ rfl rfl
    try dsimp only at e58
    simp only [execOp, e58]
    clear hb hd
    go_simp
    exact hK _ hC (Chg.refl _ _)
  refine ex_pass 60 [6, 59] rfl rfl (fun _ => Chg.refl _ _) (fun _ b _ _ _ _ hb hd => (wanted_guard b rfl rfl (hd 59 _ _ rfl rfl)).trans rfl) ?_
  refine ex_pass 61 [2, 59] rfl rfl (fun _ => Chg.refl _ _) (fun _ b _ _ _ _ hb hd => (wanted_guard b rfl rfl (hd 59 _ _ rfl rfl)).trans rfl) ?_
  refine ex_pass 62 [60, 61, 59] rfl rfl (fun _ => Chg.refl _ _) (fun _ b _ _ _ _ hb hd => (wanted_guard b rfl rfl (hd 59 _ _ rfl rfl)).trans rfl) ?_
  refine ex_det 63 [59, 62, 56] rfl rfl (fun _ b _ _ _ _ hb hd => (wanted_guard b rfl rfl (hd 56 _ _ rfl rfl)).trans rfl) ?_
  apply Exists.intro
  refine ⟨?_, ?_⟩
  · intro wx b k hk1 hk2 hC hb hd K hK
    have e59 := hd 59 _ _ rfl rfl
    try dsimp only at e59
    have e62 := hd 62 _ _ rfl rfl
    try dsimp only at e62
    simp only [execOp, e59, e62]
    clear hb hd
    go_simp
    exact hK _ hC (Chg.refl _ _)
  refine ex_det 64 [56, 63] rfl rfl (fun _ _ _ _ _ _ _ _ => rfl) ?_
  apply Exists.intro
  refine ⟨?_, ?_⟩
  · intro wx b k hk1 hk2 hC hb hd K hK
    have e56 := hd 56 _ _ rfl rfl
    try dsimp only at e56
    have e63 := hd 63 _ _ rfl rfl
    try dsimp only at e63
    simp only [execOp, e56, e63]
    clear hb hd
    go_simp
    exact hK _ hC (Chg.refl _ _)
  refine ex_det 65 [64] rfl rfl (fun _ _ _ _ _ _ _ _ => rfl) ?_
  apply Exists.intro
  refine ⟨?_, ?_⟩
  · intro wx b k hk1 hk2 hC hb hd K hK
    have e64 := hd 64 _ _ rfl rfl
    try dsimp only at e64
    simp only [execOp, e64]
    clear hb hd
    go_simp
    exact hK _ hC (Chg.refl _ _)
  refine ex_det 66 [8, 65] rfl rfl (fun _ b _ _ _ _ hb hd => (wanted_guard b rfl rfl (hd 65 _ _ rfl rfl)).trans rfl) ?_
  apply Exists.intro
  refine ⟨?_, ?_⟩
  · intro wx b k hk1 hk2 hC hb hd K hK
    have e8 := hb 8 rfl
    simp only [exSlot, List.getD_cons_succ, List.getD_cons_zero] at e8
    simp only [execOp, e8]
    clear hb hd
    have hrun := (hC.get 1 rfl).load 23 (by kernel_rfl)
    simp only [Sem.run_bind, hrun, Result.andThen_ok, Sem.run_pure, invUpon]
    exact hK _ hC (Chg.refl _ _)
  refine ex_det 67 [66, 65] rfl rfl (fun _ b _ _ _ _ hb hd => (wanted_guard b rfl rfl (hd 65 _ _ rfl rfl)).trans rfl) ?_
  apply Exists.intro
  refine ⟨?_, ?_⟩
  · intro wx b k hk1 hk2 hC hb hd K hK
    have e66 := hd 66 _ _ rfl rfl
    try dsimp only at e66
    simp only [execOp, resolve, List.map_toArray, List.map_cons, List.map_nil, e66]
    clear hb hd
    go_simp
    refine (HLx.out wx).mono ?_; rintro e w' ⟨rfl, hX⟩
    exact ⟨_, rfl, hK _ (hC.step hX) hX⟩
  refine ex_det 68 [10, 65] rfl rfl (fun _ b _ _ _ _ hb hd => (wanted_guard b rfl rfl (hd 65 _ _ rfl rfl)).trans rfl) ?_
  apply Exists.intro
  refine ⟨?_, ?_⟩
  · intro wx b k hk1 hk2 hC hb hd K hK
    have e10 := hb 10 rfl
    simp only [exSlot, List.getD_cons_succ, List.getD_cons_zero] at e10
    simp only [execOp, e10]
    clear hb hd
    have hrun := (hC.get 0 rfl).load 28 (by kernel_rfl)
    simp only [Sem.run_bind, hrun, Result.andThen_ok, Sem.run_pure, invUpon]
    exact hK _ hC (Chg.refl _ _)
  refine ex_det 69 [67, 68, 65] rfl rfl (fun _ b _ _ _ _ hb hd => (wanted_guard b rfl rfl (hd 65 _ _ rfl rfl)).trans rfl) ?_
  apply Exists.intro
  refine ⟨?_, ?_⟩
  · intro wx b k hk1 hk2 hC hb hd K hK
    have e67 := hd 67 _ _ rfl rfl
    try dsimp only at e67
    have e68 := hd 68 _ _ rfl rfl
    try dsimp only at e68
    simp only [execOp, e67, e68]
    clear hb hd
    go_simp
    exact hK _ hC (Chg.refl _ _)
  refine ex_det 70 [65, 69] rfl rfl (fun _ _ _ _ _ _ _ _ => rfl) ?_
  apply Exists.intro
  refine ⟨?_, ?_⟩
  · intro wx b k hk1 hk2 hC hb hd K hK
    have e65 := hd 65 _ _ rfl rfl
    try dsimp only at e65
    have e69 := hd 69 _ _ rfl rfl
    try dsimp only at e69
    simp only [execOp, e65, e69]
    clear hb hd
    go_simp
    exact hK _ hC (Chg.refl _ _)
  refine ex_det 71 [70] rfl rfl (fun _ _ _ _ _ _ _ _ => rfl) ?_
  apply Exists.intro
  refine ⟨?_, ?_⟩
  · intro wx b k hk1 hk2 hC hb hd K hK
    have e70 := hd 70 _ _ rfl rfl
    try dsimp only at e70
    simp only [execOp, e70]
    clear hb hd
    go_simp
    exact hK _ hC (Chg.refl _ _)
  refine ex_det 72 [9, 71] rfl rfl (fun _ b _ _ _ _ hb hd => (wanted_guard b rfl rfl (hd 71 _ _ rfl rfl)).trans rfl) ?_
  apply Exists.intro
  refine ⟨?_, ?_⟩
  · intro wx b k hk1 hk2 hC hb hd K hK
    have e9 := hb 9 rfl
    simp only [exSlot, List.getD_cons_succ, List.getD_cons_zero] at e9
    simp only [execOp, e9]
    clear hb hd
    go_simp
    exact hK _ hC (Chg.refl _ _)
  refine ex_det 73 [11, 71] rfl rfl (fun _ b _ _ _ _ hb hd => (wanted_guard b rfl rfl (hd 71 _ _ rfl rfl)).trans rfl) ?_
  apply Exists.intro
  refine ⟨?_, ?_⟩
  · intro wx b k hk1 hk2 hC hb hd K hK
    have e11 := hb 11 rfl
    simp only [exSlot, List.getD_cons_succ, List.getD_cons_zero] at e11
    simp only [execOp, e11]
    clear hb hd
    go_simp
    exact hK _ hC (Chg.refl _ _)
  refine ex_det 74 [72, 73, 71] rfl rfl (fun _ b _ _ _ _ hb hd => (wanted_guard b rfl rfl (hd 71 _ _ rfl rfl)).trans rfl) ?_
  apply Exists.intro
  refine ⟨?_, ?_⟩
  · intro wx b k hk1 hk2 hC hb hd K hK
    have e72 := hd 72 _ _ rfl rfl
    try dsimp only at e72
    have e73 := hd 73 _ _ rfl rfl
    try dsimp only at e73
    simp only [execOp, e72, e73]
    clear hb hd
    go_simp
    exact hK _ hC (Chg.refl _ _)
  refine ex_det 75 [71, 74] rfl rfl (fun _ _ _ _ _ _ _ _ => rfl) ?_
  apply Exists.intro
  refine ⟨?_, ?_⟩
  · intro wx b k hk1 hk2 hC hb hd K hK
    have e71 := hd 71 _ _ rfl rfl
    try dsimp only at e71
    have e74 := hd 74 _ _ rfl rfl
    try dsimp only at e74
    simp only [execOp, e71, e74]
    clear hb hd
    go_simp
    exact hK _ hC (Chg.refl _ _)
  refine ex_det 76 [75] rfl rfl (fun _ _ _ _ _ _ _ _ => rfl) ?_
  apply Exists.intro
  refine ⟨?_, ?_⟩
  · intro wx b k hk1 hk2 hC hb hd K hK
    have e75 := hd 75 _ _ rfl rfl
    try dsimp only at e75
    simp only [execOp, e75]
    clear hb hd
    go_simp
    exact hK _ hC (Chg.refl _ _)
  refine ex_det 77 [9, 76] rfl rfl (fun _ b _ _ _ _ hb hd => (wanted_guard b rfl rfl (hd 76 _ _ rfl rfl)).trans rfl) ?_
  apply Exists.intro
  refine ⟨?_, ?_⟩
  · intro wx b k hk1 hk2 hC hb hd K hK
    have e9 := hb 9 rfl
    simp only [exSlot, List.getD_cons_succ, List.getD_cons_zero] at e9
    simp only [execOp, e9]
    clear hb hd
    go_simp
    exact hK _ hC (Chg.refl _ _)
  refine ex_det 78 [77, 76] rfl rfl (fun _ b _ _ _ _ hb hd => (wanted_guard b rfl rfl (hd 76 _ _ rfl rfl)).trans rfl) ?_
  apply Exists.intro
  refine ⟨?_, ?_⟩
  · intro wx b k hk1 hk2 hC hb hd K hK
    have e77 := hd 77 _ _ rfl rfl
    try dsimp only at e77
    simp only [execOp, e77]
    clear hb hd
    go_simp
    exact hK _ hC (Chg.refl _ _)
  refine ex_det 79 [78, 76] rfl rfl (fun _ b _ _ _ _ hb hd => (wanted_guard b rfl rfl (hd 76 _ _ rfl rfl)).trans rfl) ?_
  apply Exists.intro
  refine ⟨?_, ?_⟩
  · intro wx b k hk1 hk2 hC hb hd K hK
    have e78 := hd 78 _ _ rfl rfl
    try dsimp only at e78
    simp only [execOp, e78]
    clear hb hd
    go_simp
    exact hK _ hC (Chg.refl _ _)
  refine ex_pass 80 [8, 79] rfl rfl (fun _ => Chg.refl _ _) (fun _ b _ _ _ _ hb hd => (wanted_guard b rfl rfl (hd 79 _ _ rfl rfl)).trans rfl) ?_
  refine ex_pass 81 [80, 79] rfl rfl (fun _ => Chg.refl _ _) (fun _ b _ _ _ _ hb hd => (wanted_guard b rfl rfl (hd 79 _ _ rfl rfl)).trans rfl) ?_
  refine ex_pass 82 [1, 79] rfl rfl (fun _ => Chg.refl _ _) (fun _ b _ _ _ _ hb hd => (wanted_guard b rfl rfl (hd 79 _ _ rfl rfl)).trans rfl) ?_
  refine ex_pass 83 [81, 82, 79] rfl rfl (fun _ => Chg.refl _ _) (fun _ b _ _ _ _ hb hd => (wanted_guard b rfl rfl (hd 79 _ _ rfl rfl)).trans rfl) ?_
  refine ex_det 84 [79, 83, 76] rfl rfl (fun _ b _ _ _ _ hb hd => (wanted_guard b rfl rfl (hd 76 _ _ rfl rfl)).trans rfl) ?_
  apply Exists.intro
  refine ⟨?_, ?_⟩
  · intro wx b k hk1 hk2 hC hb hd K hK
    have e79 := hd 79 _ _ rfl rfl
    try dsimp only at e79
    have e83 := hd 83 _ _ rfl rfl
    try dsimp only at e83
    simp only [execOp, e79, e83]
    clear hb hd
    go_simp
    exact hK _ hC (Chg.refl _ _)
  refine ex_det 85 [76, 84] rfl rfl (fun _ _ _ _ _ _ _ _ => rfl) ?_
  apply Exists.intro
  refine ⟨?_, ?_⟩
  · intro wx b k hk1 hk2 hC hb hd K hK
    have e76 := hd 76 _ _ rfl rfl
    try dsimp only at e76
    have e84 := hd 84 _ _ rfl rfl
    try dsimp only at e84
    simp only [execOp, e76, e84]
    clear hb hd
    go_simp
    exact hK _ hC (Chg.refl _ _)
  refine ex_det 4 [85] rfl rfl (fun _ _ _ _ _ _ _ _ => rfl) ?_
  apply Exists.intro
  refine ⟨?_, ?_⟩
  · intro wx b k hk1 hk2 hC hb hd K hK
    have e85 := hd 85 _ _ rfl rfl
    try dsimp only at e85
    simp only [execOp, e85]
    clear hb hd
    go_simp
    exact hK _ hC (Chg.refl _ _)
  refine ex_end ?_
  intro us w2 hus hC hall
  obtain ⟨v0, us, rfl⟩ := List.exists_cons_of_length_eq_add_one hus
  replace hus := Nat.succ.inj hus
  obtain ⟨v1, us, rfl⟩ := List.exists_cons_of_length_eq_add_one hus
  replace hus := Nat.succ.inj hus
  obtain ⟨v2, us, rfl⟩ := List.exists_cons_of_length_eq_add_one hus
  replace hus := Nat.succ.inj hus
  obtain ⟨v3, us, rfl⟩ := List.exists_cons_of_length_eq_add_one hus
  replace hus := Nat.succ.inj hus
  obtain ⟨v4, us, rfl⟩ := List.exists_cons_of_length_eq_add_one hus
  replace hus := Nat.succ.inj hus
  obtain ⟨v5, us, rfl⟩ := List.exists_cons_of_length_eq_add_one hus
  replace hus := Nat.succ.inj hus
  obtain ⟨v6, us, rfl⟩ := List.exists_cons_of_length_eq_add_one hus
  replace hus := Nat.succ.inj hus
  obtain ⟨v7, us, rfl⟩ := List.exists_cons_of_length_eq_add_one hus
  replace hus := Nat.succ.inj hus
  obtain ⟨v8, us, rfl⟩ := List.exists_cons_of_length_eq_add_one hus
  replace hus := Nat.succ.inj hus
  obtain ⟨v9, us, rfl⟩ := List.exists_cons_of_length_eq_add_one hus
  replace hus := Nat.succ.inj hus
  obtain ⟨v10, us, rfl⟩ := List.exists_cons_of_length_eq_add_one hus
  replace hus := Nat.succ.inj hus
  obtain ⟨v11, us, rfl⟩ := List.exists_cons_of_length_eq_add_one hus
  replace hus := Nat.succ.inj hus
  obtain ⟨v12, us, rfl⟩ := List.exists_cons_of_length_eq_add_one hus
  replace hus := Nat.succ.inj hus
  obtain ⟨v13, us, rfl⟩ := List.exists_cons_of_length_eq_add_one hus
  replace hus := Nat.succ.inj hus
  obtain ⟨v14, us, rfl⟩ := List.exists_cons_of_length_eq_add_one hus
  replace hus := Nat.succ.inj hus
  obtain ⟨v15, us, rfl⟩ := List.exists_cons_of_length_eq_add_one hus
  replace hus := Nat.succ.inj hus
  obtain ⟨v16, us, rfl⟩ := List.exists_cons_of_length_eq_add_one hus
  replace hus := Nat.succ.inj hus
  obtain ⟨v17, us, rfl⟩ := List.exists_cons_of_length_eq_add_one hus
  replace hus := Nat.succ.inj hus
  obtain ⟨v18, us, rfl⟩ := List.exists_cons_of_length_eq_add_one hus
  replace hus := Nat.succ.inj hus
  obtain ⟨v19, us, rfl⟩ := List.exists_cons_of_length_eq_add_one hus
  replace hus := Nat.succ.inj hus
  obtain ⟨v20, us, rfl⟩ := List.exists_cons_of_length_eq_add_one hus
  replace hus := Nat.succ.inj hus
  obtain ⟨v21, us, rfl⟩ := List.exists_cons_of_length_eq_add_one hus
  replace hus := Nat.succ.inj hus
  obtain ⟨v22, us, rfl⟩ := List.exists_cons_of_length_eq_add_one hus
  replace hus := Nat.succ.inj hus
  obtain ⟨v23, us, rfl⟩ := List.exists_cons_of_length_eq_add_one hus
  replace hus := Nat.succ.inj hus
  obtain ⟨v24, us, rfl⟩ := List.exists_cons_of_length_eq_add_one hus
  replace hus := Nat.succ.inj hus
  obtain ⟨v25, us, rfl⟩ := List.exists_cons_of_length_eq_add_one hus
  replace hus := Nat.succ.inj hus
  obtain ⟨v26, us, rfl⟩ := List.exists_cons_of_length_eq_add_one hus
  replace hus := Nat.succ.inj hus
  obtain ⟨v27, us, rfl⟩ := List.exists_cons_of_length_eq_add_one hus
  replace hus := Nat.succ.inj hus
  obtain ⟨v28, us, rfl⟩ := List.exists_cons_of_length_eq_add_one hus
  replace hus := Nat.succ.inj hus
  obtain ⟨v29, us, rfl⟩ := List.exists_cons_of_length_eq_add_one hus
  replace hus := Nat.succ.inj hus
  obtain ⟨v30, us, rfl⟩ := List.exists_cons_of_length_eq_add_one hus
  replace hus := Nat.succ.inj hus
  obtain ⟨v31, us, rfl⟩ := List.exists_cons_of_length_eq_add_one hus
  replace hus := Nat.succ.inj hus
  obtain ⟨v32, us, rfl⟩ := List.exists_cons_of_length_eq_add_one hus
  replace hus := Nat.succ.inj hus
  obtain ⟨v33, us, rfl⟩ := List.exists_cons_of_length_eq_add_one hus
  replace hus := Nat.succ.inj hus
  obtain ⟨v34, us, rfl⟩ := List.exists_cons_of_length_eq_add_one hus
  replace hus := Nat.succ.inj hus
  obtain ⟨v35, us, rfl⟩ := List.exists_cons_of_length_eq_add_one hus
  replace hus := Nat.succ.inj hus
  obtain ⟨v36, us, rfl⟩ := List.exists_cons_of_length_eq_add_one hus
  replace hus := Nat.succ.inj hus
  obtain ⟨v37, us, rfl⟩ := List.exists_cons_of_length_eq_add_one hus
  replace hus := Nat.succ.inj hus
  obtain ⟨v38, us, rfl⟩ := List.exists_cons_of_length_eq_add_one hus
  replace hus := Nat.succ.inj hus
  obtain ⟨v39, us, rfl⟩ := List.exists_cons_of_length_eq_add_one hus
  replace hus := Nat.succ.inj hus
  obtain ⟨v40, us, rfl⟩ := List.exists_cons_of_length_eq_add_one hus
  replace hus := Nat.succ.inj hus
  obtain ⟨v41, us, rfl⟩ := List.exists_cons_of_length_eq_add_one hus
  replace hus := Nat.succ.inj hus
  obtain ⟨v42, us, rfl⟩ := List.exists_cons_of_length_eq_add_one hus
  replace hus := Nat.succ.inj hus
  obtain ⟨v43, us, rfl⟩ := List.exists_cons_of_length_eq_add_one hus
  replace hus := Nat.succ.inj hus
  obtain ⟨v44, us, rfl⟩ := List.exists_cons_of_length_eq_add_one hus
  replace hus := Nat.succ.inj hus
  obtain ⟨v45, us, rfl⟩ := List.exists_cons_of_length_eq_add_one hus
  replace hus := Nat.succ.inj hus
  obtain ⟨v46, us, rfl⟩ := List.exists_cons_of_length_eq_add_one hus
  replace hus := Nat.succ.inj hus
  obtain ⟨v47, us, rfl⟩ := List.exists_cons_of_length_eq_add_one hus
  replace hus := Nat.succ.inj hus
  obtain ⟨v48, us, rfl⟩ := List.exists_cons_of_length_eq_add_one hus
  replace hus := Nat.succ.inj hus
  obtain ⟨v49, us, rfl⟩ := List.exists_cons_of_length_eq_add_one hus
  replace hus := Nat.succ.inj hus
  obtain rfl := List.length_eq_zero_iff.1 hus
  clear hus
  generalize hbb : exPuts _ _ _ = bb at hall ⊢
  simp only [exPuts, Act.put, List.setIfInBounds_toArray, List.set_cons_succ, List.set_cons_zero] at hbb
  subst hbb
  obtain ⟨h49, h48, h47, h46, h45, h44, h43, h42, h41, h40, h39, h38, h37, h36, h35, h34, h33, h32, h31, h30, h29, h28, h27, h26, h25, h24, h23, h22, h21, h20, h19, h18, h17, h16, h15, h14, h13, h12, h11, h10, h9, h8, h7, h6, h5, h4, h3, h2, h1, h0, -⟩ := hall
  obtain rfl : v0 = _ := h0
  obtain rfl : v1 = _ := h1
  obtain rfl : v2 = _ := h2
  obtain rfl : v3 = _ := h3
  obtain rfl : v4 = _ := h4
  obtain rfl : v5 = _ := h5
  obtain rfl : v6 = _ := h6
  obtain rfl : v7 = _ := h7
  obtain rfl : v8 = _ := h8
  obtain rfl : v9 = _ := h9
  obtain rfl : v10 = _ := h10
  obtain rfl : v11 = _ := h11
  obtain rfl : v12 = _ := h12
  obtain rfl : v13 = _ := h13
  obtain rfl : v14 = _ := h14
  obtain rfl : v15 = _ := h15
  obtain rfl : v16 = _ := h16
  obtain rfl : v17 = _ := h17
  obtain rfl : v18 = _ := h18
  obtain rfl : v19 = _ := h19
  obtain rfl : v20 = _ := h20
  obtain rfl : v21 = _ := h21
  obtain rfl : v22 = _ := h22
  obtain rfl : v23 = _ := h23
  obtain rfl : v24 = _ := h24
  obtain rfl : v25 = _ := h25
  obtain rfl : v26 = _ := h26
  obtain rfl : v27 = _ := h27
  obtain rfl : v28 = _ := h28
  obtain rfl : v29 = _ := h29
  obtain rfl : v30 = _ := h30
  obtain rfl : v31 = _ := h31
  obtain rfl : v32 = _ := h32
  obtain rfl : v33 = _ := h33
  obtain rfl : v34 = _ := h34
  obtain rfl : v35 = _ := h35
  obtain rfl : v36 = _ := h36
  obtain rfl : v37 = _ := h37
  obtain rfl : v38 = _ := h38
  obtain rfl : v39 = _ := h39
  obtain rfl : v40 = _ := h40
  obtain rfl : v41 = _ := h41
  obtain rfl : v42 = _ := h42
  obtain rfl : v43 = _ := h43
  obtain rfl : v44 = _ := h44
  obtain rfl : v45 = _ := h45
  obtain rfl : v46 = _ := h46
  obtain rfl : v47 = _ := h47
  obtain rfl : v48 = _ := h48
  obtain rfl : v49 = _ := h49
  go_wp2
  go_returns
  exact ⟨rfl, hC.x.to_below⟩
theorem LatchPrints_walk (W : World) (c0 : Array Value) (x0 : shRc.T) (h0 : shRc.rep W x0 c0.toList) (s : ByteArray) (_hs : s.size ≤ maxLen) :
    Calls Try.prog 3 #[.agg c0, .string s] W fun e w' => e = .returned (.bool true) ∧ Below W.heap.size W w' := by
  obtain ⟨rfl, -⟩ := rc_of h0
  generalize toRc x0 = q
  by_cases hs : 100 < s.size
  · exact lprints_long W q s hs
  · cases hq : q.right with
    | true =>
      cases hd : isRec s with
      | true => exact lprints_tt W q s (by omega) hq hd
      | false => exact lprints_tf W q s (by omega) hq hd
    | false =>
      cases hd : isRec s with
      | true => exact lprints_ft W q s (by omega) hq hd
      | false => exact lprints_ff W q s (by omega) hq hd
end Go.Proofs.Ytjneidmkllhbjaa
