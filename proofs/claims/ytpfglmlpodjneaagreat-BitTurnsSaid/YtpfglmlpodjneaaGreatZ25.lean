/- Ak3, Msk. -/
import Derived.Test.YtpfglmlpodjneaaGreatZ17
import Derived.Test.YtpfglmlpodjneaaGreatZ21
import Derived.Test.YtpfglmlpodjneaaGreatZ22
import Derived.Test.YtpfglmlpodjneaaGreatZ24
import Derived.Test.YtpfglmlpodjneaaGreatZ00
import Derived.Laws.BitsLemmas
set_option linter.unusedSimpArgs false
set_option linter.unusedVariables false
namespace Go.Proofs.YtpfglmlpodjneaaGreat
open Go.RowKit

theorem read_aftu : readV aftu = (zRu, 5) := by
  have hm : magicB aftu = true := (magic_iff aftu).2 (fun j hj => rfl)
  unfold readV
  rw [if_neg (by rw [hm]; simp), if_pos (by decide)]
theorem names_21 : namesN 21 5 = [⟨#[114, 117, 108, 101, 115]⟩, ⟨#[108, 105, 110, 101]⟩, ⟨#[110, 117, 109, 98, 101, 114, 115]⟩] := by kernel_rfl
set_option maxRecDepth 100000 in
set_option maxHeartbeats 4000000 in
theorem awake23 (W : World) : Calls Tryz.prog 7 #[] W fun e w' => e = .returned (.bool true) ∧ Chg [] W w' := by
  go_enter Tryz.func7, Tryz.ntmps7
  go_wp2_with fail
  refine (mission_any W).mono ?_; rintro e w1 ⟨vm, rfl, hDm, hX0⟩
  have Pm := hDm [] w1 (by simp) (Chg.refl _ _)
  clear hDm
  go_wp2_with fail
  refine (qprint_any w1 vm mis Pm (by decide) (by intro p hp; rw [List.eq_of_mem_replicate hp]; decide)).mono ?_; rintro e w2 ⟨rfl, hX⟩
  replace hX0 := hX0.trans hX
  clear hX Pm
  have hps : (printV mis).size ≤ 1000000 := by unfold printV; rw [strOfNums_size]; decide
  have HB2 := fun w => btest_any w (printV mis) 0 hps
  have HB4 := fun w => btest_any w (printV mis) 2 hps
  have HB6 := fun w => btest_any w aftu 1 (by decide)
  rw [show testV (printV mis) 0 = (mis, 0) from by unfold testV; rw [read_print mis (wrong_fit mis_wrong) mis_wrong]; rfl] at HB2
  rw [show testV (printV mis) 2 = (mis, 4) from by unfold testV; rw [read_print mis (wrong_fit mis_wrong) mis_wrong]; rfl] at HB4
  rw [show testV aftu 1 = (zRu, 3) from by unfold testV; rw [read_aftu]; rfl] at HB6
  replace HB2 : ∀ w, Calls Tryz.prog 8 #[.string (printV mis), .int .i64 0] w fun e w' => ∃ va, e = .returned (.tuple #[.agg #[va, .int .i64 2, .int .i64 3, .int .i64 4, .int .i64 2, .int .i64 50, .int .i64 2, .int .i64 10, .int .i64 2], .int .i64 0]) ∧ (∀ (S : List Nat) (w2 : World), (∀ b ∈ S, b < w.heap.size) → Chg S w' w2 → PhsR w2 va mis.phs) ∧ Chg [] w w' := HB2
  replace HB4 : ∀ w, Calls Tryz.prog 8 #[.string (printV mis), .int .i64 2] w fun e w' => ∃ va, e = .returned (.tuple #[.agg #[va, .int .i64 2, .int .i64 3, .int .i64 4, .int .i64 2, .int .i64 50, .int .i64 2, .int .i64 10, .int .i64 2], .int .i64 4]) ∧ (∀ (S : List Nat) (w2 : World), (∀ b ∈ S, b < w.heap.size) → Chg S w' w2 → PhsR w2 va mis.phs) ∧ Chg [] w w' := HB4
  replace HB6 : ∀ w, Calls Tryz.prog 8 #[.string aftu, .int .i64 1] w fun e w' => ∃ va, e = .returned (.tuple #[.agg #[va, .int .i64 0, .int .i64 0, .int .i64 0, .int .i64 0, .int .i64 0, .int .i64 0, .int .i64 0, .int .i64 0], .int .i64 3]) ∧ (∀ (S : List Nat) (w2 : World), (∀ b ∈ S, b < w.heap.size) → Chg S w' w2 → PhsR w2 va zRu.phs) ∧ Chg [] w w' := HB6
  replace HB2 := Lib.hid HB2
  replace HB4 := Lib.hid HB4
  replace HB6 := Lib.hid HB6
  have HNm := Lib.hid (fun w => bnames_any w 21)
  clear hps
  generalize printV mis = s at *
  skip
  have HT2 := HB2.out w2
  go_wp2_with fail
  refine HT2.mono ?_; rintro e w3 ⟨va, rfl, hD2, hX⟩
  clear HT2
  replace hX0 := hX0.trans hX
  clear hX
  have P2 := hD2 [] w3 (by simp) (Chg.refl _ _)
  clear hD2
  have hone2 : va.oneCell' = true := by obtain ⟨_, ad, cap, rfl⟩ := P2.len; rfl
  have hN := At.new w3 #[.slice none 0 0, .int .i64 0, .int .i64 0, .int .i64 0, .int .i64 0, .int .i64 0, .int .i64 0, .int .i64 0, .int .i64 0] 25
  have hXn := (Chg.refl [] w3).alloc (.cells #[.slice none 0 0, .int .i64 0, .int .i64 0, .int .i64 0, .int .i64 0, .int .i64 0, .int .i64 0, .int .i64 0, .int .i64 0] 25)
  go_wp2_with (refine wpList_put rfl rfl rfl rfl hN rfl (by kernel_rfl) (by simp [hone2, one_int]) ?_; intro w4 A2 hX3; refine Hid.out ?_)
  refine Lib.hid ?_
  have hXr : Chg [] w3 w4 := hXn.then hX3 (fun x hx hl => by simp at hx; omega)
  replace P2 := P2.keep hXr
  replace hX0 := hX0.trans hXr
  generalize w3.heap.size = y2 at *
  clear hN hXn hX3 hXr
  have HT4 := HB4.out w4
  go_wp2_with fail
  refine HT4.mono ?_; rintro e w5 ⟨vb, rfl, hD4, hX⟩
  clear HT4
  replace P2 := P2.keep hX
  replace A2 := hX.at A2 (by simp)
  replace hX0 := hX0.trans hX
  clear hX
  have P4 := hD4 [] w5 (by simp) (Chg.refl _ _)
  clear hD4
  have hone4 : vb.oneCell' = true := by obtain ⟨_, ad, cap, rfl⟩ := P4.len; rfl
  have hN := At.new w5 #[.slice none 0 0, .int .i64 0, .int .i64 0, .int .i64 0, .int .i64 0, .int .i64 0, .int .i64 0, .int .i64 0, .int .i64 0] 25
  have hXn := (Chg.refl [] w5).alloc (.cells #[.slice none 0 0, .int .i64 0, .int .i64 0, .int .i64 0, .int .i64 0, .int .i64 0, .int .i64 0, .int .i64 0, .int .i64 0] 25)
  go_wp2_with (refine wpList_put rfl rfl rfl rfl hN rfl (by kernel_rfl) (by simp [hone4, one_int]) ?_; intro w6 A4 hX3; refine Hid.out ?_)
  refine Lib.hid ?_
  have hXr : Chg [] w5 w6 := hXn.then hX3 (fun x hx hl => by simp at hx; omega)
  replace P4 := P4.keep hXr
  replace P2 := P2.keep hXr
  replace A2 := hXr.at A2 (by simp)
  replace hX0 := hX0.trans hXr
  generalize w5.heap.size = y4 at *
  clear hN hXn hX3 hXr
  have HT6 := HB6.out w6
  go_wp2_with fail
  refine HT6.mono ?_; rintro e w7 ⟨vq, rfl, hD6, hX⟩
  clear HT6
  replace P2 := P2.keep hX
  replace A2 := hX.at A2 (by simp)
  replace hX0 := hX0.trans hX
  clear hX
  have P6 := hD6 [] w7 (by simp) (Chg.refl _ _)
  clear hD6
  have hone6 : vq.oneCell' = true := by obtain ⟨_, ad, cap, rfl⟩ := P6.len; rfl
  have hN := At.new w7 #[.slice none 0 0, .int .i64 0, .int .i64 0, .int .i64 0, .int .i64 0, .int .i64 0, .int .i64 0, .int .i64 0, .int .i64 0] 25
  have hXn := (Chg.refl [] w7).alloc (.cells #[.slice none 0 0, .int .i64 0, .int .i64 0, .int .i64 0, .int .i64 0, .int .i64 0, .int .i64 0, .int .i64 0, .int .i64 0] 25)
  go_wp2_with (refine wpList_put rfl rfl rfl rfl hN rfl (by kernel_rfl) (by simp [hone6, one_int]) ?_; intro w8 A6 hX3; refine Hid.out ?_)
  refine Lib.hid ?_
  have hXr : Chg [] w7 w8 := hXn.then hX3 (fun x hx hl => by simp at hx; omega)
  replace P6 := P6.keep hXr
  replace P2 := P2.keep hXr
  replace A2 := hXr.at A2 (by simp)
  replace hX0 := hX0.trans hXr
  generalize w7.heap.size = y6 at *
  clear hN hXn hX3 hXr
  go_wp2_with fail
  refine (HNm.out _).mono ?_; rintro e w9 ⟨vn, rfl, hNm, hX⟩
  replace P2 := P2.keep hX
  replace A2 := hX.at A2 (by simp)
  replace P6 := P6.keep hX
  replace A6 := hX.at A6 (by simp)
  replace hX0 := hX0.trans hX
  clear hX P4 A4
  obtain ⟨an, capn, rfl, hnc⟩ := hNm
  rw [names_21] at hnc
  obtain ⟨gn, rfl, N0⟩ := hnc 0 _ rfl
  obtain ⟨gn2, eg, N1⟩ := hnc 1 _ rfl
  obtain rfl : gn = gn2 := by simpa using eg
  obtain ⟨gn3, eg2, N2⟩ := hnc 2 _ rfl
  obtain rfl : gn = gn3 := by simpa using eg2
  clear hnc eg eg2
  simp only [names_21, List.length_cons, List.length_nil, Nat.zero_add, Nat.reduceAdd]
  go_upto_region 6 with fail
  generalize w9 = wt at *
  have hXt := Chg.refl [] wt
  refine wp_region_ex (fun _ w => Chg [] wt w) (fun _ => Chg []) [] [(0, 0, false), (0, 0, false), (0, 0, false), (0, 0, false), (0, 0, false), (0, 0, false), (0, 0, false), (0, 0, false), (0, 0, false), (0, 0, false), (0, 0, false), (0, 0, false), (0, 0, false), (0, 0, false), (0, 0, false), (0, 0, false), (0, 0, false), (0, 0, false), (0, 0, false), (0, 0, false), (0, 0, false), (0, 0, false), (0, 0, false), (0, 0, false), (0, 0, false), (0, 0, false), (0, 0, false), (0, 0, false), (0, 0, false), (0, 0, false), (0, 0, false), (0, 0, false), (0, 0, false), (0, 0, false), (0, 0, false), (0, 0, false), (0, 0, false), (0, 0, false), (0, 0, false), (0, 0, false), (0, 0, false), (0, 0, false), (0, 0, false), (0, 0, false), (0, 0, false), (0, 0, false), (0, 0, false), (0, 0, false), (0, 0, false), (0, 0, false), (0, 0, false), (0, 0, false), (0, 0, false), (0, 0, false), (0, 0, false), (0, 0, false), (0, 0, false), (0, 0, false), (0, 0, false)] [26, 27, 28, 29, 30, 31, 32, 33, 34, 35, 36, 37, 38, 39, 40, 41, 42, 43, 44, 45, 46, 47, 48, 49, 50, 51, 52, 53, 54, 55, 56, 57, 58, 59, 60, 61, 62, 63, 64, 65, 66, 67, 68, 69, 70, 71, 72, 73, 74, 75, 76, 77, 78, 79, 80, 81, 82, 83, 0] (by kernel_rfl) rfl (by kernel_rfl) (by kernel_rfl) (hXt.drew) ?_
  simp only [List.zip_cons_cons, List.zip_nil_right]
  refine ex_det 26 [3] rfl rfl (fun _ _ _ _ _ _ _ _ => rfl) ?_
  apply Exists.intro
  refine ⟨?_, ?_⟩
  · intro wx bX kX hk1 hk2 hC hb hd K hK
    have e3 := hb 3 rfl
    simp only [exSlot, List.getD_cons_succ, List.getD_cons_zero] at e3
    simp only [execOp, e3]
    clear hb hd
    go_simp
    exact hK _ hC (Chg.refl _ _)
  refine ex_det 27 [26] rfl rfl (fun _ _ _ _ _ _ _ _ => rfl) ?_
  apply Exists.intro
  refine ⟨?_, ?_⟩
  · intro wx bX kX hk1 hk2 hC hb hd K hK
    have e26 := hd 26 _ _ rfl rfl
    try dsimp only at e26
    simp only [execOp, e26]
    clear hb hd
    go_simp
    exact hK _ hC (Chg.refl _ _)
  refine ex_det 28 [27] rfl rfl (fun _ _ _ _ _ _ _ _ => rfl) ?_
  apply Exists.intro
  refine ⟨?_, ?_⟩
  · intro wx bX kX hk1 hk2 hC hb hd K hK
    have e27 := hd 27 _ _ rfl rfl
    try dsimp only at e27
    simp only [execOp, e27]
    clear hb hd
    go_simp
    exact hK _ hC (Chg.refl _ _)
  refine ex_det 29 [2, 28] rfl rfl (fun _ b _ _ _ _ hb hd => (wanted_guard b rfl rfl (hd 28 _ _ rfl rfl)).trans rfl) ?_
  apply Exists.intro
  refine ⟨?_, ?_⟩
  · intro wx bX kX hk1 hk2 hC hb hd K hK
    have e2 := hb 2 rfl
    simp only [exSlot, List.getD_cons_succ, List.getD_cons_zero] at e2
    simp only [execOp, e2]
    clear hb hd
    have hrun := (hC.at A2 (by simp)).load 25 (by kernel_rfl)
    simp only [Sem.run_bind, hrun, Result.andThen_ok, Sem.run_pure, invUpon]
    exact hK _ hC (Chg.refl _ _)
  refine ex_any (fun _ v w => ∃ vm, v = .agg #[vm, .int .i64 2, .int .i64 3, .int .i64 4, .int .i64 2, .int .i64 50, .int .i64 2, .int .i64 10, .int .i64 2] ∧ PhsR w vm mis.phs) 30 [28] rfl rfl (fun _ b _ _ _ _ hb hd => (wanted_guard b rfl rfl (hd 28 _ _ rfl rfl)).trans rfl) (fun _ _ => (fun _ v w w' ⟨vm, h1, h2⟩ hr => ⟨vm, h1, h2.keep hr⟩)) ?_ ?_
  · intro wx bX kX hk1 hk2 hC hb hd K hK
    simp only [execOp, resolve, List.map_toArray, List.map_cons, List.map_nil]
    clear hb hd
    go_simp
    refine (mission_any wx).mono ?_; rintro e w' ⟨vm, rfl, hp, hX⟩
    exact ⟨_, rfl, hK _ _ ⟨vm, rfl, hp [] w' (by simp) (Chg.refl _ _)⟩ (hC.trans hX) hX⟩
  refine ex_det 31 [29, 30, 28] rfl rfl (fun _ b _ _ _ _ hb hd => (wanted_guard b rfl rfl (hd 28 _ _ rfl rfl)).trans rfl) ?_
  apply Exists.intro
  refine ⟨?_, ?_⟩
  · intro wx bX kX hk1 hk2 hC hb hd K hK
    have e29 := hd 29 _ _ rfl rfl
    try dsimp only at e29
    have e30 := hd 30 _ _ rfl rfl
    try dsimp only at e30
    obtain ⟨vm, e30, K30⟩ := e30
    simp only [execOp, resolve, List.map_toArray, List.map_cons, List.map_nil, e29, e30]
    clear hb hd
    go_simp
    refine (same_self wx va _ mis (P2.keep hC) K30).mono ?_; rintro e w' ⟨rfl, hX⟩
    exact ⟨_, rfl, hK _ (hC.trans hX) hX⟩
  refine ex_det 32 [28, 31] rfl rfl (fun _ _ _ _ _ _ _ _ => rfl) ?_
  apply Exists.intro
  refine ⟨?_, ?_⟩
  · intro wx bX kX hk1 hk2 hC hb hd K hK
    have e28 := hd 28 _ _ rfl rfl
    try dsimp only at e28
    have e31 := hd 31 _ _ rfl rfl
    try dsimp only at e31
    simp only [execOp, e28, e31]
    clear hb hd
    go_simp
    exact hK _ hC (Chg.refl _ _)
  refine ex_det 33 [32] rfl rfl (fun _ _ _ _ _ _ _ _ => rfl) ?_
  apply Exists.intro
  refine ⟨?_, ?_⟩
  · intro wx bX kX hk1 hk2 hC hb hd K hK
    have e32 := hd 32 _ _ rfl rfl
    try dsimp only at e32
    simp only [execOp, e32]
    clear hb hd
    go_simp
    exact hK _ hC (Chg.refl _ _)
  refine ex_det 34 [5, 33] rfl rfl (fun _ b _ _ _ _ hb hd => (wanted_guard b rfl rfl (hd 33 _ _ rfl rfl)).trans rfl) ?_
  apply Exists.intro
  refine ⟨?_, ?_⟩
  · intro wx bX kX hk1 hk2 hC hb hd K hK
    have e5 := hb 5 rfl
    simp only [exSlot, List.getD_cons_succ, List.getD_cons_zero] at e5
    simp only [execOp, e5]
    clear hb hd
    go_simp
    exact hK _ hC (Chg.refl _ _)
  refine ex_det 35 [34, 33] rfl rfl (fun _ b _ _ _ _ hb hd => (wanted_guard b rfl rfl (hd 33 _ _ rfl rfl)).trans rfl) ?_
  apply Exists.intro
  refine ⟨?_, ?_⟩
  · intro wx bX kX hk1 hk2 hC hb hd K hK
    have e34 := hd 34 _ _ rfl rfl
    try dsimp only at e34
    simp only [execOp, e34]
    clear hb hd
    go_simp
    exact hK _ hC (Chg.refl _ _)
  refine ex_det 36 [33, 35] rfl rfl (fun _ _ _ _ _ _ _ _ => rfl) ?_
  apply Exists.intro
  refine ⟨?_, ?_⟩
  · intro wx bX kX hk1 hk2 hC hb hd K hK
    have e33 := hd 33 _ _ rfl rfl
    try dsimp only at e33
    have e35 := hd 35 _ _ rfl rfl
    try dsimp only at e35
    simp only [execOp, e33, e35]
    clear hb hd
    go_simp
    exact hK _ hC (Chg.refl _ _)
  refine ex_det 37 [36] rfl rfl (fun _ _ _ _ _ _ _ _ => rfl) ?_
  apply Exists.intro
  refine ⟨?_, ?_⟩
  · intro wx bX kX hk1 hk2 hC hb hd K hK
    have e36 := hd 36 _ _ rfl rfl
    try dsimp only at e36
    simp only [execOp, e36]
    clear hb hd
    go_simp
    exact hK _ hC (Chg.refl _ _)
  refine ex_det 38 [7, 37] rfl rfl (fun _ b _ _ _ _ hb hd => (wanted_guard b rfl rfl (hd 37 _ _ rfl rfl)).trans rfl) ?_
  apply Exists.intro
  refine ⟨?_, ?_⟩
  · intro wx bX kX hk1 hk2 hC hb hd K hK
    have e7 := hb 7 rfl
    simp only [exSlot, List.getD_cons_succ, List.getD_cons_zero] at e7
    simp only [execOp, e7]
    clear hb hd
    go_simp
    exact hK _ hC (Chg.refl _ _)
  refine ex_det 39 [38, 37] rfl rfl (fun _ b _ _ _ _ hb hd => (wanted_guard b rfl rfl (hd 37 _ _ rfl rfl)).trans rfl) ?_
  apply Exists.intro
  refine ⟨?_, ?_⟩
  · intro wx bX kX hk1 hk2 hC hb hd K hK
    have e38 := hd 38 _ _ rfl rfl
    try dsimp only at e38
    simp only [execOp, e38]
    clear hb hd
    go_simp
    exact hK _ hC (Chg.refl _ _)
  refine ex_det 40 [37, 39] rfl rfl (fun _ _ _ _ _ _ _ _ => rfl) ?_
  apply Exists.intro
  refine ⟨?_, ?_⟩
  · intro wx bX kX hk1 hk2 hC hb hd K hK
    have e37 := hd 37 _ _ rfl rfl
    try dsimp only at e37
    have e39 := hd 39 _ _ rfl rfl
    try dsimp only at e39
    simp only [execOp, e37, e39]
    clear hb hd
    go_simp
    exact hK _ hC (Chg.refl _ _)
  refine ex_det 41 [40] rfl rfl (fun _ _ _ _ _ _ _ _ => rfl) ?_
  apply Exists.intro
  refine ⟨?_, ?_⟩
  · intro wx bX kX hk1 hk2 hC hb hd K hK
    have e40 := hd 40 _ _ rfl rfl
    try dsimp only at e40
    simp only [execOp, e40]
    clear hb hd
    go_simp
    exact hK _ hC (Chg.refl _ _)
  refine ex_det 42 [6, 41] rfl rfl (fun _ b _ _ _ _ hb hd => (wanted_guard b rfl rfl (hd 41 _ _ rfl rfl)).trans rfl) ?_
  apply Exists.intro
  refine ⟨?_, ?_⟩
  · intro wx bX kX hk1 hk2 hC hb hd K hK
    have e6 := hb 6 rfl
    simp only [exSlot, List.getD_cons_succ, List.getD_cons_zero] at e6
    simp only [execOp, e6]
    clear hb hd
    have hrun := (hC.at A6 (by simp)).load 25 (by kernel_rfl)
    simp only [Sem.run_bind, hrun, Result.andThen_ok, Sem.run_pure, invUpon]
    exact hK _ hC (Chg.refl _ _)
  refine ex_det 43 [41] rfl rfl (fun _ b _ _ _ _ hb hd => (wanted_guard b rfl rfl (hd 41 _ _ rfl rfl)).trans rfl) ?_
  apply Exists.intro
  refine ⟨?_, ?_⟩
  · intro wx bX kX hk1 hk2 hC hb hd K hK
    simp only [execOp, List.map_toArray, List.map_cons, List.map_nil]
    clear hb hd
    go_simp
    exact hK _ hC (Chg.refl _ _)
  refine ex_det 44 [42, 43, 41] rfl rfl (fun _ b _ _ _ _ hb hd => (wanted_guard b rfl rfl (hd 41 _ _ rfl rfl)).trans rfl) ?_
  apply Exists.intro
  refine ⟨?_, ?_⟩
  · intro wx bX kX hk1 hk2 hC hb hd K hK
    have e42 := hd 42 _ _ rfl rfl
    try dsimp only at e42
    have e43 := hd 43 _ _ rfl rfl
    try dsimp only at e43
    simp only [execOp, resolve, List.map_toArray, List.map_cons, List.map_nil, e42, e43]
    clear hb hd
    go_simp
    refine (same_self wx vq (.slice none 0 0) zRu (P6.keep hC) (nil_phs _)).mono ?_; rintro e w' ⟨rfl, hX⟩
    exact ⟨_, rfl, hK _ (hC.trans hX) hX⟩
  refine ex_det 45 [41, 44] rfl rfl (fun _ _ _ _ _ _ _ _ => rfl) ?_
  apply Exists.intro
  refine ⟨?_, ?_⟩
  · intro wx bX kX hk1 hk2 hC hb hd K hK
    have e41 := hd 41 _ _ rfl rfl
    try dsimp only at e41
    have e44 := hd 44 _ _ rfl rfl
    try dsimp only at e44
    simp only [execOp, e41, e44]
    clear hb hd
    go_simp
    exact hK _ hC (Chg.refl _ _)
  refine ex_det 46 [45] rfl rfl (fun _ _ _ _ _ _ _ _ => rfl) ?_
  apply Exists.intro
  refine ⟨?_, ?_⟩
  · intro wx bX kX hk1 hk2 hC hb hd K hK
    have e45 := hd 45 _ _ rfl rfl
    try dsimp only at e45
    simp only [execOp, e45]
    clear hb hd
    go_simp
    exact hK _ hC (Chg.refl _ _)
  refine ex_det 47 [3, 46] rfl rfl (fun _ b _ _ _ _ hb hd => (wanted_guard b rfl rfl (hd 46 _ _ rfl rfl)).trans rfl) ?_
  apply Exists.intro
  refine ⟨?_, ?_⟩
  · intro wx bX kX hk1 hk2 hC hb hd K hK
    have e3 := hb 3 rfl
    simp only [exSlot, List.getD_cons_succ, List.getD_cons_zero] at e3
    simp only [execOp, e3]
    clear hb hd
    go_simp
    exact hK _ hC (Chg.refl _ _)
  refine ex_det 48 [47, 46] rfl rfl (fun _ b _ _ _ _ hb hd => (wanted_guard b rfl rfl (hd 46 _ _ rfl rfl)).trans rfl) ?_
  apply Exists.intro
  refine ⟨?_, ?_⟩
  · intro wx bX kX hk1 hk2 hC hb hd K hK
    have e47 := hd 47 _ _ rfl rfl
    try dsimp only at e47
    simp only [execOp, resolve, List.map_toArray, List.map_cons, List.map_nil, e47]
    clear hb hd
    go_simp
    refine (bhealthy_any wx 0).mono ?_; rintro e w' ⟨rfl, rfl⟩
    exact ⟨_, rfl, hK _ hC (Chg.refl _ _)⟩
  refine ex_det 49 [46, 48] rfl rfl (fun _ _ _ _ _ _ _ _ => rfl) ?_
  apply Exists.intro
  refine ⟨?_, ?_⟩
  · intro wx bX kX hk1 hk2 hC hb hd K hK
    have e46 := hd 46 _ _ rfl rfl
    try dsimp only at e46
    have e48 := hd 48 _ _ rfl rfl
    try dsimp only at e48
    simp only [execOp, e46, e48]
    clear hb hd
    go_simp
    exact hK _ hC (Chg.refl _ _)
  refine ex_det 50 [49] rfl rfl (fun _ _ _ _ _ _ _ _ => rfl) ?_
  apply Exists.intro
  refine ⟨?_, ?_⟩
  · intro wx bX kX hk1 hk2 hC hb hd K hK
    have e49 := hd 49 _ _ rfl rfl
    try dsimp only at e49
    simp only [execOp, e49]
    clear hb hd
    go_simp
    exact hK _ hC (Chg.refl _ _)
  refine ex_det 51 [5, 50] rfl rfl (fun _ b _ _ _ _ hb hd => (wanted_guard b rfl rfl (hd 50 _ _ rfl rfl)).trans rfl) ?_
  apply Exists.intro
  refine ⟨?_, ?_⟩
  · intro wx bX kX hk1 hk2 hC hb hd K hK
    have e5 := hb 5 rfl
    simp only [exSlot, List.getD_cons_succ, List.getD_cons_zero] at e5
    simp only [execOp, e5]
    clear hb hd
    go_simp
    exact hK _ hC (Chg.refl _ _)
  refine ex_det 52 [51, 50] rfl rfl (fun _ b _ _ _ _ hb hd => (wanted_guard b rfl rfl (hd 50 _ _ rfl rfl)).trans rfl) ?_
  apply Exists.intro
  refine ⟨?_, ?_⟩
  · intro wx bX kX hk1 hk2 hC hb hd K hK
    have e51 := hd 51 _ _ rfl rfl
    try dsimp only at e51
    simp only [execOp, resolve, List.map_toArray, List.map_cons, List.map_nil, e51]
    clear hb hd
    go_simp
    refine (bhealthy_any wx 4).mono ?_; rintro e w' ⟨rfl, rfl⟩
    exact ⟨_, rfl, hK _ hC (Chg.refl _ _)⟩
  refine ex_det 53 [52, 50] rfl rfl (fun _ b _ _ _ _ hb hd => (wanted_guard b rfl rfl (hd 50 _ _ rfl rfl)).trans rfl) ?_
  apply Exists.intro
  refine ⟨?_, ?_⟩
  · intro wx bX kX hk1 hk2 hC hb hd K hK
    have e52 := hd 52 _ _ rfl rfl
    try dsimp only at e52
    simp only [execOp, e52]
    clear hb hd
    go_simp
    exact hK _ hC (Chg.refl _ _)
  refine ex_det 54 [50, 53] rfl rfl (fun _ _ _ _ _ _ _ _ => rfl) ?_
  apply Exists.intro
  refine ⟨?_, ?_⟩
  · intro wx bX kX hk1 hk2 hC hb hd K hK
    have e50 := hd 50 _ _ rfl rfl
    try dsimp only at e50
    have e53 := hd 53 _ _ rfl rfl
    try dsimp only at e53
    simp only [execOp, e50, e53]
    clear hb hd
    go_simp
    exact hK _ hC (Chg.refl _ _)
  refine ex_det 55 [54] rfl rfl (fun _ _ _ _ _ _ _ _ => rfl) ?_
  apply Exists.intro
  refine ⟨?_, ?_⟩
  · intro wx bX kX hk1 hk2 hC hb hd K hK
    have e54 := hd 54 _ _ rfl rfl
    try dsimp only at e54
    simp only [execOp, e54]
    clear hb hd
    go_simp
    exact hK _ hC (Chg.refl _ _)
  refine ex_det 56 [8, 55] rfl rfl (fun _ b _ _ _ _ hb hd => (wanted_guard b rfl rfl (hd 55 _ _ rfl rfl)).trans rfl) ?_
  apply Exists.intro
  refine ⟨?_, ?_⟩
  · intro wx bX kX hk1 hk2 hC hb hd K hK
    have e8 := hb 8 rfl
    simp only [exSlot, List.getD_cons_succ, List.getD_cons_zero] at e8
    simp only [execOp, e8]
    clear hb hd
    go_simp
    exact hK _ hC (Chg.refl _ _)
  refine ex_det 57 [56, 55] rfl rfl (fun _ b _ _ _ _ hb hd => (wanted_guard b rfl rfl (hd 55 _ _ rfl rfl)).trans rfl) ?_
  apply Exists.intro
  refine ⟨?_, ?_⟩
  · intro wx bX kX hk1 hk2 hC hb hd K hK
    have e56 := hd 56 _ _ rfl rfl
    try dsimp only at e56
    simp only [execOp, resolve, List.map_toArray, List.map_cons, List.map_nil, e56]
    clear hb hd
    go_simp
    exact hK _ hC (Chg.refl _ _)
  refine ex_det 58 [57, 55] rfl rfl (fun _ b _ _ _ _ hb hd => (wanted_guard b rfl rfl (hd 55 _ _ rfl rfl)).trans rfl) ?_
  apply Exists.intro
  refine ⟨?_, ?_⟩
  · intro wx bX kX hk1 hk2 hC hb hd K hK
    have e57 := hd 57 _ _ rfl rfl
    try dsimp only at e57
    simp only [execOp, e57]
    clear hb hd
    go_simp
    exact hK _ hC (Chg.refl _ _)
  refine ex_det 59 [55, 58] rfl rfl (fun _ _ _ _ _ _ _ _ => rfl) ?_
  apply Exists.intro
  refine ⟨?_, ?_⟩
  · intro wx bX kX hk1 hk2 hC hb hd K hK
    have e55 := hd 55 _ _ rfl rfl
    try dsimp only at e55
    have e58 := hd 58 _ _ rfl rfl
    try dsimp only at e58
    simp only [execOp, e55, e58]
    clear hb hd
    go_simp
    exact hK _ hC (Chg.refl _ _)
  refine ex_det 60 [59] rfl rfl (fun _ _ _ _ _ _ _ _ => rfl) ?_
  apply Exists.intro
  refine ⟨?_, ?_⟩
  · intro wx bX kX hk1 hk2 hC hb hd K hK
    have e59 := hd 59 _ _ rfl rfl
    try dsimp only at e59
    simp only [execOp, e59]
    clear hb hd
    go_simp
    exact hK _ hC (Chg.refl _ _)
  refine ex_det 61 [8, 60] rfl rfl (fun _ b _ _ _ _ hb hd => (wanted_guard b rfl rfl (hd 60 _ _ rfl rfl)).trans rfl) ?_
  apply Exists.intro
  refine ⟨?_, ?_⟩
  · intro wx bX kX hk1 hk2 hC hb hd K hK
    have e8 := hb 8 rfl
    simp only [exSlot, List.getD_cons_succ, List.getD_cons_zero] at e8
    simp only [execOp, e8]
    clear hb hd
    go_simp
    exact hK _ hC (Chg.refl _ _)
  refine ex_det 62 [61, 60] rfl rfl (fun _ b _ _ _ _ hb hd => (wanted_guard b rfl rfl (hd 60 _ _ rfl rfl)).trans rfl) ?_
  apply Exists.intro
  refine ⟨?_, ?_⟩
  · intro wx bX kX hk1 hk2 hC hb hd K hK
    have e61 := hd 61 _ _ rfl rfl
    try dsimp only at e61
    simp only [execOp, e61]
    clear hb hd
    go_simp
    exact hK _ hC (Chg.refl _ _)
  refine ex_det 63 [62, 60] rfl rfl (fun _ b _ _ _ _ hb hd => (wanted_guard b rfl rfl (hd 60 _ _ rfl rfl)).trans rfl) ?_
  apply Exists.intro
  refine ⟨?_, ?_⟩
  · intro wx bX kX hk1 hk2 hC hb hd K hK
    have e62 := hd 62 _ _ rfl rfl
    try dsimp only at e62
    have d0 := hC.cell N0 (by simp)
    have d1 := hC.cell N1 (by simp)
    have d2 := hC.cell N2 (by simp)
    simp only [execOp, e62]
    clear hb hd
    go_simp
    exact hK _ hC (Chg.refl _ _)
  refine ex_det 64 [63, 60] rfl rfl (fun _ b _ _ _ _ hb hd => (wanted_guard b rfl rfl (hd 60 _ _ rfl rfl)).trans rfl) ?_
  apply Exists.intro
  refine ⟨?_, ?_⟩
  · intro wx bX kX hk1 hk2 hC hb hd K hK
    have e63 := hd 63 _ _ rfl rfl
    try dsimp only at e63
    simp only [execOp, e63]
    clear hb hd
    go_simp
    exact hK _ hC (Chg.refl _ _)
  refine ex_det 65 [60, 64] rfl rfl (fun _ _ _ _ _ _ _ _ => rfl) ?_
  apply Exists.intro
  refine ⟨?_, ?_⟩
  · intro wx bX kX hk1 hk2 hC hb hd K hK
    have e60 := hd 60 _ _ rfl rfl
    try dsimp only at e60
    have e64 := hd 64 _ _ rfl rfl
    try dsimp only at e64
    simp only [execOp, e60, e64]
    clear hb hd
    go_simp
    exact hK _ hC (Chg.refl _ _)
  refine ex_det 66 [65] rfl rfl (fun _ _ _ _ _ _ _ _ => rfl) ?_
  apply Exists.intro
  refine ⟨?_, ?_⟩
  · intro wx bX kX hk1 hk2 hC hb hd K hK
    have e65 := hd 65 _ _ rfl rfl
    try dsimp only at e65
    simp only [execOp, e65]
    clear hb hd
    go_simp
    exact hK _ hC (Chg.refl _ _)
  refine ex_det 67 [8, 66] rfl rfl (fun _ b _ _ _ _ hb hd => (wanted_guard b rfl rfl (hd 66 _ _ rfl rfl)).trans rfl) ?_
  apply Exists.intro
  refine ⟨?_, ?_⟩
  · intro wx bX kX hk1 hk2 hC hb hd K hK
    have e8 := hb 8 rfl
    simp only [exSlot, List.getD_cons_succ, List.getD_cons_zero] at e8
    simp only [execOp, e8]
    clear hb hd
    go_simp
    exact hK _ hC (Chg.refl _ _)
  refine ex_det 68 [67, 66] rfl rfl (fun _ b _ _ _ _ hb hd => (wanted_guard b rfl rfl (hd 66 _ _ rfl rfl)).trans rfl) ?_
  apply Exists.intro
  refine ⟨?_, ?_⟩
  · intro wx bX kX hk1 hk2 hC hb hd K hK
    have e67 := hd 67 _ _ rfl rfl
    try dsimp only at e67
    simp only [execOp, e67]
    clear hb hd
    go_simp
    exact hK _ hC (Chg.refl _ _)
  refine ex_det 69 [68, 66] rfl rfl (fun _ b _ _ _ _ hb hd => (wanted_guard b rfl rfl (hd 66 _ _ rfl rfl)).trans rfl) ?_
  apply Exists.intro
  refine ⟨?_, ?_⟩
  · intro wx bX kX hk1 hk2 hC hb hd K hK
    have e68 := hd 68 _ _ rfl rfl
    try dsimp only at e68
    have d0 := hC.cell N0 (by simp)
    have d1 := hC.cell N1 (by simp)
    have d2 := hC.cell N2 (by simp)
    simp only [execOp, e68]
    clear hb hd
    go_simp
    exact hK _ hC (Chg.refl _ _)
  refine ex_det 70 [69, 66] rfl rfl (fun _ b _ _ _ _ hb hd => (wanted_guard b rfl rfl (hd 66 _ _ rfl rfl)).trans rfl) ?_
  apply Exists.intro
  refine ⟨?_, ?_⟩
  · intro wx bX kX hk1 hk2 hC hb hd K hK
    have e69 := hd 69 _ _ rfl rfl
    try dsimp only at e69
    simp only [execOp, e69]
    clear hb hd
    go_simp
    exact hK _ hC (Chg.refl _ _)
  refine ex_det 71 [66, 70] rfl rfl (fun _ _ _ _ _ _ _ _ => rfl) ?_
  apply Exists.intro
  refine ⟨?_, ?_⟩
  · intro wx bX kX hk1 hk2 hC hb hd K hK
    have e66 := hd 66 _ _ rfl rfl
    try dsimp only at e66
    have e70 := hd 70 _ _ rfl rfl
    try dsimp only at e70
    simp only [execOp, e66, e70]
    clear hb hd
    go_simp
    exact hK _ hC (Chg.refl _ _)
  refine ex_det 72 [71] rfl rfl (fun _ _ _ _ _ _ _ _ => rfl) ?_
  apply Exists.intro
  refine ⟨?_, ?_⟩
  · intro wx bX kX hk1 hk2 hC hb hd K hK
    have e71 := hd 71 _ _ rfl rfl
    try dsimp only at e71
    simp only [execOp, e71]
    clear hb hd
    go_simp
    exact hK _ hC (Chg.refl _ _)
  refine ex_det 73 [8, 72] rfl rfl (fun _ b _ _ _ _ hb hd => (wanted_guard b rfl rfl (hd 72 _ _ rfl rfl)).trans rfl) ?_
  apply Exists.intro
  refine ⟨?_, ?_⟩
  · intro wx bX kX hk1 hk2 hC hb hd K hK
    have e8 := hb 8 rfl
    simp only [exSlot, List.getD_cons_succ, List.getD_cons_zero] at e8
    simp only [execOp, e8]
    clear hb hd
    go_simp
    exact hK _ hC (Chg.refl _ _)
  refine ex_det 74 [73, 72] rfl rfl (fun _ b _ _ _ _ hb hd => (wanted_guard b rfl rfl (hd 72 _ _ rfl rfl)).trans rfl) ?_
  apply Exists.intro
  refine ⟨?_, ?_⟩
  · intro wx bX kX hk1 hk2 hC hb hd K hK
    have e73 := hd 73 _ _ rfl rfl
    try dsimp only at e73
    simp only [execOp, e73]
    clear hb hd
    go_simp
    exact hK _ hC (Chg.refl _ _)
  refine ex_det 75 [74, 72] rfl rfl (fun _ b _ _ _ _ hb hd => (wanted_guard b rfl rfl (hd 72 _ _ rfl rfl)).trans rfl) ?_
  apply Exists.intro
  refine ⟨?_, ?_⟩
  · intro wx bX kX hk1 hk2 hC hb hd K hK
    have e74 := hd 74 _ _ rfl rfl
    try dsimp only at e74
    have d0 := hC.cell N0 (by simp)
    have d1 := hC.cell N1 (by simp)
    have d2 := hC.cell N2 (by simp)
    simp only [execOp, e74]
    clear hb hd
    go_simp
    exact hK _ hC (Chg.refl _ _)
  refine ex_det 76 [75, 72] rfl rfl (fun _ b _ _ _ _ hb hd => (wanted_guard b rfl rfl (hd 72 _ _ rfl rfl)).trans rfl) ?_
  apply Exists.intro
  refine ⟨?_, ?_⟩
  · intro wx bX kX hk1 hk2 hC hb hd K hK
    have e75 := hd 75 _ _ rfl rfl
    try dsimp only at e75
    simp only [execOp, e75]
    clear hb hd
    go_simp
    exact hK _ hC (Chg.refl _ _)
  refine ex_det 77 [72, 76] rfl rfl (fun _ _ _ _ _ _ _ _ => rfl) ?_
  apply Exists.intro
  refine ⟨?_, ?_⟩
  · intro wx bX kX hk1 hk2 hC hb hd K hK
    have e72 := hd 72 _ _ rfl rfl
    try dsimp only at e72
    have e76 := hd 76 _ _ rfl rfl
    try dsimp only at e76
    simp only [execOp, e72, e76]
    clear hb hd
    go_simp
    exact hK _ hC (Chg.refl _ _)
  refine ex_det 78 [77] rfl rfl (fun _ _ _ _ _ _ _ _ => rfl) ?_
  apply Exists.intro
  refine ⟨?_, ?_⟩
  · intro wx bX kX hk1 hk2 hC hb hd K hK
    have e77 := hd 77 _ _ rfl rfl
    try dsimp only at e77
    simp only [execOp, e77]
    clear hb hd
    go_simp
    exact hK _ hC (Chg.refl _ _)
  refine ex_det 79 [78] rfl rfl (fun _ b _ _ _ _ hb hd => (wanted_guard b rfl rfl (hd 78 _ _ rfl rfl)).trans rfl) ?_
  apply Exists.intro
  refine ⟨?_, ?_⟩
  · intro wx bX kX hk1 hk2 hC hb hd K hK
    simp only [execOp, resolve, List.map_toArray, List.map_cons, List.map_nil]
    clear hb hd
    go_simp
    refine (bsums_any wx).mono ?_; rintro e w' ⟨rfl, hX⟩
    exact ⟨_, rfl, hK _ (hC.trans hX) hX⟩
  refine ex_det 80 [78, 79] rfl rfl (fun _ _ _ _ _ _ _ _ => rfl) ?_
  apply Exists.intro
  refine ⟨?_, ?_⟩
  · intro wx bX kX hk1 hk2 hC hb hd K hK
    have e78 := hd 78 _ _ rfl rfl
    try dsimp only at e78
    have e79 := hd 79 _ _ rfl rfl
    try dsimp only at e79
    simp only [execOp, e78, e79]
    clear hb hd
    go_simp
    exact hK _ hC (Chg.refl _ _)
  refine ex_det 81 [80] rfl rfl (fun _ _ _ _ _ _ _ _ => rfl) ?_
  apply Exists.intro
  refine ⟨?_, ?_⟩
  · intro wx bX kX hk1 hk2 hC hb hd K hK
    have e80 := hd 80 _ _ rfl rfl
    try dsimp only at e80
    simp only [execOp, e80]
    clear hb hd
    go_simp
    exact hK _ hC (Chg.refl _ _)
  refine ex_det 82 [81] rfl rfl (fun _ b _ _ _ _ hb hd => (wanted_guard b rfl rfl (hd 81 _ _ rfl rfl)).trans rfl) ?_
  apply Exists.intro
  refine ⟨?_, ?_⟩
  · intro wx bX kX hk1 hk2 hC hb hd K hK
    simp only [execOp, resolve, List.map_toArray, List.map_cons, List.map_nil]
    clear hb hd
    go_simp
    refine (bnums_any wx).mono ?_; rintro e w' ⟨rfl, hX⟩
    exact ⟨_, rfl, hK _ (hC.trans hX) hX⟩
  refine ex_det 83 [81, 82] rfl rfl (fun _ _ _ _ _ _ _ _ => rfl) ?_
  apply Exists.intro
  refine ⟨?_, ?_⟩
  · intro wx bX kX hk1 hk2 hC hb hd K hK
    have e81 := hd 81 _ _ rfl rfl
    try dsimp only at e81
    have e82 := hd 82 _ _ rfl rfl
    try dsimp only at e82
    simp only [execOp, e81, e82]
    clear hb hd
    go_simp
    exact hK _ hC (Chg.refl _ _)
  refine ex_det 0 [83] rfl rfl (fun _ _ _ _ _ _ _ _ => rfl) ?_
  apply Exists.intro
  refine ⟨?_, ?_⟩
  · intro wx bX kX hk1 hk2 hC hb hd K hK
    have e83 := hd 83 _ _ rfl rfl
    try dsimp only at e83
    simp only [execOp, e83]
    clear hb hd
    go_simp
    exact hK _ hC (Chg.refl _ _)
  refine ex_end ?_
  intro us w2 hus hC hall
  obtain ⟨v0, us, rfl⟩ := List.exists_cons_of_length_eq_add_one hus
  replace hus := Nat.succ.inj hus
  obtain ⟨v1, us, rfl⟩ := List.exists_cons_of_length_eq_add_one hus
  replace hus := Nat.succ.inj hus
  obtain ⟨v2, us, rfl⟩ := List.exists_cons_of_length_eq_add_one hus
  replace hus := Nat.succ.inj hus
  obtain ⟨v3, us, rfl⟩ := List.exists_cons_of_length_eq_add_one hus
  replace hus := Nat.succ.inj hus
  obtain ⟨v4, us, rfl⟩ := List.exists_cons_of_length_eq_add_one hus
  replace hus := Nat.succ.inj hus
  obtain ⟨v5, us, rfl⟩ := List.exists_cons_of_length_eq_add_one hus
  replace hus := Nat.succ.inj hus
  obtain ⟨v6, us, rfl⟩ := List.exists_cons_of_length_eq_add_one hus
  replace hus := Nat.succ.inj hus
  obtain ⟨v7, us, rfl⟩ := List.exists_cons_of_length_eq_add_one hus
  replace hus := Nat.succ.inj hus
  obtain ⟨v8, us, rfl⟩ := List.exists_cons_of_length_eq_add_one hus
  replace hus := Nat.succ.inj hus
  obtain ⟨v9, us, rfl⟩ := List.exists_cons_of_length_eq_add_one hus
  replace hus := Nat.succ.inj hus
  obtain ⟨v10, us, rfl⟩ := List.exists_cons_of_length_eq_add_one hus
  replace hus := Nat.succ.inj hus
  obtain ⟨v11, us, rfl⟩ := List.exists_cons_of_length_eq_add_one hus
  replace hus := Nat.succ.inj hus
  obtain ⟨v12, us, rfl⟩ := List.exists_cons_of_length_eq_add_one hus
  replace hus := Nat.succ.inj hus
  obtain ⟨v13, us, rfl⟩ := List.exists_cons_of_length_eq_add_one hus
  replace hus := Nat.succ.inj hus
  obtain ⟨v14, us, rfl⟩ := List.exists_cons_of_length_eq_add_one hus
  replace hus := Nat.succ.inj hus
  obtain ⟨v15, us, rfl⟩ := List.exists_cons_of_length_eq_add_one hus
  replace hus := Nat.succ.inj hus
  obtain ⟨v16, us, rfl⟩ := List.exists_cons_of_length_eq_add_one hus
  replace hus := Nat.succ.inj hus
  obtain ⟨v17, us, rfl⟩ := List.exists_cons_of_length_eq_add_one hus
  replace hus := Nat.succ.inj hus
  obtain ⟨v18, us, rfl⟩ := List.exists_cons_of_length_eq_add_one hus
  replace hus := Nat.succ.inj hus
  obtain ⟨v19, us, rfl⟩ := List.exists_cons_of_length_eq_add_one hus
  replace hus := Nat.succ.inj hus
  obtain ⟨v20, us, rfl⟩ := List.exists_cons_of_length_eq_add_one hus
  replace hus := Nat.succ.inj hus
  obtain ⟨v21, us, rfl⟩ := List.exists_cons_of_length_eq_add_one hus
  replace hus := Nat.succ.inj hus
  obtain ⟨v22, us, rfl⟩ := List.exists_cons_of_length_eq_add_one hus
  replace hus := Nat.succ.inj hus
  obtain ⟨v23, us, rfl⟩ := List.exists_cons_of_length_eq_add_one hus
  replace hus := Nat.succ.inj hus
  obtain ⟨v24, us, rfl⟩ := List.exists_cons_of_length_eq_add_one hus
  replace hus := Nat.succ.inj hus
  obtain ⟨v25, us, rfl⟩ := List.exists_cons_of_length_eq_add_one hus
  replace hus := Nat.succ.inj hus
  obtain ⟨v26, us, rfl⟩ := List.exists_cons_of_length_eq_add_one hus
  replace hus := Nat.succ.inj hus
  obtain ⟨v27, us, rfl⟩ := List.exists_cons_of_length_eq_add_one hus
  replace hus := Nat.succ.inj hus
  obtain ⟨v28, us, rfl⟩ := List.exists_cons_of_length_eq_add_one hus
  replace hus := Nat.succ.inj hus
  obtain ⟨v29, us, rfl⟩ := List.exists_cons_of_length_eq_add_one hus
  replace hus := Nat.succ.inj hus
  obtain ⟨v30, us, rfl⟩ := List.exists_cons_of_length_eq_add_one hus
  replace hus := Nat.succ.inj hus
  obtain ⟨v31, us, rfl⟩ := List.exists_cons_of_length_eq_add_one hus
  replace hus := Nat.succ.inj hus
  obtain ⟨v32, us, rfl⟩ := List.exists_cons_of_length_eq_add_one hus
  replace hus := Nat.succ.inj hus
  obtain ⟨v33, us, rfl⟩ := List.exists_cons_of_length_eq_add_one hus
  replace hus := Nat.succ.inj hus
  obtain ⟨v34, us, rfl⟩ := List.exists_cons_of_length_eq_add_one hus
  replace hus := Nat.succ.inj hus
  obtain ⟨v35, us, rfl⟩ := List.exists_cons_of_length_eq_add_one hus
  replace hus := Nat.succ.inj hus
  obtain ⟨v36, us, rfl⟩ := List.exists_cons_of_length_eq_add_one hus
  replace hus := Nat.succ.inj hus
  obtain ⟨v37, us, rfl⟩ := List.exists_cons_of_length_eq_add_one hus
  replace hus := Nat.succ.inj hus
  obtain ⟨v38, us, rfl⟩ := List.exists_cons_of_length_eq_add_one hus
  replace hus := Nat.succ.inj hus
  obtain ⟨v39, us, rfl⟩ := List.exists_cons_of_length_eq_add_one hus
  replace hus := Nat.succ.inj hus
  obtain ⟨v40, us, rfl⟩ := List.exists_cons_of_length_eq_add_one hus
  replace hus := Nat.succ.inj hus
  obtain ⟨v41, us, rfl⟩ := List.exists_cons_of_length_eq_add_one hus
  replace hus := Nat.succ.inj hus
  obtain ⟨v42, us, rfl⟩ := List.exists_cons_of_length_eq_add_one hus
  replace hus := Nat.succ.inj hus
  obtain ⟨v43, us, rfl⟩ := List.exists_cons_of_length_eq_add_one hus
  replace hus := Nat.succ.inj hus
  obtain ⟨v44, us, rfl⟩ := List.exists_cons_of_length_eq_add_one hus
  replace hus := Nat.succ.inj hus
  obtain ⟨v45, us, rfl⟩ := List.exists_cons_of_length_eq_add_one hus
  replace hus := Nat.succ.inj hus
  obtain ⟨v46, us, rfl⟩ := List.exists_cons_of_length_eq_add_one hus
  replace hus := Nat.succ.inj hus
  obtain ⟨v47, us, rfl⟩ := List.exists_cons_of_length_eq_add_one hus
  replace hus := Nat.succ.inj hus
  obtain ⟨v48, us, rfl⟩ := List.exists_cons_of_length_eq_add_one hus
  replace hus := Nat.succ.inj hus
  obtain ⟨v49, us, rfl⟩ := List.exists_cons_of_length_eq_add_one hus
  replace hus := Nat.succ.inj hus
  obtain ⟨v50, us, rfl⟩ := List.exists_cons_of_length_eq_add_one hus
  replace hus := Nat.succ.inj hus
  obtain ⟨v51, us, rfl⟩ := List.exists_cons_of_length_eq_add_one hus
  replace hus := Nat.succ.inj hus
  obtain ⟨v52, us, rfl⟩ := List.exists_cons_of_length_eq_add_one hus
  replace hus := Nat.succ.inj hus
  obtain ⟨v53, us, rfl⟩ := List.exists_cons_of_length_eq_add_one hus
  replace hus := Nat.succ.inj hus
  obtain ⟨v54, us, rfl⟩ := List.exists_cons_of_length_eq_add_one hus
  replace hus := Nat.succ.inj hus
  obtain ⟨v55, us, rfl⟩ := List.exists_cons_of_length_eq_add_one hus
  replace hus := Nat.succ.inj hus
  obtain ⟨v56, us, rfl⟩ := List.exists_cons_of_length_eq_add_one hus
  replace hus := Nat.succ.inj hus
  obtain ⟨v57, us, rfl⟩ := List.exists_cons_of_length_eq_add_one hus
  replace hus := Nat.succ.inj hus
  obtain ⟨v58, us, rfl⟩ := List.exists_cons_of_length_eq_add_one hus
  replace hus := Nat.succ.inj hus
  obtain rfl := List.length_eq_zero_iff.1 hus
  clear hus
  generalize hbb : exPuts _ _ _ = bb at hall ⊢
  simp only [exPuts, Act.put, List.setIfInBounds_toArray, List.set_cons_succ, List.set_cons_zero] at hbb
  subst hbb
  obtain ⟨h58, h57, h56, h55, h54, h53, h52, h51, h50, h49, h48, h47, h46, h45, h44, h43, h42, h41, h40, h39, h38, h37, h36, h35, h34, h33, h32, h31, h30, h29, h28, h27, h26, h25, h24, h23, h22, h21, h20, h19, h18, h17, h16, h15, h14, h13, h12, h11, h10, h9, h8, h7, h6, h5, h4, h3, h2, h1, h0, -⟩ := hall
  obtain rfl : v0 = _ := h0
  obtain rfl : v1 = _ := h1
  obtain rfl : v2 = _ := h2
  obtain rfl : v3 = _ := h3
  obtain ⟨vm, e30, K30⟩ := h4
  obtain rfl : v4 = _ := e30
  obtain rfl : v5 = _ := h5
  obtain rfl : v6 = _ := h6
  obtain rfl : v7 = _ := h7
  obtain rfl : v8 = _ := h8
  obtain rfl : v9 = _ := h9
  obtain rfl : v10 = _ := h10
  obtain rfl : v11 = _ := h11
  obtain rfl : v12 = _ := h12
  obtain rfl : v13 = _ := h13
  obtain rfl : v14 = _ := h14
  obtain rfl : v15 = _ := h15
  obtain rfl : v16 = _ := h16
  obtain rfl : v17 = _ := h17
  obtain rfl : v18 = _ := h18
  obtain rfl : v19 = _ := h19
  obtain rfl : v20 = _ := h20
  obtain rfl : v21 = _ := h21
  obtain rfl : v22 = _ := h22
  obtain rfl : v23 = _ := h23
  obtain rfl : v24 = _ := h24
  obtain rfl : v25 = _ := h25
  obtain rfl : v26 = _ := h26
  obtain rfl : v27 = _ := h27
  obtain rfl : v28 = _ := h28
  obtain rfl : v29 = _ := h29
  obtain rfl : v30 = _ := h30
  obtain rfl : v31 = _ := h31
  obtain rfl : v32 = _ := h32
  obtain rfl : v33 = _ := h33
  obtain rfl : v34 = _ := h34
  obtain rfl : v35 = _ := h35
  obtain rfl : v36 = _ := h36
  obtain rfl : v37 = _ := h37
  obtain rfl : v38 = _ := h38
  obtain rfl : v39 = _ := h39
  obtain rfl : v40 = _ := h40
  obtain rfl : v41 = _ := h41
  obtain rfl : v42 = _ := h42
  obtain rfl : v43 = _ := h43
  obtain rfl : v44 = _ := h44
  obtain rfl : v45 = _ := h45
  obtain rfl : v46 = _ := h46
  obtain rfl : v47 = _ := h47
  obtain rfl : v48 = _ := h48
  obtain rfl : v49 = _ := h49
  obtain rfl : v50 = _ := h50
  obtain rfl : v51 = _ := h51
  obtain rfl : v52 = _ := h52
  obtain rfl : v53 = _ := h53
  obtain rfl : v54 = _ := h54
  obtain rfl : v55 = _ := h55
  obtain rfl : v56 = _ := h56
  obtain rfl : v57 = _ := h57
  obtain rfl : v58 = _ := h58
  go_wp2
  go_returns
  exact ⟨rfl, hX0.trans hC⟩
end Go.Proofs.YtpfglmlpodjneaaGreat
namespace Go.Proofs.YtpfglmlpodjneaaGreat
open Go.RowKit

theorem mask_i (k : Nat) (m : Int) (hk : k ≤ 32) (hm : (BitVec.ofInt 64 m).toNat = 2 ^ k - 1) (n : Int) : bits .and .i64 n m = n % ((2 ^ k : Nat) : Int) := by
  have key : (BitVec.ofInt 64 n &&& BitVec.ofInt 64 m).toNat = (n % ((2 ^ 64 : Nat) : Int)).toNat % 2 ^ k := by
    rw [BitVec.toNat_and, BitVec.toNat_ofInt, hm, Nat.and_two_pow_sub_one_eq_mod]
  show IntKind.i64.wrap ((BitVec.ofInt 64 n &&& BitVec.ofInt 64 m).toNat : Nat) = n % ((2 ^ k : Nat) : Int)
  rw [key, IntKind.wrap_i64]
  have h2 : 2 ^ k ≤ 2 ^ 32 := Nat.pow_le_pow_right (by omega) hk
  have hd : (2 ^ k : Nat) ∣ 2 ^ 64 := Nat.pow_dvd_pow 2 (by omega)
  have h0 : 0 ≤ n % ((2 ^ 64 : Nat) : Int) := Int.emod_nonneg _ (by decide)
  have hp : 0 < 2 ^ k := Nat.pow_pos (by omega)
  have e : (((n % ((2 ^ 64 : Nat) : Int)).toNat % 2 ^ k : Nat) : Int) = n % ((2 ^ k : Nat) : Int) := by
    rw [Int.natCast_emod, Int.toNat_of_nonneg h0]
    exact Int.emod_emod_of_dvd n (Int.natCast_dvd_natCast.2 hd)
  rw [e]
  have h3 := Int.emod_nonneg n (show ((2 ^ k : Nat) : Int) ≠ 0 by omega)
  have h4 := Int.emod_lt_of_pos n (show (0 : Int) < ((2 ^ k : Nat) : Int) by omega)
  generalize 2 ^ k = p at *
  omega
theorem mask16 (n : Int) : bits .and .i64 n 65535 = n % 65536 := mask_i 16 65535 (by decide) (by decide) n
theorem mask10 (n : Int) : bits .and .i64 n 1023 = n % 1024 := mask_i 10 1023 (by decide) (by decide) n
theorem mask12 (n : Int) : bits .and .i64 n 4095 = n % 4096 := mask_i 12 4095 (by decide) (by decide) n
theorem mask3 (n : Int) : bits .and .i64 n 7 = n % 8 := mask_i 3 7 (by decide) (by decide) n
theorem mask2 (n : Int) : bits .and .i64 n 3 = n % 4 := mask_i 2 3 (by decide) (by decide) n
theorem mask5 (n : Int) : bits .and .i64 n 31 = n % 32 := mask_i 5 31 (by decide) (by decide) n
end Go.Proofs.YtpfglmlpodjneaaGreat
