/- Rpt. -/
import Derived.Test.YtpfglmlpodjneaaGreatZ09
set_option linter.unusedSimpArgs false
set_option linter.unusedVariables false
namespace Go.Proofs.YtpfglmlpodjneaaGreat
open Go.RowKit

theorem PtV.ok_eq (p : PtV) : p.ok = (decide (-1099511627776 ≤ p.x) && (decide (p.x ≤ 1099511627776) && (decide (-1099511627776 ≤ p.y) && decide (p.y ≤ 1099511627776)))) := by
  unfold PtV.ok pin; simp [Bool.and_assoc]
set_option maxHeartbeats 4000000 in
set_option maxRecDepth 10000 in
theorem rright_any (W : World) (p : PtV) : Calls Tryz.prog 77 #[.agg #[.int .i64 p.x, .int .i64 p.y]] W fun e w' => e = .returned (.bool p.ok) ∧ Chg [] W w' := by
  have hC := (CL.new W 0).push #[.int .i64 p.x, .int .i64 p.y] 53
  try simp only [alloc_sz] at hC
  obtain ⟨f0, f1⟩ := hC.cells 0 rfl
  by_cases h0 : -1099511627776 ≤ p.x
  · by_cases h1 : p.x ≤ 1099511627776
    · by_cases h2 : -1099511627776 ≤ p.y
      · by_cases h3 : p.y ≤ 1099511627776
        · go_enter Tryz.func77, Tryz.ntmps77
          go_wp2
          all_goals go_returns
          all_goals exact ⟨ret_bool (by rw [PtV.ok_eq]; first | (simp [*]; done) | (simp; omega)), hC.x⟩
        · go_enter Tryz.func77, Tryz.ntmps77
          go_wp2
          all_goals go_returns
          all_goals exact ⟨ret_bool (by rw [PtV.ok_eq]; first | (simp [*]; done) | (simp; omega)), hC.x⟩
      · go_enter Tryz.func77, Tryz.ntmps77
        go_wp2
        all_goals go_returns
        all_goals exact ⟨ret_bool (by rw [PtV.ok_eq]; first | (simp [*]; done) | (simp; omega)), hC.x⟩
    · go_enter Tryz.func77, Tryz.ntmps77
      go_wp2
      all_goals go_returns
      all_goals exact ⟨ret_bool (by rw [PtV.ok_eq]; first | (simp [*]; done) | (simp; omega)), hC.x⟩
  · go_enter Tryz.func77, Tryz.ntmps77
    go_wp2
    all_goals go_returns
    all_goals exact ⟨ret_bool (by rw [PtV.ok_eq]; first | (simp [*]; done) | (simp; omega)), hC.x⟩
set_option maxHeartbeats 4000000 in
set_option maxRecDepth 10000 in
theorem rturn_any (W : World) (a b c : PtV) : Calls Tryz.prog 91 #[.agg #[.int .i64 a.x, .int .i64 a.y], .agg #[.int .i64 b.x, .int .i64 b.y], .agg #[.int .i64 c.x, .int .i64 c.y]] W fun e w' => e = .returned (.int .i64 (turnV a b c)) ∧ Chg [] W w' := by
  have hC := (((CL.new W 0).push #[.int .i64 a.x, .int .i64 a.y] 53).push #[.int .i64 b.x, .int .i64 b.y] 53).push #[.int .i64 c.x, .int .i64 c.y] 53
  try simp only [alloc_sz] at hC
  obtain ⟨f0, f1⟩ := hC.cells 2 rfl
  obtain ⟨f2, f3⟩ := hC.cells 1 rfl
  obtain ⟨f4, f5⟩ := hC.cells 0 rfl
  have HR0 := fun w => rright_any w a
  have HR1 := fun w => rright_any w b
  have HR2 := fun w => rright_any w c
  have Ht := Lib.hid (show turnV a b c = if (a.ok && (b.ok && c.ok)) = true then turnI a b c else 0 from rfl)
  by_cases hok : (a.ok && (b.ok && c.ok)) = true
  · have hok2 := hok
    rw [Bool.and_eq_true, Bool.and_eq_true] at hok2
    obtain ⟨d1, d2, d3, d4, q1, q2, q3, q4, b1, b2, b3, b4, k1, k2, ht⟩ := turn_prep hok2.1 hok2.2.1 hok2.2.2
    have HM1 := fun w => rmul_any w d1 d2 (by omega) (by omega) (by omega) (by omega)
    have HM2 := fun w => rmul_any w d3 d4 (by omega) (by omega) (by omega) (by omega)
    have HCm := fun w => rcmp_any w _ _ k1 k2
    rw [← ht] at HCm
    rw [hok2.1] at HR0
    rw [hok2.2.1] at HR1
    rw [hok2.2.2] at HR2
    have Ht2 : Hid (turnV a b c = turnI a b c) := Lib.hid (by rw [Ht.out, if_pos hok])
    generalize turnI a b c = t at *
    generalize ofV (d1 * d2) = p1 at *
    generalize ofV (d3 * d4) = p2 at *
    clear hok hok2 ht k1 k2 b1 b2 b3 b4 Ht
    go_enter Tryz.func91, Tryz.ntmps91
    go_wp2_with fail
    refine (HR0 _).mono ?_; rintro e w' ⟨rfl, hX⟩
    replace hC := (hC).step (j := 0) hX
    clear hX
    clear f0 f1 f2 f3 f4 f5
    obtain ⟨f0, f1⟩ := hC.cells 2 rfl
    obtain ⟨f2, f3⟩ := hC.cells 1 rfl
    obtain ⟨f4, f5⟩ := hC.cells 0 rfl
    go_wp2_with fail
    refine (HR1 _).mono ?_; rintro e w' ⟨rfl, hX⟩
    replace hC := (hC).step (j := 0) hX
    clear hX
    clear f0 f1 f2 f3 f4 f5
    obtain ⟨f0, f1⟩ := hC.cells 2 rfl
    obtain ⟨f2, f3⟩ := hC.cells 1 rfl
    obtain ⟨f4, f5⟩ := hC.cells 0 rfl
    go_wp2_with fail
    refine (HR2 _).mono ?_; rintro e w' ⟨rfl, hX⟩
    replace hC := (hC).step (j := 0) hX
    clear hX
    clear f0 f1 f2 f3 f4 f5
    obtain ⟨f0, f1⟩ := hC.cells 2 rfl
    obtain ⟨f2, f3⟩ := hC.cells 1 rfl
    obtain ⟨f4, f5⟩ := hC.cells 0 rfl
    go_upto_region 3 with fail
    clear f0 f1 f2 f3 f4 f5
    refine wp_region_ex (fun k w => CL W [(W.heap.size + 1 + 1, #[.int .i64 c.x, .int .i64 c.y]), (W.heap.size + 1, #[.int .i64 b.x, .int .i64 b.y]), (W.heap.size, #[.int .i64 a.x, .int .i64 a.y])] 0 w) (fun _ => Chg []) [10, 21, 22] [(0, 0, false), (0, 0, false), (0, 0, false), (0, 0, false), (0, 0, false), (0, 0, false), (0, 0, false), (0, 0, false), (0, 0, false), (0, 0, false), (0, 0, true), (0, 1, false), (0, 1, false), (0, 1, false), (0, 1, false), (0, 1, false), (0, 1, false), (0, 1, false), (0, 1, false), (0, 1, false), (0, 1, false), (1, 1, true), (2, 2, true), (3, 3, false)] [20, 21, 22, 23, 24, 25, 26, 27, 28, 29, 30, 31, 32, 33, 34, 35, 36, 37, 38, 39, 40, 41, 42, 6] (by kernel_rfl) rfl (by kernel_rfl) (by kernel_rfl) (hC.drew) ?_
    simp only [List.zip_cons_cons, List.zip_nil_right]
    refine ex_det 20 [4] rfl rfl (fun _ _ _ _ _ _ _ _ => rfl) ?_
    apply Exists.intro
    refine ⟨?_, ?_⟩
    · intro wx bX kX hk1 hk2 hC hb hd K hK
      have e4 := hb 4 rfl
      simp only [exSlot, List.getD_cons_succ, List.getD_cons_zero] at e4
      simp only [execOp, e4]
      clear hb hd
      go_simp
      exact hK _ hC (Chg.refl _ _)
    refine ex_det 21 [20] rfl rfl (fun _ _ _ _ _ _ _ _ => rfl) ?_
    apply Exists.intro
    refine ⟨?_, ?_⟩
    · intro wx bX kX hk1 hk2 hC hb hd K hK
      have e20 := hd 20 _ _ rfl rfl
      try dsimp only at e20
      obtain ⟨f0, f1⟩ := hC.cells 2 rfl
      obtain ⟨f2, f3⟩ := hC.cells 1 rfl
      obtain ⟨f4, f5⟩ := hC.cells 0 rfl
      simp only [execOp, e20]
      clear hb hd
      go_simp
      exact hK _ hC (Chg.refl _ _)
    refine ex_det 22 [3] rfl rfl (fun _ _ _ _ _ _ _ _ => rfl) ?_
    apply Exists.intro
    refine ⟨?_, ?_⟩
    · intro wx bX kX hk1 hk2 hC hb hd K hK
      have e3 := hb 3 rfl
      simp only [exSlot, List.getD_cons_succ, List.getD_cons_zero] at e3
      simp only [execOp, e3]
      clear hb hd
      go_simp
      exact hK _ hC (Chg.refl _ _)
    refine ex_det 23 [22] rfl rfl (fun _ _ _ _ _ _ _ _ => rfl) ?_
    apply Exists.intro
    refine ⟨?_, ?_⟩
    · intro wx bX kX hk1 hk2 hC hb hd K hK
      have e22 := hd 22 _ _ rfl rfl
      try dsimp only at e22
      obtain ⟨f0, f1⟩ := hC.cells 2 rfl
      obtain ⟨f2, f3⟩ := hC.cells 1 rfl
      obtain ⟨f4, f5⟩ := hC.cells 0 rfl
      simp only [execOp, e22]
      clear hb hd
      go_simp
      exact hK _ hC (Chg.refl _ _)
    refine ex_det 24 [21, 23] rfl rfl (fun _ _ _ _ _ _ _ _ => rfl) ?_
    apply Exists.intro
    refine ⟨?_, ?_⟩
    · intro wx bX kX hk1 hk2 hC hb hd K hK
      have e21 := hd 21 _ _ rfl rfl
      try dsimp only at e21
      have e23 := hd 23 _ _ rfl rfl
      try dsimp only at e23
      simp only [execOp, e21, e23]
      clear hb hd
      go_simp
      exact hK _ hC (Chg.refl _ _)
    refine ex_det 25 [5] rfl rfl (fun _ _ _ _ _ _ _ _ => rfl) ?_
    apply Exists.intro
    refine ⟨?_, ?_⟩
    · intro wx bX kX hk1 hk2 hC hb hd K hK
      have e5 := hb 5 rfl
      simp only [exSlot, List.getD_cons_succ, List.getD_cons_zero] at e5
      simp only [execOp, e5]
      clear hb hd
      go_simp
      exact hK _ hC (Chg.refl _ _)
    refine ex_det 26 [25] rfl rfl (fun _ _ _ _ _ _ _ _ => rfl) ?_
    apply Exists.intro
    refine ⟨?_, ?_⟩
    · intro wx bX kX hk1 hk2 hC hb hd K hK
      have e25 := hd 25 _ _ rfl rfl
      try dsimp only at e25
      obtain ⟨f0, f1⟩ := hC.cells 2 rfl
      obtain ⟨f2, f3⟩ := hC.cells 1 rfl
      obtain ⟨f4, f5⟩ := hC.cells 0 rfl
      simp only [execOp, e25]
      clear hb hd
      go_simp
      exact hK _ hC (Chg.refl _ _)
    refine ex_det 27 [3] rfl rfl (fun _ _ _ _ _ _ _ _ => rfl) ?_
    apply Exists.intro
    refine ⟨?_, ?_⟩
    · intro wx bX kX hk1 hk2 hC hb hd K hK
      have e3 := hb 3 rfl
      simp only [exSlot, List.getD_cons_succ, List.getD_cons_zero] at e3
      simp only [execOp, e3]
      clear hb hd
      go_simp
      exact hK _ hC (Chg.refl _ _)
    refine ex_det 28 [27] rfl rfl (fun _ _ _ _ _ _ _ _ => rfl) ?_
    apply Exists.intro
    refine ⟨?_, ?_⟩
    · intro wx bX kX hk1 hk2 hC hb hd K hK
      have e27 := hd 27 _ _ rfl rfl
      try dsimp only at e27
      obtain ⟨f0, f1⟩ := hC.cells 2 rfl
      obtain ⟨f2, f3⟩ := hC.cells 1 rfl
      obtain ⟨f4, f5⟩ := hC.cells 0 rfl
      simp only [execOp, e27]
      clear hb hd
      go_simp
      exact hK _ hC (Chg.refl _ _)
    refine ex_det 29 [26, 28] rfl rfl (fun _ _ _ _ _ _ _ _ => rfl) ?_
    apply Exists.intro
    refine ⟨?_, ?_⟩
    · intro wx bX kX hk1 hk2 hC hb hd K hK
      have e26 := hd 26 _ _ rfl rfl
      try dsimp only at e26
      have e28 := hd 28 _ _ rfl rfl
      try dsimp only at e28
      simp only [execOp, e26, e28]
      clear hb hd
      go_simp
      exact hK _ hC (Chg.refl _ _)
    refine ex_det 30 [24, 29] rfl rfl (fun _ _ _ _ _ _ _ _ => rfl) ?_
    apply Exists.intro
    refine ⟨?_, ?_⟩
    · intro wx bX kX hk1 hk2 hC hb hd K hK
      have e24 := hd 24 _ _ rfl rfl
      try dsimp only at e24
      have e29 := hd 29 _ _ rfl rfl
      try dsimp only at e29
      simp only [execOp, resolve, List.map_toArray, List.map_cons, List.map_nil, e24, e29]
      clear hb hd
      go_simp
      refine (HM1 _).mono ?_; rintro e w' ⟨rfl, hX⟩
      exact ⟨_, rfl, hK _ (hC.step (j := 0) hX) hX⟩
    refine ex_det 31 [4] rfl rfl (fun _ _ _ _ _ _ _ _ => rfl) ?_
    apply Exists.intro
    refine ⟨?_, ?_⟩
    · intro wx bX kX hk1 hk2 hC hb hd K hK
      have e4 := hb 4 rfl
      simp only [exSlot, List.getD_cons_succ, List.getD_cons_zero] at e4
      simp only [execOp, e4]
      clear hb hd
      go_simp
      exact hK _ hC (Chg.refl _ _)
    refine ex_det 32 [31] rfl rfl (fun _ _ _ _ _ _ _ _ => rfl) ?_
    apply Exists.intro
    refine ⟨?_, ?_⟩
    · intro wx bX kX hk1 hk2 hC hb hd K hK
      have e31 := hd 31 _ _ rfl rfl
      try dsimp only at e31
      obtain ⟨f0, f1⟩ := hC.cells 2 rfl
      obtain ⟨f2, f3⟩ := hC.cells 1 rfl
      obtain ⟨f4, f5⟩ := hC.cells 0 rfl
      simp only [execOp, e31]
      clear hb hd
      go_simp
      exact hK _ hC (Chg.refl _ _)
    refine ex_det 33 [3] rfl rfl (fun _ _ _ _ _ _ _ _ => rfl) ?_
    apply Exists.intro
    refine ⟨?_, ?_⟩
    · intro wx bX kX hk1 hk2 hC hb hd K hK
      have e3 := hb 3 rfl
      simp only [exSlot, List.getD_cons_succ, List.getD_cons_zero] at e3
      simp only [execOp, e3]
      clear hb hd
      go_simp
      exact hK _ hC (Chg.refl _ _)
    refine ex_det 34 [33] rfl rfl (fun _ _ _ _ _ _ _ _ => rfl) ?_
    apply Exists.intro
    refine ⟨?_, ?_⟩
    · intro wx bX kX hk1 hk2 hC hb hd K hK
      have e33 := hd 33 _ _ rfl rfl
      try dsimp only at e33
      obtain ⟨f0, f1⟩ := hC.cells 2 rfl
      obtain ⟨f2, f3⟩ := hC.cells 1 rfl
      obtain ⟨f4, f5⟩ := hC.cells 0 rfl
      simp only [execOp, e33]
      clear hb hd
      go_simp
      exact hK _ hC (Chg.refl _ _)
    refine ex_det 35 [32, 34] rfl rfl (fun _ _ _ _ _ _ _ _ => rfl) ?_
    apply Exists.intro
    refine ⟨?_, ?_⟩
    · intro wx bX kX hk1 hk2 hC hb hd K hK
      have e32 := hd 32 _ _ rfl rfl
      try dsimp only at e32
      have e34 := hd 34 _ _ rfl rfl
      try dsimp only at e34
      simp only [execOp, e32, e34]
      clear hb hd
      go_simp
      exact hK _ hC (Chg.refl _ _)
    refine ex_det 36 [5] rfl rfl (fun _ _ _ _ _ _ _ _ => rfl) ?_
    apply Exists.intro
    refine ⟨?_, ?_⟩
    · intro wx bX kX hk1 hk2 hC hb hd K hK
      have e5 := hb 5 rfl
      simp only [exSlot, List.getD_cons_succ, List.getD_cons_zero] at e5
      simp only [execOp, e5]
      clear hb hd
      go_simp
      exact hK _ hC (Chg.refl _ _)
    refine ex_det 37 [36] rfl rfl (fun _ _ _ _ _ _ _ _ => rfl) ?_
    apply Exists.intro
    refine ⟨?_, ?_⟩
    · intro wx bX kX hk1 hk2 hC hb hd K hK
      have e36 := hd 36 _ _ rfl rfl
      try dsimp only at e36
      obtain ⟨f0, f1⟩ := hC.cells 2 rfl
      obtain ⟨f2, f3⟩ := hC.cells 1 rfl
      obtain ⟨f4, f5⟩ := hC.cells 0 rfl
      simp only [execOp, e36]
      clear hb hd
      go_simp
      exact hK _ hC (Chg.refl _ _)
    refine ex_det 38 [3] rfl rfl (fun _ _ _ _ _ _ _ _ => rfl) ?_
    apply Exists.intro
    refine ⟨?_, ?_⟩
    · intro wx bX kX hk1 hk2 hC hb hd K hK
      have e3 := hb 3 rfl
      simp only [exSlot, List.getD_cons_succ, List.getD_cons_zero] at e3
      simp only [execOp, e3]
      clear hb hd
      go_simp
      exact hK _ hC (Chg.refl _ _)
    refine ex_det 39 [38] rfl rfl (fun _ _ _ _ _ _ _ _ => rfl) ?_
    apply Exists.intro
    refine ⟨?_, ?_⟩
    · intro wx bX kX hk1 hk2 hC hb hd K hK
      have e38 := hd 38 _ _ rfl rfl
      try dsimp only at e38
      obtain ⟨f0, f1⟩ := hC.cells 2 rfl
      obtain ⟨f2, f3⟩ := hC.cells 1 rfl
      obtain ⟨f4, f5⟩ := hC.cells 0 rfl
      simp only [execOp, e38]
      clear hb hd
      go_simp
      exact hK _ hC (Chg.refl _ _)
    refine ex_det 40 [37, 39] rfl rfl (fun _ _ _ _ _ _ _ _ => rfl) ?_
    apply Exists.intro
    refine ⟨?_, ?_⟩
    · intro wx bX kX hk1 hk2 hC hb hd K hK
      have e37 := hd 37 _ _ rfl rfl
      try dsimp only at e37
      have e39 := hd 39 _ _ rfl rfl
      try dsimp only at e39
      simp only [execOp, e37, e39]
      clear hb hd
      go_simp
      exact hK _ hC (Chg.refl _ _)
    refine ex_det 41 [35, 40] rfl rfl (fun _ _ _ _ _ _ _ _ => rfl) ?_
    apply Exists.intro
    refine ⟨?_, ?_⟩
    · intro wx bX kX hk1 hk2 hC hb hd K hK
      have e35 := hd 35 _ _ rfl rfl
      try dsimp only at e35
      have e40 := hd 40 _ _ rfl rfl
      try dsimp only at e40
      simp only [execOp, resolve, List.map_toArray, List.map_cons, List.map_nil, e35, e40]
      clear hb hd
      go_simp
      refine (HM2 _).mono ?_; rintro e w' ⟨rfl, hX⟩
      exact ⟨_, rfl, hK _ (hC.step (j := 0) hX) hX⟩
    refine ex_det 42 [30, 41] rfl rfl (fun _ _ _ _ _ _ _ _ => rfl) ?_
    apply Exists.intro
    refine ⟨?_, ?_⟩
    · intro wx bX kX hk1 hk2 hC hb hd K hK
      have e30 := hd 30 _ _ rfl rfl
      try dsimp only at e30
      have e41 := hd 41 _ _ rfl rfl
      try dsimp only at e41
      simp only [execOp, resolve, List.map_toArray, List.map_cons, List.map_nil, e30, e41]
      clear hb hd
      go_simp
      refine (HCm _).mono ?_; rintro e w' ⟨rfl, hX⟩
      exact ⟨_, rfl, hK _ (hC.step (j := 0) hX) hX⟩
    refine ex_det 6 [42] rfl rfl (fun _ _ _ _ _ _ _ _ => rfl) ?_
    apply Exists.intro
    refine ⟨?_, ?_⟩
    · intro wx bX kX hk1 hk2 hC hb hd K hK
      have e42 := hd 42 _ _ rfl rfl
      try dsimp only at e42
      simp only [execOp, e42]
      clear hb hd
      go_simp
      exact hK _ hC (Chg.refl _ _)
    refine ex_end ?_
    intro us w2 hus hC hall
    obtain ⟨v0, us, rfl⟩ := List.exists_cons_of_length_eq_add_one hus
    replace hus := Nat.succ.inj hus
    obtain ⟨v1, us, rfl⟩ := List.exists_cons_of_length_eq_add_one hus
    replace hus := Nat.succ.inj hus
    obtain ⟨v2, us, rfl⟩ := List.exists_cons_of_length_eq_add_one hus
    replace hus := Nat.succ.inj hus
    obtain ⟨v3, us, rfl⟩ := List.exists_cons_of_length_eq_add_one hus
    replace hus := Nat.succ.inj hus
    obtain ⟨v4, us, rfl⟩ := List.exists_cons_of_length_eq_add_one hus
    replace hus := Nat.succ.inj hus
    obtain ⟨v5, us, rfl⟩ := List.exists_cons_of_length_eq_add_one hus
    replace hus := Nat.succ.inj hus
    obtain ⟨v6, us, rfl⟩ := List.exists_cons_of_length_eq_add_one hus
    replace hus := Nat.succ.inj hus
    obtain ⟨v7, us, rfl⟩ := List.exists_cons_of_length_eq_add_one hus
    replace hus := Nat.succ.inj hus
    obtain ⟨v8, us, rfl⟩ := List.exists_cons_of_length_eq_add_one hus
    replace hus := Nat.succ.inj hus
    obtain ⟨v9, us, rfl⟩ := List.exists_cons_of_length_eq_add_one hus
    replace hus := Nat.succ.inj hus
    obtain ⟨v10, us, rfl⟩ := List.exists_cons_of_length_eq_add_one hus
    replace hus := Nat.succ.inj hus
    obtain ⟨v11, us, rfl⟩ := List.exists_cons_of_length_eq_add_one hus
    replace hus := Nat.succ.inj hus
    obtain ⟨v12, us, rfl⟩ := List.exists_cons_of_length_eq_add_one hus
    replace hus := Nat.succ.inj hus
    obtain ⟨v13, us, rfl⟩ := List.exists_cons_of_length_eq_add_one hus
    replace hus := Nat.succ.inj hus
    obtain ⟨v14, us, rfl⟩ := List.exists_cons_of_length_eq_add_one hus
    replace hus := Nat.succ.inj hus
    obtain ⟨v15, us, rfl⟩ := List.exists_cons_of_length_eq_add_one hus
    replace hus := Nat.succ.inj hus
    obtain ⟨v16, us, rfl⟩ := List.exists_cons_of_length_eq_add_one hus
    replace hus := Nat.succ.inj hus
    obtain ⟨v17, us, rfl⟩ := List.exists_cons_of_length_eq_add_one hus
    replace hus := Nat.succ.inj hus
    obtain ⟨v18, us, rfl⟩ := List.exists_cons_of_length_eq_add_one hus
    replace hus := Nat.succ.inj hus
    obtain ⟨v19, us, rfl⟩ := List.exists_cons_of_length_eq_add_one hus
    replace hus := Nat.succ.inj hus
    obtain ⟨v20, us, rfl⟩ := List.exists_cons_of_length_eq_add_one hus
    replace hus := Nat.succ.inj hus
    obtain ⟨v21, us, rfl⟩ := List.exists_cons_of_length_eq_add_one hus
    replace hus := Nat.succ.inj hus
    obtain ⟨v22, us, rfl⟩ := List.exists_cons_of_length_eq_add_one hus
    replace hus := Nat.succ.inj hus
    obtain ⟨v23, us, rfl⟩ := List.exists_cons_of_length_eq_add_one hus
    replace hus := Nat.succ.inj hus
    obtain rfl := List.length_eq_zero_iff.1 hus
    clear hus
    generalize hbb : exPuts _ _ _ = bb at hall ⊢
    simp only [exPuts, Act.put, List.setIfInBounds_toArray, List.set_cons_succ, List.set_cons_zero] at hbb
    subst hbb
    obtain ⟨h23, h22, h21, h20, h19, h18, h17, h16, h15, h14, h13, h12, h11, h10, h9, h8, h7, h6, h5, h4, h3, h2, h1, h0, -⟩ := hall
    obtain rfl : v0 = _ := h0
    obtain rfl : v1 = _ := h1
    obtain rfl : v2 = _ := h2
    obtain rfl : v3 = _ := h3
    obtain rfl : v4 = _ := h4
    obtain rfl : v5 = _ := h5
    obtain rfl : v6 = _ := h6
    obtain rfl : v7 = _ := h7
    obtain rfl : v8 = _ := h8
    obtain rfl : v9 = _ := h9
    obtain rfl : v10 = _ := h10
    obtain rfl : v11 = _ := h11
    obtain rfl : v12 = _ := h12
    obtain rfl : v13 = _ := h13
    obtain rfl : v14 = _ := h14
    obtain rfl : v15 = _ := h15
    obtain rfl : v16 = _ := h16
    obtain rfl : v17 = _ := h17
    obtain rfl : v18 = _ := h18
    obtain rfl : v19 = _ := h19
    obtain rfl : v20 = _ := h20
    obtain rfl : v21 = _ := h21
    obtain rfl : v22 = _ := h22
    obtain rfl : v23 = _ := h23
    go_wp2
    go_returns
    exact ⟨by rw [Ht2.out]; rfl, hC.x⟩
  · have Ht2 : Hid (turnV a b c = 0) := Lib.hid (by rw [Ht.out, if_neg hok])
    have Hn := Lib.hid hok
    clear hok Ht
    generalize turnV a b c = t at *
    generalize a.ok = r0 at *
    generalize b.ok = r1 at *
    generalize c.ok = r2 at *
    go_enter Tryz.func91, Tryz.ntmps91
    go_wp2_with fail
    refine (HR0 _).mono ?_; rintro e w' ⟨rfl, hX⟩
    replace hC := (hC).step (j := 0) hX
    clear hX
    clear f0 f1 f2 f3 f4 f5
    obtain ⟨f0, f1⟩ := hC.cells 2 rfl
    obtain ⟨f2, f3⟩ := hC.cells 1 rfl
    obtain ⟨f4, f5⟩ := hC.cells 0 rfl
    cases r0 with
    | false =>
      go_wp2
      go_returns
      exact ⟨by rw [Ht2.out]; rfl, hC.x⟩
    | true =>
      go_wp2_with fail
      refine (HR1 _).mono ?_; rintro e w' ⟨rfl, hX⟩
      replace hC := (hC).step (j := 0) hX
      clear hX
      clear f0 f1 f2 f3 f4 f5
      obtain ⟨f0, f1⟩ := hC.cells 2 rfl
      obtain ⟨f2, f3⟩ := hC.cells 1 rfl
      obtain ⟨f4, f5⟩ := hC.cells 0 rfl
      cases r1 with
      | false =>
        go_wp2
        go_returns
        exact ⟨by rw [Ht2.out]; rfl, hC.x⟩
      | true =>
        go_wp2_with fail
        refine (HR2 _).mono ?_; rintro e w' ⟨rfl, hX⟩
        replace hC := (hC).step (j := 0) hX
        clear hX
        clear f0 f1 f2 f3 f4 f5
        obtain ⟨f0, f1⟩ := hC.cells 2 rfl
        obtain ⟨f2, f3⟩ := hC.cells 1 rfl
        obtain ⟨f4, f5⟩ := hC.cells 0 rfl
        cases r2 with
        | false =>
          go_wp2
          go_returns
          exact ⟨by rw [Ht2.out]; rfl, hC.x⟩
        | true =>
          exact absurd rfl Hn.out
set_option maxHeartbeats 4000000 in
set_option maxRecDepth 10000 in
theorem ron_any (W : World) (p a b : PtV) : Calls Tryz.prog 79 #[.agg #[.int .i64 p.x, .int .i64 p.y], .agg #[.int .i64 a.x, .int .i64 a.y], .agg #[.int .i64 b.x, .int .i64 b.y]] W fun e w' => e = .returned (.bool (onB p a b)) ∧ Chg [] W w' := by
  have hC := (((CL.new W 0).push #[.int .i64 p.x, .int .i64 p.y] 53).push #[.int .i64 a.x, .int .i64 a.y] 53).push #[.int .i64 b.x, .int .i64 b.y] 53
  try simp only [alloc_sz] at hC
  obtain ⟨f0, f1⟩ := hC.cells 2 rfl
  obtain ⟨f2, f3⟩ := hC.cells 1 rfl
  obtain ⟨f4, f5⟩ := hC.cells 0 rfl
  have HR0 := fun w => rright_any w a
  have HR1 := fun w => rright_any w b
  have HR2 := fun w => rright_any w p
  have HT := fun w => rturn_any w a b p
  have Ho := Lib.hid (show onB p a b = ((p.ok && (a.ok && b.ok)) && ((turnV a b p == 0) && (btw p.x a.x b.x && btw p.y a.y b.y))) from rfl)
  generalize onB p a b = R at *
  generalize turnV a b p = t at *
  generalize a.ok = r0 at *
  generalize b.ok = r1 at *
  generalize p.ok = r2 at *
  go_enter Tryz.func79, Tryz.ntmps79
  go_wp2_with fail
  refine (HR0 _).mono ?_; rintro e w' ⟨rfl, hX⟩
  replace hC := (hC).step (j := 0) hX
  clear hX
  clear f0 f1 f2 f3 f4 f5
  obtain ⟨f0, f1⟩ := hC.cells 2 rfl
  obtain ⟨f2, f3⟩ := hC.cells 1 rfl
  obtain ⟨f4, f5⟩ := hC.cells 0 rfl
  cases r0 with
  | false =>
    go_wp2
    all_goals go_returns
    all_goals exact ⟨ret_bool (by rw [Ho.out]; simp), hC.x⟩
  | true =>
    go_wp2_with fail
    refine (HR1 _).mono ?_; rintro e w' ⟨rfl, hX⟩
    replace hC := (hC).step (j := 0) hX
    clear hX
    clear f0 f1 f2 f3 f4 f5
    obtain ⟨f0, f1⟩ := hC.cells 2 rfl
    obtain ⟨f2, f3⟩ := hC.cells 1 rfl
    obtain ⟨f4, f5⟩ := hC.cells 0 rfl
    cases r1 with
    | false =>
      go_wp2
      all_goals go_returns
      all_goals exact ⟨ret_bool (by rw [Ho.out]; simp), hC.x⟩
    | true =>
      go_wp2_with fail
      refine (HR2 _).mono ?_; rintro e w' ⟨rfl, hX⟩
      replace hC := (hC).step (j := 0) hX
      clear hX
      clear f0 f1 f2 f3 f4 f5
      obtain ⟨f0, f1⟩ := hC.cells 2 rfl
      obtain ⟨f2, f3⟩ := hC.cells 1 rfl
      obtain ⟨f4, f5⟩ := hC.cells 0 rfl
      cases r2 with
      | false =>
        go_wp2
        all_goals go_returns
        all_goals exact ⟨ret_bool (by rw [Ho.out]; simp), hC.x⟩
      | true =>
        go_wp2_with fail
        refine (HT _).mono ?_; rintro e w' ⟨rfl, hX⟩
        replace hC := (hC).step (j := 0) hX
        clear hX
        clear f0 f1 f2 f3 f4 f5
        obtain ⟨f0, f1⟩ := hC.cells 2 rfl
        obtain ⟨f2, f3⟩ := hC.cells 1 rfl
        obtain ⟨f4, f5⟩ := hC.cells 0 rfl
        by_cases hB : t = 0
        · subst hB
          by_cases h0 : min a.x b.x ≤ p.x
          · by_cases h1 : p.x ≤ max a.x b.x
            · by_cases h2 : min a.y b.y ≤ p.y
              · by_cases h3 : p.y ≤ max a.y b.y
                · go_wp2
                  all_goals go_returns
                  all_goals exact ⟨ret_bool (by rw [Ho.out]; first | (simp [btw, *]; done) | (simp [btw]; omega)), hC.x⟩
                · go_wp2
                  all_goals go_returns
                  all_goals exact ⟨ret_bool (by rw [Ho.out]; first | (simp [btw, *]; done) | (simp [btw]; omega)), hC.x⟩
              · go_wp2
                all_goals go_returns
                all_goals exact ⟨ret_bool (by rw [Ho.out]; first | (simp [btw, *]; done) | (simp [btw]; omega)), hC.x⟩
            · go_wp2
              all_goals go_returns
              all_goals exact ⟨ret_bool (by rw [Ho.out]; first | (simp [btw, *]; done) | (simp [btw]; omega)), hC.x⟩
          · go_wp2
            all_goals go_returns
            all_goals exact ⟨ret_bool (by rw [Ho.out]; first | (simp [btw, *]; done) | (simp [btw]; omega)), hC.x⟩
        · have hB2 : (t == 0) = false := by simp [hB]
          go_wp2
          all_goals go_returns
          all_goals exact ⟨ret_bool (by rw [Ho.out]; first | (simp [btw, *]; done) | (simp [btw]; omega)), hC.x⟩
set_option maxHeartbeats 4000000 in
set_option maxRecDepth 10000 in
theorem rmeet_any (W : World) (a b c d : PtV) : Calls Tryz.prog 80 #[.agg #[.int .i64 a.x, .int .i64 a.y], .agg #[.int .i64 b.x, .int .i64 b.y], .agg #[.int .i64 c.x, .int .i64 c.y], .agg #[.int .i64 d.x, .int .i64 d.y]] W fun e w' => e = .returned (.bool (meetB a b c d)) ∧ Chg [] W w' := by
  have hC := ((((CL.new W 0).push #[.int .i64 a.x, .int .i64 a.y] 53).push #[.int .i64 b.x, .int .i64 b.y] 53).push #[.int .i64 c.x, .int .i64 c.y] 53).push #[.int .i64 d.x, .int .i64 d.y] 53
  try simp only [alloc_sz] at hC
  obtain ⟨f0, f1⟩ := hC.cells 3 rfl
  obtain ⟨f2, f3⟩ := hC.cells 2 rfl
  obtain ⟨f4, f5⟩ := hC.cells 1 rfl
  obtain ⟨f6, f7⟩ := hC.cells 0 rfl
  have HR0 := fun w => rright_any w a
  have HR1 := fun w => rright_any w b
  have HR2 := fun w => rright_any w c
  have HR3 := fun w => rright_any w d
  have HO1 := fun w => ron_any w a c d
  have HO2 := fun w => ron_any w b c d
  have HO3 := fun w => ron_any w c a b
  have HO4 := fun w => ron_any w d a b
  have HT1 := fun w => rturn_any w a b c
  have HT2 := fun w => rturn_any w a b d
  have HT3 := fun w => rturn_any w c d a
  have HT4 := fun w => rturn_any w c d b
  have q1 := mul_sg _ _ (turnV_bd a b c) (turnV_bd a b d)
  have q2 := mul_sg _ _ (turnV_bd c d a) (turnV_bd c d b)
  have Ho := Lib.hid (show meetB a b c d = ((a.ok && (b.ok && (c.ok && d.ok))) && ((onB a c d || (onB b c d || (onB c a b || onB d a b))) || (decide (turnV a b c * turnV a b d < 0) && decide (turnV c d a * turnV c d b < 0)))) from rfl)
  generalize meetB a b c d = R at *
  generalize onB a c d = o1 at *
  generalize onB b c d = o2 at *
  generalize onB c a b = o3 at *
  generalize onB d a b = o4 at *
  generalize turnV a b c = t1 at *
  generalize turnV a b d = t2 at *
  generalize turnV c d a = t3 at *
  generalize turnV c d b = t4 at *
  generalize hm1 : t1 * t2 = m1 at *
  generalize hm2 : t3 * t4 = m2 at *
  generalize a.ok = r0 at *
  generalize b.ok = r1 at *
  generalize c.ok = r2 at *
  generalize d.ok = r3 at *
  go_enter Tryz.func80, Tryz.ntmps80
  go_wp2_with fail
  refine (HR0 _).mono ?_; rintro e w' ⟨rfl, hX⟩
  replace hC := (hC).step (j := 0) hX
  clear hX
  clear f0 f1 f2 f3 f4 f5 f6 f7
  obtain ⟨f0, f1⟩ := hC.cells 3 rfl
  obtain ⟨f2, f3⟩ := hC.cells 2 rfl
  obtain ⟨f4, f5⟩ := hC.cells 1 rfl
  obtain ⟨f6, f7⟩ := hC.cells 0 rfl
  cases r0 with
  | false =>
    go_wp2
    all_goals go_returns
    all_goals exact ⟨ret_bool (by rw [Ho.out]; simp), hC.x⟩
  | true =>
    go_wp2_with fail
    refine (HR1 _).mono ?_; rintro e w' ⟨rfl, hX⟩
    replace hC := (hC).step (j := 0) hX
    clear hX
    clear f0 f1 f2 f3 f4 f5 f6 f7
    obtain ⟨f0, f1⟩ := hC.cells 3 rfl
    obtain ⟨f2, f3⟩ := hC.cells 2 rfl
    obtain ⟨f4, f5⟩ := hC.cells 1 rfl
    obtain ⟨f6, f7⟩ := hC.cells 0 rfl
    cases r1 with
    | false =>
      go_wp2
      all_goals go_returns
      all_goals exact ⟨ret_bool (by rw [Ho.out]; simp), hC.x⟩
    | true =>
      go_wp2_with fail
      refine (HR2 _).mono ?_; rintro e w' ⟨rfl, hX⟩
      replace hC := (hC).step (j := 0) hX
      clear hX
      clear f0 f1 f2 f3 f4 f5 f6 f7
      obtain ⟨f0, f1⟩ := hC.cells 3 rfl
      obtain ⟨f2, f3⟩ := hC.cells 2 rfl
      obtain ⟨f4, f5⟩ := hC.cells 1 rfl
      obtain ⟨f6, f7⟩ := hC.cells 0 rfl
      cases r2 with
      | false =>
        go_wp2
        all_goals go_returns
        all_goals exact ⟨ret_bool (by rw [Ho.out]; simp), hC.x⟩
      | true =>
        go_wp2_with fail
        refine (HR3 _).mono ?_; rintro e w' ⟨rfl, hX⟩
        replace hC := (hC).step (j := 0) hX
        clear hX
        clear f0 f1 f2 f3 f4 f5 f6 f7
        obtain ⟨f0, f1⟩ := hC.cells 3 rfl
        obtain ⟨f2, f3⟩ := hC.cells 2 rfl
        obtain ⟨f4, f5⟩ := hC.cells 1 rfl
        obtain ⟨f6, f7⟩ := hC.cells 0 rfl
        cases r3 with
        | false =>
          go_wp2
          all_goals go_returns
          all_goals exact ⟨ret_bool (by rw [Ho.out]; simp), hC.x⟩
        | true =>
          go_wp2_with fail
          refine (HO1 _).mono ?_; rintro e w' ⟨rfl, hX⟩
          replace hC := (hC).step (j := 0) hX
          clear hX
          clear f0 f1 f2 f3 f4 f5 f6 f7
          obtain ⟨f0, f1⟩ := hC.cells 3 rfl
          obtain ⟨f2, f3⟩ := hC.cells 2 rfl
          obtain ⟨f4, f5⟩ := hC.cells 1 rfl
          obtain ⟨f6, f7⟩ := hC.cells 0 rfl
          cases o1 with
          | false =>
            go_wp2_with fail
            refine (HO2 _).mono ?_; rintro e w' ⟨rfl, hX⟩
            replace hC := (hC).step (j := 0) hX
            clear hX
            clear f0 f1 f2 f3 f4 f5 f6 f7
            obtain ⟨f0, f1⟩ := hC.cells 3 rfl
            obtain ⟨f2, f3⟩ := hC.cells 2 rfl
            obtain ⟨f4, f5⟩ := hC.cells 1 rfl
            obtain ⟨f6, f7⟩ := hC.cells 0 rfl
            cases o2 with
            | false =>
              go_wp2_with fail
              refine (HO3 _).mono ?_; rintro e w' ⟨rfl, hX⟩
              replace hC := (hC).step (j := 0) hX
              clear hX
              clear f0 f1 f2 f3 f4 f5 f6 f7
              obtain ⟨f0, f1⟩ := hC.cells 3 rfl
              obtain ⟨f2, f3⟩ := hC.cells 2 rfl
              obtain ⟨f4, f5⟩ := hC.cells 1 rfl
              obtain ⟨f6, f7⟩ := hC.cells 0 rfl
              cases o3 with
              | false =>
                go_wp2_with fail
                refine (HO4 _).mono ?_; rintro e w' ⟨rfl, hX⟩
                replace hC := (hC).step (j := 0) hX
                clear hX
                clear f0 f1 f2 f3 f4 f5 f6 f7
                obtain ⟨f0, f1⟩ := hC.cells 3 rfl
                obtain ⟨f2, f3⟩ := hC.cells 2 rfl
                obtain ⟨f4, f5⟩ := hC.cells 1 rfl
                obtain ⟨f6, f7⟩ := hC.cells 0 rfl
                cases o4 with
                | false =>
                  go_upto_region 5 with fail
                  clear f0 f1 f2 f3 f4 f5 f6 f7
                  cases hs1 : decide (m1 < 0) with
                  | false =>
                    refine wp_region_ex (fun k w => CL W [(W.heap.size + 1 + 1 + 1, #[.int .i64 d.x, .int .i64 d.y]), (W.heap.size + 1 + 1, #[.int .i64 c.x, .int .i64 c.y]), (W.heap.size + 1, #[.int .i64 b.x, .int .i64 b.y]), (W.heap.size, #[.int .i64 a.x, .int .i64 a.y])] 0 w) (fun _ => Chg []) [3, 7] [(0, 0, false), (0, 0, false), (0, 0, false), (0, 0, true), (0, 1, false), (0, 1, false), (0, 1, false), (1, 1, true), (2, 2, false), (2, 2, false), (2, 2, false), (2, 2, false), (2, 2, false), (2, 2, false), (2, 2, false), (2, 2, false), (2, 2, false), (2, 2, false), (2, 2, false), (2, 2, false), (2, 2, false), (2, 2, false), (2, 2, false)] [49, 50, 51, 52, 53, 54, 55, 56, 57, 58, 59, 60, 61, 62, 63, 64, 65, 66, 67, 68, 69, 70, 8] (by kernel_rfl) rfl (by kernel_rfl) (by kernel_rfl) (hC.drew) ?_
                    simp only [List.zip_cons_cons, List.zip_nil_right]
                    refine ex_det 49 [4] rfl rfl (fun _ _ _ _ _ _ _ _ => rfl) ?_
                    apply Exists.intro
                    refine ⟨?_, ?_⟩
                    · intro wx bX kX hk1 hk2 hC hb hd K hK
                      have e4 := hb 4 rfl
                      simp only [exSlot, List.getD_cons_succ, List.getD_cons_zero] at e4
                      obtain ⟨f0, f1⟩ := hC.cells 3 rfl
                      obtain ⟨f2, f3⟩ := hC.cells 2 rfl
                      obtain ⟨f4, f5⟩ := hC.cells 1 rfl
                      obtain ⟨f6, f7⟩ := hC.cells 0 rfl
                      simp only [execOp, e4]
                      clear hb hd
                      go_simp
                      exact hK _ hC (Chg.refl _ _)
                    refine ex_det 50 [5] rfl rfl (fun _ _ _ _ _ _ _ _ => rfl) ?_
                    apply Exists.intro
                    refine ⟨?_, ?_⟩
                    · intro wx bX kX hk1 hk2 hC hb hd K hK
                      have e5 := hb 5 rfl
                      simp only [exSlot, List.getD_cons_succ, List.getD_cons_zero] at e5
                      obtain ⟨f0, f1⟩ := hC.cells 3 rfl
                      obtain ⟨f2, f3⟩ := hC.cells 2 rfl
                      obtain ⟨f4, f5⟩ := hC.cells 1 rfl
                      obtain ⟨f6, f7⟩ := hC.cells 0 rfl
                      simp only [execOp, e5]
                      clear hb hd
                      go_simp
                      exact hK _ hC (Chg.refl _ _)
                    refine ex_det 51 [6] rfl rfl (fun _ _ _ _ _ _ _ _ => rfl) ?_
                    apply Exists.intro
                    refine ⟨?_, ?_⟩
                    · intro wx bX kX hk1 hk2 hC hb hd K hK
                      have e6 := hb 6 rfl
                      simp only [exSlot, List.getD_cons_succ, List.getD_cons_zero] at e6
                      obtain ⟨f0, f1⟩ := hC.cells 3 rfl
                      obtain ⟨f2, f3⟩ := hC.cells 2 rfl
                      obtain ⟨f4, f5⟩ := hC.cells 1 rfl
                      obtain ⟨f6, f7⟩ := hC.cells 0 rfl
                      simp only [execOp, e6]
                      clear hb hd
                      go_simp
                      exact hK _ hC (Chg.refl _ _)
                    refine ex_det 52 [49, 50, 51] rfl rfl (fun _ _ _ _ _ _ _ _ => rfl) ?_
                    apply Exists.intro
                    refine ⟨?_, ?_⟩
                    · intro wx bX kX hk1 hk2 hC hb hd K hK
                      have e49 := hd 49 _ _ rfl rfl
                      try dsimp only at e49
                      have e50 := hd 50 _ _ rfl rfl
                      try dsimp only at e50
                      have e51 := hd 51 _ _ rfl rfl
                      try dsimp only at e51
                      simp only [execOp, resolve, List.map_toArray, List.map_cons, List.map_nil, e49, e50, e51]
                      clear hb hd
                      go_simp
                      refine (HT1 _).mono ?_; rintro e w' ⟨rfl, hX⟩
                      exact ⟨_, rfl, hK _ (hC.step (j := 0) hX) hX⟩
                    refine ex_det 53 [4] rfl rfl (fun _ _ _ _ _ _ _ _ => rfl) ?_
                    apply Exists.intro
                    refine ⟨?_, ?_⟩
                    · intro wx bX kX hk1 hk2 hC hb hd K hK
                      have e4 := hb 4 rfl
                      simp only [exSlot, List.getD_cons_succ, List.getD_cons_zero] at e4
                      obtain ⟨f0, f1⟩ := hC.cells 3 rfl
                      obtain ⟨f2, f3⟩ := hC.cells 2 rfl
                      obtain ⟨f4, f5⟩ := hC.cells 1 rfl
                      obtain ⟨f6, f7⟩ := hC.cells 0 rfl
                      simp only [execOp, e4]
                      clear hb hd
                      go_simp
                      exact hK _ hC (Chg.refl _ _)
                    refine ex_det 54 [5] rfl rfl (fun _ _ _ _ _ _ _ _ => rfl) ?_
                    apply Exists.intro
                    refine ⟨?_, ?_⟩
                    · intro wx bX kX hk1 hk2 hC hb hd K hK
                      have e5 := hb 5 rfl
                      simp only [exSlot, List.getD_cons_succ, List.getD_cons_zero] at e5
                      obtain ⟨f0, f1⟩ := hC.cells 3 rfl
                      obtain ⟨f2, f3⟩ := hC.cells 2 rfl
                      obtain ⟨f4, f5⟩ := hC.cells 1 rfl
                      obtain ⟨f6, f7⟩ := hC.cells 0 rfl
                      simp only [execOp, e5]
                      clear hb hd
                      go_simp
                      exact hK _ hC (Chg.refl _ _)
                    refine ex_det 55 [7] rfl rfl (fun _ _ _ _ _ _ _ _ => rfl) ?_
                    apply Exists.intro
                    refine ⟨?_, ?_⟩
                    · intro wx bX kX hk1 hk2 hC hb hd K hK
                      have e7 := hb 7 rfl
                      simp only [exSlot, List.getD_cons_succ, List.getD_cons_zero] at e7
                      obtain ⟨f0, f1⟩ := hC.cells 3 rfl
                      obtain ⟨f2, f3⟩ := hC.cells 2 rfl
                      obtain ⟨f4, f5⟩ := hC.cells 1 rfl
                      obtain ⟨f6, f7⟩ := hC.cells 0 rfl
                      simp only [execOp, e7]
                      clear hb hd
                      go_simp
                      exact hK _ hC (Chg.refl _ _)
                    refine ex_det 56 [53, 54, 55] rfl rfl (fun _ _ _ _ _ _ _ _ => rfl) ?_
                    apply Exists.intro
                    refine ⟨?_, ?_⟩
                    · intro wx bX kX hk1 hk2 hC hb hd K hK
                      have e53 := hd 53 _ _ rfl rfl
                      try dsimp only at e53
                      have e54 := hd 54 _ _ rfl rfl
                      try dsimp only at e54
                      have e55 := hd 55 _ _ rfl rfl
                      try dsimp only at e55
                      simp only [execOp, resolve, List.map_toArray, List.map_cons, List.map_nil, e53, e54, e55]
                      clear hb hd
                      go_simp
                      refine (HT2 _).mono ?_; rintro e w' ⟨rfl, hX⟩
                      exact ⟨_, rfl, hK _ (hC.step (j := 0) hX) hX⟩
                    refine ex_det 57 [52, 56] rfl rfl (fun _ _ _ _ _ _ _ _ => rfl) ?_
                    apply Exists.intro
                    refine ⟨?_, ?_⟩
                    · intro wx bX kX hk1 hk2 hC hb hd K hK
                      have e52 := hd 52 _ _ rfl rfl
                      try dsimp only at e52
                      have e56 := hd 56 _ _ rfl rfl
                      try dsimp only at e56
                      simp only [execOp, e52, e56]
                      clear hb hd
                      go_simp
                      exact hK _ hC (Chg.refl _ _)
                    refine ex_det 58 [57] rfl rfl (fun _ _ _ _ _ _ _ _ => rfl) ?_
                    apply Exists.intro
                    refine ⟨?_, ?_⟩
                    · intro wx bX kX hk1 hk2 hC hb hd K hK
                      have e57 := hd 57 _ _ rfl rfl
                      try dsimp only at e57
                      simp only [execOp, e57]
                      clear hb hd
                      go_simp
                      exact hK _ hC (Chg.refl _ _)
                    refine ex_det 59 [58] rfl rfl (fun _ _ _ _ _ _ _ _ => rfl) ?_
                    apply Exists.intro
                    refine ⟨?_, ?_⟩
                    · intro wx bX kX hk1 hk2 hC hb hd K hK
                      have e58 := hd 58 _ _ rfl rfl
                      try dsimp only at e58
                      simp only [execOp, e58]
                      clear hb hd
                      go_simp
                      exact hK _ hC (Chg.refl _ _)
                    refine ex_pass 60 [6, 59] rfl rfl (fun _ _ => Chg.refl _ _) (fun _ b _ _ _ _ hb hd => (wanted_guard b rfl rfl (hd 59 _ _ rfl rfl)).trans rfl) ?_
                    refine ex_pass 61 [7, 59] rfl rfl (fun _ _ => Chg.refl _ _) (fun _ b _ _ _ _ hb hd => (wanted_guard b rfl rfl (hd 59 _ _ rfl rfl)).trans rfl) ?_
                    refine ex_pass 62 [4, 59] rfl rfl (fun _ _ => Chg.refl _ _) (fun _ b _ _ _ _ hb hd => (wanted_guard b rfl rfl (hd 59 _ _ rfl rfl)).trans rfl) ?_
                    refine ex_pass 63 [60, 61, 62, 59] rfl rfl (fun _ _ => Chg.refl _ _) (fun _ b _ _ _ _ hb hd => (wanted_guard b rfl rfl (hd 59 _ _ rfl rfl)).trans rfl) ?_
                    refine ex_pass 64 [6, 59] rfl rfl (fun _ _ => Chg.refl _ _) (fun _ b _ _ _ _ hb hd => (wanted_guard b rfl rfl (hd 59 _ _ rfl rfl)).trans rfl) ?_
                    refine ex_pass 65 [7, 59] rfl rfl (fun _ _ => Chg.refl _ _) (fun _ b _ _ _ _ hb hd => (wanted_guard b rfl rfl (hd 59 _ _ rfl rfl)).trans rfl) ?_
                    refine ex_pass 66 [5, 59] rfl rfl (fun _ _ => Chg.refl _ _) (fun _ b _ _ _ _ hb hd => (wanted_guard b rfl rfl (hd 59 _ _ rfl rfl)).trans rfl) ?_
                    refine ex_pass 67 [64, 65, 66, 59] rfl rfl (fun _ _ => Chg.refl _ _) (fun _ b _ _ _ _ hb hd => (wanted_guard b rfl rfl (hd 59 _ _ rfl rfl)).trans rfl) ?_
                    refine ex_pass 68 [63, 67, 59] rfl rfl (fun _ _ => Chg.refl _ _) (fun _ b _ _ _ _ hb hd => (wanted_guard b rfl rfl (hd 59 _ _ rfl rfl)).trans rfl) ?_
                    refine ex_pass 69 [68, 59] rfl rfl (fun _ _ => Chg.refl _ _) (fun _ b _ _ _ _ hb hd => (wanted_guard b rfl rfl (hd 59 _ _ rfl rfl)).trans rfl) ?_
                    refine ex_det 70 [59, 69] rfl rfl (fun _ _ _ _ _ _ _ _ => rfl) ?_
                    apply Exists.intro
                    refine ⟨?_, ?_⟩
                    · intro wx bX kX hk1 hk2 hC hb hd K hK
                      have e59 := hd 59 _ _ rfl rfl
                      try dsimp only at e59
                      have e69 := hd 69 _ _ rfl rfl
                      try dsimp only at e69
                      simp only [execOp, e59, e69]
                      clear hb hd
                      go_simp
                      exact hK _ hC (Chg.refl _ _)
                    refine ex_det 8 [70] rfl rfl (fun _ _ _ _ _ _ _ _ => rfl) ?_
                    apply Exists.intro
                    refine ⟨?_, ?_⟩
                    · intro wx bX kX hk1 hk2 hC hb hd K hK
                      have e70 := hd 70 _ _ rfl rfl
                      try dsimp only at e70
                      simp only [execOp, e70]
                      clear hb hd
                      go_simp
                      exact hK _ hC (Chg.refl _ _)
                    refine ex_end ?_
                    intro us w2 hus hC hall
                    obtain ⟨v0, us, rfl⟩ := List.exists_cons_of_length_eq_add_one hus
                    replace hus := Nat.succ.inj hus
                    obtain ⟨v1, us, rfl⟩ := List.exists_cons_of_length_eq_add_one hus
                    replace hus := Nat.succ.inj hus
                    obtain ⟨v2, us, rfl⟩ := List.exists_cons_of_length_eq_add_one hus
                    replace hus := Nat.succ.inj hus
                    obtain ⟨v3, us, rfl⟩ := List.exists_cons_of_length_eq_add_one hus
                    replace hus := Nat.succ.inj hus
                    obtain ⟨v4, us, rfl⟩ := List.exists_cons_of_length_eq_add_one hus
                    replace hus := Nat.succ.inj hus
                    obtain ⟨v5, us, rfl⟩ := List.exists_cons_of_length_eq_add_one hus
                    replace hus := Nat.succ.inj hus
                    obtain ⟨v6, us, rfl⟩ := List.exists_cons_of_length_eq_add_one hus
                    replace hus := Nat.succ.inj hus
                    obtain ⟨v7, us, rfl⟩ := List.exists_cons_of_length_eq_add_one hus
                    replace hus := Nat.succ.inj hus
                    obtain ⟨v8, us, rfl⟩ := List.exists_cons_of_length_eq_add_one hus
                    replace hus := Nat.succ.inj hus
                    obtain ⟨v9, us, rfl⟩ := List.exists_cons_of_length_eq_add_one hus
                    replace hus := Nat.succ.inj hus
                    obtain ⟨v10, us, rfl⟩ := List.exists_cons_of_length_eq_add_one hus
                    replace hus := Nat.succ.inj hus
                    obtain ⟨v11, us, rfl⟩ := List.exists_cons_of_length_eq_add_one hus
                    replace hus := Nat.succ.inj hus
                    obtain ⟨v12, us, rfl⟩ := List.exists_cons_of_length_eq_add_one hus
                    replace hus := Nat.succ.inj hus
                    obtain ⟨v13, us, rfl⟩ := List.exists_cons_of_length_eq_add_one hus
                    replace hus := Nat.succ.inj hus
                    obtain ⟨v14, us, rfl⟩ := List.exists_cons_of_length_eq_add_one hus
                    replace hus := Nat.succ.inj hus
                    obtain ⟨v15, us, rfl⟩ := List.exists_cons_of_length_eq_add_one hus
                    replace hus := Nat.succ.inj hus
                    obtain ⟨v16, us, rfl⟩ := List.exists_cons_of_length_eq_add_one hus
                    replace hus := Nat.succ.inj hus
                    obtain ⟨v17, us, rfl⟩ := List.exists_cons_of_length_eq_add_one hus
                    replace hus := Nat.succ.inj hus
                    obtain ⟨v18, us, rfl⟩ := List.exists_cons_of_length_eq_add_one hus
                    replace hus := Nat.succ.inj hus
                    obtain ⟨v19, us, rfl⟩ := List.exists_cons_of_length_eq_add_one hus
                    replace hus := Nat.succ.inj hus
                    obtain ⟨v20, us, rfl⟩ := List.exists_cons_of_length_eq_add_one hus
                    replace hus := Nat.succ.inj hus
                    obtain ⟨v21, us, rfl⟩ := List.exists_cons_of_length_eq_add_one hus
                    replace hus := Nat.succ.inj hus
                    obtain ⟨v22, us, rfl⟩ := List.exists_cons_of_length_eq_add_one hus
                    replace hus := Nat.succ.inj hus
                    obtain rfl := List.length_eq_zero_iff.1 hus
                    clear hus
                    generalize hbb : exPuts _ _ _ = bb at hall ⊢
                    simp only [exPuts, Act.put, List.setIfInBounds_toArray, List.set_cons_succ, List.set_cons_zero] at hbb
                    subst hbb
                    obtain ⟨h22, h21, h20, h19, h18, h17, h16, h15, h14, h13, h12, h11, h10, h9, h8, h7, h6, h5, h4, h3, h2, h1, h0, -⟩ := hall
                    obtain rfl : v0 = _ := h0
                    obtain rfl : v1 = _ := h1
                    obtain rfl : v2 = _ := h2
                    obtain rfl : v3 = _ := h3
                    obtain rfl : v4 = _ := h4
                    obtain rfl : v5 = _ := h5
                    obtain rfl : v6 = _ := h6
                    obtain rfl : v7 = _ := h7
                    obtain rfl : v8 = _ := h8
                    obtain rfl : v9 = _ := h9
                    obtain rfl : v10 = _ := h10
                    obtain rfl : v11 = _ := h11
                    obtain rfl : v12 = _ := h12
                    obtain rfl : v13 = _ := h13
                    obtain rfl : v14 = _ := h14
                    obtain rfl : v15 = _ := h15
                    obtain rfl : v16 = _ := h16
                    obtain rfl : v17 = _ := h17
                    obtain rfl : v18 = _ := h18
                    obtain rfl : v19 = _ := h19
                    obtain rfl : v20 = _ := h20
                    obtain rfl : v21 = _ := h21
                    obtain rfl : v22 = _ := h22
                    go_wp2
                    all_goals go_returns
                    all_goals exact ⟨ret_bool (by rw [Ho.out, hs1]; rfl), hC.x⟩
                  | true =>
                    cases hs2 : decide (m2 < 0) with
                    | false =>
                      refine wp_region_ex (fun k w => CL W [(W.heap.size + 1 + 1 + 1, #[.int .i64 d.x, .int .i64 d.y]), (W.heap.size + 1 + 1, #[.int .i64 c.x, .int .i64 c.y]), (W.heap.size + 1, #[.int .i64 b.x, .int .i64 b.y]), (W.heap.size, #[.int .i64 a.x, .int .i64 a.y])] 0 w) (fun _ => Chg []) [3, 7, 14, 18] [(0, 0, false), (0, 0, false), (0, 0, false), (0, 0, true), (0, 1, false), (0, 1, false), (0, 1, false), (1, 1, true), (2, 2, false), (2, 2, false), (2, 2, false), (2, 2, false), (2, 2, false), (2, 2, false), (2, 2, true), (2, 3, false), (2, 3, false), (2, 3, false), (3, 3, true), (4, 4, false), (4, 4, false), (4, 4, false), (4, 4, false)] [49, 50, 51, 52, 53, 54, 55, 56, 57, 58, 59, 60, 61, 62, 63, 64, 65, 66, 67, 68, 69, 70, 8] (by kernel_rfl) rfl (by kernel_rfl) (by kernel_rfl) (hC.drew) ?_
                      simp only [List.zip_cons_cons, List.zip_nil_right]
                      refine ex_det 49 [4] rfl rfl (fun _ _ _ _ _ _ _ _ => rfl) ?_
                      apply Exists.intro
                      refine ⟨?_, ?_⟩
                      · intro wx bX kX hk1 hk2 hC hb hd K hK
                        have e4 := hb 4 rfl
                        simp only [exSlot, List.getD_cons_succ, List.getD_cons_zero] at e4
                        obtain ⟨f0, f1⟩ := hC.cells 3 rfl
                        obtain ⟨f2, f3⟩ := hC.cells 2 rfl
                        obtain ⟨f4, f5⟩ := hC.cells 1 rfl
                        obtain ⟨f6, f7⟩ := hC.cells 0 rfl
                        simp only [execOp, e4]
                        clear hb hd
                        go_simp
                        exact hK _ hC (Chg.refl _ _)
                      refine ex_det 50 [5] rfl rfl (fun _ _ _ _ _ _ _ _ => rfl) ?_
                      apply Exists.intro
                      refine ⟨?_, ?_⟩
                      · intro wx bX kX hk1 hk2 hC hb hd K hK
                        have e5 := hb 5 rfl
                        simp only [exSlot, List.getD_cons_succ, List.getD_cons_zero] at e5
                        obtain ⟨f0, f1⟩ := hC.cells 3 rfl
                        obtain ⟨f2, f3⟩ := hC.cells 2 rfl
                        obtain ⟨f4, f5⟩ := hC.cells 1 rfl
                        obtain ⟨f6, f7⟩ := hC.cells 0 rfl
                        simp only [execOp, e5]
                        clear hb hd
                        go_simp
                        exact hK _ hC (Chg.refl _ _)
                      refine ex_det 51 [6] rfl rfl (fun _ _ _ _ _ _ _ _ => rfl) ?_
                      apply Exists.intro
                      refine ⟨?_, ?_⟩
                      · intro wx bX kX hk1 hk2 hC hb hd K hK
                        have e6 := hb 6 rfl
                        simp only [exSlot, List.getD_cons_succ, List.getD_cons_zero] at e6
                        obtain ⟨f0, f1⟩ := hC.cells 3 rfl
                        obtain ⟨f2, f3⟩ := hC.cells 2 rfl
                        obtain ⟨f4, f5⟩ := hC.cells 1 rfl
                        obtain ⟨f6, f7⟩ := hC.cells 0 rfl
                        simp only [execOp, e6]
                        clear hb hd
                        go_simp
                        exact hK _ hC (Chg.refl _ _)
                      refine ex_det 52 [49, 50, 51] rfl rfl (fun _ _ _ _ _ _ _ _ => rfl) ?_
                      apply Exists.intro
                      refine ⟨?_, ?_⟩
                      · intro wx bX kX hk1 hk2 hC hb hd K hK
                        have e49 := hd 49 _ _ rfl rfl
                        try dsimp only at e49
                        have e50 := hd 50 _ _ rfl rfl
                        try dsimp only at e50
                        have e51 := hd 51 _ _ rfl rfl
                        try dsimp only at e51
                        simp only [execOp, resolve, List.map_toArray, List.map_cons, List.map_nil, e49, e50, e51]
                        clear hb hd
                        go_simp
                        refine (HT1 _).mono ?_; rintro e w' ⟨rfl, hX⟩
                        exact ⟨_, rfl, hK _ (hC.step (j := 0) hX) hX⟩
                      refine ex_det 53 [4] rfl rfl (fun _ _ _ _ _ _ _ _ => rfl) ?_
                      apply Exists.intro
                      refine ⟨?_, ?_⟩
                      · intro wx bX kX hk1 hk2 hC hb hd K hK
                        have e4 := hb 4 rfl
                        simp only [exSlot, List.getD_cons_succ, List.getD_cons_zero] at e4
                        obtain ⟨f0, f1⟩ := hC.cells 3 rfl
                        obtain ⟨f2, f3⟩ := hC.cells 2 rfl
                        obtain ⟨f4, f5⟩ := hC.cells 1 rfl
                        obtain ⟨f6, f7⟩ := hC.cells 0 rfl
                        simp only [execOp, e4]
                        clear hb hd
                        go_simp
                        exact hK _ hC (Chg.refl _ _)
                      refine ex_det 54 [5] rfl rfl (fun _ _ _ _ _ _ _ _ => rfl) ?_
                      apply Exists.intro
                      refine ⟨?_, ?_⟩
                      · intro wx bX kX hk1 hk2 hC hb hd K hK
                        have e5 := hb 5 rfl
                        simp only [exSlot, List.getD_cons_succ, List.getD_cons_zero] at e5
                        obtain ⟨f0, f1⟩ := hC.cells 3 rfl
                        obtain ⟨f2, f3⟩ := hC.cells 2 rfl
                        obtain ⟨f4, f5⟩ := hC.cells 1 rfl
                        obtain ⟨f6, f7⟩ := hC.cells 0 rfl
                        simp only [execOp, e5]
                        clear hb hd
                        go_simp
                        exact hK _ hC (Chg.refl _ _)
                      refine ex_det 55 [7] rfl rfl (fun _ _ _ _ _ _ _ _ => rfl) ?_
                      apply Exists.intro
                      refine ⟨?_, ?_⟩
                      · intro wx bX kX hk1 hk2 hC hb hd K hK
                        have e7 := hb 7 rfl
                        simp only [exSlot, List.getD_cons_succ, List.getD_cons_zero] at e7
                        obtain ⟨f0, f1⟩ := hC.cells 3 rfl
                        obtain ⟨f2, f3⟩ := hC.cells 2 rfl
                        obtain ⟨f4, f5⟩ := hC.cells 1 rfl
                        obtain ⟨f6, f7⟩ := hC.cells 0 rfl
                        simp only [execOp, e7]
                        clear hb hd
                        go_simp
                        exact hK _ hC (Chg.refl _ _)
                      refine ex_det 56 [53, 54, 55] rfl rfl (fun _ _ _ _ _ _ _ _ => rfl) ?_
                      apply Exists.intro
                      refine ⟨?_, ?_⟩
                      · intro wx bX kX hk1 hk2 hC hb hd K hK
                        have e53 := hd 53 _ _ rfl rfl
                        try dsimp only at e53
                        have e54 := hd 54 _ _ rfl rfl
                        try dsimp only at e54
                        have e55 := hd 55 _ _ rfl rfl
                        try dsimp only at e55
                        simp only [execOp, resolve, List.map_toArray, List.map_cons, List.map_nil, e53, e54, e55]
                        clear hb hd
                        go_simp
                        refine (HT2 _).mono ?_; rintro e w' ⟨rfl, hX⟩
                        exact ⟨_, rfl, hK _ (hC.step (j := 0) hX) hX⟩
                      refine ex_det 57 [52, 56] rfl rfl (fun _ _ _ _ _ _ _ _ => rfl) ?_
                      apply Exists.intro
                      refine ⟨?_, ?_⟩
                      · intro wx bX kX hk1 hk2 hC hb hd K hK
                        have e52 := hd 52 _ _ rfl rfl
                        try dsimp only at e52
                        have e56 := hd 56 _ _ rfl rfl
                        try dsimp only at e56
                        simp only [execOp, e52, e56]
                        clear hb hd
                        go_simp
                        exact hK _ hC (Chg.refl _ _)
                      refine ex_det 58 [57] rfl rfl (fun _ _ _ _ _ _ _ _ => rfl) ?_
                      apply Exists.intro
                      refine ⟨?_, ?_⟩
                      · intro wx bX kX hk1 hk2 hC hb hd K hK
                        have e57 := hd 57 _ _ rfl rfl
                        try dsimp only at e57
                        simp only [execOp, e57]
                        clear hb hd
                        go_simp
                        exact hK _ hC (Chg.refl _ _)
                      refine ex_det 59 [58] rfl rfl (fun _ _ _ _ _ _ _ _ => rfl) ?_
                      apply Exists.intro
                      refine ⟨?_, ?_⟩
                      · intro wx bX kX hk1 hk2 hC hb hd K hK
                        have e58 := hd 58 _ _ rfl rfl
                        try dsimp only at e58
                        simp only [execOp, e58]
                        clear hb hd
                        go_simp
                        exact hK _ hC (Chg.refl _ _)
                      refine ex_det 60 [6, 59] rfl rfl (fun _ b _ _ _ _ hb hd => (wanted_guard b rfl rfl (hd 59 _ _ rfl rfl)).trans rfl) ?_
                      apply Exists.intro
                      refine ⟨?_, ?_⟩
                      · intro wx bX kX hk1 hk2 hC hb hd K hK
                        have e6 := hb 6 rfl
                        simp only [exSlot, List.getD_cons_succ, List.getD_cons_zero] at e6
                        obtain ⟨f0, f1⟩ := hC.cells 3 rfl
                        obtain ⟨f2, f3⟩ := hC.cells 2 rfl
                        obtain ⟨f4, f5⟩ := hC.cells 1 rfl
                        obtain ⟨f6, f7⟩ := hC.cells 0 rfl
                        simp only [execOp, e6]
                        clear hb hd
                        go_simp
                        exact hK _ hC (Chg.refl _ _)
                      refine ex_det 61 [7, 59] rfl rfl (fun _ b _ _ _ _ hb hd => (wanted_guard b rfl rfl (hd 59 _ _ rfl rfl)).trans rfl) ?_
                      apply Exists.intro
                      refine ⟨?_, ?_⟩
                      · intro wx bX kX hk1 hk2 hC hb hd K hK
                        have e7 := hb 7 rfl
                        simp only [exSlot, List.getD_cons_succ, List.getD_cons_zero] at e7
                        obtain ⟨f0, f1⟩ := hC.cells 3 rfl
                        obtain ⟨f2, f3⟩ := hC.cells 2 rfl
                        obtain ⟨f4, f5⟩ := hC.cells 1 rfl
                        obtain ⟨f6, f7⟩ := hC.cells 0 rfl
                        simp only [execOp, e7]
                        clear hb hd
                        go_simp
                        exact hK _ hC (Chg.refl _ _)
                      refine ex_det 62 [4, 59] rfl rfl (fun _ b _ _ _ _ hb hd => (wanted_guard b rfl rfl (hd 59 _ _ rfl rfl)).trans rfl) ?_
                      apply Exists.intro
                      refine ⟨?_, ?_⟩
                      · intro wx bX kX hk1 hk2 hC hb hd K hK
                        have e4 := hb 4 rfl
                        simp only [exSlot, List.getD_cons_succ, List.getD_cons_zero] at e4
                        obtain ⟨f0, f1⟩ := hC.cells 3 rfl
                        obtain ⟨f2, f3⟩ := hC.cells 2 rfl
                        obtain ⟨f4, f5⟩ := hC.cells 1 rfl
                        obtain ⟨f6, f7⟩ := hC.cells 0 rfl
                        simp only [execOp, e4]
                        clear hb hd
                        go_simp
                        exact hK _ hC (Chg.refl _ _)
                      refine ex_det 63 [60, 61, 62, 59] rfl rfl (fun _ b _ _ _ _ hb hd => (wanted_guard b rfl rfl (hd 59 _ _ rfl rfl)).trans rfl) ?_
                      apply Exists.intro
                      refine ⟨?_, ?_⟩
                      · intro wx bX kX hk1 hk2 hC hb hd K hK
                        have e60 := hd 60 _ _ rfl rfl
                        try dsimp only at e60
                        have e61 := hd 61 _ _ rfl rfl
                        try dsimp only at e61
                        have e62 := hd 62 _ _ rfl rfl
                        try dsimp only at e62
                        simp only [execOp, resolve, List.map_toArray, List.map_cons, List.map_nil, e60, e61, e62]
                        clear hb hd
                        go_simp
                        refine (HT3 _).mono ?_; rintro e w' ⟨rfl, hX⟩
                        exact ⟨_, rfl, hK _ (hC.step (j := 0) hX) hX⟩
                      refine ex_det 64 [6, 59] rfl rfl (fun _ b _ _ _ _ hb hd => (wanted_guard b rfl rfl (hd 59 _ _ rfl rfl)).trans rfl) ?_
                      apply Exists.intro
                      refine ⟨?_, ?_⟩
                      · intro wx bX kX hk1 hk2 hC hb hd K hK
                        have e6 := hb 6 rfl
                        simp only [exSlot, List.getD_cons_succ, List.getD_cons_zero] at e6
                        obtain ⟨f0, f1⟩ := hC.cells 3 rfl
                        obtain ⟨f2, f3⟩ := hC.cells 2 rfl
                        obtain ⟨f4, f5⟩ := hC.cells 1 rfl
                        obtain ⟨f6, f7⟩ := hC.cells 0 rfl
                        simp only [execOp, e6]
                        clear hb hd
                        go_simp
                        exact hK _ hC (Chg.refl _ _)
                      refine ex_det 65 [7, 59] rfl rfl (fun _ b _ _ _ _ hb hd => (wanted_guard b rfl rfl (hd 59 _ _ rfl rfl)).trans rfl) ?_
                      apply Exists.intro
                      refine ⟨?_, ?_⟩
                      · intro wx bX kX hk1 hk2 hC hb hd K hK
                        have e7 := hb 7 rfl
                        simp only [exSlot, List.getD_cons_succ, List.getD_cons_zero] at e7
                        obtain ⟨f0, f1⟩ := hC.cells 3 rfl
                        obtain ⟨f2, f3⟩ := hC.cells 2 rfl
                        obtain ⟨f4, f5⟩ := hC.cells 1 rfl
                        obtain ⟨f6, f7⟩ := hC.cells 0 rfl
                        simp only [execOp, e7]
                        clear hb hd
                        go_simp
                        exact hK _ hC (Chg.refl _ _)
                      refine ex_det 66 [5, 59] rfl rfl (fun _ b _ _ _ _ hb hd => (wanted_guard b rfl rfl (hd 59 _ _ rfl rfl)).trans rfl) ?_
                      apply Exists.intro
                      refine ⟨?_, ?_⟩
                      · intro wx bX kX hk1 hk2 hC hb hd K hK
                        have e5 := hb 5 rfl
                        simp only [exSlot, List.getD_cons_succ, List.getD_cons_zero] at e5
                        obtain ⟨f0, f1⟩ := hC.cells 3 rfl
                        obtain ⟨f2, f3⟩ := hC.cells 2 rfl
                        obtain ⟨f4, f5⟩ := hC.cells 1 rfl
                        obtain ⟨f6, f7⟩ := hC.cells 0 rfl
                        simp only [execOp, e5]
                        clear hb hd
                        go_simp
                        exact hK _ hC (Chg.refl _ _)
                      refine ex_det 67 [64, 65, 66, 59] rfl rfl (fun _ b _ _ _ _ hb hd => (wanted_guard b rfl rfl (hd 59 _ _ rfl rfl)).trans rfl) ?_
                      apply Exists.intro
                      refine ⟨?_, ?_⟩
                      · intro wx bX kX hk1 hk2 hC hb hd K hK
                        have e64 := hd 64 _ _ rfl rfl
                        try dsimp only at e64
                        have e65 := hd 65 _ _ rfl rfl
                        try dsimp only at e65
                        have e66 := hd 66 _ _ rfl rfl
                        try dsimp only at e66
                        simp only [execOp, resolve, List.map_toArray, List.map_cons, List.map_nil, e64, e65, e66]
                        clear hb hd
                        go_simp
                        refine (HT4 _).mono ?_; rintro e w' ⟨rfl, hX⟩
                        exact ⟨_, rfl, hK _ (hC.step (j := 0) hX) hX⟩
                      refine ex_det 68 [63, 67, 59] rfl rfl (fun _ b _ _ _ _ hb hd => (wanted_guard b rfl rfl (hd 59 _ _ rfl rfl)).trans rfl) ?_
                      apply Exists.intro
                      refine ⟨?_, ?_⟩
                      · intro wx bX kX hk1 hk2 hC hb hd K hK
                        have e63 := hd 63 _ _ rfl rfl
                        try dsimp only at e63
                        have e67 := hd 67 _ _ rfl rfl
                        try dsimp only at e67
                        simp only [execOp, e63, e67]
                        clear hb hd
                        go_simp
                        exact hK _ hC (Chg.refl _ _)
                      refine ex_det 69 [68, 59] rfl rfl (fun _ b _ _ _ _ hb hd => (wanted_guard b rfl rfl (hd 59 _ _ rfl rfl)).trans rfl) ?_
                      apply Exists.intro
                      refine ⟨?_, ?_⟩
                      · intro wx bX kX hk1 hk2 hC hb hd K hK
                        have e68 := hd 68 _ _ rfl rfl
                        try dsimp only at e68
                        simp only [execOp, e68]
                        clear hb hd
                        go_simp
                        exact hK _ hC (Chg.refl _ _)
                      refine ex_det 70 [59, 69] rfl rfl (fun _ _ _ _ _ _ _ _ => rfl) ?_
                      apply Exists.intro
                      refine ⟨?_, ?_⟩
                      · intro wx bX kX hk1 hk2 hC hb hd K hK
                        have e59 := hd 59 _ _ rfl rfl
                        try dsimp only at e59
                        have e69 := hd 69 _ _ rfl rfl
                        try dsimp only at e69
                        simp only [execOp, e59, e69]
                        clear hb hd
                        go_simp
                        exact hK _ hC (Chg.refl _ _)
                      refine ex_det 8 [70] rfl rfl (fun _ _ _ _ _ _ _ _ => rfl) ?_
                      apply Exists.intro
                      refine ⟨?_, ?_⟩
                      · intro wx bX kX hk1 hk2 hC hb hd K hK
                        have e70 := hd 70 _ _ rfl rfl
                        try dsimp only at e70
                        simp only [execOp, e70]
                        clear hb hd
                        go_simp
                        exact hK _ hC (Chg.refl _ _)
                      refine ex_end ?_
                      intro us w2 hus hC hall
                      obtain ⟨v0, us, rfl⟩ := List.exists_cons_of_length_eq_add_one hus
                      replace hus := Nat.succ.inj hus
                      obtain ⟨v1, us, rfl⟩ := List.exists_cons_of_length_eq_add_one hus
                      replace hus := Nat.succ.inj hus
                      obtain ⟨v2, us, rfl⟩ := List.exists_cons_of_length_eq_add_one hus
                      replace hus := Nat.succ.inj hus
                      obtain ⟨v3, us, rfl⟩ := List.exists_cons_of_length_eq_add_one hus
                      replace hus := Nat.succ.inj hus
                      obtain ⟨v4, us, rfl⟩ := List.exists_cons_of_length_eq_add_one hus
                      replace hus := Nat.succ.inj hus
                      obtain ⟨v5, us, rfl⟩ := List.exists_cons_of_length_eq_add_one hus
                      replace hus := Nat.succ.inj hus
                      obtain ⟨v6, us, rfl⟩ := List.exists_cons_of_length_eq_add_one hus
                      replace hus := Nat.succ.inj hus
                      obtain ⟨v7, us, rfl⟩ := List.exists_cons_of_length_eq_add_one hus
                      replace hus := Nat.succ.inj hus
                      obtain ⟨v8, us, rfl⟩ := List.exists_cons_of_length_eq_add_one hus
                      replace hus := Nat.succ.inj hus
                      obtain ⟨v9, us, rfl⟩ := List.exists_cons_of_length_eq_add_one hus
                      replace hus := Nat.succ.inj hus
                      obtain ⟨v10, us, rfl⟩ := List.exists_cons_of_length_eq_add_one hus
                      replace hus := Nat.succ.inj hus
                      obtain ⟨v11, us, rfl⟩ := List.exists_cons_of_length_eq_add_one hus
                      replace hus := Nat.succ.inj hus
                      obtain ⟨v12, us, rfl⟩ := List.exists_cons_of_length_eq_add_one hus
                      replace hus := Nat.succ.inj hus
                      obtain ⟨v13, us, rfl⟩ := List.exists_cons_of_length_eq_add_one hus
                      replace hus := Nat.succ.inj hus
                      obtain ⟨v14, us, rfl⟩ := List.exists_cons_of_length_eq_add_one hus
                      replace hus := Nat.succ.inj hus
                      obtain ⟨v15, us, rfl⟩ := List.exists_cons_of_length_eq_add_one hus
                      replace hus := Nat.succ.inj hus
                      obtain ⟨v16, us, rfl⟩ := List.exists_cons_of_length_eq_add_one hus
                      replace hus := Nat.succ.inj hus
                      obtain ⟨v17, us, rfl⟩ := List.exists_cons_of_length_eq_add_one hus
                      replace hus := Nat.succ.inj hus
                      obtain ⟨v18, us, rfl⟩ := List.exists_cons_of_length_eq_add_one hus
                      replace hus := Nat.succ.inj hus
                      obtain ⟨v19, us, rfl⟩ := List.exists_cons_of_length_eq_add_one hus
                      replace hus := Nat.succ.inj hus
                      obtain ⟨v20, us, rfl⟩ := List.exists_cons_of_length_eq_add_one hus
                      replace hus := Nat.succ.inj hus
                      obtain ⟨v21, us, rfl⟩ := List.exists_cons_of_length_eq_add_one hus
                      replace hus := Nat.succ.inj hus
                      obtain ⟨v22, us, rfl⟩ := List.exists_cons_of_length_eq_add_one hus
                      replace hus := Nat.succ.inj hus
                      obtain rfl := List.length_eq_zero_iff.1 hus
                      clear hus
                      generalize hbb : exPuts _ _ _ = bb at hall ⊢
                      simp only [exPuts, Act.put, List.setIfInBounds_toArray, List.set_cons_succ, List.set_cons_zero] at hbb
                      subst hbb
                      obtain ⟨h22, h21, h20, h19, h18, h17, h16, h15, h14, h13, h12, h11, h10, h9, h8, h7, h6, h5, h4, h3, h2, h1, h0, -⟩ := hall
                      obtain rfl : v0 = _ := h0
                      obtain rfl : v1 = _ := h1
                      obtain rfl : v2 = _ := h2
                      obtain rfl : v3 = _ := h3
                      obtain rfl : v4 = _ := h4
                      obtain rfl : v5 = _ := h5
                      obtain rfl : v6 = _ := h6
                      obtain rfl : v7 = _ := h7
                      obtain rfl : v8 = _ := h8
                      obtain rfl : v9 = _ := h9
                      obtain rfl : v10 = _ := h10
                      obtain rfl : v11 = _ := h11
                      obtain rfl : v12 = _ := h12
                      obtain rfl : v13 = _ := h13
                      obtain rfl : v14 = _ := h14
                      obtain rfl : v15 = _ := h15
                      obtain rfl : v16 = _ := h16
                      obtain rfl : v17 = _ := h17
                      obtain rfl : v18 = _ := h18
                      obtain rfl : v19 = _ := h19
                      obtain rfl : v20 = _ := h20
                      obtain rfl : v21 = _ := h21
                      obtain rfl : v22 = _ := h22
                      go_wp2
                      all_goals go_returns
                      all_goals exact ⟨ret_bool (by rw [Ho.out, hs1, hs2]; rfl), hC.x⟩
                    | true =>
                      refine wp_region_ex (fun k w => CL W [(W.heap.size + 1 + 1 + 1, #[.int .i64 d.x, .int .i64 d.y]), (W.heap.size + 1 + 1, #[.int .i64 c.x, .int .i64 c.y]), (W.heap.size + 1, #[.int .i64 b.x, .int .i64 b.y]), (W.heap.size, #[.int .i64 a.x, .int .i64 a.y])] 0 w) (fun _ => Chg []) [3, 7, 14, 18] [(0, 0, false), (0, 0, false), (0, 0, false), (0, 0, true), (0, 1, false), (0, 1, false), (0, 1, false), (1, 1, true), (2, 2, false), (2, 2, false), (2, 2, false), (2, 2, false), (2, 2, false), (2, 2, false), (2, 2, true), (2, 3, false), (2, 3, false), (2, 3, false), (3, 3, true), (4, 4, false), (4, 4, false), (4, 4, false), (4, 4, false)] [49, 50, 51, 52, 53, 54, 55, 56, 57, 58, 59, 60, 61, 62, 63, 64, 65, 66, 67, 68, 69, 70, 8] (by kernel_rfl) rfl (by kernel_rfl) (by kernel_rfl) (hC.drew) ?_
                      simp only [List.zip_cons_cons, List.zip_nil_right]
                      refine ex_det 49 [4] rfl rfl (fun _ _ _ _ _ _ _ _ => rfl) ?_
                      apply Exists.intro
                      refine ⟨?_, ?_⟩
                      · intro wx bX kX hk1 hk2 hC hb hd K hK
                        have e4 := hb 4 rfl
                        simp only [exSlot, List.getD_cons_succ, List.getD_cons_zero] at e4
                        obtain ⟨f0, f1⟩ := hC.cells 3 rfl
                        obtain ⟨f2, f3⟩ := hC.cells 2 rfl
                        obtain ⟨f4, f5⟩ := hC.cells 1 rfl
                        obtain ⟨f6, f7⟩ := hC.cells 0 rfl
                        simp only [execOp, e4]
                        clear hb hd
                        go_simp
                        exact hK _ hC (Chg.refl _ _)
                      refine ex_det 50 [5] rfl rfl (fun _ _ _ _ _ _ _ _ => rfl) ?_
                      apply Exists.intro
                      refine ⟨?_, ?_⟩
                      · intro wx bX kX hk1 hk2 hC hb hd K hK
                        have e5 := hb 5 rfl
                        simp only [exSlot, List.getD_cons_succ, List.getD_cons_zero] at e5
                        obtain ⟨f0, f1⟩ := hC.cells 3 rfl
                        obtain ⟨f2, f3⟩ := hC.cells 2 rfl
                        obtain ⟨f4, f5⟩ := hC.cells 1 rfl
                        obtain ⟨f6, f7⟩ := hC.cells 0 rfl
                        simp only [execOp, e5]
                        clear hb hd
                        go_simp
                        exact hK _ hC (Chg.refl _ _)
                      refine ex_det 51 [6] rfl rfl (fun _ _ _ _ _ _ _ _ => rfl) ?_
                      apply Exists.intro
                      refine ⟨?_, ?_⟩
                      · intro wx bX kX hk1 hk2 hC hb hd K hK
                        have e6 := hb 6 rfl
                        simp only [exSlot, List.getD_cons_succ, List.getD_cons_zero] at e6
                        obtain ⟨f0, f1⟩ := hC.cells 3 rfl
                        obtain ⟨f2, f3⟩ := hC.cells 2 rfl
                        obtain ⟨f4, f5⟩ := hC.cells 1 rfl
                        obtain ⟨f6, f7⟩ := hC.cells 0 rfl
                        simp only [execOp, e6]
                        clear hb hd
                        go_simp
                        exact hK _ hC (Chg.refl _ _)
                      refine ex_det 52 [49, 50, 51] rfl rfl (fun _ _ _ _ _ _ _ _ => rfl) ?_
                      apply Exists.intro
                      refine ⟨?_, ?_⟩
                      · intro wx bX kX hk1 hk2 hC hb hd K hK
                        have e49 := hd 49 _ _ rfl rfl
                        try dsimp only at e49
                        have e50 := hd 50 _ _ rfl rfl
                        try dsimp only at e50
                        have e51 := hd 51 _ _ rfl rfl
                        try dsimp only at e51
                        simp only [execOp, resolve, List.map_toArray, List.map_cons, List.map_nil, e49, e50, e51]
                        clear hb hd
                        go_simp
                        refine (HT1 _).mono ?_; rintro e w' ⟨rfl, hX⟩
                        exact ⟨_, rfl, hK _ (hC.step (j := 0) hX) hX⟩
                      refine ex_det 53 [4] rfl rfl (fun _ _ _ _ _ _ _ _ => rfl) ?_
                      apply Exists.intro
                      refine ⟨?_, ?_⟩
                      · intro wx bX kX hk1 hk2 hC hb hd K hK
                        have e4 := hb 4 rfl
                        simp only [exSlot, List.getD_cons_succ, List.getD_cons_zero] at e4
                        obtain ⟨f0, f1⟩ := hC.cells 3 rfl
                        obtain ⟨f2, f3⟩ := hC.cells 2 rfl
                        obtain ⟨f4, f5⟩ := hC.cells 1 rfl
                        obtain ⟨f6, f7⟩ := hC.cells 0 rfl
                        simp only [execOp, e4]
                        clear hb hd
                        go_simp
                        exact hK _ hC (Chg.refl _ _)
                      refine ex_det 54 [5] rfl rfl (fun _ _ _ _ _ _ _ _ => rfl) ?_
                      apply Exists.intro
                      refine ⟨?_, ?_⟩
                      · intro wx bX kX hk1 hk2 hC hb hd K hK
                        have e5 := hb 5 rfl
                        simp only [exSlot, List.getD_cons_succ, List.getD_cons_zero] at e5
                        obtain ⟨f0, f1⟩ := hC.cells 3 rfl
                        obtain ⟨f2, f3⟩ := hC.cells 2 rfl
                        obtain ⟨f4, f5⟩ := hC.cells 1 rfl
                        obtain ⟨f6, f7⟩ := hC.cells 0 rfl
                        simp only [execOp, e5]
                        clear hb hd
                        go_simp
                        exact hK _ hC (Chg.refl _ _)
                      refine ex_det 55 [7] rfl rfl (fun _ _ _ _ _ _ _ _ => rfl) ?_
                      apply Exists.intro
                      refine ⟨?_, ?_⟩
                      · intro wx bX kX hk1 hk2 hC hb hd K hK
                        have e7 := hb 7 rfl
                        simp only [exSlot, List.getD_cons_succ, List.getD_cons_zero] at e7
                        obtain ⟨f0, f1⟩ := hC.cells 3 rfl
                        obtain ⟨f2, f3⟩ := hC.cells 2 rfl
                        obtain ⟨f4, f5⟩ := hC.cells 1 rfl
                        obtain ⟨f6, f7⟩ := hC.cells 0 rfl
                        simp only [execOp, e7]
                        clear hb hd
                        go_simp
                        exact hK _ hC (Chg.refl _ _)
                      refine ex_det 56 [53, 54, 55] rfl rfl (fun _ _ _ _ _ _ _ _ => rfl) ?_
                      apply Exists.intro
                      refine ⟨?_, ?_⟩
                      · intro wx bX kX hk1 hk2 hC hb hd K hK
                        have e53 := hd 53 _ _ rfl rfl
                        try dsimp only at e53
                        have e54 := hd 54 _ _ rfl rfl
                        try dsimp only at e54
                        have e55 := hd 55 _ _ rfl rfl
                        try dsimp only at e55
                        simp only [execOp, resolve, List.map_toArray, List.map_cons, List.map_nil, e53, e54, e55]
                        clear hb hd
                        go_simp
                        refine (HT2 _).mono ?_; rintro e w' ⟨rfl, hX⟩
                        exact ⟨_, rfl, hK _ (hC.step (j := 0) hX) hX⟩
                      refine ex_det 57 [52, 56] rfl rfl (fun _ _ _ _ _ _ _ _ => rfl) ?_
                      apply Exists.intro
                      refine ⟨?_, ?_⟩
                      · intro wx bX kX hk1 hk2 hC hb hd K hK
                        have e52 := hd 52 _ _ rfl rfl
                        try dsimp only at e52
                        have e56 := hd 56 _ _ rfl rfl
                        try dsimp only at e56
                        simp only [execOp, e52, e56]
                        clear hb hd
                        go_simp
                        exact hK _ hC (Chg.refl _ _)
                      refine ex_det 58 [57] rfl rfl (fun _ _ _ _ _ _ _ _ => rfl) ?_
                      apply Exists.intro
                      refine ⟨?_, ?_⟩
                      · intro wx bX kX hk1 hk2 hC hb hd K hK
                        have e57 := hd 57 _ _ rfl rfl
                        try dsimp only at e57
                        simp only [execOp, e57]
                        clear hb hd
                        go_simp
                        exact hK _ hC (Chg.refl _ _)
                      refine ex_det 59 [58] rfl rfl (fun _ _ _ _ _ _ _ _ => rfl) ?_
                      apply Exists.intro
                      refine ⟨?_, ?_⟩
                      · intro wx bX kX hk1 hk2 hC hb hd K hK
                        have e58 := hd 58 _ _ rfl rfl
                        try dsimp only at e58
                        simp only [execOp, e58]
                        clear hb hd
                        go_simp
                        exact hK _ hC (Chg.refl _ _)
                      refine ex_det 60 [6, 59] rfl rfl (fun _ b _ _ _ _ hb hd => (wanted_guard b rfl rfl (hd 59 _ _ rfl rfl)).trans rfl) ?_
                      apply Exists.intro
                      refine ⟨?_, ?_⟩
                      · intro wx bX kX hk1 hk2 hC hb hd K hK
                        have e6 := hb 6 rfl
                        simp only [exSlot, List.getD_cons_succ, List.getD_cons_zero] at e6
                        obtain ⟨f0, f1⟩ := hC.cells 3 rfl
                        obtain ⟨f2, f3⟩ := hC.cells 2 rfl
                        obtain ⟨f4, f5⟩ := hC.cells 1 rfl
                        obtain ⟨f6, f7⟩ := hC.cells 0 rfl
                        simp only [execOp, e6]
                        clear hb hd
                        go_simp
                        exact hK _ hC (Chg.refl _ _)
                      refine ex_det 61 [7, 59] rfl rfl (fun _ b _ _ _ _ hb hd => (wanted_guard b rfl rfl (hd 59 _ _ rfl rfl)).trans rfl) ?_
                      apply Exists.intro
                      refine ⟨?_, ?_⟩
                      · intro wx bX kX hk1 hk2 hC hb hd K hK
                        have e7 := hb 7 rfl
                        simp only [exSlot, List.getD_cons_succ, List.getD_cons_zero] at e7
                        obtain ⟨f0, f1⟩ := hC.cells 3 rfl
                        obtain ⟨f2, f3⟩ := hC.cells 2 rfl
                        obtain ⟨f4, f5⟩ := hC.cells 1 rfl
                        obtain ⟨f6, f7⟩ := hC.cells 0 rfl
                        simp only [execOp, e7]
                        clear hb hd
                        go_simp
                        exact hK _ hC (Chg.refl _ _)
                      refine ex_det 62 [4, 59] rfl rfl (fun _ b _ _ _ _ hb hd => (wanted_guard b rfl rfl (hd 59 _ _ rfl rfl)).trans rfl) ?_
                      apply Exists.intro
                      refine ⟨?_, ?_⟩
                      · intro wx bX kX hk1 hk2 hC hb hd K hK
                        have e4 := hb 4 rfl
                        simp only [exSlot, List.getD_cons_succ, List.getD_cons_zero] at e4
                        obtain ⟨f0, f1⟩ := hC.cells 3 rfl
                        obtain ⟨f2, f3⟩ := hC.cells 2 rfl
                        obtain ⟨f4, f5⟩ := hC.cells 1 rfl
                        obtain ⟨f6, f7⟩ := hC.cells 0 rfl
                        simp only [execOp, e4]
                        clear hb hd
                        go_simp
                        exact hK _ hC (Chg.refl _ _)
                      refine ex_det 63 [60, 61, 62, 59] rfl rfl (fun _ b _ _ _ _ hb hd => (wanted_guard b rfl rfl (hd 59 _ _ rfl rfl)).trans rfl) ?_
                      apply Exists.intro
                      refine ⟨?_, ?_⟩
                      · intro wx bX kX hk1 hk2 hC hb hd K hK
                        have e60 := hd 60 _ _ rfl rfl
                        try dsimp only at e60
                        have e61 := hd 61 _ _ rfl rfl
                        try dsimp only at e61
                        have e62 := hd 62 _ _ rfl rfl
                        try dsimp only at e62
                        simp only [execOp, resolve, List.map_toArray, List.map_cons, List.map_nil, e60, e61, e62]
                        clear hb hd
                        go_simp
                        refine (HT3 _).mono ?_; rintro e w' ⟨rfl, hX⟩
                        exact ⟨_, rfl, hK _ (hC.step (j := 0) hX) hX⟩
                      refine ex_det 64 [6, 59] rfl rfl (fun _ b _ _ _ _ hb hd => (wanted_guard b rfl rfl (hd 59 _ _ rfl rfl)).trans rfl) ?_
                      apply Exists.intro
                      refine ⟨?_, ?_⟩
                      · intro wx bX kX hk1 hk2 hC hb hd K hK
                        have e6 := hb 6 rfl
                        simp only [exSlot, List.getD_cons_succ, List.getD_cons_zero] at e6
                        obtain ⟨f0, f1⟩ := hC.cells 3 rfl
                        obtain ⟨f2, f3⟩ := hC.cells 2 rfl
                        obtain ⟨f4, f5⟩ := hC.cells 1 rfl
                        obtain ⟨f6, f7⟩ := hC.cells 0 rfl
                        simp only [execOp, e6]
                        clear hb hd
                        go_simp
                        exact hK _ hC (Chg.refl _ _)
                      refine ex_det 65 [7, 59] rfl rfl (fun _ b _ _ _ _ hb hd => (wanted_guard b rfl rfl (hd 59 _ _ rfl rfl)).trans rfl) ?_
                      apply Exists.intro
                      refine ⟨?_, ?_⟩
                      · intro wx bX kX hk1 hk2 hC hb hd K hK
                        have e7 := hb 7 rfl
                        simp only [exSlot, List.getD_cons_succ, List.getD_cons_zero] at e7
                        obtain ⟨f0, f1⟩ := hC.cells 3 rfl
                        obtain ⟨f2, f3⟩ := hC.cells 2 rfl
                        obtain ⟨f4, f5⟩ := hC.cells 1 rfl
                        obtain ⟨f6, f7⟩ := hC.cells 0 rfl
                        simp only [execOp, e7]
                        clear hb hd
                        go_simp
                        exact hK _ hC (Chg.refl _ _)
                      refine ex_det 66 [5, 59] rfl rfl (fun _ b _ _ _ _ hb hd => (wanted_guard b rfl rfl (hd 59 _ _ rfl rfl)).trans rfl) ?_
                      apply Exists.intro
                      refine ⟨?_, ?_⟩
                      · intro wx bX kX hk1 hk2 hC hb hd K hK
                        have e5 := hb 5 rfl
                        simp only [exSlot, List.getD_cons_succ, List.getD_cons_zero] at e5
                        obtain ⟨f0, f1⟩ := hC.cells 3 rfl
                        obtain ⟨f2, f3⟩ := hC.cells 2 rfl
                        obtain ⟨f4, f5⟩ := hC.cells 1 rfl
                        obtain ⟨f6, f7⟩ := hC.cells 0 rfl
                        simp only [execOp, e5]
                        clear hb hd
                        go_simp
                        exact hK _ hC (Chg.refl _ _)
                      refine ex_det 67 [64, 65, 66, 59] rfl rfl (fun _ b _ _ _ _ hb hd => (wanted_guard b rfl rfl (hd 59 _ _ rfl rfl)).trans rfl) ?_
                      apply Exists.intro
                      refine ⟨?_, ?_⟩
                      · intro wx bX kX hk1 hk2 hC hb hd K hK
                        have e64 := hd 64 _ _ rfl rfl
                        try dsimp only at e64
                        have e65 := hd 65 _ _ rfl rfl
                        try dsimp only at e65
                        have e66 := hd 66 _ _ rfl rfl
                        try dsimp only at e66
                        simp only [execOp, resolve, List.map_toArray, List.map_cons, List.map_nil, e64, e65, e66]
                        clear hb hd
                        go_simp
                        refine (HT4 _).mono ?_; rintro e w' ⟨rfl, hX⟩
                        exact ⟨_, rfl, hK _ (hC.step (j := 0) hX) hX⟩
                      refine ex_det 68 [63, 67, 59] rfl rfl (fun _ b _ _ _ _ hb hd => (wanted_guard b rfl rfl (hd 59 _ _ rfl rfl)).trans rfl) ?_
                      apply Exists.intro
                      refine ⟨?_, ?_⟩
                      · intro wx bX kX hk1 hk2 hC hb hd K hK
                        have e63 := hd 63 _ _ rfl rfl
                        try dsimp only at e63
                        have e67 := hd 67 _ _ rfl rfl
                        try dsimp only at e67
                        simp only [execOp, e63, e67]
                        clear hb hd
                        go_simp
                        exact hK _ hC (Chg.refl _ _)
                      refine ex_det 69 [68, 59] rfl rfl (fun _ b _ _ _ _ hb hd => (wanted_guard b rfl rfl (hd 59 _ _ rfl rfl)).trans rfl) ?_
                      apply Exists.intro
                      refine ⟨?_, ?_⟩
                      · intro wx bX kX hk1 hk2 hC hb hd K hK
                        have e68 := hd 68 _ _ rfl rfl
                        try dsimp only at e68
                        simp only [execOp, e68]
                        clear hb hd
                        go_simp
                        exact hK _ hC (Chg.refl _ _)
                      refine ex_det 70 [59, 69] rfl rfl (fun _ _ _ _ _ _ _ _ => rfl) ?_
                      apply Exists.intro
                      refine ⟨?_, ?_⟩
                      · intro wx bX kX hk1 hk2 hC hb hd K hK
                        have e59 := hd 59 _ _ rfl rfl
                        try dsimp only at e59
                        have e69 := hd 69 _ _ rfl rfl
                        try dsimp only at e69
                        simp only [execOp, e59, e69]
                        clear hb hd
                        go_simp
                        exact hK _ hC (Chg.refl _ _)
                      refine ex_det 8 [70] rfl rfl (fun _ _ _ _ _ _ _ _ => rfl) ?_
                      apply Exists.intro
                      refine ⟨?_, ?_⟩
                      · intro wx bX kX hk1 hk2 hC hb hd K hK
                        have e70 := hd 70 _ _ rfl rfl
                        try dsimp only at e70
                        simp only [execOp, e70]
                        clear hb hd
                        go_simp
                        exact hK _ hC (Chg.refl _ _)
                      refine ex_end ?_
                      intro us w2 hus hC hall
                      obtain ⟨v0, us, rfl⟩ := List.exists_cons_of_length_eq_add_one hus
                      replace hus := Nat.succ.inj hus
                      obtain ⟨v1, us, rfl⟩ := List.exists_cons_of_length_eq_add_one hus
                      replace hus := Nat.succ.inj hus
                      obtain ⟨v2, us, rfl⟩ := List.exists_cons_of_length_eq_add_one hus
                      replace hus := Nat.succ.inj hus
                      obtain ⟨v3, us, rfl⟩ := List.exists_cons_of_length_eq_add_one hus
                      replace hus := Nat.succ.inj hus
                      obtain ⟨v4, us, rfl⟩ := List.exists_cons_of_length_eq_add_one hus
                      replace hus := Nat.succ.inj hus
                      obtain ⟨v5, us, rfl⟩ := List.exists_cons_of_length_eq_add_one hus
                      replace hus := Nat.succ.inj hus
                      obtain ⟨v6, us, rfl⟩ := List.exists_cons_of_length_eq_add_one hus
                      replace hus := Nat.succ.inj hus
                      obtain ⟨v7, us, rfl⟩ := List.exists_cons_of_length_eq_add_one hus
                      replace hus := Nat.succ.inj hus
                      obtain ⟨v8, us, rfl⟩ := List.exists_cons_of_length_eq_add_one hus
                      replace hus := Nat.succ.inj hus
                      obtain ⟨v9, us, rfl⟩ := List.exists_cons_of_length_eq_add_one hus
                      replace hus := Nat.succ.inj hus
                      obtain ⟨v10, us, rfl⟩ := List.exists_cons_of_length_eq_add_one hus
                      replace hus := Nat.succ.inj hus
                      obtain ⟨v11, us, rfl⟩ := List.exists_cons_of_length_eq_add_one hus
                      replace hus := Nat.succ.inj hus
                      obtain ⟨v12, us, rfl⟩ := List.exists_cons_of_length_eq_add_one hus
                      replace hus := Nat.succ.inj hus
                      obtain ⟨v13, us, rfl⟩ := List.exists_cons_of_length_eq_add_one hus
                      replace hus := Nat.succ.inj hus
                      obtain ⟨v14, us, rfl⟩ := List.exists_cons_of_length_eq_add_one hus
                      replace hus := Nat.succ.inj hus
                      obtain ⟨v15, us, rfl⟩ := List.exists_cons_of_length_eq_add_one hus
                      replace hus := Nat.succ.inj hus
                      obtain ⟨v16, us, rfl⟩ := List.exists_cons_of_length_eq_add_one hus
                      replace hus := Nat.succ.inj hus
                      obtain ⟨v17, us, rfl⟩ := List.exists_cons_of_length_eq_add_one hus
                      replace hus := Nat.succ.inj hus
                      obtain ⟨v18, us, rfl⟩ := List.exists_cons_of_length_eq_add_one hus
                      replace hus := Nat.succ.inj hus
                      obtain ⟨v19, us, rfl⟩ := List.exists_cons_of_length_eq_add_one hus
                      replace hus := Nat.succ.inj hus
                      obtain ⟨v20, us, rfl⟩ := List.exists_cons_of_length_eq_add_one hus
                      replace hus := Nat.succ.inj hus
                      obtain ⟨v21, us, rfl⟩ := List.exists_cons_of_length_eq_add_one hus
                      replace hus := Nat.succ.inj hus
                      obtain ⟨v22, us, rfl⟩ := List.exists_cons_of_length_eq_add_one hus
                      replace hus := Nat.succ.inj hus
                      obtain rfl := List.length_eq_zero_iff.1 hus
                      clear hus
                      generalize hbb : exPuts _ _ _ = bb at hall ⊢
                      simp only [exPuts, Act.put, List.setIfInBounds_toArray, List.set_cons_succ, List.set_cons_zero] at hbb
                      subst hbb
                      obtain ⟨h22, h21, h20, h19, h18, h17, h16, h15, h14, h13, h12, h11, h10, h9, h8, h7, h6, h5, h4, h3, h2, h1, h0, -⟩ := hall
                      obtain rfl : v0 = _ := h0
                      obtain rfl : v1 = _ := h1
                      obtain rfl : v2 = _ := h2
                      obtain rfl : v3 = _ := h3
                      obtain rfl : v4 = _ := h4
                      obtain rfl : v5 = _ := h5
                      obtain rfl : v6 = _ := h6
                      obtain rfl : v7 = _ := h7
                      obtain rfl : v8 = _ := h8
                      obtain rfl : v9 = _ := h9
                      obtain rfl : v10 = _ := h10
                      obtain rfl : v11 = _ := h11
                      obtain rfl : v12 = _ := h12
                      obtain rfl : v13 = _ := h13
                      obtain rfl : v14 = _ := h14
                      obtain rfl : v15 = _ := h15
                      obtain rfl : v16 = _ := h16
                      obtain rfl : v17 = _ := h17
                      obtain rfl : v18 = _ := h18
                      obtain rfl : v19 = _ := h19
                      obtain rfl : v20 = _ := h20
                      obtain rfl : v21 = _ := h21
                      obtain rfl : v22 = _ := h22
                      go_wp2
                      all_goals go_returns
                      all_goals exact ⟨ret_bool (by rw [Ho.out, hs1, hs2]; rfl), hC.x⟩
                | true =>
                  go_wp2
                  all_goals go_returns
                  all_goals exact ⟨ret_bool (by rw [Ho.out]; simp), hC.x⟩
              | true =>
                go_wp2
                all_goals go_returns
                all_goals exact ⟨ret_bool (by rw [Ho.out]; simp), hC.x⟩
            | true =>
              go_wp2
              all_goals go_returns
              all_goals exact ⟨ret_bool (by rw [Ho.out]; simp), hC.x⟩
          | true =>
            go_wp2
            all_goals go_returns
            all_goals exact ⟨ret_bool (by rw [Ho.out]; simp), hC.x⟩
end Go.Proofs.YtpfglmlpodjneaaGreat
