/- Pon. -/
import Derived.Test.YtpfglmlpodjneaaGreatZ08
set_option linter.unusedSimpArgs false
set_option linter.unusedVariables false
namespace Go.Proofs.YtpfglmlpodjneaaGreat
open Go.RowKit

def onB (p a b : PtV) : Bool := (p.ok && (a.ok && b.ok)) && ((turnV a b p == 0) && (btw p.x a.x b.x && btw p.y a.y b.y))
def meetB (a b c d : PtV) : Bool := (a.ok && (b.ok && (c.ok && d.ok))) && ((onB a c d || (onB b c d || (onB c a b || onB d a b))) || (decide (turnV a b c * turnV a b d < 0) && decide (turnV c d a * turnV c d b < 0)))
theorem turnV_bd (a b c : PtV) : -1 ≤ turnV a b c ∧ turnV a b c ≤ 1 := by
  unfold turnV turnI cmpI
  repeat' split
  all_goals omega
theorem mul_sg (s t : Int) (hs : -1 ≤ s ∧ s ≤ 1) (ht : -1 ≤ t ∧ t ≤ 1) : IntKind.i64.wrap (s * t) = s * t := by
  obtain ⟨h1, h2⟩ := imul_bd s t 1 (by omega) hs.1 hs.2 ht.1 ht.2
  exact i64_in _ (by omega) (by omega)
set_option maxHeartbeats 4000000 in
set_option maxRecDepth 10000 in
theorem on_any (W : World) (p a b : PtV) : Calls Tryz.prog 131 #[.agg #[.int .i64 p.x, .int .i64 p.y], .agg #[.int .i64 a.x, .int .i64 a.y], .agg #[.int .i64 b.x, .int .i64 b.y]] W fun e w' => e = .returned (.bool (onB p a b)) ∧ Chg [] W w' := by
  have hC := (((CL.new W 0).push #[.int .i64 p.x, .int .i64 p.y] 53).push #[.int .i64 a.x, .int .i64 a.y] 53).push #[.int .i64 b.x, .int .i64 b.y] 53
  try simp only [alloc_sz] at hC
  have HR := right3 (((W.alloc (.cells #[.int .i64 p.x, .int .i64 p.y] 53)).alloc (.cells #[.int .i64 a.x, .int .i64 a.y] 53)).alloc (.cells #[.int .i64 b.x, .int .i64 b.y] 53)) p a b
  simp only [alloc_sz] at HR
  have HT := fun w => turn_any w a b p
  have HB1 := fun w => btw_any w p.x a.x b.x
  have HB2 := fun w => btw_any w p.y a.y b.y
  have Ho := Lib.hid (show onB p a b = ((p.ok && (a.ok && b.ok)) && ((turnV a b p == 0) && (btw p.x a.x b.x && btw p.y a.y b.y))) from rfl)
  generalize onB p a b = R at *
  generalize (p.ok && (a.ok && b.ok)) = r at *
  generalize turnV a b p = t at *
  generalize btw p.x a.x b.x = b1 at *
  generalize btw p.y a.y b.y = b2 at *
  go_enter Tryz.func131, Tryz.ntmps131
  go_wp2_with fail
  refine HR.mono ?_; rintro e w' ⟨rfl, hX⟩
  replace hC := (hC.alloc0 (j := 0) _).step (j := 0) hX
  clear hX
  obtain ⟨f0, f1⟩ := hC.cells 2 rfl
  obtain ⟨f2, f3⟩ := hC.cells 1 rfl
  obtain ⟨f4, f5⟩ := hC.cells 0 rfl
  cases r with
  | false =>
    go_wp2
    all_goals go_returns
    all_goals exact ⟨ret_bool (by rw [Ho.out]; rfl), hC.x⟩
  | true =>
    go_wp2_with fail
    refine (HT _).mono ?_; rintro e w' ⟨rfl, hX⟩
    replace hC := (hC).step (j := 0) hX
    clear hX
    clear f0 f1 f2 f3 f4 f5
    obtain ⟨f0, f1⟩ := hC.cells 2 rfl
    obtain ⟨f2, f3⟩ := hC.cells 1 rfl
    obtain ⟨f4, f5⟩ := hC.cells 0 rfl
    cases hB : (t == 0) with
    | false =>
      go_wp2
      all_goals go_returns
      all_goals exact ⟨ret_bool (by rw [Ho.out, hB]; rfl), hC.x⟩
    | true =>
      go_wp2_with fail
      refine (HB1 _).mono ?_; rintro e w' ⟨rfl, rfl⟩
      cases b1 with
      | false =>
        go_wp2
        all_goals go_returns
        all_goals exact ⟨ret_bool (by rw [Ho.out, hB]; rfl), hC.x⟩
      | true =>
        go_wp2_with fail
        refine (HB2 _).mono ?_; rintro e w' ⟨rfl, rfl⟩
        go_wp2
        all_goals go_returns
        all_goals exact ⟨ret_bool (by rw [Ho.out, hB]; rfl), hC.x⟩
set_option maxHeartbeats 4000000 in
set_option maxRecDepth 10000 in
theorem meet_any (W : World) (a b c d : PtV) : Calls Tryz.prog 132 #[.agg #[.int .i64 a.x, .int .i64 a.y], .agg #[.int .i64 b.x, .int .i64 b.y], .agg #[.int .i64 c.x, .int .i64 c.y], .agg #[.int .i64 d.x, .int .i64 d.y]] W fun e w' => e = .returned (.bool (meetB a b c d)) ∧ Chg [] W w' := by
  have hC := ((((CL.new W 0).push #[.int .i64 a.x, .int .i64 a.y] 53).push #[.int .i64 b.x, .int .i64 b.y] 53).push #[.int .i64 c.x, .int .i64 c.y] 53).push #[.int .i64 d.x, .int .i64 d.y] 53
  try simp only [alloc_sz] at hC
  have HR := right4 ((((W.alloc (.cells #[.int .i64 a.x, .int .i64 a.y] 53)).alloc (.cells #[.int .i64 b.x, .int .i64 b.y] 53)).alloc (.cells #[.int .i64 c.x, .int .i64 c.y] 53)).alloc (.cells #[.int .i64 d.x, .int .i64 d.y] 53)) a b c d
  simp only [alloc_sz] at HR
  have HO1 := fun w => on_any w a c d
  have HO2 := fun w => on_any w b c d
  have HO3 := fun w => on_any w c a b
  have HO4 := fun w => on_any w d a b
  have HT1 := fun w => turn_any w a b c
  have HT2 := fun w => turn_any w a b d
  have HT3 := fun w => turn_any w c d a
  have HT4 := fun w => turn_any w c d b
  have q1 := mul_sg _ _ (turnV_bd a b c) (turnV_bd a b d)
  have q2 := mul_sg _ _ (turnV_bd c d a) (turnV_bd c d b)
  have Ho := Lib.hid (show meetB a b c d = ((a.ok && (b.ok && (c.ok && d.ok))) && ((onB a c d || (onB b c d || (onB c a b || onB d a b))) || (decide (turnV a b c * turnV a b d < 0) && decide (turnV c d a * turnV c d b < 0)))) from rfl)
  generalize meetB a b c d = R at *
  generalize onB a c d = o1 at *
  generalize onB b c d = o2 at *
  generalize onB c a b = o3 at *
  generalize onB d a b = o4 at *
  generalize turnV a b c = t1 at *
  generalize turnV a b d = t2 at *
  generalize turnV c d a = t3 at *
  generalize turnV c d b = t4 at *
  generalize hm1 : t1 * t2 = m1 at *
  generalize hm2 : t3 * t4 = m2 at *
  generalize (a.ok && (b.ok && (c.ok && d.ok))) = r at *
  go_enter Tryz.func132, Tryz.ntmps132
  go_wp2_with fail
  refine HR.mono ?_; rintro e w' ⟨rfl, hX⟩
  replace hC := (hC.alloc0 (j := 0) _).step (j := 0) hX
  clear hX
  obtain ⟨f0, f1⟩ := hC.cells 3 rfl
  obtain ⟨f2, f3⟩ := hC.cells 2 rfl
  obtain ⟨f4, f5⟩ := hC.cells 1 rfl
  obtain ⟨f6, f7⟩ := hC.cells 0 rfl
  cases r with
  | false =>
    go_wp2
    all_goals go_returns
    all_goals exact ⟨ret_bool (by rw [Ho.out]; rfl), hC.x⟩
  | true =>
    go_wp2_with fail
    refine (HO1 _).mono ?_; rintro e w' ⟨rfl, hX⟩
    replace hC := (hC).step (j := 0) hX
    clear hX
    clear f0 f1 f2 f3 f4 f5 f6 f7
    obtain ⟨f0, f1⟩ := hC.cells 3 rfl
    obtain ⟨f2, f3⟩ := hC.cells 2 rfl
    obtain ⟨f4, f5⟩ := hC.cells 1 rfl
    obtain ⟨f6, f7⟩ := hC.cells 0 rfl
    cases o1 with
    | false =>
      go_wp2_with fail
      refine (HO2 _).mono ?_; rintro e w' ⟨rfl, hX⟩
      replace hC := (hC).step (j := 0) hX
      clear hX
      clear f0 f1 f2 f3 f4 f5 f6 f7
      obtain ⟨f0, f1⟩ := hC.cells 3 rfl
      obtain ⟨f2, f3⟩ := hC.cells 2 rfl
      obtain ⟨f4, f5⟩ := hC.cells 1 rfl
      obtain ⟨f6, f7⟩ := hC.cells 0 rfl
      cases o2 with
      | false =>
        go_wp2_with fail
        refine (HO3 _).mono ?_; rintro e w' ⟨rfl, hX⟩
        replace hC := (hC).step (j := 0) hX
        clear hX
        clear f0 f1 f2 f3 f4 f5 f6 f7
        obtain ⟨f0, f1⟩ := hC.cells 3 rfl
        obtain ⟨f2, f3⟩ := hC.cells 2 rfl
        obtain ⟨f4, f5⟩ := hC.cells 1 rfl
        obtain ⟨f6, f7⟩ := hC.cells 0 rfl
        cases o3 with
        | false =>
          go_wp2_with fail
          refine (HO4 _).mono ?_; rintro e w' ⟨rfl, hX⟩
          replace hC := (hC).step (j := 0) hX
          clear hX
          clear f0 f1 f2 f3 f4 f5 f6 f7
          obtain ⟨f0, f1⟩ := hC.cells 3 rfl
          obtain ⟨f2, f3⟩ := hC.cells 2 rfl
          obtain ⟨f4, f5⟩ := hC.cells 1 rfl
          obtain ⟨f6, f7⟩ := hC.cells 0 rfl
          cases o4 with
          | false =>
            go_upto_region 8 with fail
            clear f0 f1 f2 f3 f4 f5 f6 f7
            cases hs1 : decide (m1 < 0) with
            | false =>
              refine wp_region_ex (fun k w => CL W [(W.heap.size + 1 + 1 + 1, #[.int .i64 d.x, .int .i64 d.y]), (W.heap.size + 1 + 1, #[.int .i64 c.x, .int .i64 c.y]), (W.heap.size + 1, #[.int .i64 b.x, .int .i64 b.y]), (W.heap.size, #[.int .i64 a.x, .int .i64 a.y])] 0 w) (fun _ => Chg []) [3, 7] [(0, 0, false), (0, 0, false), (0, 0, false), (0, 0, true), (0, 1, false), (0, 1, false), (0, 1, false), (1, 1, true), (2, 2, false), (2, 2, false), (2, 2, false), (2, 2, false), (2, 2, false), (2, 2, false), (2, 2, false), (2, 2, false), (2, 2, false), (2, 2, false), (2, 2, false), (2, 2, false), (2, 2, false), (2, 2, false), (2, 2, false)] [34, 35, 36, 37, 38, 39, 40, 41, 42, 43, 44, 45, 46, 47, 48, 49, 50, 51, 52, 53, 54, 55, 8] (by kernel_rfl) rfl (by kernel_rfl) (by kernel_rfl) (hC.drew) ?_
              simp only [List.zip_cons_cons, List.zip_nil_right]
              refine ex_det 34 [4] rfl rfl (fun _ _ _ _ _ _ _ _ => rfl) ?_
              apply Exists.intro
              refine ⟨?_, ?_⟩
              · intro wx bX kX hk1 hk2 hC hb hd K hK
                have e4 := hb 4 rfl
                simp only [exSlot, List.getD_cons_succ, List.getD_cons_zero] at e4
                obtain ⟨f0, f1⟩ := hC.cells 3 rfl
                obtain ⟨f2, f3⟩ := hC.cells 2 rfl
                obtain ⟨f4, f5⟩ := hC.cells 1 rfl
                obtain ⟨f6, f7⟩ := hC.cells 0 rfl
                simp only [execOp, e4]
                clear hb hd
                go_simp
                exact hK _ hC (Chg.refl _ _)
              refine ex_det 35 [5] rfl rfl (fun _ _ _ _ _ _ _ _ => rfl) ?_
              apply Exists.intro
              refine ⟨?_, ?_⟩
              · intro wx bX kX hk1 hk2 hC hb hd K hK
                have e5 := hb 5 rfl
                simp only [exSlot, List.getD_cons_succ, List.getD_cons_zero] at e5
                obtain ⟨f0, f1⟩ := hC.cells 3 rfl
                obtain ⟨f2, f3⟩ := hC.cells 2 rfl
                obtain ⟨f4, f5⟩ := hC.cells 1 rfl
                obtain ⟨f6, f7⟩ := hC.cells 0 rfl
                simp only [execOp, e5]
                clear hb hd
                go_simp
                exact hK _ hC (Chg.refl _ _)
              refine ex_det 36 [6] rfl rfl (fun _ _ _ _ _ _ _ _ => rfl) ?_
              apply Exists.intro
              refine ⟨?_, ?_⟩
              · intro wx bX kX hk1 hk2 hC hb hd K hK
                have e6 := hb 6 rfl
                simp only [exSlot, List.getD_cons_succ, List.getD_cons_zero] at e6
                obtain ⟨f0, f1⟩ := hC.cells 3 rfl
                obtain ⟨f2, f3⟩ := hC.cells 2 rfl
                obtain ⟨f4, f5⟩ := hC.cells 1 rfl
                obtain ⟨f6, f7⟩ := hC.cells 0 rfl
                simp only [execOp, e6]
                clear hb hd
                go_simp
                exact hK _ hC (Chg.refl _ _)
              refine ex_det 37 [34, 35, 36] rfl rfl (fun _ _ _ _ _ _ _ _ => rfl) ?_
              apply Exists.intro
              refine ⟨?_, ?_⟩
              · intro wx bX kX hk1 hk2 hC hb hd K hK
                have e34 := hd 34 _ _ rfl rfl
                try dsimp only at e34
                have e35 := hd 35 _ _ rfl rfl
                try dsimp only at e35
                have e36 := hd 36 _ _ rfl rfl
                try dsimp only at e36
                simp only [execOp, resolve, List.map_toArray, List.map_cons, List.map_nil, e34, e35, e36]
                clear hb hd
                go_simp
                refine (HT1 _).mono ?_; rintro e w' ⟨rfl, hX⟩
                exact ⟨_, rfl, hK _ (hC.step (j := 0) hX) hX⟩
              refine ex_det 38 [4] rfl rfl (fun _ _ _ _ _ _ _ _ => rfl) ?_
              apply Exists.intro
              refine ⟨?_, ?_⟩
              · intro wx bX kX hk1 hk2 hC hb hd K hK
                have e4 := hb 4 rfl
                simp only [exSlot, List.getD_cons_succ, List.getD_cons_zero] at e4
                obtain ⟨f0, f1⟩ := hC.cells 3 rfl
                obtain ⟨f2, f3⟩ := hC.cells 2 rfl
                obtain ⟨f4, f5⟩ := hC.cells 1 rfl
                obtain ⟨f6, f7⟩ := hC.cells 0 rfl
                simp only [execOp, e4]
                clear hb hd
                go_simp
                exact hK _ hC (Chg.refl _ _)
              refine ex_det 39 [5] rfl rfl (fun _ _ _ _ _ _ _ _ => rfl) ?_
              apply Exists.intro
              refine ⟨?_, ?_⟩
              · intro wx bX kX hk1 hk2 hC hb hd K hK
                have e5 := hb 5 rfl
                simp only [exSlot, List.getD_cons_succ, List.getD_cons_zero] at e5
                obtain ⟨f0, f1⟩ := hC.cells 3 rfl
                obtain ⟨f2, f3⟩ := hC.cells 2 rfl
                obtain ⟨f4, f5⟩ := hC.cells 1 rfl
                obtain ⟨f6, f7⟩ := hC.cells 0 rfl
                simp only [execOp, e5]
                clear hb hd
                go_simp
                exact hK _ hC (Chg.refl _ _)
              refine ex_det 40 [7] rfl rfl (fun _ _ _ _ _ _ _ _ => rfl) ?_
              apply Exists.intro
              refine ⟨?_, ?_⟩
              · intro wx bX kX hk1 hk2 hC hb hd K hK
                have e7 := hb 7 rfl
                simp only [exSlot, List.getD_cons_succ, List.getD_cons_zero] at e7
                obtain ⟨f0, f1⟩ := hC.cells 3 rfl
                obtain ⟨f2, f3⟩ := hC.cells 2 rfl
                obtain ⟨f4, f5⟩ := hC.cells 1 rfl
                obtain ⟨f6, f7⟩ := hC.cells 0 rfl
                simp only [execOp, e7]
                clear hb hd
                go_simp
                exact hK _ hC (Chg.refl _ _)
              refine ex_det 41 [38, 39, 40] rfl rfl (fun _ _ _ _ _ _ _ _ => rfl) ?_
              apply Exists.intro
              refine ⟨?_, ?_⟩
              · intro wx bX kX hk1 hk2 hC hb hd K hK
                have e38 := hd 38 _ _ rfl rfl
                try dsimp only at e38
                have e39 := hd 39 _ _ rfl rfl
                try dsimp only at e39
                have e40 := hd 40 _ _ rfl rfl
                try dsimp only at e40
                simp only [execOp, resolve, List.map_toArray, List.map_cons, List.map_nil, e38, e39, e40]
                clear hb hd
                go_simp
                refine (HT2 _).mono ?_; rintro e w' ⟨rfl, hX⟩
                exact ⟨_, rfl, hK _ (hC.step (j := 0) hX) hX⟩
              refine ex_det 42 [37, 41] rfl rfl (fun _ _ _ _ _ _ _ _ => rfl) ?_
              apply Exists.intro
              refine ⟨?_, ?_⟩
              · intro wx bX kX hk1 hk2 hC hb hd K hK
                have e37 := hd 37 _ _ rfl rfl
                try dsimp only at e37
                have e41 := hd 41 _ _ rfl rfl
                try dsimp only at e41
                simp only [execOp, e37, e41]
                clear hb hd
                go_simp
                exact hK _ hC (Chg.refl _ _)
              refine ex_det 43 [42] rfl rfl (fun _ _ _ _ _ _ _ _ => rfl) ?_
              apply Exists.intro
              refine ⟨?_, ?_⟩
              · intro wx bX kX hk1 hk2 hC hb hd K hK
                have e42 := hd 42 _ _ rfl rfl
                try dsimp only at e42
                simp only [execOp, e42]
                clear hb hd
                go_simp
                exact hK _ hC (Chg.refl _ _)
              refine ex_det 44 [43] rfl rfl (fun _ _ _ _ _ _ _ _ => rfl) ?_
              apply Exists.intro
              refine ⟨?_, ?_⟩
              · intro wx bX kX hk1 hk2 hC hb hd K hK
                have e43 := hd 43 _ _ rfl rfl
                try dsimp only at e43
                simp only [execOp, e43]
                clear hb hd
                go_simp
                exact hK _ hC (Chg.refl _ _)
              refine ex_pass 45 [6, 44] rfl rfl (fun _ _ => Chg.refl _ _) (fun _ b _ _ _ _ hb hd => (wanted_guard b rfl rfl (hd 44 _ _ rfl rfl)).trans rfl) ?_
              refine ex_pass 46 [7, 44] rfl rfl (fun _ _ => Chg.refl _ _) (fun _ b _ _ _ _ hb hd => (wanted_guard b rfl rfl (hd 44 _ _ rfl rfl)).trans rfl) ?_
              refine ex_pass 47 [4, 44] rfl rfl (fun _ _ => Chg.refl _ _) (fun _ b _ _ _ _ hb hd => (wanted_guard b rfl rfl (hd 44 _ _ rfl rfl)).trans rfl) ?_
              refine ex_pass 48 [45, 46, 47, 44] rfl rfl (fun _ _ => Chg.refl _ _) (fun _ b _ _ _ _ hb hd => (wanted_guard b rfl rfl (hd 44 _ _ rfl rfl)).trans rfl) ?_
              refine ex_pass 49 [6, 44] rfl rfl (fun _ _ => Chg.refl _ _) (fun _ b _ _ _ _ hb hd => (wanted_guard b rfl rfl (hd 44 _ _ rfl rfl)).trans rfl) ?_
              refine ex_pass 50 [7, 44] rfl rfl (fun _ _ => Chg.refl _ _) (fun _ b _ _ _ _ hb hd => (wanted_guard b rfl rfl (hd 44 _ _ rfl rfl)).trans rfl) ?_
              refine ex_pass 51 [5, 44] rfl rfl (fun _ _ => Chg.refl _ _) (fun _ b _ _ _ _ hb hd => (wanted_guard b rfl rfl (hd 44 _ _ rfl rfl)).trans rfl) ?_
              refine ex_pass 52 [49, 50, 51, 44] rfl rfl (fun _ _ => Chg.refl _ _) (fun _ b _ _ _ _ hb hd => (wanted_guard b rfl rfl (hd 44 _ _ rfl rfl)).trans rfl) ?_
              refine ex_pass 53 [48, 52, 44] rfl rfl (fun _ _ => Chg.refl _ _) (fun _ b _ _ _ _ hb hd => (wanted_guard b rfl rfl (hd 44 _ _ rfl rfl)).trans rfl) ?_
              refine ex_pass 54 [53, 44] rfl rfl (fun _ _ => Chg.refl _ _) (fun _ b _ _ _ _ hb hd => (wanted_guard b rfl rfl (hd 44 _ _ rfl rfl)).trans rfl) ?_
              refine ex_det 55 [44, 54] rfl rfl (fun _ _ _ _ _ _ _ _ => rfl) ?_
              apply Exists.intro
              refine ⟨?_, ?_⟩
              · intro wx bX kX hk1 hk2 hC hb hd K hK
                have e44 := hd 44 _ _ rfl rfl
                try dsimp only at e44
                have e54 := hd 54 _ _ rfl rfl
                try dsimp only at e54
                simp only [execOp, e44, e54]
                clear hb hd
                go_simp
                exact hK _ hC (Chg.refl _ _)
              refine ex_det 8 [55] rfl rfl (fun _ _ _ _ _ _ _ _ => rfl) ?_
              apply Exists.intro
              refine ⟨?_, ?_⟩
              · intro wx bX kX hk1 hk2 hC hb hd K hK
                have e55 := hd 55 _ _ rfl rfl
                try dsimp only at e55
                simp only [execOp, e55]
                clear hb hd
                go_simp
                exact hK _ hC (Chg.refl _ _)
              refine ex_end ?_
              intro us w2 hus hC hall
              obtain ⟨v0, us, rfl⟩ := List.exists_cons_of_length_eq_add_one hus
              replace hus := Nat.succ.inj hus
              obtain ⟨v1, us, rfl⟩ := List.exists_cons_of_length_eq_add_one hus
              replace hus := Nat.succ.inj hus
              obtain ⟨v2, us, rfl⟩ := List.exists_cons_of_length_eq_add_one hus
              replace hus := Nat.succ.inj hus
              obtain ⟨v3, us, rfl⟩ := List.exists_cons_of_length_eq_add_one hus
              replace hus := Nat.succ.inj hus
              obtain ⟨v4, us, rfl⟩ := List.exists_cons_of_length_eq_add_one hus
              replace hus := Nat.succ.inj hus
              obtain ⟨v5, us, rfl⟩ := List.exists_cons_of_length_eq_add_one hus
              replace hus := Nat.succ.inj hus
              obtain ⟨v6, us, rfl⟩ := List.exists_cons_of_length_eq_add_one hus
              replace hus := Nat.succ.inj hus
              obtain ⟨v7, us, rfl⟩ := List.exists_cons_of_length_eq_add_one hus
              replace hus := Nat.succ.inj hus
              obtain ⟨v8, us, rfl⟩ := List.exists_cons_of_length_eq_add_one hus
              replace hus := Nat.succ.inj hus
              obtain ⟨v9, us, rfl⟩ := List.exists_cons_of_length_eq_add_one hus
              replace hus := Nat.succ.inj hus
              obtain ⟨v10, us, rfl⟩ := List.exists_cons_of_length_eq_add_one hus
              replace hus := Nat.succ.inj hus
              obtain ⟨v11, us, rfl⟩ := List.exists_cons_of_length_eq_add_one hus
              replace hus := Nat.succ.inj hus
              obtain ⟨v12, us, rfl⟩ := List.exists_cons_of_length_eq_add_one hus
              replace hus := Nat.succ.inj hus
              obtain ⟨v13, us, rfl⟩ := List.exists_cons_of_length_eq_add_one hus
              replace hus := Nat.succ.inj hus
              obtain ⟨v14, us, rfl⟩ := List.exists_cons_of_length_eq_add_one hus
              replace hus := Nat.succ.inj hus
              obtain ⟨v15, us, rfl⟩ := List.exists_cons_of_length_eq_add_one hus
              replace hus := Nat.succ.inj hus
              obtain ⟨v16, us, rfl⟩ := List.exists_cons_of_length_eq_add_one hus
              replace hus := Nat.succ.inj hus
              obtain ⟨v17, us, rfl⟩ := List.exists_cons_of_length_eq_add_one hus
              replace hus := Nat.succ.inj hus
              obtain ⟨v18, us, rfl⟩ := List.exists_cons_of_length_eq_add_one hus
              replace hus := Nat.succ.inj hus
              obtain ⟨v19, us, rfl⟩ := List.exists_cons_of_length_eq_add_one hus
              replace hus := Nat.succ.inj hus
              obtain ⟨v20, us, rfl⟩ := List.exists_cons_of_length_eq_add_one hus
              replace hus := Nat.succ.inj hus
              obtain ⟨v21, us, rfl⟩ := List.exists_cons_of_length_eq_add_one hus
              replace hus := Nat.succ.inj hus
              obtain ⟨v22, us, rfl⟩ := List.exists_cons_of_length_eq_add_one hus
              replace hus := Nat.succ.inj hus
              obtain rfl := List.length_eq_zero_iff.1 hus
              clear hus
              generalize hbb : exPuts _ _ _ = bb at hall ⊢
              simp only [exPuts, Act.put, List.setIfInBounds_toArray, List.set_cons_succ, List.set_cons_zero] at hbb
              subst hbb
              obtain ⟨h22, h21, h20, h19, h18, h17, h16, h15, h14, h13, h12, h11, h10, h9, h8, h7, h6, h5, h4, h3, h2, h1, h0, -⟩ := hall
              obtain rfl : v0 = _ := h0
              obtain rfl : v1 = _ := h1
              obtain rfl : v2 = _ := h2
              obtain rfl : v3 = _ := h3
              obtain rfl : v4 = _ := h4
              obtain rfl : v5 = _ := h5
              obtain rfl : v6 = _ := h6
              obtain rfl : v7 = _ := h7
              obtain rfl : v8 = _ := h8
              obtain rfl : v9 = _ := h9
              obtain rfl : v10 = _ := h10
              obtain rfl : v11 = _ := h11
              obtain rfl : v12 = _ := h12
              obtain rfl : v13 = _ := h13
              obtain rfl : v14 = _ := h14
              obtain rfl : v15 = _ := h15
              obtain rfl : v16 = _ := h16
              obtain rfl : v17 = _ := h17
              obtain rfl : v18 = _ := h18
              obtain rfl : v19 = _ := h19
              obtain rfl : v20 = _ := h20
              obtain rfl : v21 = _ := h21
              obtain rfl : v22 = _ := h22
              go_wp2
              all_goals go_returns
              all_goals exact ⟨ret_bool (by rw [Ho.out, hs1]; rfl), hC.x⟩
            | true =>
              cases hs2 : decide (m2 < 0) with
              | false =>
                refine wp_region_ex (fun k w => CL W [(W.heap.size + 1 + 1 + 1, #[.int .i64 d.x, .int .i64 d.y]), (W.heap.size + 1 + 1, #[.int .i64 c.x, .int .i64 c.y]), (W.heap.size + 1, #[.int .i64 b.x, .int .i64 b.y]), (W.heap.size, #[.int .i64 a.x, .int .i64 a.y])] 0 w) (fun _ => Chg []) [3, 7, 14, 18] [(0, 0, false), (0, 0, false), (0, 0, false), (0, 0, true), (0, 1, false), (0, 1, false), (0, 1, false), (1, 1, true), (2, 2, false), (2, 2, false), (2, 2, false), (2, 2, false), (2, 2, false), (2, 2, false), (2, 2, true), (2, 3, false), (2, 3, false), (2, 3, false), (3, 3, true), (4, 4, false), (4, 4, false), (4, 4, false), (4, 4, false)] [34, 35, 36, 37, 38, 39, 40, 41, 42, 43, 44, 45, 46, 47, 48, 49, 50, 51, 52, 53, 54, 55, 8] (by kernel_rfl) rfl (by kernel_rfl) (by kernel_rfl) (hC.drew) ?_
                simp only [List.zip_cons_cons, List.zip_nil_right]
                refine ex_det 34 [4] rfl rfl (fun _ _ _ _ _ _ _ _ => rfl) ?_
                apply Exists.intro
                refine ⟨?_, ?_⟩
                · intro wx bX kX hk1 hk2 hC hb hd K hK
                  have e4 := hb 4 rfl
                  simp only [exSlot, List.getD_cons_succ, List.getD_cons_zero] at e4
                  obtain ⟨f0, f1⟩ := hC.cells 3 rfl
                  obtain ⟨f2, f3⟩ := hC.cells 2 rfl
                  obtain ⟨f4, f5⟩ := hC.cells 1 rfl
                  obtain ⟨f6, f7⟩ := hC.cells 0 rfl
                  simp only [execOp, e4]
                  clear hb hd
                  go_simp
                  exact hK _ hC (Chg.refl _ _)
                refine ex_det 35 [5] rfl rfl (fun _ _ _ _ _ _ _ _ => rfl) ?_
                apply Exists.intro
                refine ⟨?_, ?_⟩
                · intro wx bX kX hk1 hk2 hC hb hd K hK
                  have e5 := hb 5 rfl
                  simp only [exSlot, List.getD_cons_succ, List.getD_cons_zero] at e5
                  obtain ⟨f0, f1⟩ := hC.cells 3 rfl
                  obtain ⟨f2, f3⟩ := hC.cells 2 rfl
                  obtain ⟨f4, f5⟩ := hC.cells 1 rfl
                  obtain ⟨f6, f7⟩ := hC.cells 0 rfl
                  simp only [execOp, e5]
                  clear hb hd
                  go_simp
                  exact hK _ hC (Chg.refl _ _)
                refine ex_det 36 [6] rfl rfl (fun _ _ _ _ _ _ _ _ => rfl) ?_
                apply Exists.intro
                refine ⟨?_, ?_⟩
                · intro wx bX kX hk1 hk2 hC hb hd K hK
                  have e6 := hb 6 rfl
                  simp only [exSlot, List.getD_cons_succ, List.getD_cons_zero] at e6
                  obtain ⟨f0, f1⟩ := hC.cells 3 rfl
                  obtain ⟨f2, f3⟩ := hC.cells 2 rfl
                  obtain ⟨f4, f5⟩ := hC.cells 1 rfl
                  obtain ⟨f6, f7⟩ := hC.cells 0 rfl
                  simp only [execOp, e6]
                  clear hb hd
                  go_simp
                  exact hK _ hC (Chg.refl _ _)
                refine ex_det 37 [34, 35, 36] rfl rfl (fun _ _ _ _ _ _ _ _ => rfl) ?_
                apply Exists.intro
                refine ⟨?_, ?_⟩
                · intro wx bX kX hk1 hk2 hC hb hd K hK
                  have e34 := hd 34 _ _ rfl rfl
                  try dsimp only at e34
                  have e35 := hd 35 _ _ rfl rfl
                  try dsimp only at e35
                  have e36 := hd 36 _ _ rfl rfl
                  try dsimp only at e36
                  simp only [execOp, resolve, List.map_toArray, List.map_cons, List.map_nil, e34, e35, e36]
                  clear hb hd
                  go_simp
                  refine (HT1 _).mono ?_; rintro e w' ⟨rfl, hX⟩
                  exact ⟨_, rfl, hK _ (hC.step (j := 0) hX) hX⟩
                refine ex_det 38 [4] rfl rfl (fun _ _ _ _ _ _ _ _ => rfl) ?_
                apply Exists.intro
                refine ⟨?_, ?_⟩
                · intro wx bX kX hk1 hk2 hC hb hd K hK
                  have e4 := hb 4 rfl
                  simp only [exSlot, List.getD_cons_succ, List.getD_cons_zero] at e4
                  obtain ⟨f0, f1⟩ := hC.cells 3 rfl
                  obtain ⟨f2, f3⟩ := hC.cells 2 rfl
                  obtain ⟨f4, f5⟩ := hC.cells 1 rfl
                  obtain ⟨f6, f7⟩ := hC.cells 0 rfl
                  simp only [execOp, e4]
                  clear hb hd
                  go_simp
                  exact hK _ hC (Chg.refl _ _)
                refine ex_det 39 [5] rfl rfl (fun _ _ _ _ _ _ _ _ => rfl) ?_
                apply Exists.intro
                refine ⟨?_, ?_⟩
                · intro wx bX kX hk1 hk2 hC hb hd K hK
                  have e5 := hb 5 rfl
                  simp only [exSlot, List.getD_cons_succ, List.getD_cons_zero] at e5
                  obtain ⟨f0, f1⟩ := hC.cells 3 rfl
                  obtain ⟨f2, f3⟩ := hC.cells 2 rfl
                  obtain ⟨f4, f5⟩ := hC.cells 1 rfl
                  obtain ⟨f6, f7⟩ := hC.cells 0 rfl
                  simp only [execOp, e5]
                  clear hb hd
                  go_simp
                  exact hK _ hC (Chg.refl _ _)
                refine ex_det 40 [7] rfl rfl (fun _ _ _ _ _ _ _ _ => rfl) ?_
                apply Exists.intro
                refine ⟨?_, ?_⟩
                · intro wx bX kX hk1 hk2 hC hb hd K hK
                  have e7 := hb 7 rfl
                  simp only [exSlot, List.getD_cons_succ, List.getD_cons_zero] at e7
                  obtain ⟨f0, f1⟩ := hC.cells 3 rfl
                  obtain ⟨f2, f3⟩ := hC.cells 2 rfl
                  obtain ⟨f4, f5⟩ := hC.cells 1 rfl
                  obtain ⟨f6, f7⟩ := hC.cells 0 rfl
                  simp only [execOp, e7]
                  clear hb hd
                  go_simp
                  exact hK _ hC (Chg.refl _ _)
                refine ex_det 41 [38, 39, 40] rfl rfl (fun _ _ _ _ _ _ _ _ => rfl) ?_
                apply Exists.intro
                refine ⟨?_, ?_⟩
                · intro wx bX kX hk1 hk2 hC hb hd K hK
                  have e38 := hd 38 _ _ rfl rfl
                  try dsimp only at e38
                  have e39 := hd 39 _ _ rfl rfl
                  try dsimp only at e39
                  have e40 := hd 40 _ _ rfl rfl
                  try dsimp only at e40
                  simp only [execOp, resolve, List.map_toArray, List.map_cons, List.map_nil, e38, e39, e40]
                  clear hb hd
                  go_simp
                  refine (HT2 _).mono ?_; rintro e w' ⟨rfl, hX⟩
                  exact ⟨_, rfl, hK _ (hC.step (j := 0) hX) hX⟩
                refine ex_det 42 [37, 41] rfl rfl (fun _ _ _ _ _ _ _ _ => rfl) ?_
                apply Exists.intro
                refine ⟨?_, ?_⟩
                · intro wx bX kX hk1 hk2 hC hb hd K hK
                  have e37 := hd 37 _ _ rfl rfl
                  try dsimp only at e37
                  have e41 := hd 41 _ _ rfl rfl
                  try dsimp only at e41
                  simp only [execOp, e37, e41]
                  clear hb hd
                  go_simp
                  exact hK _ hC (Chg.refl _ _)
                refine ex_det 43 [42] rfl rfl (fun _ _ _ _ _ _ _ _ => rfl) ?_
                apply Exists.intro
                refine ⟨?_, ?_⟩
                · intro wx bX kX hk1 hk2 hC hb hd K hK
                  have e42 := hd 42 _ _ rfl rfl
                  try dsimp only at e42
                  simp only [execOp, e42]
                  clear hb hd
                  go_simp
                  exact hK _ hC (Chg.refl _ _)
                refine ex_det 44 [43] rfl rfl (fun _ _ _ _ _ _ _ _ => rfl) ?_
                apply Exists.intro
                refine ⟨?_, ?_⟩
                · intro wx bX kX hk1 hk2 hC hb hd K hK
                  have e43 := hd 43 _ _ rfl rfl
                  try dsimp only at e43
                  simp only [execOp, e43]
                  clear hb hd
                  go_simp
                  exact hK _ hC (Chg.refl _ _)
                refine ex_det 45 [6, 44] rfl rfl (fun _ b _ _ _ _ hb hd => (wanted_guard b rfl rfl (hd 44 _ _ rfl rfl)).trans rfl) ?_
                apply Exists.intro
                refine ⟨?_, ?_⟩
                · intro wx bX kX hk1 hk2 hC hb hd K hK
                  have e6 := hb 6 rfl
                  simp only [exSlot, List.getD_cons_succ, List.getD_cons_zero] at e6
                  obtain ⟨f0, f1⟩ := hC.cells 3 rfl
                  obtain ⟨f2, f3⟩ := hC.cells 2 rfl
                  obtain ⟨f4, f5⟩ := hC.cells 1 rfl
                  obtain ⟨f6, f7⟩ := hC.cells 0 rfl
                  simp only [execOp, e6]
                  clear hb hd
                  go_simp
                  exact hK _ hC (Chg.refl _ _)
                refine ex_det 46 [7, 44] rfl rfl (fun _ b _ _ _ _ hb hd => (wanted_guard b rfl rfl (hd 44 _ _ rfl rfl)).trans rfl) ?_
                apply Exists.intro
                refine ⟨?_, ?_⟩
                · intro wx bX kX hk1 hk2 hC hb hd K hK
                  have e7 := hb 7 rfl
                  simp only [exSlot, List.getD_cons_succ, List.getD_cons_zero] at e7
                  obtain ⟨f0, f1⟩ := hC.cells 3 rfl
                  obtain ⟨f2, f3⟩ := hC.cells 2 rfl
                  obtain ⟨f4, f5⟩ := hC.cells 1 rfl
                  obtain ⟨f6, f7⟩ := hC.cells 0 rfl
                  simp only [execOp, e7]
                  clear hb hd
                  go_simp
                  exact hK _ hC (Chg.refl _ _)
                refine ex_det 47 [4, 44] rfl rfl (fun _ b _ _ _ _ hb hd => (wanted_guard b rfl rfl (hd 44 _ _ rfl rfl)).trans rfl) ?_
                apply Exists.intro
                refine ⟨?_, ?_⟩
                · intro wx bX kX hk1 hk2 hC hb hd K hK
                  have e4 := hb 4 rfl
                  simp only [exSlot, List.getD_cons_succ, List.getD_cons_zero] at e4
                  obtain ⟨f0, f1⟩ := hC.cells 3 rfl
                  obtain ⟨f2, f3⟩ := hC.cells 2 rfl
                  obtain ⟨f4, f5⟩ := hC.cells 1 rfl
                  obtain ⟨f6, f7⟩ := hC.cells 0 rfl
                  simp only [execOp, e4]
                  clear hb hd
                  go_simp
                  exact hK _ hC (Chg.refl _ _)
                refine ex_det 48 [45, 46, 47, 44] rfl rfl (fun _ b _ _ _ _ hb hd => (wanted_guard b rfl rfl (hd 44 _ _ rfl rfl)).trans rfl) ?_
                apply Exists.intro
                refine ⟨?_, ?_⟩
                · intro wx bX kX hk1 hk2 hC hb hd K hK
                  have e45 := hd 45 _ _ rfl rfl
                  try dsimp only at e45
                  have e46 := hd 46 _ _ rfl rfl
                  try dsimp only at e46
                  have e47 := hd 47 _ _ rfl rfl
                  try dsimp only at e47
                  simp only [execOp, resolve, List.map_toArray, List.map_cons, List.map_nil, e45, e46, e47]
                  clear hb hd
                  go_simp
                  refine (HT3 _).mono ?_; rintro e w' ⟨rfl, hX⟩
                  exact ⟨_, rfl, hK _ (hC.step (j := 0) hX) hX⟩
                refine ex_det 49 [6, 44] rfl rfl (fun _ b _ _ _ _ hb hd => (wanted_guard b rfl rfl (hd 44 _ _ rfl rfl)).trans rfl) ?_
                apply Exists.intro
                refine ⟨?_, ?_⟩
                · intro wx bX kX hk1 hk2 hC hb hd K hK
                  have e6 := hb 6 rfl
                  simp only [exSlot, List.getD_cons_succ, List.getD_cons_zero] at e6
                  obtain ⟨f0, f1⟩ := hC.cells 3 rfl
                  obtain ⟨f2, f3⟩ := hC.cells 2 rfl
                  obtain ⟨f4, f5⟩ := hC.cells 1 rfl
                  obtain ⟨f6, f7⟩ := hC.cells 0 rfl
                  simp only [execOp, e6]
                  clear hb hd
                  go_simp
                  exact hK _ hC (Chg.refl _ _)
                refine ex_det 50 [7, 44] rfl rfl (fun _ b _ _ _ _ hb hd => (wanted_guard b rfl rfl (hd 44 _ _ rfl rfl)).trans rfl) ?_
                apply Exists.intro
                refine ⟨?_, ?_⟩
                · intro wx bX kX hk1 hk2 hC hb hd K hK
                  have e7 := hb 7 rfl
                  simp only [exSlot, List.getD_cons_succ, List.getD_cons_zero] at e7
                  obtain ⟨f0, f1⟩ := hC.cells 3 rfl
                  obtain ⟨f2, f3⟩ := hC.cells 2 rfl
                  obtain ⟨f4, f5⟩ := hC.cells 1 rfl
                  obtain ⟨f6, f7⟩ := hC.cells 0 rfl
                  simp only [execOp, e7]
                  clear hb hd
                  go_simp
                  exact hK _ hC (Chg.refl _ _)
                refine ex_det 51 [5, 44] rfl rfl (fun _ b _ _ _ _ hb hd => (wanted_guard b rfl rfl (hd 44 _ _ rfl rfl)).trans rfl) ?_
                apply Exists.intro
                refine ⟨?_, ?_⟩
                · intro wx bX kX hk1 hk2 hC hb hd K hK
                  have e5 := hb 5 rfl
                  simp only [exSlot, List.getD_cons_succ, List.getD_cons_zero] at e5
                  obtain ⟨f0, f1⟩ := hC.cells 3 rfl
                  obtain ⟨f2, f3⟩ := hC.cells 2 rfl
                  obtain ⟨f4, f5⟩ := hC.cells 1 rfl
                  obtain ⟨f6, f7⟩ := hC.cells 0 rfl
                  simp only [execOp, e5]
                  clear hb hd
                  go_simp
                  exact hK _ hC (Chg.refl _ _)
                refine ex_det 52 [49, 50, 51, 44] rfl rfl (fun _ b _ _ _ _ hb hd => (wanted_guard b rfl rfl (hd 44 _ _ rfl rfl)).trans rfl) ?_
                apply Exists.intro
                refine ⟨?_, ?_⟩
                · intro wx bX kX hk1 hk2 hC hb hd K hK
                  have e49 := hd 49 _ _ rfl rfl
                  try dsimp only at e49
                  have e50 := hd 50 _ _ rfl rfl
                  try dsimp only at e50
                  have e51 := hd 51 _ _ rfl rfl
                  try dsimp only at e51
                  simp only [execOp, resolve, List.map_toArray, List.map_cons, List.map_nil, e49, e50, e51]
                  clear hb hd
                  go_simp
                  refine (HT4 _).mono ?_; rintro e w' ⟨rfl, hX⟩
                  exact ⟨_, rfl, hK _ (hC.step (j := 0) hX) hX⟩
                refine ex_det 53 [48, 52, 44] rfl rfl (fun _ b _ _ _ _ hb hd => (wanted_guard b rfl rfl (hd 44 _ _ rfl rfl)).trans rfl) ?_
                apply Exists.intro
                refine ⟨?_, ?_⟩
                · intro wx bX kX hk1 hk2 hC hb hd K hK
                  have e48 := hd 48 _ _ rfl rfl
                  try dsimp only at e48
                  have e52 := hd 52 _ _ rfl rfl
                  try dsimp only at e52
                  simp only [execOp, e48, e52]
                  clear hb hd
                  go_simp
                  exact hK _ hC (Chg.refl _ _)
                refine ex_det 54 [53, 44] rfl rfl (fun _ b _ _ _ _ hb hd => (wanted_guard b rfl rfl (hd 44 _ _ rfl rfl)).trans rfl) ?_
                apply Exists.intro
                refine ⟨?_, ?_⟩
                · intro wx bX kX hk1 hk2 hC hb hd K hK
                  have e53 := hd 53 _ _ rfl rfl
                  try dsimp only at e53
                  simp only [execOp, e53]
                  clear hb hd
                  go_simp
                  exact hK _ hC (Chg.refl _ _)
                refine ex_det 55 [44, 54] rfl rfl (fun _ _ _ _ _ _ _ _ => rfl) ?_
                apply Exists.intro
                refine ⟨?_, ?_⟩
                · intro wx bX kX hk1 hk2 hC hb hd K hK
                  have e44 := hd 44 _ _ rfl rfl
                  try dsimp only at e44
                  have e54 := hd 54 _ _ rfl rfl
                  try dsimp only at e54
                  simp only [execOp, e44, e54]
                  clear hb hd
                  go_simp
                  exact hK _ hC (Chg.refl _ _)
                refine ex_det 8 [55] rfl rfl (fun _ _ _ _ _ _ _ _ => rfl) ?_
                apply Exists.intro
                refine ⟨?_, ?_⟩
                · intro wx bX kX hk1 hk2 hC hb hd K hK
                  have e55 := hd 55 _ _ rfl rfl
                  try dsimp only at e55
                  simp only [execOp, e55]
                  clear hb hd
                  go_simp
                  exact hK _ hC (Chg.refl _ _)
                refine ex_end ?_
                intro us w2 hus hC hall
                obtain ⟨v0, us, rfl⟩ := List.exists_cons_of_length_eq_add_one hus
                replace hus := Nat.succ.inj hus
                obtain ⟨v1, us, rfl⟩ := List.exists_cons_of_length_eq_add_one hus
                replace hus := Nat.succ.inj hus
                obtain ⟨v2, us, rfl⟩ := List.exists_cons_of_length_eq_add_one hus
                replace hus := Nat.succ.inj hus
                obtain ⟨v3, us, rfl⟩ := List.exists_cons_of_length_eq_add_one hus
                replace hus := Nat.succ.inj hus
                obtain ⟨v4, us, rfl⟩ := List.exists_cons_of_length_eq_add_one hus
                replace hus := Nat.succ.inj hus
                obtain ⟨v5, us, rfl⟩ := List.exists_cons_of_length_eq_add_one hus
                replace hus := Nat.succ.inj hus
                obtain ⟨v6, us, rfl⟩ := List.exists_cons_of_length_eq_add_one hus
                replace hus := Nat.succ.inj hus
                obtain ⟨v7, us, rfl⟩ := List.exists_cons_of_length_eq_add_one hus
                replace hus := Nat.succ.inj hus
                obtain ⟨v8, us, rfl⟩ := List.exists_cons_of_length_eq_add_one hus
                replace hus := Nat.succ.inj hus
                obtain ⟨v9, us, rfl⟩ := List.exists_cons_of_length_eq_add_one hus
                replace hus := Nat.succ.inj hus
                obtain ⟨v10, us, rfl⟩ := List.exists_cons_of_length_eq_add_one hus
                replace hus := Nat.succ.inj hus
                obtain ⟨v11, us, rfl⟩ := List.exists_cons_of_length_eq_add_one hus
                replace hus := Nat.succ.inj hus
                obtain ⟨v12, us, rfl⟩ := List.exists_cons_of_length_eq_add_one hus
                replace hus := Nat.succ.inj hus
                obtain ⟨v13, us, rfl⟩ := List.exists_cons_of_length_eq_add_one hus
                replace hus := Nat.succ.inj hus
                obtain ⟨v14, us, rfl⟩ := List.exists_cons_of_length_eq_add_one hus
                replace hus := Nat.succ.inj hus
                obtain ⟨v15, us, rfl⟩ := List.exists_cons_of_length_eq_add_one hus
                replace hus := Nat.succ.inj hus
                obtain ⟨v16, us, rfl⟩ := List.exists_cons_of_length_eq_add_one hus
                replace hus := Nat.succ.inj hus
                obtain ⟨v17, us, rfl⟩ := List.exists_cons_of_length_eq_add_one hus
                replace hus := Nat.succ.inj hus
                obtain ⟨v18, us, rfl⟩ := List.exists_cons_of_length_eq_add_one hus
                replace hus := Nat.succ.inj hus
                obtain ⟨v19, us, rfl⟩ := List.exists_cons_of_length_eq_add_one hus
                replace hus := Nat.succ.inj hus
                obtain ⟨v20, us, rfl⟩ := List.exists_cons_of_length_eq_add_one hus
                replace hus := Nat.succ.inj hus
                obtain ⟨v21, us, rfl⟩ := List.exists_cons_of_length_eq_add_one hus
                replace hus := Nat.succ.inj hus
                obtain ⟨v22, us, rfl⟩ := List.exists_cons_of_length_eq_add_one hus
                replace hus := Nat.succ.inj hus
                obtain rfl := List.length_eq_zero_iff.1 hus
                clear hus
                generalize hbb : exPuts _ _ _ = bb at hall ⊢
                simp only [exPuts, Act.put, List.setIfInBounds_toArray, List.set_cons_succ, List.set_cons_zero] at hbb
                subst hbb
                obtain ⟨h22, h21, h20, h19, h18, h17, h16, h15, h14, h13, h12, h11, h10, h9, h8, h7, h6, h5, h4, h3, h2, h1, h0, -⟩ := hall
                obtain rfl : v0 = _ := h0
                obtain rfl : v1 = _ := h1
                obtain rfl : v2 = _ := h2
                obtain rfl : v3 = _ := h3
                obtain rfl : v4 = _ := h4
                obtain rfl : v5 = _ := h5
                obtain rfl : v6 = _ := h6
                obtain rfl : v7 = _ := h7
                obtain rfl : v8 = _ := h8
                obtain rfl : v9 = _ := h9
                obtain rfl : v10 = _ := h10
                obtain rfl : v11 = _ := h11
                obtain rfl : v12 = _ := h12
                obtain rfl : v13 = _ := h13
                obtain rfl : v14 = _ := h14
                obtain rfl : v15 = _ := h15
                obtain rfl : v16 = _ := h16
                obtain rfl : v17 = _ := h17
                obtain rfl : v18 = _ := h18
                obtain rfl : v19 = _ := h19
                obtain rfl : v20 = _ := h20
                obtain rfl : v21 = _ := h21
                obtain rfl : v22 = _ := h22
                go_wp2
                all_goals go_returns
                all_goals exact ⟨ret_bool (by rw [Ho.out, hs1, hs2]; rfl), hC.x⟩
              | true =>
                refine wp_region_ex (fun k w => CL W [(W.heap.size + 1 + 1 + 1, #[.int .i64 d.x, .int .i64 d.y]), (W.heap.size + 1 + 1, #[.int .i64 c.x, .int .i64 c.y]), (W.heap.size + 1, #[.int .i64 b.x, .int .i64 b.y]), (W.heap.size, #[.int .i64 a.x, .int .i64 a.y])] 0 w) (fun _ => Chg []) [3, 7, 14, 18] [(0, 0, false), (0, 0, false), (0, 0, false), (0, 0, true), (0, 1, false), (0, 1, false), (0, 1, false), (1, 1, true), (2, 2, false), (2, 2, false), (2, 2, false), (2, 2, false), (2, 2, false), (2, 2, false), (2, 2, true), (2, 3, false), (2, 3, false), (2, 3, false), (3, 3, true), (4, 4, false), (4, 4, false), (4, 4, false), (4, 4, false)] [34, 35, 36, 37, 38, 39, 40, 41, 42, 43, 44, 45, 46, 47, 48, 49, 50, 51, 52, 53, 54, 55, 8] (by kernel_rfl) rfl (by kernel_rfl) (by kernel_rfl) (hC.drew) ?_
                simp only [List.zip_cons_cons, List.zip_nil_right]
                refine ex_det 34 [4] rfl rfl (fun _ _ _ _ _ _ _ _ => rfl) ?_
                apply Exists.intro
                refine ⟨?_, ?_⟩
                · intro wx bX kX hk1 hk2 hC hb hd K hK
                  have e4 := hb 4 rfl
                  simp only [exSlot, List.getD_cons_succ, List.getD_cons_zero] at e4
                  obtain ⟨f0, f1⟩ := hC.cells 3 rfl
                  obtain ⟨f2, f3⟩ := hC.cells 2 rfl
                  obtain ⟨f4, f5⟩ := hC.cells 1 rfl
                  obtain ⟨f6, f7⟩ := hC.cells 0 rfl
                  simp only [execOp, e4]
                  clear hb hd
                  go_simp
                  exact hK _ hC (Chg.refl _ _)
                refine ex_det 35 [5] rfl rfl (fun _ _ _ _ _ _ _ _ => rfl) ?_
                apply Exists.intro
                refine ⟨?_, ?_⟩
                · intro wx bX kX hk1 hk2 hC hb hd K hK
                  have e5 := hb 5 rfl
                  simp only [exSlot, List.getD_cons_succ, List.getD_cons_zero] at e5
                  obtain ⟨f0, f1⟩ := hC.cells 3 rfl
                  obtain ⟨f2, f3⟩ := hC.cells 2 rfl
                  obtain ⟨f4, f5⟩ := hC.cells 1 rfl
                  obtain ⟨f6, f7⟩ := hC.cells 0 rfl
                  simp only [execOp, e5]
                  clear hb hd
                  go_simp
                  exact hK _ hC (Chg.refl _ _)
                refine ex_det 36 [6] rfl rfl (fun _ _ _ _ _ _ _ _ => rfl) ?_
                apply Exists.intro
                refine ⟨?_, ?_⟩
                · intro wx bX kX hk1 hk2 hC hb hd K hK
                  have e6 := hb 6 rfl
                  simp only [exSlot, List.getD_cons_succ, List.getD_cons_zero] at e6
                  obtain ⟨f0, f1⟩ := hC.cells 3 rfl
                  obtain ⟨f2, f3⟩ := hC.cells 2 rfl
                  obtain ⟨f4, f5⟩ := hC.cells 1 rfl
                  obtain ⟨f6, f7⟩ := hC.cells 0 rfl
                  simp only [execOp, e6]
                  clear hb hd
                  go_simp
                  exact hK _ hC (Chg.refl _ _)
                refine ex_det 37 [34, 35, 36] rfl rfl (fun _ _ _ _ _ _ _ _ => rfl) ?_
                apply Exists.intro
                refine ⟨?_, ?_⟩
                · intro wx bX kX hk1 hk2 hC hb hd K hK
                  have e34 := hd 34 _ _ rfl rfl
                  try dsimp only at e34
                  have e35 := hd 35 _ _ rfl rfl
                  try dsimp only at e35
                  have e36 := hd 36 _ _ rfl rfl
                  try dsimp only at e36
                  simp only [execOp, resolve, List.map_toArray, List.map_cons, List.map_nil, e34, e35, e36]
                  clear hb hd
                  go_simp
                  refine (HT1 _).mono ?_; rintro e w' ⟨rfl, hX⟩
                  exact ⟨_, rfl, hK _ (hC.step (j := 0) hX) hX⟩
                refine ex_det 38 [4] rfl rfl (fun _ _ _ _ _ _ _ _ => rfl) ?_
                apply Exists.intro
                refine ⟨?_, ?_⟩
                · intro wx bX kX hk1 hk2 hC hb hd K hK
                  have e4 := hb 4 rfl
                  simp only [exSlot, List.getD_cons_succ, List.getD_cons_zero] at e4
                  obtain ⟨f0, f1⟩ := hC.cells 3 rfl
                  obtain ⟨f2, f3⟩ := hC.cells 2 rfl
                  obtain ⟨f4, f5⟩ := hC.cells 1 rfl
                  obtain ⟨f6, f7⟩ := hC.cells 0 rfl
                  simp only [execOp, e4]
                  clear hb hd
                  go_simp
                  exact hK _ hC (Chg.refl _ _)
                refine ex_det 39 [5] rfl rfl (fun _ _ _ _ _ _ _ _ => rfl) ?_
                apply Exists.intro
                refine ⟨?_, ?_⟩
                · intro wx bX kX hk1 hk2 hC hb hd K hK
                  have e5 := hb 5 rfl
                  simp only [exSlot, List.getD_cons_succ, List.getD_cons_zero] at e5
                  obtain ⟨f0, f1⟩ := hC.cells 3 rfl
                  obtain ⟨f2, f3⟩ := hC.cells 2 rfl
                  obtain ⟨f4, f5⟩ := hC.cells 1 rfl
                  obtain ⟨f6, f7⟩ := hC.cells 0 rfl
                  simp only [execOp, e5]
                  clear hb hd
                  go_simp
                  exact hK _ hC (Chg.refl _ _)
                refine ex_det 40 [7] rfl rfl (fun _ _ _ _ _ _ _ _ => rfl) ?_
                apply Exists.intro
                refine ⟨?_, ?_⟩
                · intro wx bX kX hk1 hk2 hC hb hd K hK
                  have e7 := hb 7 rfl
                  simp only [exSlot, List.getD_cons_succ, List.getD_cons_zero] at e7
                  obtain ⟨f0, f1⟩ := hC.cells 3 rfl
                  obtain ⟨f2, f3⟩ := hC.cells 2 rfl
                  obtain ⟨f4, f5⟩ := hC.cells 1 rfl
                  obtain ⟨f6, f7⟩ := hC.cells 0 rfl
                  simp only [execOp, e7]
                  clear hb hd
                  go_simp
                  exact hK _ hC (Chg.refl _ _)
                refine ex_det 41 [38, 39, 40] rfl rfl (fun _ _ _ _ _ _ _ _ => rfl) ?_
                apply Exists.intro
                refine ⟨?_, ?_⟩
                · intro wx bX kX hk1 hk2 hC hb hd K hK
                  have e38 := hd 38 _ _ rfl rfl
                  try dsimp only at e38
                  have e39 := hd 39 _ _ rfl rfl
                  try dsimp only at e39
                  have e40 := hd 40 _ _ rfl rfl
                  try dsimp only at e40
                  simp only [execOp, resolve, List.map_toArray, List.map_cons, List.map_nil, e38, e39, e40]
                  clear hb hd
                  go_simp
                  refine (HT2 _).mono ?_; rintro e w' ⟨rfl, hX⟩
                  exact ⟨_, rfl, hK _ (hC.step (j := 0) hX) hX⟩
                refine ex_det 42 [37, 41] rfl rfl (fun _ _ _ _ _ _ _ _ => rfl) ?_
                apply Exists.intro
                refine ⟨?_, ?_⟩
                · intro wx bX kX hk1 hk2 hC hb hd K hK
                  have e37 := hd 37 _ _ rfl rfl
                  try dsimp only at e37
                  have e41 := hd 41 _ _ rfl rfl
                  try dsimp only at e41
                  simp only [execOp, e37, e41]
                  clear hb hd
                  go_simp
                  exact hK _ hC (Chg.refl _ _)
                refine ex_det 43 [42] rfl rfl (fun _ _ _ _ _ _ _ _ => rfl) ?_
                apply Exists.intro
                refine ⟨?_, ?_⟩
                · intro wx bX kX hk1 hk2 hC hb hd K hK
                  have e42 := hd 42 _ _ rfl rfl
                  try dsimp only at e42
                  simp only [execOp, e42]
                  clear hb hd
                  go_simp
                  exact hK _ hC (Chg.refl _ _)
                refine ex_det 44 [43] rfl rfl (fun _ _ _ _ _ _ _ _ => rfl) ?_
                apply Exists.intro
                refine ⟨?_, ?_⟩
                · intro wx bX kX hk1 hk2 hC hb hd K hK
                  have e43 := hd 43 _ _ rfl rfl
                  try dsimp only at e43
                  simp only [execOp, e43]
                  clear hb hd
                  go_simp
                  exact hK _ hC (Chg.refl _ _)
                refine ex_det 45 [6, 44] rfl rfl (fun _ b _ _ _ _ hb hd => (wanted_guard b rfl rfl (hd 44 _ _ rfl rfl)).trans rfl) ?_
                apply Exists.intro
                refine ⟨?_, ?_⟩
                · intro wx bX kX hk1 hk2 hC hb hd K hK
                  have e6 := hb 6 rfl
                  simp only [exSlot, List.getD_cons_succ, List.getD_cons_zero] at e6
                  obtain ⟨f0, f1⟩ := hC.cells 3 rfl
                  obtain ⟨f2, f3⟩ := hC.cells 2 rfl
                  obtain ⟨f4, f5⟩ := hC.cells 1 rfl
                  obtain ⟨f6, f7⟩ := hC.cells 0 rfl
                  simp only [execOp, e6]
                  clear hb hd
                  go_simp
                  exact hK _ hC (Chg.refl _ _)
                refine ex_det 46 [7, 44] rfl rfl (fun _ b _ _ _ _ hb hd => (wanted_guard b rfl rfl (hd 44 _ _ rfl rfl)).trans rfl) ?_
                apply Exists.intro
                refine ⟨?_, ?_⟩
                · intro wx bX kX hk1 hk2 hC hb hd K hK
                  have e7 := hb 7 rfl
                  simp only [exSlot, List.getD_cons_succ, List.getD_cons_zero] at e7
                  obtain ⟨f0, f1⟩ := hC.cells 3 rfl
                  obtain ⟨f2, f3⟩ := hC.cells 2 rfl
                  obtain ⟨f4, f5⟩ := hC.cells 1 rfl
                  obtain ⟨f6, f7⟩ := hC.cells 0 rfl
                  simp only [execOp, e7]
                  clear hb hd
                  go_simp
                  exact hK _ hC (Chg.refl _ _)
                refine ex_det 47 [4, 44] rfl rfl (fun _ b _ _ _ _ hb hd => (wanted_guard b rfl rfl (hd 44 _ _ rfl rfl)).trans rfl) ?_
                apply Exists.intro
                refine ⟨?_, ?_⟩
                · intro wx bX kX hk1 hk2 hC hb hd K hK
                  have e4 := hb 4 rfl
                  simp only [exSlot, List.getD_cons_succ, List.getD_cons_zero] at e4
                  obtain ⟨f0, f1⟩ := hC.cells 3 rfl
                  obtain ⟨f2, f3⟩ := hC.cells 2 rfl
                  obtain ⟨f4, f5⟩ := hC.cells 1 rfl
                  obtain ⟨f6, f7⟩ := hC.cells 0 rfl
                  simp only [execOp, e4]
                  clear hb hd
                  go_simp
                  exact hK _ hC (Chg.refl _ _)
                refine ex_det 48 [45, 46, 47, 44] rfl rfl (fun _ b _ _ _ _ hb hd => (wanted_guard b rfl rfl (hd 44 _ _ rfl rfl)).trans rfl) ?_
                apply Exists.intro
                refine ⟨?_, ?_⟩
                · intro wx bX kX hk1 hk2 hC hb hd K hK
                  have e45 := hd 45 _ _ rfl rfl
                  try dsimp only at e45
                  have e46 := hd 46 _ _ rfl rfl
                  try dsimp only at e46
                  have e47 := hd 47 _ _ rfl rfl
                  try dsimp only at e47
                  simp only [execOp, resolve, List.map_toArray, List.map_cons, List.map_nil, e45, e46, e47]
                  clear hb hd
                  go_simp
                  refine (HT3 _).mono ?_; rintro e w' ⟨rfl, hX⟩
                  exact ⟨_, rfl, hK _ (hC.step (j := 0) hX) hX⟩
                refine ex_det 49 [6, 44] rfl rfl (fun _ b _ _ _ _ hb hd => (wanted_guard b rfl rfl (hd 44 _ _ rfl rfl)).trans rfl) ?_
                apply Exists.intro
                refine ⟨?_, ?_⟩
                · intro wx bX kX hk1 hk2 hC hb hd K hK
                  have e6 := hb 6 rfl
                  simp only [exSlot, List.getD_cons_succ, List.getD_cons_zero] at e6
                  obtain ⟨f0, f1⟩ := hC.cells 3 rfl
                  obtain ⟨f2, f3⟩ := hC.cells 2 rfl
                  obtain ⟨f4, f5⟩ := hC.cells 1 rfl
                  obtain ⟨f6, f7⟩ := hC.cells 0 rfl
                  simp only [execOp, e6]
                  clear hb hd
                  go_simp
                  exact hK _ hC (Chg.refl _ _)
                refine ex_det 50 [7, 44] rfl rfl (fun _ b _ _ _ _ hb hd => (wanted_guard b rfl rfl (hd 44 _ _ rfl rfl)).trans rfl) ?_
                apply Exists.intro
                refine ⟨?_, ?_⟩
                · intro wx bX kX hk1 hk2 hC hb hd K hK
                  have e7 := hb 7 rfl
                  simp only [exSlot, List.getD_cons_succ, List.getD_cons_zero] at e7
                  obtain ⟨f0, f1⟩ := hC.cells 3 rfl
                  obtain ⟨f2, f3⟩ := hC.cells 2 rfl
                  obtain ⟨f4, f5⟩ := hC.cells 1 rfl
                  obtain ⟨f6, f7⟩ := hC.cells 0 rfl
                  simp only [execOp, e7]
                  clear hb hd
                  go_simp
                  exact hK _ hC (Chg.refl _ _)
                refine ex_det 51 [5, 44] rfl rfl (fun _ b _ _ _ _ hb hd => (wanted_guard b rfl rfl (hd 44 _ _ rfl rfl)).trans rfl) ?_
                apply Exists.intro
                refine ⟨?_, ?_⟩
                · intro wx bX kX hk1 hk2 hC hb hd K hK
                  have e5 := hb 5 rfl
                  simp only [exSlot, List.getD_cons_succ, List.getD_cons_zero] at e5
                  obtain ⟨f0, f1⟩ := hC.cells 3 rfl
                  obtain ⟨f2, f3⟩ := hC.cells 2 rfl
                  obtain ⟨f4, f5⟩ := hC.cells 1 rfl
                  obtain ⟨f6, f7⟩ := hC.cells 0 rfl
                  simp only [execOp, e5]
                  clear hb hd
                  go_simp
                  exact hK _ hC (Chg.refl _ _)
                refine ex_det 52 [49, 50, 51, 44] rfl rfl (fun _ b _ _ _ _ hb hd => (wanted_guard b rfl rfl (hd 44 _ _ rfl rfl)).trans rfl) ?_
                apply Exists.intro
                refine ⟨?_, ?_⟩
                · intro wx bX kX hk1 hk2 hC hb hd K hK
                  have e49 := hd 49 _ _ rfl rfl
                  try dsimp only at e49
                  have e50 := hd 50 _ _ rfl rfl
                  try dsimp only at e50
                  have e51 := hd 51 _ _ rfl rfl
                  try dsimp only at e51
                  simp only [execOp, resolve, List.map_toArray, List.map_cons, List.map_nil, e49, e50, e51]
                  clear hb hd
                  go_simp
                  refine (HT4 _).mono ?_; rintro e w' ⟨rfl, hX⟩
                  exact ⟨_, rfl, hK _ (hC.step (j := 0) hX) hX⟩
                refine ex_det 53 [48, 52, 44] rfl rfl (fun _ b _ _ _ _ hb hd => (wanted_guard b rfl rfl (hd 44 _ _ rfl rfl)).trans rfl) ?_
                apply Exists.intro
                refine ⟨?_, ?_⟩
                · intro wx bX kX hk1 hk2 hC hb hd K hK
                  have e48 := hd 48 _ _ rfl rfl
                  try dsimp only at e48
                  have e52 := hd 52 _ _ rfl rfl
                  try dsimp only at e52
                  simp only [execOp, e48, e52]
                  clear hb hd
                  go_simp
                  exact hK _ hC (Chg.refl _ _)
                refine ex_det 54 [53, 44] rfl rfl (fun _ b _ _ _ _ hb hd => (wanted_guard b rfl rfl (hd 44 _ _ rfl rfl)).trans rfl) ?_
                apply Exists.intro
                refine ⟨?_, ?_⟩
                · intro wx bX kX hk1 hk2 hC hb hd K hK
                  have e53 := hd 53 _ _ rfl rfl
                  try dsimp only at e53
                  simp only [execOp, e53]
                  clear hb hd
                  go_simp
                  exact hK _ hC (Chg.refl _ _)
                refine ex_det 55 [44, 54] rfl rfl (fun _ _ _ _ _ _ _ _ => rfl) ?_
                apply Exists.intro
                refine ⟨?_, ?_⟩
                · intro wx bX kX hk1 hk2 hC hb hd K hK
                  have e44 := hd 44 _ _ rfl rfl
                  try dsimp only at e44
                  have e54 := hd 54 _ _ rfl rfl
                  try dsimp only at e54
                  simp only [execOp, e44, e54]
                  clear hb hd
                  go_simp
                  exact hK _ hC (Chg.refl _ _)
                refine ex_det 8 [55] rfl rfl (fun _ _ _ _ _ _ _ _ => rfl) ?_
                apply Exists.intro
                refine ⟨?_, ?_⟩
                · intro wx bX kX hk1 hk2 hC hb hd K hK
                  have e55 := hd 55 _ _ rfl rfl
                  try dsimp only at e55
                  simp only [execOp, e55]
                  clear hb hd
                  go_simp
                  exact hK _ hC (Chg.refl _ _)
                refine ex_end ?_
                intro us w2 hus hC hall
                obtain ⟨v0, us, rfl⟩ := List.exists_cons_of_length_eq_add_one hus
                replace hus := Nat.succ.inj hus
                obtain ⟨v1, us, rfl⟩ := List.exists_cons_of_length_eq_add_one hus
                replace hus := Nat.succ.inj hus
                obtain ⟨v2, us, rfl⟩ := List.exists_cons_of_length_eq_add_one hus
                replace hus := Nat.succ.inj hus
                obtain ⟨v3, us, rfl⟩ := List.exists_cons_of_length_eq_add_one hus
                replace hus := Nat.succ.inj hus
                obtain ⟨v4, us, rfl⟩ := List.exists_cons_of_length_eq_add_one hus
                replace hus := Nat.succ.inj hus
                obtain ⟨v5, us, rfl⟩ := List.exists_cons_of_length_eq_add_one hus
                replace hus := Nat.succ.inj hus
                obtain ⟨v6, us, rfl⟩ := List.exists_cons_of_length_eq_add_one hus
                replace hus := Nat.succ.inj hus
                obtain ⟨v7, us, rfl⟩ := List.exists_cons_of_length_eq_add_one hus
                replace hus := Nat.succ.inj hus
                obtain ⟨v8, us, rfl⟩ := List.exists_cons_of_length_eq_add_one hus
                replace hus := Nat.succ.inj hus
                obtain ⟨v9, us, rfl⟩ := List.exists_cons_of_length_eq_add_one hus
                replace hus := Nat.succ.inj hus
                obtain ⟨v10, us, rfl⟩ := List.exists_cons_of_length_eq_add_one hus
                replace hus := Nat.succ.inj hus
                obtain ⟨v11, us, rfl⟩ := List.exists_cons_of_length_eq_add_one hus
                replace hus := Nat.succ.inj hus
                obtain ⟨v12, us, rfl⟩ := List.exists_cons_of_length_eq_add_one hus
                replace hus := Nat.succ.inj hus
                obtain ⟨v13, us, rfl⟩ := List.exists_cons_of_length_eq_add_one hus
                replace hus := Nat.succ.inj hus
                obtain ⟨v14, us, rfl⟩ := List.exists_cons_of_length_eq_add_one hus
                replace hus := Nat.succ.inj hus
                obtain ⟨v15, us, rfl⟩ := List.exists_cons_of_length_eq_add_one hus
                replace hus := Nat.succ.inj hus
                obtain ⟨v16, us, rfl⟩ := List.exists_cons_of_length_eq_add_one hus
                replace hus := Nat.succ.inj hus
                obtain ⟨v17, us, rfl⟩ := List.exists_cons_of_length_eq_add_one hus
                replace hus := Nat.succ.inj hus
                obtain ⟨v18, us, rfl⟩ := List.exists_cons_of_length_eq_add_one hus
                replace hus := Nat.succ.inj hus
                obtain ⟨v19, us, rfl⟩ := List.exists_cons_of_length_eq_add_one hus
                replace hus := Nat.succ.inj hus
                obtain ⟨v20, us, rfl⟩ := List.exists_cons_of_length_eq_add_one hus
                replace hus := Nat.succ.inj hus
                obtain ⟨v21, us, rfl⟩ := List.exists_cons_of_length_eq_add_one hus
                replace hus := Nat.succ.inj hus
                obtain ⟨v22, us, rfl⟩ := List.exists_cons_of_length_eq_add_one hus
                replace hus := Nat.succ.inj hus
                obtain rfl := List.length_eq_zero_iff.1 hus
                clear hus
                generalize hbb : exPuts _ _ _ = bb at hall ⊢
                simp only [exPuts, Act.put, List.setIfInBounds_toArray, List.set_cons_succ, List.set_cons_zero] at hbb
                subst hbb
                obtain ⟨h22, h21, h20, h19, h18, h17, h16, h15, h14, h13, h12, h11, h10, h9, h8, h7, h6, h5, h4, h3, h2, h1, h0, -⟩ := hall
                obtain rfl : v0 = _ := h0
                obtain rfl : v1 = _ := h1
                obtain rfl : v2 = _ := h2
                obtain rfl : v3 = _ := h3
                obtain rfl : v4 = _ := h4
                obtain rfl : v5 = _ := h5
                obtain rfl : v6 = _ := h6
                obtain rfl : v7 = _ := h7
                obtain rfl : v8 = _ := h8
                obtain rfl : v9 = _ := h9
                obtain rfl : v10 = _ := h10
                obtain rfl : v11 = _ := h11
                obtain rfl : v12 = _ := h12
                obtain rfl : v13 = _ := h13
                obtain rfl : v14 = _ := h14
                obtain rfl : v15 = _ := h15
                obtain rfl : v16 = _ := h16
                obtain rfl : v17 = _ := h17
                obtain rfl : v18 = _ := h18
                obtain rfl : v19 = _ := h19
                obtain rfl : v20 = _ := h20
                obtain rfl : v21 = _ := h21
                obtain rfl : v22 = _ := h22
                go_wp2
                all_goals go_returns
                all_goals exact ⟨ret_bool (by rw [Ho.out, hs1, hs2]; rfl), hC.x⟩
          | true =>
            go_wp2
            all_goals go_returns
            all_goals exact ⟨ret_bool (by rw [Ho.out]; rfl), hC.x⟩
        | true =>
          go_wp2
          all_goals go_returns
          all_goals exact ⟨ret_bool (by rw [Ho.out]; rfl), hC.x⟩
      | true =>
        go_wp2
        all_goals go_returns
        all_goals exact ⟨ret_bool (by rw [Ho.out]; rfl), hC.x⟩
    | true =>
      go_wp2
      all_goals go_returns
      all_goals exact ⟨ret_bool (by rw [Ho.out]; rfl), hC.x⟩
end Go.Proofs.YtpfglmlpodjneaaGreat
