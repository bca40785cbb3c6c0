/- The reference of fix: MulDiv. -/
import Derived.Test.YthdjanjlpgcmoaaFrt
import Derived.Test.YthdjanjlpgcmoaaInv
import Derived.Test.YthdjanjlpgcmoaaWtl
namespace Go.Proofs.Ythdjanjlpgcmoaa
open Go.RowKit

theorem wv_sign (v : Int) : (0 ≤ v ∧ 0 ≤ (ofV v).hi) ∨ (¬0 ≤ v ∧ (ofV v).hi < 0) := by
  show (0 ≤ v ∧ 0 ≤ v / 18446744073709551616) ∨ (¬0 ≤ v ∧ v / 18446744073709551616 < 0)
  omega
/-- What has come up of a region. -/
structure MdI (w : World) (z1 z2 zb : Nat) (q m o s : WV) (sf : Bool) (a b c mode r : Int) (u15 u18 u19 u20 u21 u22 u23 u24 u25 u26 u27 u28 u29 u30 u31 u32 u33 u34 u35 u36 u37 u39 u40 u41 u42 u43 u44 u45 u46 u47 u48 u49 u50 u51 u52 u53 u54 u55 u56 u57 u58 u59 u60 u61 u62 u63 u64 u66 u67 u68 u69 u70 u71 u72 u73 u74 u75 u76 u77 u78 : Value) (L : Array Bool) (ac : Act) (wx : World) : Prop where
  ex : ∃ v16 v17 v66 v67 v68 v69 v70 v71, ac = { tmps := #[Value.int IntKind.i64 a, Value.int IntKind.i64 b, Value.int IntKind.i64 c, Value.int IntKind.i64 mode, undef, undef, undef, undef, Value.int IntKind.i64 0, Value.bool false, Value.pointer (some { block := z1, off := 0 }), Value.pointer (some { block := z2, off := 0 }), Value.int IntKind.i64 r, Value.bool true, Value.bool true, u15, v16, v17, u18, u19, u20, u21, u22, u23, u24, u25, u26, u27, u28, u29, u30, u31, u32, u33, u34, u35, u36, u37, Value.int IntKind.i64 mode, u39, u40, u41, u42, u43, u44, u45, u46, u47, u48, u49, u50, u51, u52, u53, u54, u55, u56, u57, u58, u59, u60, u61, u62, u63, u64, Value.bool true, v66, v67, v68, v69, v70, v71, u72, u73, u74, u75, u76, u77, u78], defers := [] } ∧ (L.getD 0 false = true → v67 = .agg #[.int .i64 q.hi, .int .u64 q.lo]) ∧ (L.getD 1 false = true → v68 = .agg #[.int .i64 o.hi, .int .u64 o.lo]) ∧ (L.getD 2 false = true → v69 = .tuple #[.agg #[.int .i64 s.hi, .int .u64 s.lo], .bool sf]) ∧ (L.getD 3 false = true → v66 = .tuple #[.agg #[.int .i64 s.hi, .int .u64 s.lo], .bool sf]) ∧ (L.getD 4 false = true → v70 = .agg #[.int .i64 s.hi, .int .u64 s.lo]) ∧ (L.getD 5 false = true → v71 = .bool sf) ∧ (L.getD 8 false = true → v17 = .bool sf) ∧ (L.getD 6 false = true → ∃ y, v16 = .pointer (some ⟨y, 0, none⟩) ∧ zb ≤ y ∧ At wx y (if L.getD 7 false = true then #[.int .i64 s.hi, .int .u64 s.lo] else #[.int .i64 0, .int .u64 0])) ∧ (L.getD 7 false = true → L.getD 6 false = true) ∧ CL w [(z2, #[.int .i64 q.hi, .int .u64 q.lo]), (z1, #[.int .i64 m.hi, .int .u64 m.lo])] 0 wx ∧ zb ≤ wx.heap.size
set_option maxRecDepth 100000 in
set_option maxHeartbeats 8000000 in
theorem rmuldiv_in (w : World) (a b : Int) (ha0 : -9223372036854775808 ≤ a) (ha1 : a ≤ 9223372036854775807) (hb0 : -9223372036854775808 ≤ b) (hb1 : b ≤ 9223372036854775807) (c : Int) (hc : 0 < c) (hc1 : c ≤ 9223372036854775807) (mode : Int) (hm0 : 0 ≤ mode) (hm1 : mode ≤ 2) :
    Calls Try.prog 9 #[.int .i64 a, .int .i64 b, .int .i64 c, .int .i64 mode] w fun e w' => e = .returned (.tuple #[.int .i64 (mdN a b c mode), .bool (mdB a b c mode)]) ∧ Chg [] w w' := by
  obtain ⟨hp0, hp1⟩ := prod_bd a b ha0 ha1 hb0 hb1
  have hD := div_bd64 (a * b) c hp0 hp1 hc
  have hr0 := Int.emod_nonneg (a * b) (show c ≠ 0 by omega)
  have hr1 := Int.emod_lt_of_pos (a * b) hc
  have hok := ofV_ok (a * b) (by omega) (by omega)
  have P1 := fun w => rmul_any w a b ha0 ha1 hb0 hb1
  have P2 := fun w => rdiv_some w (ofV (a * b)) hok c hc hc1
  rw [show divQ (ofV (a * b)) c = ofV (a * b / c) by unfold divQ; rw [if_pos hc, ofV_val'], show divR (ofV (a * b)) c = a * b % c by unfold divR; rw [if_pos hc, ofV_val']] at P2
  have P3 := fun w => rof_any w 1 (by decide) (by decide)
  have P4 := fun w => radd_any w (ofV (a * b / c)) (ofV 1) (ofV_ok _ (by omega) (by omega)) (ofV_ok _ (by decide) (by decide))
  rw [ofV_val', ofV_val'] at P4
  have P6 := fun w => rint_any w (addV (a * b / c + 1)) (addV_ok _)
  have hsf : fitsV (a * b / c + 1) = true := fits_of64 _ (by omega) (by omega)
  rw [addV_val _ hsf] at P6
  have P7 := fun w => rint_any w (ofV (a * b / c)) (ofV_ok _ (by omega) (by omega))
  rw [ofV_val'] at P7
  have P5 : True := trivial
  have HO : mdOk c mode = true := by unfold mdOk; simp; omega
  have H0 : mdUp (a * b) c mode = false → mdN a b c mode = int64V (a * b / c) ∧ mdB a b c mode = fits64 (a * b / c) := fun g => by
    unfold mdN mdB mdV
    rw [HO, g]
    simp
  have H1 : mdUp (a * b) c mode = true → mdN a b c mode = int64V (a * b / c + 1) ∧ mdB a b c mode = fits64 (a * b / c + 1) := fun g => by
    unfold mdN mdB mdV
    rw [HO, g]
    simp
  have hsgn := wv_sign (a * b)
  have HU : mdUp (a * b) c mode = moreB (a * b) (a * b % c) c mode := rfl
  have hmode : mode = 0 ∨ mode = 1 ∨ mode = 2 := by omega
  have kc : IntKind.u64.wrap c = c := by rw [IntKind.wrap_u64]; omega
  have kr : IntKind.u64.wrap (a * b % c) = a * b % c := by rw [IntKind.wrap_u64]; omega
  have ks : IntKind.u64.wrap (c - a * b % c) = c - a * b % c := by rw [IntKind.wrap_u64]; omega
  clear HO hD hok hp0 hp1
  generalize mdN a b c mode = rn at *
  generalize mdB a b c mode = rb at *
  generalize mdUp (a * b) c mode = up at *
  generalize int64V (a * b / c + 1) = i1 at *
  generalize fits64 (a * b / c + 1) = f1 at *
  generalize int64V (a * b / c) = i0 at *
  generalize fits64 (a * b / c) = f0 at *
  generalize addV (a * b / c + 1) = s at *
  generalize fitsV (a * b / c + 1) = sf at *
  generalize ofV (a * b / c) = q at *
  generalize a * b % c = r at *
  generalize ofV (a * b) = m at *
  generalize a * b = p at *
  generalize ofV 1 = o at *
  simp only [wv_cells] at P1
  simp only [wv_cells] at P2
  simp only [wv_cells] at P3
  simp only [wv_cells] at P4
  simp only [wv_cells] at P6
  simp only [wv_cells] at P7
  have HSF := Lib.hid hsf
  clear hsf
  replace P1 := Lib.hid P1
  replace P2 := Lib.hid P2
  replace P3 := Lib.hid P3
  replace P4 := Lib.hid P4
  replace P6 := Lib.hid P6
  replace P7 := Lib.hid P7
  replace H0 := Lib.hid H0
  replace H1 := Lib.hid H1
  replace HU := Lib.hid HU
  have C := CL.new w 0
  go_enter Try.func9, Try.ntmps9
  go_wp2_with fail
  refine (P1.out _).mono ?_; rintro e w1 ⟨rfl, hX⟩
  replace C := (C.step (j := 0) hX).push #[.int .i64 m.hi, .int .u64 m.lo] 43
  clear hX
  generalize hz1 : w1.heap.size = z1 at *
  have cc0 := C.cells 0 rfl
  go_wp2_with fail
  refine (P2.out _).mono ?_; rintro e w2 ⟨rfl, hX⟩
  clear cc0
  have HZ := Lib.hid (C.step (j := 0) hX).x.size
  replace C := (C.step (j := 0) hX).push #[.int .i64 q.hi, .int .u64 q.lo] 43
  clear hX
  generalize hz2 : w2.heap.size = z2 at *
  have cc1 := C.cells 1 rfl
  go_upto_block 0 with fail
  go_cut [14] (fun u wx => u = .bool up ∧ CL w [(z2, #[.int .i64 q.hi, .int .u64 q.lo]), (z1, #[.int .i64 m.hi, .int .u64 m.lo])] 0 wx)
  case first =>
    clear P3 P4 P5 P6 P7 H0 H1
    rcases hmode with rfl | rfl | rfl
    · have e : up = false := by rw [HU.out]; rfl
      subst e
      clear HU
      go_wp2_with fail
      go_meet
      exact ⟨rfl, C⟩
    · have e : up = decide (0 < r) := by rw [HU.out]; simp [moreB]
      clear HU
      subst e
      go_wp2_with fail
      go_meet
      exact ⟨rfl, C⟩
    · have e : up = (decide (c - r < r) || (r == c - r && decide (0 ≤ p))) := by rw [HU.out]; simp [moreB]
      clear HU
      by_cases g1 : c - r < r
      · rw [decide_eq_true g1] at e
        simp at e
        subst e
        go_wp2_with fail
        go_meet
        exact ⟨rfl, C⟩
      · rw [decide_eq_false g1, Bool.false_or] at e
        by_cases g2 : r = c - r
        · have g3 : (r == c - r) = true := by simpa using g2
          rw [g3, Bool.true_and] at e
          clear g2
          rcases hsgn with ⟨s1, s2⟩ | ⟨s1, s2⟩
          · rw [decide_eq_true s1] at e
            subst e
            go_wp2_with fail
            go_meet
            exact ⟨rfl, C⟩
          · rw [decide_eq_false (show ¬0 ≤ p by omega)] at e
            subst e
            go_wp2_with fail
            go_meet
            exact ⟨by rw [decide_eq_false (show ¬0 ≤ m.hi by omega)], C⟩
        · have g3 : (r == c - r) = false := by simpa using g2
          rw [g3, Bool.false_and] at e
          subst e
          clear g2
          go_wp2_with fail
          go_meet
          exact ⟨rfl, C⟩
  case rest =>
    clear C cc1 HU hsgn hmode kc kr ks
    obtain ⟨rfl, C⟩ := hcut
    cases up
    · clear P3 P4 P5 P6 H1
      have cc0 := C.cells 0 rfl
      have cc1 := C.cells 1 rfl
      go_wp2_with fail
      refine (P7.out _).mono ?_; rintro e w11 ⟨rfl, hX⟩
      clear cc0 cc1
      replace C := C.step (j := 0) hX
      clear hX
      go_wp2_with fail
      go_returns
      exact ⟨by rw [(H0.out (by simp)).1, (H0.out (by simp)).2] <;> rfl, C.x⟩
    · clear P7 H0
      have cc0 := C.cells 0 rfl
      have cc1 := C.cells 1 rfl
      go_wp2_with fail
      clear cc0 cc1
      have hbb := C.bounds
      obtain ⟨zb, hzb⟩ : ∃ zb, wc.heap.size = zb := ⟨_, rfl⟩
      rw [hzb] at hbb
      obtain ⟨hbs, hbW⟩ := hbb
      have hsz : zb ≤ wc.drew.heap.size := Nat.le_of_eq hzb.symm
      clear hzb
      have Cd := C.drew
      clear C
      refine wp_region_inv (MdI w z1 z2 zb q m o s sf a b c mode r u15 u18 u19 u20 u21 u22 u23 u24 u25 u26 u27 u28 u29 u30 u31 u32 u33 u34 u35 u36 u37 u39 u40 u41 u42 u43 u44 u45 u46 u47 u48 u49 u50 u51 u52 u53 u54 u55 u56 u57 u58 u59 u60 u61 u62 u63 u64 u66 u67 u68 u69 u70 u71 u72 u73 u74 u75 u76 u77 u78) (by kernel_rfl) (by kernel_rfl)
        ⟨_, _, _, _, _, _, _, _, rfl, by simp, by simp, by simp, by simp, by simp, by simp, by simp, by simp, by simp, Cd, hsz⟩ ?_ ?_
      · clear Cd hsz
        intro i o ho L ac wx hs hl hall hI
        obtain ⟨v16, v17, v66, v67, v68, v69, v70, v71, rfl, i0, i1, i2, i3, i4, i5, i8, ia, ist, hC, hsz⟩ := hI
        replace hs : L.size = 9 := hs
        rcases i with _ | _ | _ | _ | _ | _ | _ | _ | _ | i
        · obtain rfl := Option.some.inj ho
          clear ho
          clear hall
          refine wpOp_inv (o := _) rfl rfl ?_
          have e1 : (L.setIfInBounds 0 true).getD 1 false = L.getD 1 false := getD_set_ne false (by decide)
          have e2 : (L.setIfInBounds 0 true).getD 2 false = L.getD 2 false := getD_set_ne false (by decide)
          have e3 : (L.setIfInBounds 0 true).getD 3 false = L.getD 3 false := getD_set_ne false (by decide)
          have e4 : (L.setIfInBounds 0 true).getD 4 false = L.getD 4 false := getD_set_ne false (by decide)
          have e5 : (L.setIfInBounds 0 true).getD 5 false = L.getD 5 false := getD_set_ne false (by decide)
          have e6 : (L.setIfInBounds 0 true).getD 6 false = L.getD 6 false := getD_set_ne false (by decide)
          have e7 : (L.setIfInBounds 0 true).getD 7 false = L.getD 7 false := getD_set_ne false (by decide)
          have e8 : (L.setIfInBounds 0 true).getD 8 false = L.getD 8 false := getD_set_ne false (by decide)
          have e0 : (L.setIfInBounds 0 true).getD 0 false = true := by rw [getD_set_if L 0 0 (by omega), if_pos rfl]
          have c0 := (hC.get 0 rfl).cell 0; have c1 := (hC.get 0 rfl).cell 1
          go_simp
          exact ⟨v16, v17, v66, _, v68, v69, v70, v71, rfl, fun _ => rfl, by rw [e1]; exact i1, by rw [e2]; exact i2, by rw [e3]; exact i3, by rw [e4]; exact i4, by rw [e5]; exact i5, by rw [e8]; exact i8, by rw [e6, e7]; exact ia, by rw [e6, e7]; exact ist, hC, hsz⟩
        · obtain rfl := Option.some.inj ho
          clear ho
          clear hall
          refine wpOp_inv (o := _) rfl rfl ?_
          have e0 : (L.setIfInBounds 1 true).getD 0 false = L.getD 0 false := getD_set_ne false (by decide)
          have e2 : (L.setIfInBounds 1 true).getD 2 false = L.getD 2 false := getD_set_ne false (by decide)
          have e3 : (L.setIfInBounds 1 true).getD 3 false = L.getD 3 false := getD_set_ne false (by decide)
          have e4 : (L.setIfInBounds 1 true).getD 4 false = L.getD 4 false := getD_set_ne false (by decide)
          have e5 : (L.setIfInBounds 1 true).getD 5 false = L.getD 5 false := getD_set_ne false (by decide)
          have e6 : (L.setIfInBounds 1 true).getD 6 false = L.getD 6 false := getD_set_ne false (by decide)
          have e7 : (L.setIfInBounds 1 true).getD 7 false = L.getD 7 false := getD_set_ne false (by decide)
          have e8 : (L.setIfInBounds 1 true).getD 8 false = L.getD 8 false := getD_set_ne false (by decide)
          have e1 : (L.setIfInBounds 1 true).getD 1 false = true := by rw [getD_set_if L 1 1 (by omega), if_pos rfl]
          go_simp
          go_at_call 29; refine (P3.out _).mono ?_; rintro e w' ⟨rfl, hX1⟩
          exact ⟨_, rfl, v16, v17, v66, v67, _, v69, v70, v71, rfl, by rw [e0]; exact i0, fun _ => rfl, by rw [e2]; exact i2, by rw [e3]; exact i3, by rw [e4]; exact i4, by rw [e5]; exact i5, by rw [e8]; exact i8, by rw [e6, e7]; exact fun h => by obtain ⟨y, h1, h2, h3⟩ := ia h; exact ⟨y, h1, h2, hX1.at h3 (by simp)⟩, by rw [e6, e7]; exact ist, hC.step hX1, Nat.le_trans hsz hX1.size⟩
        · obtain rfl := Option.some.inj ho
          clear ho
          have l0 := hall ⟨0, .data⟩ (by simp) rfl
          have l1 := hall ⟨1, .data⟩ (by simp) rfl
          clear hall
          refine wpOp_inv (o := _) rfl rfl ?_
          have e0 : (L.setIfInBounds 2 true).getD 0 false = L.getD 0 false := getD_set_ne false (by decide)
          have e1 : (L.setIfInBounds 2 true).getD 1 false = L.getD 1 false := getD_set_ne false (by decide)
          have e3 : (L.setIfInBounds 2 true).getD 3 false = L.getD 3 false := getD_set_ne false (by decide)
          have e4 : (L.setIfInBounds 2 true).getD 4 false = L.getD 4 false := getD_set_ne false (by decide)
          have e5 : (L.setIfInBounds 2 true).getD 5 false = L.getD 5 false := getD_set_ne false (by decide)
          have e6 : (L.setIfInBounds 2 true).getD 6 false = L.getD 6 false := getD_set_ne false (by decide)
          have e7 : (L.setIfInBounds 2 true).getD 7 false = L.getD 7 false := getD_set_ne false (by decide)
          have e8 : (L.setIfInBounds 2 true).getD 8 false = L.getD 8 false := getD_set_ne false (by decide)
          have e2 : (L.setIfInBounds 2 true).getD 2 false = true := by rw [getD_set_if L 2 2 (by omega), if_pos rfl]
          obtain rfl := i0 l0
          obtain rfl := i1 l1
          go_simp
          go_at_call 37; refine (P4.out _).mono ?_; rintro e w' ⟨rfl, hX1⟩
          exact ⟨_, rfl, v16, v17, v66, _, _, _, v70, v71, rfl, fun _ => rfl, fun _ => rfl, fun _ => rfl, by rw [e3]; exact i3, by rw [e4]; exact i4, by rw [e5]; exact i5, by rw [e8]; exact i8, by rw [e6, e7]; exact fun h => by obtain ⟨y, h1, h2, h3⟩ := ia h; exact ⟨y, h1, h2, hX1.at h3 (by simp)⟩, by rw [e6, e7]; exact ist, hC.step hX1, Nat.le_trans hsz hX1.size⟩
        · obtain rfl := Option.some.inj ho
          clear ho
          have l2 := hall ⟨2, .data⟩ (by simp) rfl
          clear hall
          refine wpOp_inv (o := _) rfl rfl ?_
          have e0 : (L.setIfInBounds 3 true).getD 0 false = L.getD 0 false := getD_set_ne false (by decide)
          have e1 : (L.setIfInBounds 3 true).getD 1 false = L.getD 1 false := getD_set_ne false (by decide)
          have e2 : (L.setIfInBounds 3 true).getD 2 false = L.getD 2 false := getD_set_ne false (by decide)
          have e4 : (L.setIfInBounds 3 true).getD 4 false = L.getD 4 false := getD_set_ne false (by decide)
          have e5 : (L.setIfInBounds 3 true).getD 5 false = L.getD 5 false := getD_set_ne false (by decide)
          have e6 : (L.setIfInBounds 3 true).getD 6 false = L.getD 6 false := getD_set_ne false (by decide)
          have e7 : (L.setIfInBounds 3 true).getD 7 false = L.getD 7 false := getD_set_ne false (by decide)
          have e8 : (L.setIfInBounds 3 true).getD 8 false = L.getD 8 false := getD_set_ne false (by decide)
          have e3 : (L.setIfInBounds 3 true).getD 3 false = true := by rw [getD_set_if L 3 3 (by omega), if_pos rfl]
          obtain rfl := i2 l2
          go_simp
          exact ⟨v16, v17, _, v67, v68, _, v70, v71, rfl, by rw [e0]; exact i0, by rw [e1]; exact i1, fun _ => rfl, fun _ => rfl, by rw [e4]; exact i4, by rw [e5]; exact i5, by rw [e8]; exact i8, by rw [e6, e7]; exact ia, by rw [e6, e7]; exact ist, hC, hsz⟩
        · obtain rfl := Option.some.inj ho
          clear ho
          have l3 := hall ⟨3, .data⟩ (by simp) rfl
          clear hall
          refine wpOp_inv (o := _) rfl rfl ?_
          have e0 : (L.setIfInBounds 4 true).getD 0 false = L.getD 0 false := getD_set_ne false (by decide)
          have e1 : (L.setIfInBounds 4 true).getD 1 false = L.getD 1 false := getD_set_ne false (by decide)
          have e2 : (L.setIfInBounds 4 true).getD 2 false = L.getD 2 false := getD_set_ne false (by decide)
          have e3 : (L.setIfInBounds 4 true).getD 3 false = L.getD 3 false := getD_set_ne false (by decide)
          have e5 : (L.setIfInBounds 4 true).getD 5 false = L.getD 5 false := getD_set_ne false (by decide)
          have e6 : (L.setIfInBounds 4 true).getD 6 false = L.getD 6 false := getD_set_ne false (by decide)
          have e7 : (L.setIfInBounds 4 true).getD 7 false = L.getD 7 false := getD_set_ne false (by decide)
          have e8 : (L.setIfInBounds 4 true).getD 8 false = L.getD 8 false := getD_set_ne false (by decide)
          have e4 : (L.setIfInBounds 4 true).getD 4 false = true := by rw [getD_set_if L 4 4 (by omega), if_pos rfl]
          obtain rfl := i3 l3
          go_simp
          exact ⟨v16, v17, _, v67, v68, v69, _, v71, rfl, by rw [e0]; exact i0, by rw [e1]; exact i1, by rw [e2]; exact i2, fun _ => rfl, fun _ => rfl, by rw [e5]; exact i5, by rw [e8]; exact i8, by rw [e6, e7]; exact ia, by rw [e6, e7]; exact ist, hC, hsz⟩
        · obtain rfl := Option.some.inj ho
          clear ho
          have l3 := hall ⟨3, .data⟩ (by simp) rfl
          clear hall
          refine wpOp_inv (o := _) rfl rfl ?_
          have e0 : (L.setIfInBounds 5 true).getD 0 false = L.getD 0 false := getD_set_ne false (by decide)
          have e1 : (L.setIfInBounds 5 true).getD 1 false = L.getD 1 false := getD_set_ne false (by decide)
          have e2 : (L.setIfInBounds 5 true).getD 2 false = L.getD 2 false := getD_set_ne false (by decide)
          have e3 : (L.setIfInBounds 5 true).getD 3 false = L.getD 3 false := getD_set_ne false (by decide)
          have e4 : (L.setIfInBounds 5 true).getD 4 false = L.getD 4 false := getD_set_ne false (by decide)
          have e6 : (L.setIfInBounds 5 true).getD 6 false = L.getD 6 false := getD_set_ne false (by decide)
          have e7 : (L.setIfInBounds 5 true).getD 7 false = L.getD 7 false := getD_set_ne false (by decide)
          have e8 : (L.setIfInBounds 5 true).getD 8 false = L.getD 8 false := getD_set_ne false (by decide)
          have e5 : (L.setIfInBounds 5 true).getD 5 false = true := by rw [getD_set_if L 5 5 (by omega), if_pos rfl]
          obtain rfl := i3 l3
          go_simp
          exact ⟨v16, v17, _, v67, v68, v69, v70, _, rfl, by rw [e0]; exact i0, by rw [e1]; exact i1, by rw [e2]; exact i2, fun _ => rfl, by rw [e4]; exact i4, fun _ => rfl, by rw [e8]; exact i8, by rw [e6, e7]; exact ia, by rw [e6, e7]; exact ist, hC, hsz⟩
        · obtain rfl := Option.some.inj ho
          clear ho
          clear hall
          refine wpOp_inv (o := _) rfl rfl ?_
          have e0 : (L.setIfInBounds 6 true).getD 0 false = L.getD 0 false := getD_set_ne false (by decide)
          have e1 : (L.setIfInBounds 6 true).getD 1 false = L.getD 1 false := getD_set_ne false (by decide)
          have e2 : (L.setIfInBounds 6 true).getD 2 false = L.getD 2 false := getD_set_ne false (by decide)
          have e3 : (L.setIfInBounds 6 true).getD 3 false = L.getD 3 false := getD_set_ne false (by decide)
          have e4 : (L.setIfInBounds 6 true).getD 4 false = L.getD 4 false := getD_set_ne false (by decide)
          have e5 : (L.setIfInBounds 6 true).getD 5 false = L.getD 5 false := getD_set_ne false (by decide)
          have e7 : (L.setIfInBounds 6 true).getD 7 false = L.getD 7 false := getD_set_ne false (by decide)
          have e8 : (L.setIfInBounds 6 true).getD 8 false = L.getD 8 false := getD_set_ne false (by decide)
          have e6 : (L.setIfInBounds 6 true).getD 6 false = true := by rw [getD_set_if L 6 6 (by omega), if_pos rfl]
          have ls : L.getD 7 false = false := by rcases Bool.eq_false_or_eq_true (L.getD 7 false) with h | h; exact absurd (ist h) (by rw [hl]; decide); exact h
          go_simp
          exact ⟨_, v17, v66, v67, v68, v69, v70, v71, rfl, by rw [e0]; exact i0, by rw [e1]; exact i1, by rw [e2]; exact i2, by rw [e3]; exact i3, by rw [e4]; exact i4, by rw [e5]; exact i5, by rw [e8]; exact i8, fun _ => ⟨_, rfl, hsz, by rw [e7, ls]; exact At.new wx _ _⟩, fun _ => e6, hC.alloc0 _, by simp; omega⟩
        · obtain rfl := Option.some.inj ho
          clear ho
          have l6 := hall ⟨6, .data⟩ (by simp) rfl
          have l4 := hall ⟨4, .data⟩ (by simp) rfl
          clear hall
          refine wpOp_inv (o := _) rfl rfl ?_
          have e0 : (L.setIfInBounds 7 true).getD 0 false = L.getD 0 false := getD_set_ne false (by decide)
          have e1 : (L.setIfInBounds 7 true).getD 1 false = L.getD 1 false := getD_set_ne false (by decide)
          have e2 : (L.setIfInBounds 7 true).getD 2 false = L.getD 2 false := getD_set_ne false (by decide)
          have e3 : (L.setIfInBounds 7 true).getD 3 false = L.getD 3 false := getD_set_ne false (by decide)
          have e4 : (L.setIfInBounds 7 true).getD 4 false = L.getD 4 false := getD_set_ne false (by decide)
          have e5 : (L.setIfInBounds 7 true).getD 5 false = L.getD 5 false := getD_set_ne false (by decide)
          have e6 : (L.setIfInBounds 7 true).getD 6 false = L.getD 6 false := getD_set_ne false (by decide)
          have e8 : (L.setIfInBounds 7 true).getD 8 false = L.getD 8 false := getD_set_ne false (by decide)
          have e7 : (L.setIfInBounds 7 true).getD 7 false = true := by rw [getD_set_if L 7 7 (by omega), if_pos rfl]
          obtain ⟨y, rfl, hyz, K⟩ := ia l6
          obtain rfl := i4 l4
          rw [hl] at K
          have K : At wx y #[.int .i64 0, .int .u64 0] := K
          have k0 := K.cell 0; have k1 := K.cell 1; have k2 := K.frozen 0; have k3 := K.frozen 1
          go_simp
          exact ⟨_, v17, v66, v67, v68, v69, _, v71, rfl, by rw [e0]; exact i0, by rw [e1]; exact i1, by rw [e2]; exact i2, by rw [e3]; exact i3, fun _ => rfl, by rw [e5]; exact i5, by rw [e8]; exact i8, fun _ => ⟨y, rfl, hyz, by rw [e7]; exact K.set2 _ _⟩, fun _ => by rw [e6]; exact l6, hC.store2 hyz hbs hbW _ _, by simpa [World.setCell] using hsz⟩
        · obtain rfl := Option.some.inj ho
          clear ho
          have l5 := hall ⟨5, .data⟩ (by simp) rfl
          clear hall
          refine wpOp_inv (o := _) rfl rfl ?_
          have e0 : (L.setIfInBounds 8 true).getD 0 false = L.getD 0 false := getD_set_ne false (by decide)
          have e1 : (L.setIfInBounds 8 true).getD 1 false = L.getD 1 false := getD_set_ne false (by decide)
          have e2 : (L.setIfInBounds 8 true).getD 2 false = L.getD 2 false := getD_set_ne false (by decide)
          have e3 : (L.setIfInBounds 8 true).getD 3 false = L.getD 3 false := getD_set_ne false (by decide)
          have e4 : (L.setIfInBounds 8 true).getD 4 false = L.getD 4 false := getD_set_ne false (by decide)
          have e5 : (L.setIfInBounds 8 true).getD 5 false = L.getD 5 false := getD_set_ne false (by decide)
          have e6 : (L.setIfInBounds 8 true).getD 6 false = L.getD 6 false := getD_set_ne false (by decide)
          have e7 : (L.setIfInBounds 8 true).getD 7 false = L.getD 7 false := getD_set_ne false (by decide)
          have e8 : (L.setIfInBounds 8 true).getD 8 false = true := by rw [getD_set_if L 8 8 (by omega), if_pos rfl]
          obtain rfl := i5 l5
          go_simp
          exact ⟨v16, _, v66, v67, v68, v69, v70, _, rfl, by rw [e0]; exact i0, by rw [e1]; exact i1, by rw [e2]; exact i2, by rw [e3]; exact i3, by rw [e4]; exact i4, fun _ => rfl, fun _ => rfl, by rw [e6, e7]; exact ia, by rw [e6, e7]; exact ist, hC, hsz⟩
        · exact absurd ho (by simp)
      · intro L ac wx hall hI
        obtain ⟨v16, v17, v66, v67, v68, v69, v70, v71, rfl, i0, i1, i2, i3, i4, i5, i8, ia, ist, hC, hsz⟩ := hI
        obtain rfl := i0 (hall 0 (by decide))
        obtain rfl := i1 (hall 1 (by decide))
        obtain rfl := i2 (hall 2 (by decide))
        obtain rfl := i3 (hall 3 (by decide))
        obtain rfl := i4 (hall 4 (by decide))
        obtain rfl := i5 (hall 5 (by decide))
        obtain rfl := i8 (hall 8 (by decide))
        obtain ⟨y, rfl, hyz, BS⟩ := ia (hall 6 (by decide))
        rw [if_pos (hall 7 (by decide))] at BS
        have C := hC.cons BS
        clear hC BS hall ist ia i0 i1 i2 i3 i4 i5 i8
        clear Cd
        have hsf := HSF.out
        subst hsf
        have hyz : z2 < y := by have := hbs _ (List.mem_cons_self ..); simp only at this; omega
        have A2 := C.get 1 rfl
        have A0 := C.get 0 rfl
        have hX := C.x
        simp only at A0 A2
        clear C hbs hsz
        have hz2w : w.heap.size ≤ z2 := HZ.out
        have c0 := A0.cell 0; have c1 := A0.cell 1; have d0 := A2.cell 0; have d1 := A2.cell 1; have d2 := A2.frozen 0; have d3 := A2.frozen 1
        have B2 := A2.set2 (.int .i64 s.hi) (.int .u64 s.lo)
        have hXd := hX.set2 (b := z2) hz2w (.int .i64 s.hi) (.int .u64 s.lo)
        have b0 := B2.cell 0; have b1 := B2.cell 1
        go_wp2_with fail
        refine (P6.out _).mono ?_; rintro e w9 ⟨rfl, hX9⟩
        clear c0 c1 d0 d1 d2 d3 b0 b1
        go_wp2_with fail
        go_returns
        exact ⟨by rw [(H1.out (by simp)).1, (H1.out (by simp)).2] <;> rfl, hXd.trans hX9⟩
theorem rmuldiv_any (w : World) (a b : Int) (ha0 : -9223372036854775808 ≤ a) (ha1 : a ≤ 9223372036854775807) (hb0 : -9223372036854775808 ≤ b) (hb1 : b ≤ 9223372036854775807) (c : Int) (hc0 : -9223372036854775808 ≤ c) (hc1 : c ≤ 9223372036854775807) (mode : Int) :
    Calls Try.prog 9 #[.int .i64 a, .int .i64 b, .int .i64 c, .int .i64 mode] w fun e w' => e = .returned (.tuple #[.int .i64 (mdN a b c mode), .bool (mdB a b c mode)]) ∧ Chg [] w w' := by
  by_cases h : 0 < c ∧ 0 ≤ mode ∧ mode ≤ 2
  · exact rmuldiv_in w a b ha0 ha1 hb0 hb1 c h.1 hc1 mode h.2.1 h.2.2
  · have e : mdOk c mode = false := by unfold mdOk; simp; omega
    rw [show mdN a b c mode = 0 by unfold mdN; rw [e]; rfl, show mdB a b c mode = false by unfold mdB; rw [e]; rfl]
    clear e
    by_cases h1 : c ≤ 0
    · clear h
      go_enter Try.func9, Try.ntmps9
      go_wp2_with fail
      go_returns
      exact ⟨rfl, Chg.refl _ _⟩
    · by_cases h2 : mode < 0
      · clear h
        go_enter Try.func9, Try.ntmps9
        go_wp2_with fail
        go_returns
        exact ⟨rfl, Chg.refl _ _⟩
      · have h3 : 2 < mode := by omega
        clear h
        go_enter Try.func9, Try.ntmps9
        go_wp2_with fail
        go_returns
        exact ⟨rfl, Chg.refl _ _⟩
end Go.Proofs.Ythdjanjlpgcmoaa
