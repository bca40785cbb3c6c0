/- The reference of wide: Mul. -/
import Derived.Test.YthdjanjlpgcmoaaWra
import Derived.Test.YthdjanjlpgcmoaaStTl
import Derived.Deep.LoopGhost
namespace Go.Proofs.Ythdjanjlpgcmoaa
open Go.RowKit

theorem At.other2 {w : World} {b c : Nat} {cs : Array Value} (h : At w b cs) (hne : b ≠ c) (p q : Value) : At ((w.setCell ⟨c, 0, none⟩ p).setCell ⟨c, 1, none⟩ q) b cs :=
  At.other (At.other h ⟨c, 0, none⟩ p hne) ⟨c, 1, none⟩ q hne
theorem wV_plus (u v : Int) : wV ((wV u).val + (wV v).val) = wV (u + v) := by
  obtain ⟨p, hp⟩ := wV_val u
  obtain ⟨q, hq⟩ := wV_val v
  rw [hp, hq, show u + 340282366920938463463374607431768211456 * p + (v + 340282366920938463463374607431768211456 * q) = u + v + 340282366920938463463374607431768211456 * (p + q) by omega, wV_mod]
theorem wV_neg (u : Int) : wV (-(wV u).val) = wV (-u) := by
  obtain ⟨p, hp⟩ := wV_val u
  rw [hp, show -(u + 340282366920938463463374607431768211456 * p) = -u + 340282366920938463463374607431768211456 * (-p) by omega, wV_mod]
theorem mul_bit1 (a n : Int) (k : Nat) (h : n / 2 ^ k % 2 = 1) : a * (n % 2 ^ (k + 1)) = a * (n % 2 ^ k) + a * 2 ^ k := by
  rw [mod_pow_succ, h, Int.one_mul, Int.mul_add]
theorem mul_bit0 (a n : Int) (k : Nat) (h : n / 2 ^ k % 2 = 0) : a * (n % 2 ^ (k + 1)) = a * (n % 2 ^ k) := by
  rw [mod_pow_succ, h, Int.zero_mul, Int.add_zero]
theorem mul_dbl (a : Int) (k : Nat) : a * 2 ^ (k + 1) = a * 2 ^ k + a * 2 ^ k := by
  rw [pow_succ', Int.mul_left_comm]
  omega
set_option maxRecDepth 100000 in
set_option maxHeartbeats 2000000 in
theorem rmul_any (w : World) (a b : Int) (ha0 : -9223372036854775808 ≤ a) (ha1 : a ≤ 9223372036854775807) (hb0 : -9223372036854775808 ≤ b) (hb1 : b ≤ 9223372036854775807) :
    Calls Try.prog 35 #[.int .i64 a, .int .i64 b] w fun e w' => e = .returned (.agg (ofV (a * b)).cells) ∧ Chg [] w w' := by
  have HO := fun w => rof_any w a ha0 ha1
  obtain ⟨L1, L2⟩ := imul_bd a b 9223372036854775808 (by omega) (by omega) (by omega) (by omega) (by omega)
  have hfit : fitsV (a * b) = true := by rw [fitsV_iff]; omega
  rw [← wV_fits _ hfit]
  rw [← wV_fits a (by rw [fitsV_iff]; omega), show wV a = wV (a * 2 ^ 0) by simp] at HO
  have hn0 : 0 ≤ IntKind.u64.wrap b ∧ IntKind.u64.wrap b ≤ 18446744073709551615 := Go.bounds_u64 (wf_wrap .u64 b)
  have hn2 : b < 0 → a * (IntKind.u64.wrap b % 2 ^ 64) + -(a * 2 ^ 64) = a * b := by
    intro h
    have u1 : IntKind.u64.wrap b = b % 18446744073709551616 := rfl
    have u2 : (2 : Int) ^ 64 = 18446744073709551616 := rfl
    rw [u1, u2, show b % 18446744073709551616 % 18446744073709551616 = b + 18446744073709551616 by omega, Int.mul_add]
    omega
  have hn3 : ¬b < 0 → a * (IntKind.u64.wrap b % 2 ^ 64) = a * b := by
    intro h
    have u1 : IntKind.u64.wrap b = b % 18446744073709551616 := rfl
    have u2 : (2 : Int) ^ 64 = 18446744073709551616 := rfl
    rw [u1, u2, show b % 18446744073709551616 % 18446744073709551616 = b by omega]
  have ho0 : (wV (a * (IntKind.u64.wrap b % 2 ^ 0))).cells = #[.int .i64 0, .int .u64 0] := by simp [wV, wv_cells, wrap64]
  generalize hn : IntKind.u64.wrap b = n at *
  have A0 := At.new w #[.int .i64 0, .int .u64 0] 43
  have hX := (Chg.refl [] w).alloc (.cells #[.int .i64 0, .int .u64 0] 43)
  have hw1 : (w.alloc (.cells #[.int .i64 0, .int .u64 0] 43)).heap.size = w.heap.size + 1 := by simp
  obtain ⟨x0, hx0⟩ : ∃ x, wV (a * 2 ^ 0) = x := ⟨_, rfl⟩
  rw [hx0, wv_cells x0] at HO
  have HX0 := Lib.hid (show (wV (a * 2 ^ 0)).cells = #[.int .i64 x0.hi, .int .u64 x0.lo] by rw [hx0, wv_cells])
  clear hx0
  replace HO := Lib.hid HO
  go_enter Try.func35, Try.ntmps35
  go_wp2_with fail
  refine (HO.out _).mono ?_; rintro e w1 ⟨rfl, hX1⟩
  have hyz := hX1.size
  rw [hw1] at hyz
  replace A0 := ((hX1.at A0 (by simp)).alloc (.cells #[.int .i64 x0.hi, .int .u64 x0.lo] 43)).alloc (.cells #[.int .i64 0, .int .u64 0] 43)
  have A1 := (At.new w1 #[.int .i64 x0.hi, .int .u64 x0.lo] 43).alloc (.cells #[.int .i64 0, .int .u64 0] 43)
  have A2 := At.new (w1.alloc (.cells #[.int .i64 x0.hi, .int .u64 x0.lo] 43)) #[.int .i64 0, .int .u64 0] 43
  rw [show (w1.alloc (.cells #[.int .i64 x0.hi, .int .u64 x0.lo] 43)).heap.size = w1.heap.size + 1 by simp] at A2
  replace hX := ((hX.trans hX1).alloc (.cells #[.int .i64 x0.hi, .int .u64 x0.lo] 43)).alloc (.cells #[.int .i64 0, .int .u64 0] 43)
  clear hX1 hw1
  generalize hz : w.heap.size = z at *
  generalize hy : w1.heap.size = y at *
  go_wp2_with fail
  try rw [hn]
  generalize (w1.alloc (.cells #[.int .i64 x0.hi, .int .u64 x0.lo] 43)).alloc (.cells #[.int .i64 0, .int .u64 0] 43) = w0 at *
  go_loopg [8] 64 (fun g i wr => ∃ k : Nat, g + k = 64 ∧ i = .int .i64 k ∧ At wr z #[.int .i64 0, .int .u64 0] ∧ At wr y (wV (a * 2 ^ k)).cells ∧ At wr (y + 1) (wV (a * (n % 2 ^ k))).cells ∧ Chg [] w wr)
  case atStart => exact ⟨0, by omega, rfl, A0, by rw [HX0.out]; exact A1, by rw [ho0]; exact A2, hX⟩
  case round =>
    clear A0 A1 A2 hX
    obtain ⟨k, hg, rfl, A0, A1, A2, hX⟩ := hrel
    by_cases hk : k < 64
    · have b1 := and_one _ (div_bd n k hn0.1 hn0.2).1 (div_bd n k hn0.1 hn0.2).2
      have H1 := fun w => rplus_any w _ _ (wV_ok (a * (n % 2 ^ k))) (wV_ok (a * 2 ^ k))
      have H2 := fun w => rplus_any w _ _ (wV_ok (a * 2 ^ k)) (wV_ok (a * 2 ^ k))
      rw [wV_plus] at H1
      rw [wV_plus, ← mul_dbl] at H2
      have hbit : n / 2 ^ k % 2 = 0 ∨ n / 2 ^ k % 2 = 1 := by omega
      have m1 := mul_bit1 a n k
      have m0 := mul_bit0 a n k
      rw [wv_cells (wV (a * 2 ^ k)), wv_cells (wV (a * (n % 2 ^ k)))] at *
      rw [wv_cells (wV (a * 2 ^ (k + 1)))] at H2
      obtain ⟨x', hx'⟩ : ∃ x, wV (a * 2 ^ (k + 1)) = x := ⟨_, rfl⟩
      have HX := Lib.hid (show (wV (a * 2 ^ (k + 1))).cells = #[.int .i64 x'.hi, .int .u64 x'.lo] by rw [hx', wv_cells])
      rw [hx'] at H2
      clear hx'
      replace H2 := Lib.hid H2
      rcases hbit with hbit | hbit
      · have HO := Lib.hid (show (wV (a * (n % 2 ^ (k + 1)))).cells = #[.int .i64 (wV (a * (n % 2 ^ k))).hi, .int .u64 (wV (a * (n % 2 ^ k))).lo] by rw [m0 hbit, wv_cells])
        rw [hbit] at b1
        clear m0 m1 hbit H1
        generalize wV (a * 2 ^ k) = x at *
        generalize wV (a * (n % 2 ^ k)) = o at *
        have c0 := A1.cell 0; have c1 := A1.cell 1
        go_wp2_with fail
        refine (H2.out _).mono ?_; rintro e w3 ⟨rfl, hX2⟩
        clear c0 c1
        replace A0 := hX2.at A0 (by simp)
        replace A1 := hX2.at A1 (by simp)
        replace A2 := hX2.at A2 (by simp)
        replace hX := hX.trans hX2
        clear hX2
        have c0 := A1.cell 0; have c1 := A1.cell 1; have f0 := A1.frozen 0; have f1 := A1.frozen 1
        have D0 := A0.other2 (c := y) (by omega) (.int .i64 x'.hi) (.int .u64 x'.lo)
        have D1 := A1.set2 (.int .i64 x'.hi) (.int .u64 x'.lo)
        have D2 := A2.other2 (c := y) (by omega) (.int .i64 x'.hi) (.int .u64 x'.lo)
        have hXd := hX.set2 (b := y) (by omega) (.int .i64 x'.hi) (.int .u64 x'.lo)
        go_wp2_with fail
        go_roundg (gk - 1)
        case rel => exact ⟨k + 1, by omega, by go_num, D0, by rw [HX.out]; exact D1, by rw [HO.out]; exact D2, hXd⟩
        case measure => omega
      · rw [← m1 hbit] at H1
        obtain ⟨o', ho'⟩ : ∃ x, wV (a * (n % 2 ^ (k + 1))) = x := ⟨_, rfl⟩
        have HO := Lib.hid (show (wV (a * (n % 2 ^ (k + 1)))).cells = #[.int .i64 o'.hi, .int .u64 o'.lo] by rw [ho', wv_cells])
        rw [wv_cells, ho'] at H1
        rw [hbit] at b1
        clear m0 m1 hbit ho'
        replace H1 := Lib.hid H1
        generalize wV (a * 2 ^ k) = x at *
        generalize wV (a * (n % 2 ^ k)) = o at *
        have c0 := A2.cell 0; have c1 := A2.cell 1; have d0 := A1.cell 0; have d1 := A1.cell 1
        go_wp2_with fail
        refine (H1.out _).mono ?_; rintro e w2 ⟨rfl, hX2⟩
        clear c0 c1 d0 d1
        replace A0 := hX2.at A0 (by simp)
        replace A1 := hX2.at A1 (by simp)
        replace A2 := hX2.at A2 (by simp)
        replace hX := hX.trans hX2
        clear hX2
        have c0 := A2.cell 0; have c1 := A2.cell 1; have f0 := A2.frozen 0; have f1 := A2.frozen 1
        have D0 := A0.other2 (c := y + 1) (by omega) (.int .i64 o'.hi) (.int .u64 o'.lo)
        have D1 := A1.other2 (c := y + 1) (by omega) (.int .i64 o'.hi) (.int .u64 o'.lo)
        have D2 := A2.set2 (.int .i64 o'.hi) (.int .u64 o'.lo)
        have hXd := hX.set2 (b := y + 1) (by omega) (.int .i64 o'.hi) (.int .u64 o'.lo)
        have d0 := D1.cell 0; have d1 := D1.cell 1
        clear A0 A1 A2 hX
        go_wp2_with fail
        refine (H2.out _).mono ?_; rintro e w3 ⟨rfl, hX2⟩
        clear c0 c1 d0 d1 f0 f1
        have A0 := hX2.at D0 (by simp)
        have A1 := hX2.at D1 (by simp)
        have A2 := hX2.at D2 (by simp)
        have hX := hXd.trans hX2
        clear hX2 D0 D1 D2 hXd
        have c0 := A1.cell 0; have c1 := A1.cell 1; have f0 := A1.frozen 0; have f1 := A1.frozen 1
        have D0 := A0.other2 (c := y) (by omega) (.int .i64 x'.hi) (.int .u64 x'.lo)
        have D1 := A1.set2 (.int .i64 x'.hi) (.int .u64 x'.lo)
        have D2 := A2.other2 (c := y) (by omega) (.int .i64 x'.hi) (.int .u64 x'.lo)
        have hXd := hX.set2 (b := y) (by omega) (.int .i64 x'.hi) (.int .u64 x'.lo)
        go_wp2_with fail
        go_roundg (gk - 1)
        case rel => exact ⟨k + 1, by omega, by go_num, D0, by rw [HX.out]; exact D1, by rw [HO.out]; exact D2, hXd⟩
        case measure => omega
    · obtain rfl : k = 64 := by omega
      by_cases hb : b < 0
      · have HF := fun w => rflip_any w _ (wV_ok (a * 2 ^ 64))
        have HP := fun w => rplus_any w _ _ (wV_ok (a * (n % 2 ^ 64))) (wV_ok (-(a * 2 ^ 64)))
        rw [wV_neg] at HF
        rw [wV_plus, hn2 hb] at HP
        generalize wV (-(a * 2 ^ 64)) = f at *
        generalize wV (a * 2 ^ 64) = x at *
        generalize wV (a * (n % 2 ^ 64)) = o at *
        obtain ⟨r, hr⟩ : ∃ r, wV (a * b) = r := ⟨_, rfl⟩
        rw [hr] at HP
        have HR := Lib.hid hr
        clear hr
        rw [wv_cells x, wv_cells o] at *
        rw [wv_cells f] at *
        rw [wv_cells r] at HP
        replace HF := Lib.hid HF
        replace HP := Lib.hid HP
        clear hn2 hn3
        go_wp2_with fail
        have Cd : CL w [(z, #[.int .i64 0, .int .u64 0]), (y, #[.int .i64 x.hi, .int .u64 x.lo]), (y + 1, #[.int .i64 o.hi, .int .u64 o.lo])] 0 wr.drew := by
          refine ⟨fun p hp => ?_, hX.drew⟩
          simp only [List.mem_cons, List.not_mem_nil, or_false] at hp
          rcases hp with rfl | rfl | rfl
          · exact A0.drew
          · exact A1.drew
          · exact A2.drew
        clear A0 A1 A2 hX
        refine wp_region_sttl (CL w [(z, #[.int .i64 0, .int .u64 0]), (y, #[.int .i64 x.hi, .int .u64 x.lo]), (y + 1, #[.int .i64 o.hi, .int .u64 o.lo])]) 3 [] [(0, 0, false), (0, 0, false), (0, 0, false)]
          (by kernel_rfl) (by kernel_rfl) (by kernel_rfl) (Cd) ?_
        simp only [List.take_succ_cons, List.take_zero, List.drop_succ_cons, List.drop_zero, List.zip_cons_cons, List.zip_nil_right]
        refine wpStage_yes (by go_simp) ?_
        intro K hK
        apply Exists.intro
        refine ⟨fun kk ww hk1 hk2 hC => ?_, ?_⟩
        · have c0 := (hC.get 2 rfl).cell 0; have c1 := (hC.get 2 rfl).cell 1
          go_simp
          with_reducible exact rfl
        go_simp
        refine hK _ ?_
        clear hK K
        refine wpStage_yes (by go_simp) ?_
        intro K hK
        apply Exists.intro
        refine ⟨fun kk ww hk1 hk2 hC => ?_, ?_⟩
        · have c0 := (hC.get 1 rfl).cell 0; have c1 := (hC.get 1 rfl).cell 1
          go_simp
          with_reducible exact rfl
        go_simp
        refine hK _ ?_
        clear hK K
        refine wpStage_yes (by go_simp) ?_
        intro K hK
        apply Exists.intro
        refine ⟨fun kk ww hk1 hk2 hC => ?_, ?_⟩
        · go_simp
          go_at_call 53; refine (HF.out _).mono ?_; rintro e w' ⟨rfl, hX⟩
          exact ⟨rfl, hC.step hX⟩
        go_simp
        refine hK _ ?_
        clear hK K
        refine wpStage_nil (fun ww hC => ?_)
        clear Cd
        go_wp2_with fail
        refine (HP.out _).mono ?_; rintro e w2 ⟨rfl, hX2⟩
        have hC2 := hC.step (j := 0) hX2
        have B0 := hC2.get 0 rfl
        have B1 := hC2.get 1 rfl
        have B2 := hC2.get 2 rfl
        have hX := hC2.x
        simp only at B0 B1 B2
        clear hC hC2 hX2
        have c0 := B2.cell 0; have c1 := B2.cell 1; have f0 := B2.frozen 0; have f1 := B2.frozen 1
        have A0 := B0.other2 (c := y + 1) (by omega) (.int .i64 r.hi) (.int .u64 r.lo)
        have A2 := B2.set2 (.int .i64 r.hi) (.int .u64 r.lo)
        replace hX := hX.set2 (b := y + 1) (by omega) (.int .i64 r.hi) (.int .u64 r.lo)
        clear B0 B1 B2
        have g0 := A2.cell 0; have g1 := A2.cell 1; have d0 := A0.cell 0; have d1 := A0.cell 1; have h0 := A0.frozen 0; have h1 := A0.frozen 1
        go_wp2_with fail
        have D0 := A0.set2 (.int .i64 r.hi) (.int .u64 r.lo)
        have hXd := hX.set2 (b := z) (by omega) (.int .i64 r.hi) (.int .u64 r.lo)
        clear c0 c1 f0 f1 g0 g1 d0 d1 h0 h1
        have d0 := D0.cell 0; have d1 := D0.cell 1
        exact bodyPost_ret (v := .agg #[.int .i64 r.hi, .int .u64 r.lo]) (by simp [results, Try.results35, go_sem, d0, d1]) rfl ⟨by rw [HR.out, wv_cells], hXd⟩
      · rw [hn3 (by omega)] at A2
        obtain ⟨r, hr⟩ : ∃ r, wV (a * b) = r := ⟨_, rfl⟩
        rw [hr] at A2
        have HR := Lib.hid hr
        clear hr
        generalize wV (a * 2 ^ 64) = x at *
        rw [wv_cells x, wv_cells r] at *
        clear hn2 hn3
        have c0 := A2.cell 0; have c1 := A2.cell 1; have d0 := A0.cell 0; have d1 := A0.cell 1; have f0 := A0.frozen 0; have f1 := A0.frozen 1
        go_wp2_with fail
        have D0 := A0.set2 (.int .i64 r.hi) (.int .u64 r.lo)
        have hXd := hX.set2 (b := z) (by omega) (.int .i64 r.hi) (.int .u64 r.lo)
        clear c0 c1 d0 d1 f0 f1
        have d0 := D0.cell 0; have d1 := D0.cell 1
        exact bodyPost_ret (v := .agg #[.int .i64 r.hi, .int .u64 r.lo]) (by simp [results, Try.results35, go_sem, d0, d1]) rfl ⟨by rw [HR.out, wv_cells], hXd⟩
end Go.Proofs.Ythdjanjlpgcmoaa
