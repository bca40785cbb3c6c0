/- bits.Div64. -/
import Derived.Test.YthdjanjlpgcmoaaWdp
import Derived.Deep.DeepCutAuto
import Derived.Deep.CutBlock
import Derived.Deep.LoopGhost
namespace Go.Proofs.Ythdjanjlpgcmoaa
open Go.RowKit

theorem wrap_id (x : Int) (h0 : 0 ≤ x) (h1 : x ≤ 18446744073709551615) : IntKind.u64.wrap x = x := by
  rw [IntKind.wrap_u64]; omega
/-- T - Q·Y by words of 64 bits, where what is left is one. -/
theorem rest64 (U u p R : Int) (h : p + R = U * 4294967296 + u) (h0 : 0 ≤ R) (h1 : R ≤ 18446744073709551615) : IntKind.u64.wrap (IntKind.u64.wrap (IntKind.u64.wrap (U * 4294967296) + u) - IntKind.u64.wrap p) = R := by
  rw [IntKind.wrap_u64, IntKind.wrap_u64, IntKind.wrap_u64, IntKind.wrap_u64]
  omega
theorem tdiv_nn (a b : Int) (ha : 0 ≤ a) : a.tdiv b = a / b := Int.tdiv_eq_ediv_of_nonneg ha
set_option maxHeartbeats 4000000 in
theorem div64_any (w : World) (hi lo y : Int) (h0 : 0 ≤ hi) (h1 : hi < y) (h2 : y ≤ 18446744073709551615) (l0 : 0 ≤ lo) (l1 : lo ≤ 18446744073709551615) : Calls Try.prog 49 #[.int .u64 hi, .int .u64 lo, .int .u64 y] w fun e w' => e = .returned (.tuple #[.int .u64 ((hi * 18446744073709551616 + lo) / y), .int .u64 ((hi * 18446744073709551616 + lo) % y)]) ∧ Chg [] w w' := by
  have hy : 0 < y := by omega
  have hy0 : ¬y = 0 := by omega
  have hyh : ¬y ≤ hi := by omega
  by_cases c0 : hi = 0
  · subst c0
    rw [show (0 : Int) * 18446744073709551616 + lo = lo by omega]
    have q1 := tdiv_nn lo y l0
    have q2 : lo.tmod y = lo % y := Int.tmod_eq_emod_of_nonneg l0
    have b1 : 0 ≤ lo / y := Int.ediv_nonneg l0 (by omega)
    have b2 : lo / y ≤ lo := Int.ediv_le_self _ l0
    have b3 := Int.emod_nonneg lo hy0
    have b4 := Int.emod_lt_of_pos lo hy
    have w1 := wrap_id (lo / y) b1 (by omega)
    have w2 := wrap_id (lo % y) b3 (by omega)
    generalize lo / y = q at *
    generalize lo % y = r at *
    clear b1 b2 b3 b4
    go_enter Try.func49, Try.ntmps49
    go_wp2_with fail
    go_region
    go_wp2
    go_returns
    exact ⟨rfl, (Chg.refl _ _).drew⟩
  · have HL := fun w => lead64_any w y (by omega) h2
    obtain ⟨zq, zr, hz1, hz2⟩ : ∃ zq zr, (hi * 18446744073709551616 + lo) / y = zq ∧ (hi * 18446744073709551616 + lo) % y = zr := ⟨_, _, rfl, rfl⟩
    rw [hz1, hz2]
    have HZ := Lib.hid (And.intro hz1 hz2)
    clear hz1 hz2
    go_enter Try.func49, Try.ntmps49
    go_wp2_with fail
    refine (HL _).mono ?_; rintro e w' ⟨⟨s, rfl, s1, s2, s3⟩, rfl⟩
    obtain ⟨E1, E2, E3, E4, E5⟩ := div_norm hi lo y s h0 h1 l0 l1 s1 s3
    obtain ⟨D1, D2⟩ := div_scale (hi * 18446744073709551616 + lo) y s hy
    rw [E3] at D1 D2
    have Hz := HZ.out
    rw [Hz.1] at D1
    rw [Hz.2] at D2
    clear E3 HZ Hz
    have hAw := Go.bounds_u64 (wf_wrap .u64 (lo * 2 ^ s))
    obtain ⟨Y, hY⟩ : ∃ Y, y * 2 ^ s = Y := ⟨_, rfl⟩
    obtain ⟨P, hP⟩ : ∃ Y, hi * 2 ^ s = Y := ⟨_, rfl⟩
    obtain ⟨L, hL⟩ : ∃ Y, lo / 2 ^ (64 - s) = Y := ⟨_, rfl⟩
    obtain ⟨A, hA⟩ : ∃ Y, IntKind.u64.wrap (lo * 2 ^ s) = Y := ⟨_, rfl⟩
    rw [hP] at E1
    rw [hP, hL] at E2 E4 E5 D1 D2
    rw [hY] at E5 D1 D2 s2 s3
    rw [hA] at hAw D1 D2
    obtain ⟨U, hU⟩ : ∃ Y, P + L = Y := ⟨_, rfl⟩
    rw [hU] at E2 E4 E5 D1 D2
    have wY := wrap_id Y (by omega) (by omega)
    obtain ⟨y1, hy1⟩ : ∃ a, Y / 4294967296 = a := ⟨_, rfl⟩
    obtain ⟨y0, hy0'⟩ : ∃ a, Y % 4294967296 = a := ⟨_, rfl⟩
    obtain ⟨u1, hu1⟩ : ∃ a, A / 4294967296 = a := ⟨_, rfl⟩
    obtain ⟨u0, hu0⟩ : ∃ a, A % 4294967296 = a := ⟨_, rfl⟩
    have m1 := and_mask' Y (by omega) (by omega)
    have m2 := and_mask' A (by omega) (by omega)
    rw [hy0'] at m1
    rw [hu0] at m2
    have S := DI.start Y y1 y0 U u1 (by omega) (by omega) (by omega) (by omega) (by omega) E4 E5 (by omega) (by omega)
    have z1 : ¬y1 = 0 := by omega
    have y1a : 2147483648 ≤ y1 := by omega
    have y1b : y1 ≤ 4294967295 := by omega
    have y0a : 0 ≤ y0 := by omega
    have y0b : y0 ≤ 4294967295 := by omega
    have u1a : 0 ≤ u1 := by omega
    have u1b : u1 ≤ 4294967295 := by omega
    have u0a : 0 ≤ u0 := by omega
    have u0b : u0 ≤ 4294967295 := by omega
    have eA : A = u1 * 4294967296 + u0 := by omega
    have Y0 : 0 < Y := by omega
    have Y1 : Y ≤ 18446744073709551615 := by omega
    have eY : Y = y1 * 4294967296 + y0 := by omega
    have t1 := tdiv_nn U y1 E4
    have eQ := S.e
    have q0 := Int.le_trans S.Q0 S.hq
    have qm := S.qle
    have r0 := S.r0
    have r1 := S.r1
    generalize U / y1 = q at *
    generalize U % y1 = r at *
    obtain ⟨p, hp⟩ : ∃ a, q * y1 = a := ⟨_, rfl⟩
    rw [hp] at eQ
    have wq := wrap_id q q0 (by omega)
    have wp := wrap_id p (by rw [← hp]; exact Int.mul_nonneg q0 (by omega)) (by omega)
    have er : U - p = r := by omega
    have wr' := wrap_id r r0 (by omega)
    have HS := Lib.hid S
    have HD1 := Lib.hid D1
    have HD2 := Lib.hid D2
    have HeA := Lib.hid eA
    have HeY := Lib.hid eY
    have sb0 : 0 ≤ (s : Int) := by omega
    have sb1 : (s : Int) ≤ 63 := by omega
    have ws : IntKind.u64.wrap (s : Int) = s := wrap_id _ (by omega) (by omega)
    have y0ne := hy0
    clear S D1 D2 eA eY hu0 hy0' s2 s3 E4 E5 hAw hU h0 h1 h2 l0 l1 eQ
    obtain ⟨Q1, hQ1⟩ : ∃ a, (U * 4294967296 + u1) / Y = a := ⟨_, rfl⟩
    have HQ1 := Lib.hid hQ1
    clear hQ1
    go_upto_block 0 with fail
    go_cut [15, 16] (fun a b wx => a = .int .u64 Q1 ∧ (∃ r : Int, b = .int .u64 r) ∧ wx = w)
    case first =>
      go_wp2_with fail
      go_loopg [15, 16] 2 (fun g a b wr => ∃ q r : Int, a = .int .u64 q ∧ b = .int .u64 r ∧ Hid (DI Y y1 y0 U u1 q r) ∧ Hid ((2 - (g : Int)) * 2147483648 ≤ r) ∧ wr = w)
      case atStart => exact ⟨_, _, rfl, rfl, HS, Lib.hid (by omega), rfl⟩
      case round =>
        clear wq wp er wr' hp HS q0 qm r0 r1 t1
        obtain ⟨q, r, rfl, rfl, HI, Hm, rfl⟩ := hrel
        have I := HI.out
        have q0 := Int.le_trans I.Q0 I.hq
        have qm := I.qle
        have r0 := I.r0
        have r1 := I.r1
        by_cases c1 : 4294967296 ≤ q
        · have hd := I.down (.inl c1)
          by_cases c2 : r + y1 ≤ 4294967295
          · have I2 := Lib.hid (I.next hd c2)
            have hm2 : (2 - ((gk - 1 : Nat) : Int)) * 2147483648 ≤ r + y1 := by have := Hm.out; omega
            have hg : gk - 1 < gk := by have := Hm.out; omega
            have Hm2 := Lib.hid hm2
            have Hg := Lib.hid hg
            obtain ⟨qn, hqn⟩ : ∃ a, q - 1 = a := ⟨_, rfl⟩
            obtain ⟨rn, hrn⟩ : ∃ a, r + y1 = a := ⟨_, rfl⟩
            rw [hqn, hrn] at I2
            rw [hrn] at Hm2 c2
            have wqn := wrap_id qn (by omega) (by omega)
            have wrn := wrap_id rn (by omega) (by omega)
            have c2n : ¬4294967296 ≤ rn := by omega
            clear hm2 hg hd I
            go_wp2_with fail
            go_roundg (gk - 1)
            case rel => exact ⟨qn, rn, rfl, rfl, I2, Hm2, rfl⟩
            case measure => exact Hg.out
          · have I2 := Lib.hid (I.brk hd (by omega))
            obtain ⟨qn, hqn⟩ : ∃ a, q - 1 = a := ⟨_, rfl⟩
            obtain ⟨rn, hrn⟩ : ∃ a, r + y1 = a := ⟨_, rfl⟩
            rw [hqn] at I2
            rw [hrn] at c2
            have wqn := wrap_id qn (by omega) (by omega)
            have wrn := wrap_id rn (by omega) (by omega)
            have c2n : 4294967296 ≤ rn := by omega
            clear c2 hd I
            go_wp2_with fail
            go_meet
            exact ⟨by rw [I2.out, HQ1.out], ⟨rn, rfl⟩, rfl⟩
        · obtain ⟨p, hp⟩ : ∃ a, q * y0 = a := ⟨_, rfl⟩
          have pb := mul_bd q y0 q0 (by omega) y0a y0b
          have hx := I.exit
          have hd0 := fun h => I.down (.inr h)
          rw [hp] at pb hx hd0
          obtain ⟨k, hk⟩ : ∃ a, 4294967296 * r = a := ⟨_, rfl⟩
          rw [show r * 4294967296 = k by omega] at hx hd0
          obtain ⟨k2, hk2⟩ : ∃ a, k + u1 = a := ⟨_, rfl⟩
          rw [hk2] at hx hd0
          have wp := wrap_id p (by omega) (by omega)
          have wk := wrap_id k (by omega) (by omega)
          have wk2 := wrap_id k2 (by omega) (by omega)
          by_cases c3 : k2 < p
          · have hd := hd0 c3
            clear hd0 hx
            have q1 : 1 ≤ q := by have := I.Q0; omega
            by_cases c2 : r + y1 ≤ 4294967295
            · have I2 := Lib.hid (I.next hd c2)
              have hm2 : (2 - ((gk - 1 : Nat) : Int)) * 2147483648 ≤ r + y1 := by have := Hm.out; omega
              have hg : gk - 1 < gk := by have := Hm.out; omega
              have Hm2 := Lib.hid hm2
              have Hg := Lib.hid hg
              obtain ⟨qn, hqn⟩ : ∃ a, q - 1 = a := ⟨_, rfl⟩
              obtain ⟨rn, hrn⟩ : ∃ a, r + y1 = a := ⟨_, rfl⟩
              rw [hqn, hrn] at I2
              rw [hrn] at Hm2 c2
              have wqn := wrap_id qn (by omega) (by omega)
              have wrn := wrap_id rn (by omega) (by omega)
              have c2n : ¬4294967296 ≤ rn := by omega
              clear hm2 hg hd I
              go_wp2_with fail
              go_roundg (gk - 1)
              case rel => exact ⟨qn, rn, rfl, rfl, I2, Hm2, rfl⟩
              case measure => exact Hg.out
            · have I2 := Lib.hid (I.brk hd (by omega))
              obtain ⟨qn, hqn⟩ : ∃ a, q - 1 = a := ⟨_, rfl⟩
              obtain ⟨rn, hrn⟩ : ∃ a, r + y1 = a := ⟨_, rfl⟩
              rw [hqn] at I2
              rw [hrn] at c2
              have wqn := wrap_id qn (by omega) (by omega)
              have wrn := wrap_id rn (by omega) (by omega)
              have c2n : 4294967296 ≤ rn := by omega
              clear c2 hd I
              go_wp2_with fail
              go_meet
              exact ⟨by rw [I2.out, HQ1.out], ⟨rn, rfl⟩, rfl⟩
          · have hx2 := Lib.hid (hx (by omega))
            clear hd0 hx I pb
            go_wp2_with fail
            go_meet
            exact ⟨by rw [hx2.out, HQ1.out], ⟨r, rfl⟩, rfl⟩
    case rest =>
      obtain ⟨rfl, ⟨rg, rfl⟩, rfl⟩ := hcut
      have S := HS.out
      have k0 := S.Q0
      have k1 := S.Qlt
      have eT := Int.ediv_mul_add_emod (U * 4294967296 + u1) Y
      have hR0 := Int.emod_nonneg (U * 4294967296 + u1) (show Y ≠ 0 by omega)
      have hR1 := Int.emod_lt_of_pos (U * 4294967296 + u1) Y0
      rw [HQ1.out] at k0 k1 eT
      generalize (U * 4294967296 + u1) % Y = R1 at *
      have HeT := Lib.hid eT
      obtain ⟨p1, hp1⟩ : ∃ a, Q1 * Y = a := ⟨_, rfl⟩
      have hrest := rest64 U u1 p1 R1 (by rw [← hp1]; exact eT) hR0 (by omega)
      have S2 := DI.start Y y1 y0 R1 u0 HeY.out y1a y1b y0a y0b hR0 hR1 u0a u0b
      have U0 := S.U0
      clear HS S q0 qm r0 r1 wq wp er wr' t1 hp eT
      have t1 := tdiv_nn R1 y1 hR0
      have eQ := S2.e
      have q0 := Int.le_trans S2.Q0 S2.hq
      have qm := S2.qle
      have r0 := S2.r0
      have r1 := S2.r1
      generalize R1 / y1 = q at *
      generalize R1 % y1 = r at *
      obtain ⟨p, hp⟩ : ∃ a, q * y1 = a := ⟨_, rfl⟩
      rw [hp] at eQ
      have wq := wrap_id q q0 (by omega)
      have wp := wrap_id p (by rw [← hp]; exact Int.mul_nonneg q0 (by omega)) (by omega)
      have er : R1 - p = r := by omega
      have wr' := wrap_id r r0 (by omega)
      have HS := Lib.hid S2
      obtain ⟨Q0, hQ0⟩ : ∃ a, (R1 * 4294967296 + u0) / Y = a := ⟨_, rfl⟩
      have HQ0 := Lib.hid hQ0
      clear hQ0 S2 eQ
      go_upto_block 2 with fail
      go_cut [18, 16] (fun a b wx => a = .int .u64 Q0 ∧ (∃ r : Int, b = .int .u64 r) ∧ wx = wc)
      case first =>
        go_wp2_with fail
        go_loopg [18, 16] 2 (fun g a b wr => ∃ q r : Int, a = .int .u64 q ∧ b = .int .u64 r ∧ Hid (DI Y y1 y0 R1 u0 q r) ∧ Hid ((2 - (g : Int)) * 2147483648 ≤ r) ∧ wr = wc)
        case atStart => exact ⟨_, _, rfl, rfl, HS, Lib.hid (by omega), rfl⟩
        case round =>
          clear wq wp er wr' hp HS q0 qm r0 r1 t1
          obtain ⟨q, r, rfl, rfl, HI, Hm, rfl⟩ := hrel
          have I := HI.out
          have q0 := Int.le_trans I.Q0 I.hq
          have qm := I.qle
          have r0 := I.r0
          have r1 := I.r1
          by_cases c1 : 4294967296 ≤ q
          · have hd := I.down (.inl c1)
            by_cases c2 : r + y1 ≤ 4294967295
            · have I2 := Lib.hid (I.next hd c2)
              have hm2 : (2 - ((gk - 1 : Nat) : Int)) * 2147483648 ≤ r + y1 := by have := Hm.out; omega
              have hg : gk - 1 < gk := by have := Hm.out; omega
              have Hm2 := Lib.hid hm2
              have Hg := Lib.hid hg
              obtain ⟨qn, hqn⟩ : ∃ a, q - 1 = a := ⟨_, rfl⟩
              obtain ⟨rn, hrn⟩ : ∃ a, r + y1 = a := ⟨_, rfl⟩
              rw [hqn, hrn] at I2
              rw [hrn] at Hm2 c2
              have wqn := wrap_id qn (by omega) (by omega)
              have wrn := wrap_id rn (by omega) (by omega)
              have c2n : ¬4294967296 ≤ rn := by omega
              clear hm2 hg hd I
              go_wp2_with fail
              go_roundg (gk - 1)
              case rel => exact ⟨qn, rn, rfl, rfl, I2, Hm2, rfl⟩
              case measure => exact Hg.out
            · have I2 := Lib.hid (I.brk hd (by omega))
              obtain ⟨qn, hqn⟩ : ∃ a, q - 1 = a := ⟨_, rfl⟩
              obtain ⟨rn, hrn⟩ : ∃ a, r + y1 = a := ⟨_, rfl⟩
              rw [hqn] at I2
              rw [hrn] at c2
              have wqn := wrap_id qn (by omega) (by omega)
              have wrn := wrap_id rn (by omega) (by omega)
              have c2n : 4294967296 ≤ rn := by omega
              clear c2 hd I
              go_wp2_with fail
              go_meet
              exact ⟨by rw [I2.out, HQ0.out], ⟨rn, rfl⟩, rfl⟩
          · obtain ⟨p, hp⟩ : ∃ a, q * y0 = a := ⟨_, rfl⟩
            have pb := mul_bd q y0 q0 (by omega) y0a y0b
            have hx := I.exit
            have hd0 := fun h => I.down (.inr h)
            rw [hp] at pb hx hd0
            obtain ⟨k, hk⟩ : ∃ a, 4294967296 * r = a := ⟨_, rfl⟩
            rw [show r * 4294967296 = k by omega] at hx hd0
            obtain ⟨k2, hk2⟩ : ∃ a, k + u0 = a := ⟨_, rfl⟩
            rw [hk2] at hx hd0
            have wp := wrap_id p (by omega) (by omega)
            have wk := wrap_id k (by omega) (by omega)
            have wk2 := wrap_id k2 (by omega) (by omega)
            by_cases c3 : k2 < p
            · have hd := hd0 c3
              clear hd0 hx
              have q1 : 1 ≤ q := by have := I.Q0; omega
              by_cases c2 : r + y1 ≤ 4294967295
              · have I2 := Lib.hid (I.next hd c2)
                have hm2 : (2 - ((gk - 1 : Nat) : Int)) * 2147483648 ≤ r + y1 := by have := Hm.out; omega
                have hg : gk - 1 < gk := by have := Hm.out; omega
                have Hm2 := Lib.hid hm2
                have Hg := Lib.hid hg
                obtain ⟨qn, hqn⟩ : ∃ a, q - 1 = a := ⟨_, rfl⟩
                obtain ⟨rn, hrn⟩ : ∃ a, r + y1 = a := ⟨_, rfl⟩
                rw [hqn, hrn] at I2
                rw [hrn] at Hm2 c2
                have wqn := wrap_id qn (by omega) (by omega)
                have wrn := wrap_id rn (by omega) (by omega)
                have c2n : ¬4294967296 ≤ rn := by omega
                clear hm2 hg hd I
                go_wp2_with fail
                go_roundg (gk - 1)
                case rel => exact ⟨qn, rn, rfl, rfl, I2, Hm2, rfl⟩
                case measure => exact Hg.out
              · have I2 := Lib.hid (I.brk hd (by omega))
                obtain ⟨qn, hqn⟩ : ∃ a, q - 1 = a := ⟨_, rfl⟩
                obtain ⟨rn, hrn⟩ : ∃ a, r + y1 = a := ⟨_, rfl⟩
                rw [hqn] at I2
                rw [hrn] at c2
                have wqn := wrap_id qn (by omega) (by omega)
                have wrn := wrap_id rn (by omega) (by omega)
                have c2n : 4294967296 ≤ rn := by omega
                clear c2 hd I
                go_wp2_with fail
                go_meet
                exact ⟨by rw [I2.out, HQ0.out], ⟨rn, rfl⟩, rfl⟩
            · have hx2 := Lib.hid (hx (by omega))
              clear hd0 hx I pb
              go_wp2_with fail
              go_meet
              exact ⟨by rw [hx2.out, HQ0.out], ⟨r, rfl⟩, rfl⟩
      case rest =>
        obtain ⟨rfl, ⟨rg, rfl⟩, rfl⟩ := hcut
        have S := HS.out
        have k2 := S.Q0
        have k3 := S.Qlt
        have eT := Int.ediv_mul_add_emod (R1 * 4294967296 + u0) Y
        have hR2 := Int.emod_nonneg (R1 * 4294967296 + u0) (show Y ≠ 0 by omega)
        have hR3 := Int.emod_lt_of_pos (R1 * 4294967296 + u0) Y0
        rw [HQ0.out] at k2 k3 eT
        generalize (R1 * 4294967296 + u0) % Y = R0 at *
        obtain ⟨p0, hp0⟩ : ∃ a, Q0 * Y = a := ⟨_, rfl⟩
        have hrest2 := rest64 R1 u0 p0 R0 (by rw [← hp0]; exact eT) hR2 (by omega)
        obtain ⟨g1, g2⟩ := div_two Y U A u1 u0 Q1 R1 Q0 R0 Y0 HeA.out HeT.out eT hR2 hR3
        rw [HD1.out] at g1
        have g3 := HD2.out
        rw [g2] at g3
        obtain ⟨a1, ha1⟩ : ∃ a, Q1 * 4294967296 = a := ⟨_, rfl⟩
        have wa1 := wrap_id a1 (by omega) (by omega)
        rw [ha1] at g1
        have wz := wrap_id zq (by omega) (by omega)
        have g1' : a1 + Q0 = zq := g1.symm
        clear g1 g2 HS S q0 qm r0 r1 wq wp er wr' t1 hp eT HQ0 hrest hp1
        go_wp2
        go_returns
        exact ⟨rfl, Chg.refl _ _⟩
end Go.Proofs.Ythdjanjlpgcmoaa
