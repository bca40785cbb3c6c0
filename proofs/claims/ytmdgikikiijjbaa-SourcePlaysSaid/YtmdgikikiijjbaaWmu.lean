/- Package wide: the product of two words (bits.Mul64), Neg, Mul. -/
import Derived.Test.YtmdgikikiijjbaaWii
namespace Go.Proofs.Ytmdgikikiijjbaa
open Go.RowKit

theorem and_mask' (x : Int) (h0 : 0 ≤ x) (h1 : x ≤ 18446744073709551615) : bits .and .u64 x 4294967295 = x % 4294967296 := by
  obtain ⟨m, rfl⟩ : ∃ m : Nat, x = (m : Int) := ⟨x.toNat, by omega⟩
  have e1 : (BitVec.ofInt 64 (m : Int)).toNat = m := by
    rw [BitVec.ofInt_natCast, BitVec.toNat_ofNat]; exact Nat.mod_eq_of_lt (by omega)
  show IntKind.u64.wrap ((BitVec.ofInt 64 (m : Int) &&& BitVec.ofInt 64 4294967295).toNat : Int) = _
  rw [BitVec.toNat_and, e1, show (BitVec.ofInt 64 4294967295).toNat = 2 ^ 32 - 1 from rfl, Nat.and_two_pow_sub_one_eq_mod]
  simp [IntKind.wrap, IntKind.bits, IntKind.signed]
  omega
theorem mul64_any (w : World) (x y : Int) (hx : 0 ≤ x) (hx1 : x ≤ 18446744073709551615) (hy : 0 ≤ y) (hy1 : y ≤ 18446744073709551615) : Calls Try.prog 41 #[.int .u64 x, .int .u64 y] w fun e w' => e = .returned (.tuple #[.int .u64 (x * y / 18446744073709551616), .int .u64 (x * y % 18446744073709551616)]) ∧ w = w' := by
  have m1 := and_mask' x hx hx1
  have m2 := and_mask' y hy hy1
  obtain ⟨x0, hx0⟩ : ∃ x0, x % 4294967296 = x0 := ⟨_, rfl⟩
  obtain ⟨y0, hy0⟩ : ∃ x0, y % 4294967296 = x0 := ⟨_, rfl⟩
  obtain ⟨xh, hxh⟩ : ∃ x0, x / 4294967296 = x0 := ⟨_, rfl⟩
  obtain ⟨yh, hyh⟩ : ∃ x0, y / 4294967296 = x0 := ⟨_, rfl⟩
  have L := mul64_hi x0 xh y0 yh (by omega) (by omega) (by omega) (by omega) (by omega) (by omega) (by omega) (by omega)
  rw [show xh * 4294967296 + x0 = x by omega, show yh * 4294967296 + y0 = y by omega] at L
  rw [hx0] at m1
  rw [hy0] at m2
  have bp := mul_bd x0 y0 (by omega) (by omega) (by omega) (by omega)
  have bq := mul_bd xh y0 (by omega) (by omega) (by omega) (by omega)
  have br := mul_bd x0 yh (by omega) (by omega) (by omega) (by omega)
  have bt := mul_bd xh yh (by omega) (by omega) (by omega) (by omega)
  obtain ⟨p, hp⟩ : ∃ p, x0 * y0 = p := ⟨_, rfl⟩
  obtain ⟨q, hq⟩ : ∃ p, xh * y0 = p := ⟨_, rfl⟩
  obtain ⟨r, hr⟩ : ∃ p, x0 * yh = p := ⟨_, rfl⟩
  obtain ⟨t, ht⟩ : ∃ p, xh * yh = p := ⟨_, rfl⟩
  obtain ⟨z, hz⟩ : ∃ p, x * y = p := ⟨_, rfl⟩
  rw [hp] at bp L
  rw [hq] at bq L
  rw [hr] at br L
  rw [ht] at bt L
  rw [hz] at L
  rw [hz]
  have hz2 : IntKind.u64.wrap z = z % 18446744073709551616 := rfl
  obtain ⟨zh, hzh⟩ : ∃ p, z / 18446744073709551616 = p := ⟨_, rfl⟩
  obtain ⟨zl, hzl⟩ : ∃ p, z % 18446744073709551616 = p := ⟨_, rfl⟩
  have zb : 0 ≤ zl ∧ zl ≤ 18446744073709551615 := by omega
  rw [hzh] at L ⊢
  rw [hzl] at hz2 ⊢
  obtain ⟨p1, hp1⟩ : ∃ p1, p / 4294967296 = p1 := ⟨_, rfl⟩
  rw [hp1] at L
  obtain ⟨s, hs⟩ : ∃ s, q + p1 = s := ⟨_, rfl⟩
  rw [hs] at L
  have m3 := and_mask' s (by omega) (by omega)
  obtain ⟨s0, hs0⟩ : ∃ x0, s % 4294967296 = x0 := ⟨_, rfl⟩
  obtain ⟨s1, hs1⟩ : ∃ x0, s / 4294967296 = x0 := ⟨_, rfl⟩
  rw [hs0] at m3 L
  rw [hs1] at L
  obtain ⟨u, hu⟩ : ∃ x0, s0 + r = x0 := ⟨_, rfl⟩
  rw [hu] at L
  obtain ⟨u1, hu1⟩ : ∃ x0, u / 4294967296 = x0 := ⟨_, rfl⟩
  rw [hu1] at L
  obtain ⟨v, hv⟩ : ∃ x0, t + s1 = x0 := ⟨_, rfl⟩
  rw [hv] at L
  have w1 : IntKind.u64.wrap p = p := by rw [IntKind.wrap_u64]; omega
  have w2 : IntKind.u64.wrap q = q := by rw [IntKind.wrap_u64]; omega
  have w3 : IntKind.u64.wrap r = r := by rw [IntKind.wrap_u64]; omega
  have w4 : IntKind.u64.wrap t = t := by rw [IntKind.wrap_u64]; omega
  have w5 : IntKind.u64.wrap s = s := by rw [IntKind.wrap_u64]; omega
  have w6 : IntKind.u64.wrap u = u := by rw [IntKind.wrap_u64]; omega
  have w7 : IntKind.u64.wrap v = v := by rw [IntKind.wrap_u64]; omega
  have w8 : IntKind.u64.wrap zh = zh := by rw [IntKind.wrap_u64]; omega
  clear hx0 hy0 bp bq br bt zb hx hx1 hy hy1 hzh hzl hs0
  go_enter Try.func41, Try.ntmps41
  go_wp2
  go_returns
  exact ⟨rfl, rfl⟩
theorem imul_bd (a b M : Int) (hM : 0 ≤ M) (ha0 : -M ≤ a) (ha1 : a ≤ M) (hb0 : -M ≤ b) (hb1 : b ≤ M) : -(M * M) ≤ a * b ∧ a * b ≤ M * M := by
  have h : (a * b).natAbs ≤ (M * M).natAbs := by
    rw [Int.natAbs_mul, Int.natAbs_mul]
    exact Nat.mul_le_mul (by omega) (by omega)
  have : 0 ≤ M * M := Int.mul_nonneg hM hM
  omega
theorem mul_shift (a b p q : Int) : (a + p * 18446744073709551616) * (b + q * 18446744073709551616) = a * b + (p * b + q * a) * 18446744073709551616 + p * q * 340282366920938463463374607431768211456 := by
  grind
/-- What wide.Mul reckons. -/
theorem mul_plain (a b h1 h2 h3 : Int) (ha0 : -9223372036854775808 ≤ a) (ha1 : a ≤ 9223372036854775807) (hb0 : -9223372036854775808 ≤ b) (hb1 : b ≤ 9223372036854775807)
    (e1 : IntKind.u64.wrap a * IntKind.u64.wrap b / 18446744073709551616 = h1) (e2 : (if a < 0 then IntKind.u64.wrap (h1 - IntKind.u64.wrap b) else h1) = h2)
    (e3 : (if b < 0 then IntKind.u64.wrap (h2 - IntKind.u64.wrap a) else h2) = h3) : wrap64 h3 = a * b / 18446744073709551616 ∧ IntKind.u64.wrap a * IntKind.u64.wrap b % 18446744073709551616 = a * b % 18446744073709551616 := by
  have u1 : IntKind.u64.wrap a = a % 18446744073709551616 := rfl
  have u2 : IntKind.u64.wrap b = b % 18446744073709551616 := rfl
  have k1 : IntKind.u64.wrap (h1 - IntKind.u64.wrap b) = (h1 - b % 18446744073709551616) % 18446744073709551616 := rfl
  have k2 : IntKind.u64.wrap (h2 - IntKind.u64.wrap a) = (h2 - a % 18446744073709551616) % 18446744073709551616 := rfl
  obtain ⟨L1, L2⟩ := imul_bd a b 9223372036854775808 (by omega) (by omega) (by omega) (by omega) (by omega)
  have n1 : a % 18446744073709551616 = a + (if a < 0 then 1 else 0) * 18446744073709551616 := by split <;> omega
  have n2 : b % 18446744073709551616 = b + (if b < 0 then 1 else 0) * 18446744073709551616 := by split <;> omega
  rw [k1] at e2
  rw [k2] at e3
  rw [u1, u2, n1, n2, mul_shift] at e1
  rw [u1, u2, n1, n2, mul_shift]
  generalize a * b = z at *
  unfold wrap64
  by_cases c1 : a < 0 <;> by_cases c2 : b < 0 <;> simp only [c1, c2, if_true, if_false, Int.one_mul, Int.zero_mul, Int.mul_one, Int.mul_zero] at * <;> omega
theorem wmul_any (w : World) (a b : Int) (ha0 : -9223372036854775808 ≤ a) (ha1 : a ≤ 9223372036854775807) (hb0 : -9223372036854775808 ≤ b) (hb1 : b ≤ 9223372036854775807) : Calls Try.prog 35 #[.int .i64 a, .int .i64 b] w fun e w' => e = .returned (.agg (ofV (a * b)).cells) ∧ Chg [] w w' := by
  have hu : ∀ x : Int, 0 ≤ IntKind.u64.wrap x ∧ IntKind.u64.wrap x ≤ 18446744073709551615 := fun x => Go.bounds_u64 (wf_wrap .u64 x)
  have HM := fun w => mul64_any w (IntKind.u64.wrap a) (IntKind.u64.wrap b) (hu a).1 (hu a).2 (hu b).1 (hu b).2
  obtain ⟨h1, e1⟩ : ∃ h, IntKind.u64.wrap a * IntKind.u64.wrap b / 18446744073709551616 = h := ⟨_, rfl⟩
  obtain ⟨h2, e2⟩ : ∃ h, (if a < 0 then IntKind.u64.wrap (h1 - IntKind.u64.wrap b) else h1) = h := ⟨_, rfl⟩
  obtain ⟨h3, e3⟩ : ∃ h, (if b < 0 then IntKind.u64.wrap (h2 - IntKind.u64.wrap a) else h2) = h := ⟨_, rfl⟩
  obtain ⟨p1, p2⟩ := mul_plain a b h1 h2 h3 ha0 ha1 hb0 hb1 e1 e2 e3
  rw [e1, p2] at HM
  have Hr := Lib.hid (show (ofV (a * b)).cells = #[.int .i64 (a * b / 18446744073709551616), .int .u64 (a * b % 18446744073709551616)] from rfl)
  generalize (ofV (a * b)).cells = res at *
  generalize a * b / 18446744073709551616 = zh at *
  generalize a * b % 18446744073709551616 = zl at *
  clear e1 p2 hu ha0 ha1 hb0 hb1
  have q := At.new (w.alloc (.cells #[.int .i64 0, .int .u64 0] 89)) #[.int .i64 zh, .int .u64 zl] 89
  have hq : At ((w.alloc (.cells #[.int .i64 zh, .int .u64 zl] 89))) w.heap.size #[.int .i64 zh, .int .u64 zl] ∧ Chg [] w (w.alloc (.cells #[.int .i64 zh, .int .u64 zl] 89)) := ⟨At.new w _ _, (Chg.refl _ _).alloc _⟩
  have Hq := Lib.hid hq
  clear q hq
  go_enter Try.func35, Try.ntmps35
  go_wp2_with fail
  refine (HM _).mono ?_; rintro e w' ⟨rfl, rfl⟩
  by_cases c1 : a < 0
  · rw [if_pos c1] at e2
    by_cases c2 : b < 0
    · rw [if_pos c2] at e3
      go_wp2_with fail
      obtain ⟨d, dX⟩ := Hq.out
      have d0 := d.cell 0
      have d1 := d.cell 1
      exact bodyPost_ret (v := .agg #[.int .i64 zh, .int .u64 zl]) (by simp [results, Try.results35, go_sem, d0, d1]) rfl ⟨by rw [Hr.out], dX⟩
    · rw [if_neg c2] at e3
      subst e3
      go_wp2_with fail
      obtain ⟨d, dX⟩ := Hq.out
      have d0 := d.cell 0
      have d1 := d.cell 1
      exact bodyPost_ret (v := .agg #[.int .i64 zh, .int .u64 zl]) (by simp [results, Try.results35, go_sem, d0, d1]) rfl ⟨by rw [Hr.out], dX⟩
  · rw [if_neg c1] at e2
    subst e2
    by_cases c2 : b < 0
    · rw [if_pos c2] at e3
      go_wp2_with fail
      obtain ⟨d, dX⟩ := Hq.out
      have d0 := d.cell 0
      have d1 := d.cell 1
      exact bodyPost_ret (v := .agg #[.int .i64 zh, .int .u64 zl]) (by simp [results, Try.results35, go_sem, d0, d1]) rfl ⟨by rw [Hr.out], dX⟩
    · rw [if_neg c2] at e3
      subst e3
      go_wp2_with fail
      obtain ⟨d, dX⟩ := Hq.out
      have d0 := d.cell 0
      have d1 := d.cell 1
      exact bodyPost_ret (v := .agg #[.int .i64 zh, .int .u64 zl]) (by simp [results, Try.results35, go_sem, d0, d1]) rfl ⟨by rw [Hr.out], dX⟩
end Go.Proofs.Ytmdgikikiijjbaa
