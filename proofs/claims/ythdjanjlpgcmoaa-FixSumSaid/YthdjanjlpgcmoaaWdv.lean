/- Package wide: Div, the walk. -/
import Derived.Test.YthdjanjlpgcmoaaWdi
namespace Go.Proofs.Ythdjanjlpgcmoaa
open Go.RowKit

theorem put2 {W w : World} {z : Nat} {x0 y0 : Value} (h : At w z #[x0, y0]) (hX : Chg [] W w) (hz : W.heap.size ≤ z) (x y : Value) :
    At ((w.setCell ⟨z, 0, none⟩ x).setCell ⟨z, 1, none⟩ y) z #[x, y] ∧ Chg [] W ((w.setCell ⟨z, 0, none⟩ x).setCell ⟨z, 1, none⟩ y) :=
  ⟨(h.set 0 x (cs' := #[x, y0]) rfl).set 1 y (cs' := #[x, y]) rfl, (hX.setCell (p := ⟨z, 0, none⟩) (Or.inr hz) x).setCell (p := ⟨z, 1, none⟩) (Or.inr hz) y⟩
theorem keep2 {w : World} {z u : Nat} {cs : Array Value} (h : At w u cs) (hn : u ≠ z) (x y : Value) : At ((w.setCell ⟨z, 0, none⟩ x).setCell ⟨z, 1, none⟩ y) u cs :=
  (h.other ⟨z, 0, none⟩ x hn).other ⟨z, 1, none⟩ y hn
def divQ (a : WV) (d : Int) : WV := if 0 < d then ofV (a.val / d) else WV.zero
def divR (a : WV) (d : Int) : Int := if 0 < d then a.val % d else 0
set_option maxHeartbeats 2000000 in
theorem wdiv_any (W : World) (a : WV) (ha : a.ok) (d : Int) (hd0 : -9223372036854775808 ≤ d) (hd1 : d ≤ 9223372036854775807) : Calls Try.prog 31 #[.agg a.cells, .int .i64 d] W fun e w' =>
    e = .returned (.tuple #[.agg (divQ a d).cells, .int .i64 (divR a d), .bool (decide (0 < d))]) ∧ Chg [] W w' := by
  have HM := fun w => mag_any w a ha
  rw [show (divQ a d).cells = #[.int .i64 (divQ a d).hi, .int .u64 (divQ a d).lo] from rfl]
  rw [show a.cells = #[.int .i64 a.hi, .int .u64 a.lo] from rfl] at *
  have hA := (At.new W #[.int .i64 a.hi, .int .u64 a.lo] 27).alloc (.cells #[.int .i64 0, .int .u64 0] 27)
  have hB := At.new (W.alloc (.cells #[.int .i64 a.hi, .int .u64 a.lo] 27)) #[.int .i64 0, .int .u64 0] 27
  rw [show (W.alloc (.cells #[.int .i64 a.hi, .int .u64 a.lo] 27)).heap.size = W.heap.size + 1 by simp] at hB
  have hX := ((Chg.refl [] W).alloc (.cells #[.int .i64 a.hi, .int .u64 a.lo] 27)).alloc (.cells #[.int .i64 0, .int .u64 0] 27)
  have a0 := hA.cell 0; have a1 := hA.cell 1; have b0 := hB.cell 0; have b1 := hB.cell 1
  have f0 := hB.frozen 0; have f1 := hB.frozen 1
  by_cases c0 : d ≤ 0
  · have e1 : divQ a d = WV.zero := if_neg (by omega)
    have e2 : divR a d = 0 := if_neg (by omega)
    rw [e1, e2, decide_eq_false (by omega)]
    rw [show WV.zero.hi = 0 from rfl, show WV.zero.lo = 0 from rfl]
    go_enter Try.func31, Try.ntmps31
    go_wp2_with fail
    exact bodyPost_ret (v := .tuple #[.agg #[.int .i64 0, .int .u64 0], .int .i64 0, .bool false]) (by simp [results, Try.results31, go_sem, b0, b1]) rfl ⟨rfl, hX⟩
  · have hd : 0 < d := by omega
    obtain ⟨top, hTop⟩ : ∃ t, magV a / 18446744073709551616 / d = t := ⟨_, rfl⟩
    obtain ⟨rest, hRest⟩ : ∃ t, magV a / 18446744073709551616 % d = t := ⟨_, rfl⟩
    obtain ⟨N, r0, r1⟩ := divN a ha d top rest hd hTop hRest
    obtain ⟨m0, m1⟩ := magV_bd a ha
    have hlo0 : 0 ≤ magV a % 18446744073709551616 := by omega
    have hlo1 : magV a % 18446744073709551616 ≤ 18446744073709551615 := by omega
    have hhi0 : 0 ≤ magV a / 18446744073709551616 := by omega
    have HD := fun w => div64_any w rest (magV a % 18446744073709551616) d r0 r1 (by omega) hlo0 hlo1
    have hq1 := tdiv_nn (magV a / 18446744073709551616) d hhi0
    have hq2 : (magV a / 18446744073709551616).tmod d = magV a / 18446744073709551616 % d := Int.tmod_eq_emod_of_nonneg hhi0
    rw [hTop] at hq1
    rw [hRest] at hq2
    generalize (rest * 18446744073709551616 + magV a % 18446744073709551616) / d = low at *
    generalize (rest * 18446744073709551616 + magV a % 18446744073709551616) % d = rem at *
    clear hTop hRest m0 m1 hlo0 hlo1
    generalize magV a / 18446744073709551616 = mh at *
    generalize magV a % 18446744073709551616 = ml at *
    have e1 : divQ a d = ofV (a.val / d) := if_pos hd
    have e2 : divR a d = a.val % d := if_pos hd
    rw [e1, e2, decide_eq_true hd]
    rw [show (ofV (a.val / d)).hi = a.val / d / 18446744073709551616 from rfl, show (ofV (a.val / d)).lo = a.val / d % 18446744073709551616 from rfl]
    obtain ⟨zh, zl, zr, hz⟩ : ∃ zh zl zr, a.val / d / 18446744073709551616 = zh ∧ a.val / d % 18446744073709551616 = zl ∧ a.val % d = zr := ⟨_, _, _, rfl, rfl, rfl⟩
    rw [hz.1, hz.2.1, hz.2.2]
    have HZ := Lib.hid hz
    clear hz
    have t0 := N.t0; have t1 := N.t1; have l0 := N.l0; have l1 := N.l1; have n0 := N.r0; have n1 := N.r1
    have wd := wrap_id d (by omega) (by omega)
    have wt := wrap_id top (by omega) (by omega)
    have wr' := wrap_id rest (by omega) (by omega)
    have dne : ¬d = 0 := by omega
    have Hd := Lib.hid hd
    have HN := Lib.hid N
    clear N e1 e2 hd ha
    go_enter Try.func31, Try.ntmps31
    go_wp2_with fail
    refine (HM _).mono ?_; rintro e w' ⟨rfl, hX2⟩
    have hA2 := (hX2.at hA (by simp)).drew
    have hB2 := (hX2.at hB (by simp)).drew
    have hX3 := (hX.trans hX2).drew
    clear a0 a1 b0 b1 f0 f1 HM
    have a0 := hA2.cell 0; have a1 := hA2.cell 1; have b0 := hB2.cell 0; have b1 := hB2.cell 1
    have f0 := hB2.frozen 0; have f1 := hB2.frozen 1
    go_wp2_with fail
    go_region
    go_wp2_with fail
    refine (HD _).mono ?_; rintro e w4 ⟨rfl, hX5⟩
    have hA4 := hX5.at hA2 (by simp)
    have hB4 := hX5.at hB2 (by simp)
    have hX4 := hX3.trans hX5
    clear a0 a1 b0 b1 f0 f1 hA2 hB2 hX3 hX5 hX2 hA hB hX HD hq1 hq2
    have b0 := hB4.cell 0; have b1 := hB4.cell 1
    have f0 := hB4.frozen 0; have f1 := hB4.frozen 1
    obtain ⟨tq, htq⟩ : ∃ t, wrap64 top = t := ⟨_, rfl⟩
    have hA5 := keep2 (z := W.heap.size + 1) hA4 (by omega) (.int .i64 tq) (.int .u64 low)
    obtain ⟨hB5, hX5⟩ := put2 hB4 hX4 (by omega) (.int .i64 tq) (.int .u64 low)
    have a0 := hA5.cell 0; have a1 := hA5.cell 1; have b2 := hB5.cell 0; have b3 := hB5.cell 1
    have f2 := hB5.frozen 0; have f3 := hB5.frozen 1
    have wrem : wrap64 rem = rem := by unfold wrap64; omega
    by_cases c1 : 0 ≤ a.hi
    · obtain ⟨p1, p2, p3⟩ := HN.out.pos c1
      obtain ⟨z1, z2, z3⟩ := HZ.out
      have e1 : tq = top := by rw [← htq]; unfold wrap64; omega
      obtain rfl : zh = tq := by rw [← z1, p2, e1]; omega
      obtain rfl : zl = low := by rw [← z2, p2]; omega
      obtain rfl : zr = rem := by rw [← z3, p3]
      obtain ⟨hB6, hX6⟩ := put2 hB5 hX5 (by omega) (.int .i64 zh) (.int .u64 zl)
      have HB6 := Lib.hid hB6
      clear p1 p2 p3 z1 z2 z3 e1 hB6
      go_wp2_with fail
      clear a0 a1 b0 b1 b2 b3 f0 f1 f2 f3
      have d0 := HB6.out.cell 0
      have d1 := HB6.out.cell 1
      exact bodyPost_ret (v := .tuple #[.agg #[.int .i64 zh, .int .u64 zl], .int .i64 zr, .bool true]) (by simp [results, Try.results31, go_sem, d0, d1]) rfl ⟨rfl, hX6⟩
    · have ci : a.hi < 0 := by omega
      obtain ⟨s1, hs1⟩ : ∃ t, (0 - low) % 18446744073709551616 = t := ⟨_, rfl⟩
      obtain ⟨c, hc⟩ : ∃ t, -((0 - low) / 18446744073709551616) = t := ⟨_, rfl⟩
      obtain ⟨s2, hs2⟩ : ∃ t, (0 - top - c) % 18446744073709551616 = t := ⟨_, rfl⟩
      obtain ⟨⟨g1, g2⟩, g3, g4, g5, g6, g7⟩ := div_words top low s1 c s2 t0 t1 l0 (by omega) HN.out.m hs1 hc hs2
      have k1 := fun w => call_sub 0 low 0 (by omega) (by omega) l0 l1 (by omega) (by omega) w
      have k2 := fun w => call_sub 0 top c (by omega) (by omega) t0 (by omega) g6 g7 w
      have k3 := fun w => call_sub s1 1 0 g4 g5 (by omega) (by omega) (by omega) (by omega) w
      rw [Int.sub_zero, hs1, hc] at k1
      rw [hs2] at k2
      rw [Int.sub_zero] at k3
      have G1 := Lib.hid g1
      have G2 := Lib.hid g2
      have G3 := Lib.hid g3
      clear g1 g2 g3 hs1 hc hs2
      by_cases c2 : rem = 0
      · subst c2
        obtain ⟨p1, p2⟩ := HN.out.zero ci rfl
        obtain ⟨z1, z2, z3⟩ := HZ.out
        obtain rfl : zl = s1 := by rw [← z2, p1, G2.out]
        obtain rfl : zr = 0 := by rw [← z3, p2]
        have hzh : wrap64 s2 = zh := by rw [← z1, p1, G1.out]
        obtain ⟨hB6, hX6⟩ := put2 hB5 hX5 (by omega) (.int .i64 zh) (.int .u64 zl)
        have HB6 := Lib.hid hB6
        clear p1 p2 z1 z2 z3 hB6 k3 G1 G2 G3
        go_wp2_with fail
        clear a0 a1 b0 b1 b2 b3 f0 f1 f2 f3
        have d0 := HB6.out.cell 0
        have d1 := HB6.out.cell 1
        exact bodyPost_ret (v := .tuple #[.agg #[.int .i64 zh, .int .u64 zl], .int .i64 0, .bool true]) (by simp [results, Try.results31, go_sem, d0, d1]) rfl ⟨rfl, hX6⟩
      · obtain ⟨p0, p1, p2⟩ := HN.out.neg ci (by omega)
        obtain ⟨z1, z2, z3⟩ := HZ.out
        obtain ⟨q1, q2⟩ := G3.out p0
        obtain ⟨s3, hs3⟩ : ∃ t, (s1 - 1) % 18446744073709551616 = t := ⟨_, rfl⟩
        obtain ⟨c3, hc3⟩ : ∃ t, -((s1 - 1) / 18446744073709551616) = t := ⟨_, rfl⟩
        rw [hs3, hc3] at k3
        rw [hc3] at q1
        rw [hs3] at q2
        obtain ⟨s4, hs4⟩ : ∃ t, IntKind.u64.wrap (s2 - c3) = t := ⟨_, rfl⟩
        rw [hs4] at q1
        have hzh : wrap64 s4 = zh := by rw [← z1, p1, q1]
        obtain rfl : s3 = zl := by rw [← z2, p1, q2]
        obtain ⟨rr, hrr⟩ : ∃ t, d - rem = t := ⟨_, rfl⟩
        obtain rfl : zr = rr := by rw [← z3, p2, hrr]
        have wrr := wrap_id zr (by omega) (by omega)
        have wrr2 : wrap64 zr = zr := by unfold wrap64; omega
        have c2' : 0 < rem := by omega
        obtain ⟨hB6, hX6⟩ := put2 hB5 hX5 (by omega) (.int .i64 zh) (.int .u64 s3)
        have HB6 := Lib.hid hB6
        clear p0 p1 p2 z1 z2 z3 hB6 G1 G2 G3 q1 q2 hs3 hc3
        go_wp2_with fail
        clear a0 a1 b0 b1 b2 b3 f0 f1 f2 f3
        have d0 := HB6.out.cell 0
        have d1 := HB6.out.cell 1
        exact bodyPost_ret (v := .tuple #[.agg #[.int .i64 zh, .int .u64 s3], .int .i64 zr, .bool true]) (by simp [results, Try.results31, go_sem, d0, d1]) rfl ⟨rfl, hX6⟩
end Go.Proofs.Ythdjanjlpgcmoaa
