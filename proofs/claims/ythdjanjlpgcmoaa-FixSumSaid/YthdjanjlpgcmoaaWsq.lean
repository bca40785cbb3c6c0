/- Package wide: above, Sqrt, magnitude. -/
import Derived.Test.YthdjanjlpgcmoaaWmu
import Derived.Deep.LoopGhost
namespace Go.Proofs.Ythdjanjlpgcmoaa
open Go.RowKit

theorem or_pow (m g : Nat) (h : m * 2 ^ (g + 1) + 2 ^ g < 2 ^ 64) : bits .or .u64 ((m * 2 ^ (g + 1) : Nat) : Int) ((2 ^ g : Nat) : Int) = ((m * 2 ^ (g + 1) + 2 ^ g : Nat) : Int) := by
  have h2 : 2 ^ g < 2 ^ (g + 1) := Nat.pow_lt_pow_right (by omega) (by omega)
  have e1 : ∀ n : Nat, n < 2 ^ 64 → (BitVec.ofInt 64 (n : Int)).toNat = n := fun n hn => by
    rw [BitVec.ofInt_natCast, BitVec.toNat_ofNat]; exact Nat.mod_eq_of_lt hn
  rw [or_u]
  unfold bv
  rw [BitVec.toNat_or, e1 _ (by omega), e1 _ (by omega), Nat.mul_comm m, ← Nat.two_pow_add_eq_or_of_lt h2]
theorem above_plain (z H L hi lo : Int) (h1 : z / 18446744073709551616 = hi) (h2 : z % 18446744073709551616 = lo) (hL : 0 ≤ L) (hL1 : L ≤ 18446744073709551615) :
    decide (H * 18446744073709551616 + L < z) = (decide (H < hi) || ((hi == H) && decide (L < lo))) := by
  rw [Bool.eq_iff_iff]
  simp
  omega
set_option maxHeartbeats 400000 in
theorem above_any (w : World) (s : Int) (a : WV) (hs : 0 ≤ s) (hs1 : s ≤ 18446744073709551615) (ha : a.ok) (hh : 0 ≤ a.hi) : Calls Try.prog 60 #[.int .u64 s, .agg a.cells] w fun e w' => e = .returned (.bool (decide (a.val < s * s))) ∧ Chg [] w w' := by
  have HM := fun w => mul64_any w s s hs hs1 hs hs1
  have hp := above_plain (s * s) a.hi a.lo _ _ rfl rfl ha.l0 ha.l1
  rw [show a.hi * 18446744073709551616 + a.lo = a.val from rfl] at hp
  have hw : IntKind.u64.wrap a.hi = a.hi := by
    have := ha.h1
    rw [IntKind.wrap_u64]; omega
  generalize s * s / 18446744073709551616 = hi at *
  generalize s * s % 18446744073709551616 = lo at *
  have Hp := Lib.hid hp
  clear hp
  generalize decide (a.val < s * s) = res at *
  have hA := At.new w #[.int .i64 a.hi, .int .u64 a.lo] 27
  have hX := (Chg.refl [] w).alloc (.cells #[.int .i64 a.hi, .int .u64 a.lo] 27)
  rw [show a.cells = #[.int .i64 a.hi, .int .u64 a.lo] from rfl]
  have a0 := hA.cell 0; have a1 := hA.cell 1
  clear hs hs1 hA
  have hh0 := hh
  go_enter Try.func60, Try.ntmps60
  go_wp2_with fail
  refine (HM _).mono ?_; rintro e w' ⟨rfl, rfl⟩
  by_cases c1 : a.hi < hi
  · go_wp2
    go_returns
    exact ⟨ret_bool (by rw [Hp.out, decide_eq_true c1]; rfl), hX⟩
  · by_cases c2 : hi = a.hi
    · by_cases c3 : a.lo < lo
      · go_wp2
        go_returns
        exact ⟨ret_bool (by rw [Hp.out]; simp [c2, c3]), hX⟩
      · go_wp2
        go_returns
        exact ⟨ret_bool (by rw [Hp.out]; simp [c2, c3]), hX⟩
    · go_wp2
      go_returns
      exact ⟨ret_bool (by rw [Hp.out]; simp [c2]), hX⟩
theorem sq_le (a b : Int) (h0 : 0 ≤ a) (h : a ≤ b) : a * a ≤ b * b := Int.mul_le_mul h h h0 (by omega)
/-- What one round of wide.Sqrt keeps: the root is from s on, and below s + 2^g. -/
structure SqI (V : Int) (g : Nat) (s : Nat) : Prop where
  m : ∃ m, s = m * 2 ^ g
  b : s + 2 ^ g ≤ 2 ^ 64
  l : (s : Int) * s ≤ V
  u : V < ((s + 2 ^ g : Nat) : Int) * ((s + 2 ^ g : Nat) : Int)
theorem SqI.or_ {V : Int} {g s : Nat} (h : SqI V (g + 1) s) : bits .or .u64 (s : Int) ((2 ^ g : Nat) : Int) = ((s + 2 ^ g : Nat) : Int) ∧ s + 2 ^ g < 2 ^ 64 := by
  obtain ⟨m, rfl⟩ := h.m
  have h2 : 2 ^ (g + 1) = 2 ^ g * 2 := Nat.pow_succ 2 g
  have hb := h.b
  have hp : 0 < 2 ^ g := Nat.pow_pos (by omega)
  exact ⟨or_pow m g (by omega), by omega⟩
theorem SqI.yes {V : Int} {g s : Nat} (h : SqI V (g + 1) s) (hv : ¬V < ((s + 2 ^ g : Nat) : Int) * ((s + 2 ^ g : Nat) : Int)) : SqI V g (s + 2 ^ g) := by
  obtain ⟨m, hm⟩ := h.m
  have h2 : 2 ^ (g + 1) = 2 ^ g * 2 := Nat.pow_succ 2 g
  have hb := h.b
  have hu := h.u
  rw [h2, show s + 2 ^ g * 2 = s + 2 ^ g + 2 ^ g by omega] at hu
  refine ⟨⟨m * 2 + 1, ?_⟩, by omega, by omega, hu⟩
  rw [hm, h2, Nat.add_mul, Nat.one_mul, Nat.mul_assoc, Nat.mul_comm 2]
theorem SqI.no {V : Int} {g s : Nat} (h : SqI V (g + 1) s) (hv : V < ((s + 2 ^ g : Nat) : Int) * ((s + 2 ^ g : Nat) : Int)) : SqI V g s := by
  obtain ⟨m, hm⟩ := h.m
  have h2 : 2 ^ (g + 1) = 2 ^ g * 2 := Nat.pow_succ 2 g
  have hb := h.b
  refine ⟨⟨m * 2, ?_⟩, by omega, h.l, hv⟩
  rw [hm, h2, Nat.mul_assoc, Nat.mul_comm 2]
theorem SqI.start (V : Int) (h0 : 0 ≤ V) (h1 : V < 340282366920938463463374607431768211456) : SqI V 64 0 := ⟨⟨0, by simp⟩, by omega, by simpa using h0, by simpa using h1⟩
theorem half_pow (g : Nat) : ((2 ^ g : Nat) : Int) / 2 = ((2 ^ g / 2 : Nat) : Int) := by omega
/-- The bit of a round: 2^(g-1), or 0 behind the last one. -/
def bitV (g : Nat) : Nat := 2 ^ g / 2
theorem bitV_succ (g : Nat) : bitV (g + 1) = 2 ^ g := by unfold bitV; rw [Nat.pow_succ]; omega
set_option maxHeartbeats 1000000 in
theorem wsqrt_any (W : World) (a : WV) (ha : a.ok) : Calls Try.prog 58 #[.agg a.cells] W fun e w' =>
    ((a.hi < 0 ∧ e = .returned (.tuple #[.int .u64 0, .bool false])) ∨ (0 ≤ a.hi ∧ ∃ r : Nat, e = .returned (.tuple #[.int .u64 r, .bool true]) ∧ (r : Int) ≤ 18446744073709551615 ∧ (r : Int) * r ≤ a.val ∧ a.val < ((r + 1 : Nat) : Int) * ((r + 1 : Nat) : Int))) ∧ Chg [] W w' := by
  have HA := fun w s h0 h1 hh => above_any w s a h0 h1 ha hh
  have hv0 : 0 ≤ a.hi → 0 ≤ a.val ∧ a.val < 340282366920938463463374607431768211456 := fun h => by
    have := ha.h1; have := ha.l0; have := ha.l1
    unfold WV.val
    omega
  rw [show a.cells = #[.int .i64 a.hi, .int .u64 a.lo] from rfl] at *
  have hA := At.new W #[.int .i64 a.hi, .int .u64 a.lo] 27
  have hX := (Chg.refl [] W).alloc (.cells #[.int .i64 a.hi, .int .u64 a.lo] 27)
  have a0 := hA.cell 0; have a1 := hA.cell 1
  generalize a.val = V at *
  go_enter Try.func58, Try.ntmps58
  by_cases c1 : a.hi < 0
  · go_wp2
    go_returns
    exact ⟨.inl ⟨c1, rfl⟩, hX⟩
  · have hh : 0 ≤ a.hi := by omega
    obtain ⟨v0, v1⟩ := hv0 hh
    replace HA := fun w s h0 h1 => HA w s h0 h1 hh
    have HS := SqI.start V v0 v1
    have hw1 : (W.alloc (.cells #[.int .i64 a.hi, .int .u64 a.lo] 27)).heap.size = W.heap.size + 1 := by simp
    have Hhh := Lib.hid hh
    go_wp2_with fail
    clear a0 a1 hh hv0 ha
    go_loopg [4, 5] 64 (fun g sv bv wr => ∃ s : Nat, sv = .int .u64 s ∧ bv = .int .u64 (bitV g : Nat) ∧ SqI V g s ∧ At wr W.heap.size #[.int .i64 a.hi, .int .u64 a.lo] ∧ Chg [] W wr)
    case atStart => exact ⟨0, rfl, rfl, HS, hA, hX⟩
    case round =>
      obtain ⟨s, rfl, rfl, hI, hA2, hX2⟩ := hrel
      have a0 := hA2.cell 0; have a1 := hA2.cell 1
      by_cases hg : gk = 0
      · subst hg
        rw [show bitV 0 = 0 from rfl]
        go_wp2_with fail
        go_returns
        exact ⟨.inr ⟨Hhh.out, s, rfl, by have := hI.b; omega, hI.l, hI.u⟩, hX2⟩
      · obtain ⟨j, rfl⟩ : ∃ j, gk = j + 1 := ⟨gk - 1, by omega⟩
        rw [bitV_succ]
        obtain ⟨ho, hb⟩ := hI.or_
        have hpos : (0 : Int) < ((2 ^ j : Nat) : Int) := by have : 0 < 2 ^ j := Nat.pow_pos (by omega); omega
        have HH := fun w => HA w ((s + 2 ^ j : Nat) : Int) (by omega) (by omega)
        have hdiv := half_pow j
        rw [show 2 ^ j / 2 = bitV j from rfl] at hdiv
        have Hy := Lib.hid hI.yes
        have Hn := Lib.hid hI.no
        generalize ((2 ^ j : Nat) : Int) = bi at *
        generalize s + 2 ^ j = t at *
        go_wp2_with fail
        refine (HH _).mono ?_; rintro e w' ⟨rfl, hX3⟩
        have hA3 := hX3.at hA2 (by simp)
        have hX4 := hX2.trans hX3
        by_cases hc : V < (t : Int) * t
        · rw [decide_eq_true hc]
          go_wp2_with fail
          go_roundg j
          case rel => exact ⟨s, rfl, rfl, Hn.out hc, hA3, hX4⟩
          case measure => omega
        · rw [decide_eq_false hc]
          go_wp2_with fail
          go_roundg j
          case rel => exact ⟨t, rfl, rfl, Hy.out hc, hA3, hX4⟩
          case measure => omega

/-- A number without its sign. -/
def magV (a : WV) : Int := if 0 ≤ a.hi then a.val else -a.val
theorem magV_bd (a : WV) (ha : a.ok) : 0 ≤ magV a ∧ magV a ≤ 170141183460469231731687303715884105728 := by
  have := ha.h0; have := ha.h1; have := ha.l0; have := ha.l1
  unfold magV WV.val
  split <;> omega
theorem mag_plain (a : WV) (ha : a.ok) (hn : a.hi < 0) : -((0 - a.lo) / 18446744073709551616) ≤ 1 ∧ 0 ≤ -((0 - a.lo) / 18446744073709551616) ∧ (0 - a.lo) % 18446744073709551616 = magV a % 18446744073709551616 ∧
    (0 - IntKind.u64.wrap a.hi - -((0 - a.lo) / 18446744073709551616)) % 18446744073709551616 = magV a / 18446744073709551616 := by
  have := ha.h0; have := ha.h1; have := ha.l0; have := ha.l1
  have u1 : IntKind.u64.wrap a.hi = a.hi % 18446744073709551616 := rfl
  rw [u1]
  unfold magV WV.val
  rw [if_neg (by omega)]
  omega
theorem mag_pos (a : WV) (ha : a.ok) (hn : 0 ≤ a.hi) : a.lo = magV a % 18446744073709551616 ∧ IntKind.u64.wrap a.hi = magV a / 18446744073709551616 := by
  have := ha.h0; have := ha.h1; have := ha.l0; have := ha.l1
  have u1 : IntKind.u64.wrap a.hi = a.hi % 18446744073709551616 := rfl
  rw [u1]
  unfold magV WV.val
  rw [if_pos (by omega)]
  omega
set_option maxHeartbeats 400000 in
theorem mag_any (w : World) (a : WV) (ha : a.ok) : Calls Try.prog 48 #[.agg a.cells] w fun e w' => e = .returned (.tuple #[.int .u64 (magV a / 18446744073709551616), .int .u64 (magV a % 18446744073709551616)]) ∧ Chg [] w w' := by
  have hA := At.new w #[.int .i64 a.hi, .int .u64 a.lo] 27
  have hX := (Chg.refl [] w).alloc (.cells #[.int .i64 a.hi, .int .u64 a.lo] 27)
  have a0 := hA.cell 0; have a1 := hA.cell 1
  have hu := Go.bounds_u64 (wf_wrap .u64 a.hi)
  have k1 := fun w => call_sub 0 a.lo 0 (by omega) (by omega) ha.l0 ha.l1 (by omega) (by omega) w
  rw [Int.sub_zero] at k1
  rw [show a.cells = #[.int .i64 a.hi, .int .u64 a.lo] from rfl]
  by_cases c1 : a.hi < 0
  · obtain ⟨p1, p2, p3, p4⟩ := mag_plain a ha c1
    have k2 := fun w => call_sub 0 (IntKind.u64.wrap a.hi) (-((0 - a.lo) / 18446744073709551616)) (by omega) (by omega) hu.1 hu.2 p2 p1 w
    rw [p4] at k2
    rw [p3] at k1
    generalize -((0 - a.lo) / 18446744073709551616) = c at *
    generalize magV a / 18446744073709551616 = zh at *
    generalize magV a % 18446744073709551616 = zl at *
    clear p1 p2 p3 p4 hu
    go_enter Try.func48, Try.ntmps48
    go_wp2_with fail
    go_returns
    exact ⟨rfl, hX⟩
  · obtain ⟨p1, p2⟩ := mag_pos a ha (by omega)
    generalize magV a / 18446744073709551616 = zh at *
    generalize magV a % 18446744073709551616 = zl at *
    clear k1 hu
    go_enter Try.func48, Try.ntmps48
    go_wp2_with fail
    go_region
    go_wp2
    go_returns
    exact ⟨rfl, by first | exact hX.drew | (rw [p1] at hX; exact hX.drew)⟩
end Go.Proofs.Ythdjanjlpgcmoaa
