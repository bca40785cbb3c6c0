/- The reference of wide: a number's bits, and back. -/
import Derived.Test.YthdjanjlpgcmoaaInn
import Derived.Test.YthdjanjlpgcmoaaWla
import Derived.Deep.LoopGhost
namespace Go.Proofs.Ythdjanjlpgcmoaa
open Go.RowKit

def bitsL (v : Int) (n : Nat) : List Int := (List.range n).map (fun i => v / 2 ^ i % 2)
theorem bitsL_succ (v : Int) (n : Nat) : bitsL v (n + 1) = bitsL v n ++ [v / 2 ^ n % 2] := by
  unfold bitsL
  rw [List.range_succ, List.map_append]
  rfl
theorem bitsL_len (v : Int) (n : Nat) : (bitsL v n).length = n := by simp [bitsL]
theorem IRow.weaken {w : World} {base base' : Nat} {v : Value} {L : List Int} (h : IRow w base v L) (hb : base' ≤ base) : IRow w base' v L := by
  refine ⟨h.1, ?_⟩
  rcases h.2 with hn | ⟨g, cap, cur, rfl, hb1, rest⟩
  · exact .inl hn
  · exact .inr ⟨g, cap, cur, rfl, by omega, rest⟩

theorem and_one (x : Int) (h0 : 0 ≤ x) (h1 : x ≤ 18446744073709551615) : bits .and .u64 x 1 = x % 2 := by
  obtain ⟨m, rfl⟩ : ∃ m : Nat, x = (m : Int) := ⟨x.toNat, by omega⟩
  have e1 : (BitVec.ofInt 64 (m : Int)).toNat = m := by
    rw [BitVec.ofInt_natCast, BitVec.toNat_ofNat]; exact Nat.mod_eq_of_lt (by omega)
  show IntKind.u64.wrap ((BitVec.ofInt 64 (m : Int) &&& BitVec.ofInt 64 1).toNat : Int) = _
  rw [BitVec.toNat_and, e1, show (BitVec.ofInt 64 1).toNat = 2 ^ 1 - 1 from rfl, Nat.and_two_pow_sub_one_eq_mod]
  simp [IntKind.wrap, IntKind.bits, IntKind.signed]
  omega
theorem pow_split (k : Nat) (hk : k < 64) : (18446744073709551616 : Int) = 2 ^ k * (2 * 2 ^ (63 - k)) := by
  have e : (2 : Int) ^ k * (2 * 2 ^ (63 - k)) = 2 ^ (k + (1 + (63 - k))) := by
    rw [Int.pow_add, Int.pow_add]
    rfl
  rw [e, show k + (1 + (63 - k)) = 64 by omega]
  rfl
theorem pow_pos' (k : Nat) : (0 : Int) < 2 ^ k := Int.pow_pos (by omega)
theorem bit_shift (x q : Int) (k : Nat) (hk : k < 64) : (x + 18446744073709551616 * q) / 2 ^ k % 2 = x / 2 ^ k % 2 := by
  have hp := pow_pos' k
  have e := pow_split k hk
  rw [e, Int.mul_assoc, Int.add_mul_ediv_left _ _ (by omega), Int.mul_assoc]
  generalize 2 ^ (63 - k) * q = r
  omega
theorem div_bd (x : Int) (k : Nat) (h0 : 0 ≤ x) (h1 : x ≤ 18446744073709551615) : 0 ≤ x / 2 ^ k ∧ x / 2 ^ k ≤ 18446744073709551615 :=
  ⟨Int.ediv_nonneg h0 (by have := pow_pos' k; omega), Int.le_trans (Int.ediv_le_self _ h0) h1⟩
theorem bit_lo (a : WV) (ha : a.ok) (k : Nat) (hk : k < 64) : wrap64 (bits .and .u64 (a.lo / 2 ^ k) 1) = a.val / 2 ^ k % 2 := by
  obtain ⟨b0, b1⟩ := div_bd a.lo k ha.l0 ha.l1
  rw [and_one _ b0 b1]
  have e := bit_shift a.lo a.hi k hk
  rw [show a.val = a.lo + 18446744073709551616 * a.hi by unfold WV.val; omega, e]
  unfold wrap64
  omega
theorem bit_hi (a : WV) (ha : a.ok) (k : Nat) (hk : k < 64) : wrap64 (bits .and .u64 (IntKind.u64.wrap a.hi / 2 ^ k) 1) = a.val / 2 ^ (64 + k) % 2 := by
  have hu : 0 ≤ IntKind.u64.wrap a.hi ∧ IntKind.u64.wrap a.hi ≤ 18446744073709551615 := Go.bounds_u64 (wf_wrap .u64 a.hi)
  obtain ⟨b0, b1⟩ := div_bd _ k hu.1 hu.2
  rw [and_one _ b0 b1]
  have e := bit_shift (IntKind.u64.wrap a.hi) (a.hi / 18446744073709551616) k hk
  have u1 : IntKind.u64.wrap a.hi = a.hi % 18446744073709551616 := rfl
  rw [u1, Int.emod_add_mul_ediv] at e
  have l0 := ha.l0
  have l1 := ha.l1
  rw [Int.pow_add, ← Int.ediv_ediv_of_nonneg (by decide), show a.val / 2 ^ 64 = a.hi by unfold WV.val; omega, u1, ← e]
  unfold wrap64
  omega

set_option maxHeartbeats 1000000 in
theorem rbits_any (w : World) (a : WV) (ha : a.ok) : Calls Try.prog 54 #[.agg a.cells] w fun e w' => ∃ v, e = .returned v ∧ IRow w' w.heap.size v (bitsL a.val 128) ∧ Chg [] w w' := by
  have hA := At.new w #[.int .i64 a.hi, .int .u64 a.lo] 43
  have hX := (Chg.refl [] w).alloc (.cells #[.int .i64 a.hi, .int .u64 a.lo] 43)
  have B1 := Lib.hid (bit_lo a ha)
  have B2 := Lib.hid (bit_hi a ha)
  rw [show a.cells = #[.int .i64 a.hi, .int .u64 a.lo] from rfl]
  go_enter Try.func54, Try.ntmps54
  go_wp2_with fail
  generalize hz : w.heap.size = z at *
  have hzb : z + 1 ≤ (w.alloc (.cells #[.int .i64 a.hi, .int .u64 a.lo] 43)).heap.size := by simp [hz]
  generalize w.alloc (.cells #[.int .i64 a.hi, .int .u64 a.lo] 43) = w0 at *
  go_loopg [3, 4] 64 (fun g v i wr => ∃ k : Nat, g + k = 64 ∧ i = .int .i64 k ∧ IRow wr (z + 1) v (bitsL a.val k) ∧ At wr z #[.int .i64 a.hi, .int .u64 a.lo] ∧ Chg [] w wr ∧ z + 1 ≤ wr.heap.size)
  case atStart => exact ⟨0, by omega, rfl, IRow.nil _ _, hA, hX, hzb⟩
  case round =>
    obtain ⟨k, hg, rfl, hR, hA', hX', hzr⟩ := hrel
    have c0 := hA'.cell 0
    have c1 := hA'.cell 1
    by_cases hk : k < 64
    · have hb := B1.out k hk
      have hl := bitsL_len a.val k
      have Hs := Lib.hid (bitsL_succ a.val k)
      generalize bitsL a.val k = L at *
      generalize a.val / 2 ^ k % 2 = b at *
      obtain ⟨L', hL'⟩ : ∃ L', bitsL a.val (k + 1) = L' := ⟨_, rfl⟩
      rw [hL'] at Hs
      have HL' := Lib.hid hL'
      clear hL'
      go_wp2_with (at_builtin; refine wpList_appI rfl (.tmp 10) (.tmp 17) rfl rfl (hR.alloc _) rfl (At.new _ _ _) (M := [b]) rfl rfl (by rw [hl]; omega) (by simp; omega) ?_; intro v' w' h1 h2; have hX1 := IRow.grown (hR.alloc _) (hX'.alloc _) h2 (by omega); have hA1 := IRow.far (hR.alloc _) h2 (hA'.alloc _) (by omega); rw [← Hs.out] at h1)
      clear c0 c1
      have hsz := hA1.lt
      go_roundg (gk - 1)
      case rel => exact ⟨k + 1, by omega, by go_num, by rw [HL'.out]; exact h1, hA1, hX1, by omega⟩
      case measure => omega
    · obtain rfl : k = 64 := by omega
      go_wp2_with fail
      clear c0 c1
      go_loopg [3, 5] 64 (fun g v i wr => ∃ k : Nat, g + k = 64 ∧ i = .int .i64 k ∧ IRow wr (z + 1) v (bitsL a.val (64 + k)) ∧ At wr z #[.int .i64 a.hi, .int .u64 a.lo] ∧ Chg [] w wr ∧ z + 1 ≤ wr.heap.size)
      case atStart => exact ⟨0, by omega, rfl, hR, hA', hX', hzr⟩
      case round =>
        clear hR hA' hX' hzr
        obtain ⟨k, hg, rfl, hR, hA', hX', hzr⟩ := hrel
        have c0 := hA'.cell 0
        have c1 := hA'.cell 1
        by_cases hk : k < 64
        · have hb := B2.out k hk
          have hl := bitsL_len a.val (64 + k)
          have Hs := Lib.hid (bitsL_succ a.val (64 + k))
          generalize bitsL a.val (64 + k) = L at *
          generalize a.val / 2 ^ (64 + k) % 2 = b at *
          rw [Nat.add_assoc] at Hs
          obtain ⟨L', hL'⟩ : ∃ L', bitsL a.val (64 + (k + 1)) = L' := ⟨_, rfl⟩
          rw [hL'] at Hs
          have HL' := Lib.hid hL'
          clear hL'
          go_wp2_with (at_builtin; refine wpList_appI rfl (.tmp 23) (.tmp 31) rfl rfl (hR.alloc _) rfl (At.new _ _ _) (M := [b]) rfl rfl (by rw [hl]; omega) (by simp; omega) ?_; intro v' w' h1 h2; have hX1 := IRow.grown (hR.alloc _) (hX'.alloc _) h2 (by omega); have hA1 := IRow.far (hR.alloc _) h2 (hA'.alloc _) (by omega); rw [← Hs.out] at h1)
          clear c0 c1
          have hsz := hA1.lt
          go_roundg (gk - 1)
          case rel => exact ⟨k + 1, by omega, by go_num, by rw [HL'.out]; exact h1, hA1, hX1, by omega⟩
          case measure => omega
        · obtain rfl : k = 64 := by omega
          go_wp2_with fail
          go_returns
          exact ⟨_, rfl, hR.weaken (by omega), hX'⟩
end Go.Proofs.Ythdjanjlpgcmoaa
