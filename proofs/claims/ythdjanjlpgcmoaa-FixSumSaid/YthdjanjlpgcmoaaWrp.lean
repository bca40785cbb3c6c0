/- The reference of wide: plus, Flip. -/
import Derived.Test.YthdjanjlpgcmoaaWrv
import Derived.Deep.LoopGhost
import Derived.Deep.RegionWith
import Derived.Deep.QuietTactic
import Derived.BigQuiet
namespace Go.Proofs.Ythdjanjlpgcmoaa
open Go.RowKit

/-- A number modulo 2^128. -/
def wV (v : Int) : WV := ⟨wrap64 (v / 18446744073709551616), v % 18446744073709551616⟩
theorem wV_ok (v : Int) : (wV v).ok := by
  unfold wV wrap64
  exact ⟨by simp only; omega, by simp only; omega, by simp only; omega, by simp only; omega⟩
theorem wV_fits (v : Int) (h : fitsV v = true) : wV v = ofV v := by
  have := (fitsV_iff v).1 h
  unfold wV ofV wrap64
  congr 1
  omega
theorem wV_val (v : Int) : ∃ q, (wV v).val = v + 340282366920938463463374607431768211456 * q := by
  unfold wV wrap64 WV.val
  simp only
  exact ⟨((v / 18446744073709551616 + 9223372036854775808) % 18446744073709551616 - 9223372036854775808 - v / 18446744073709551616) / 18446744073709551616, by omega⟩
theorem wV_mod (v q : Int) : wV (v + 340282366920938463463374607431768211456 * q) = wV v := by
  unfold wV wrap64
  congr 1 <;> omega
theorem valL_bits (v : Int) : valL (bitsL v 128) = wV v := by
  unfold valL wV
  rw [pnA_bits v 128 64 64 (by omega), pnA_bits v 128 0 64 (by omega)]
  have e : (2 : Int) ^ 64 = 18446744073709551616 := rfl
  rw [e]
  unfold wrap64
  congr 1
  · omega
  · simp
/-- The carry ahead of digit k. -/
def carryN (x y : Int) (k : Nat) : Int := (x % 2 ^ k + y % 2 ^ k) / 2 ^ k
theorem add_digit (x y : Int) (k : Nat) : (x / 2 ^ k % 2 + y / 2 ^ k % 2 + carryN x y k) % 2 = (x + y) / 2 ^ k % 2 := by
  have hp := pow_pos' k
  have e : (x + y) / 2 ^ k = x / 2 ^ k + y / 2 ^ k + carryN x y k := by
    have e1 := Int.emod_add_mul_ediv x (2 ^ k)
    have e2 := Int.emod_add_mul_ediv y (2 ^ k)
    unfold carryN
    have e3 : x + y = (x % 2 ^ k + y % 2 ^ k) + 2 ^ k * (x / 2 ^ k + y / 2 ^ k) := by rw [Int.mul_add]; omega
    rw [e3, Int.add_mul_ediv_left _ _ (by omega)]
    omega
  rw [e]
  omega
theorem add_carry (x y : Int) (k : Nat) : (x / 2 ^ k % 2 + y / 2 ^ k % 2 + carryN x y k) / 2 = carryN x y (k + 1) := by
  have hp := pow_pos' k
  unfold carryN
  rw [mod_pow_succ, mod_pow_succ, show (2 : Int) ^ (k + 1) = 2 ^ k * 2 from Int.pow_succ _ _, ← Int.ediv_ediv_of_nonneg (by omega)]
  rw [show x % 2 ^ k + x / 2 ^ k % 2 * 2 ^ k + (y % 2 ^ k + y / 2 ^ k % 2 * 2 ^ k) = x % 2 ^ k + y % 2 ^ k + 2 ^ k * (x / 2 ^ k % 2 + y / 2 ^ k % 2) by rw [Int.mul_comm _ (2 ^ k), Int.mul_comm (y / 2 ^ k % 2) (2 ^ k), Int.mul_add]; omega,
    Int.add_mul_ediv_left _ _ (by omega)]
  omega
theorem carry_bd (x y : Int) (k : Nat) : 0 ≤ carryN x y k ∧ carryN x y k ≤ 1 := by
  have hp := pow_pos' k
  have a0 := Int.emod_nonneg x (show (2 : Int) ^ k ≠ 0 by omega)
  have a1 := Int.emod_lt_of_pos x hp
  have b0 := Int.emod_nonneg y (show (2 : Int) ^ k ≠ 0 by omega)
  have b1 := Int.emod_lt_of_pos y hp
  unfold carryN
  refine ⟨Int.ediv_nonneg (by omega) (by omega), ?_⟩
  have : (x % 2 ^ k + y % 2 ^ k) / 2 ^ k < 2 := Int.ediv_lt_of_lt_mul hp (by omega)
  omega
theorem bit_at (v : Int) (n k : Nat) (hk : k < n) : (bitsL v n)[k]? = some (v / 2 ^ k % 2) := by
  unfold bitsL
  rw [List.getElem?_map, List.getElem?_range hk]
  rfl

theorem Chg.undr {S : List Nat} {w w' : World} (h : Chg S w.drew w') : Chg S w w' := ⟨h.os, h.tape, h.output, h.size, h.block⟩
set_option maxRecDepth 100000 in
set_option maxHeartbeats 1000000 in
theorem rplus_any (w : World) (a b : WV) (ha : a.ok) (hb : b.ok) : Calls Try.prog 52 #[.agg a.cells, .agg b.cells] w fun e w' => e = .returned (.agg (wV (a.val + b.val)).cells) ∧ Chg [] w w' := by
  have HA := fun w => rbits_any w a ha
  have HB := fun w => rbits_any w b hb
  have A0 := ((At.new w #[.int .i64 a.hi, .int .u64 a.lo] 43).alloc (.cells #[.int .i64 b.hi, .int .u64 b.lo] 43)).alloc (.cells #[.int .i64 0, .int .u64 0] 43)
  have A1 := (At.new (w.alloc (.cells #[.int .i64 a.hi, .int .u64 a.lo] 43)) #[.int .i64 b.hi, .int .u64 b.lo] 43).alloc (.cells #[.int .i64 0, .int .u64 0] 43)
  have A2 := At.new ((w.alloc (.cells #[.int .i64 a.hi, .int .u64 a.lo] 43)).alloc (.cells #[.int .i64 b.hi, .int .u64 b.lo] 43)) #[.int .i64 0, .int .u64 0] 43
  rw [show (w.alloc (.cells #[.int .i64 a.hi, .int .u64 a.lo] 43)).heap.size = w.heap.size + 1 by simp] at A1
  rw [show ((w.alloc (.cells #[.int .i64 a.hi, .int .u64 a.lo] 43)).alloc (.cells #[.int .i64 b.hi, .int .u64 b.lo] 43)).heap.size = w.heap.size + 1 + 1 by simp] at A2
  have hX := (((Chg.refl [] w).alloc (.cells #[.int .i64 a.hi, .int .u64 a.lo] 43)).alloc (.cells #[.int .i64 b.hi, .int .u64 b.lo] 43)).alloc (.cells #[.int .i64 0, .int .u64 0] 43)
  have hsz : (((w.alloc (.cells #[.int .i64 a.hi, .int .u64 a.lo] 43)).alloc (.cells #[.int .i64 b.hi, .int .u64 b.lo] 43)).alloc (.cells #[.int .i64 0, .int .u64 0] 43)).heap.size = w.heap.size + 3 := by simp
  rw [show a.cells = #[.int .i64 a.hi, .int .u64 a.lo] from rfl, show b.cells = #[.int .i64 b.hi, .int .u64 b.lo] from rfl] at *
  go_enter Try.func52, Try.ntmps52
  go_wp2_with fail
  generalize hz : w.heap.size = z at *
  generalize (((w.alloc (.cells #[.int .i64 a.hi, .int .u64 a.lo] 43)).alloc (.cells #[.int .i64 b.hi, .int .u64 b.lo] 43)).alloc (.cells #[.int .i64 0, .int .u64 0] 43)) = w0 at *
  go_cut [5, 6] (fun x y wx => IRow wx (z + 3) x (bitsL a.val 128) ∧ IRow wx (z + 3) y (bitsL b.val 128) ∧ At wx (z + 1 + 1) #[.int .i64 0, .int .u64 0] ∧ Chg [] w wx)
  case first =>
    have c0 := A0.cell 0
    have c1 := A0.cell 1
    have c2 := A1.cell 0
    have c3 := A1.cell 1
    go_region_with (go_at_call 54; first
      | ((with_reducible refine (HA _).mono ?_); rintro e w1 ⟨v1, rfl, hR1, hX1⟩; have g2 := (hX1.at A1.drew (by simp)).cell 0; have g3 := (hX1.at A1.drew (by simp)).cell 1)
      | ((with_reducible refine (HB _).mono ?_); rintro e w2 ⟨v2, rfl, hR2, hX2⟩))
    all_goals
      have hs1 : z + 3 ≤ w0.drew.heap.size := by show z + 3 ≤ w0.heap.size; omega
      have hs2 := hX1.size
      have hRa := (hR1.keep hX2 (by simp)).weaken hs1
      have hRb := hR2.weaken (Nat.le_trans hs1 hs2)
      have hAa := hX2.at (hX1.at A2.drew (by simp)) (by simp)
      have hXa := hX.trans ((Chg.undr hX1).trans hX2)
      clear c0 c1 c2 c3 g2 g3
      go_wp2_with fail
      go_meet
      exact ⟨hRa, hRb, hAa, hXa⟩
  case rest =>
    obtain ⟨hRa, hRb, hA, hXa⟩ := hcut
    have hla := bitsL_len a.val 128
    have hlb := bitsL_len b.val 128
    have Da := Lib.hid (bit_at a.val 128)
    have Db := Lib.hid (bit_at b.val 128)
    obtain ⟨ga, capa, rfl⟩ := hRa.form (by omega)
    obtain ⟨gb, capb, rfl⟩ := hRb.form (by omega)
    rw [hla] at hRa ⊢
    rw [hlb] at hRb ⊢
    generalize bitsL a.val 128 = La at *
    generalize bitsL b.val 128 = Lb at *
    clear A0 A1 A2 HA HB hX hsz ha hb
    go_wp2_with fail
    have hzc : z + 1 + 1 < wc.heap.size := hA.lt
    generalize hzz : wc.heap.size = zc at *
    go_loopg [7, 8, 9] 128 (fun g v c i wr => ∃ k : Nat, g + k = 128 ∧ i = .int .i64 k ∧ c = .int .i64 (carryN a.val b.val k) ∧ IRow wr zc v (bitsL (a.val + b.val) k) ∧ Chg [] wc wr ∧ zc ≤ wr.heap.size)
    case atStart => exact ⟨0, by omega, rfl, by simp [carryN], IRow.nil _ _, Chg.refl _ _, by omega⟩
    case round =>
      obtain ⟨k, hg, rfl, rfl, hR, hX, hzr⟩ := hrel
      by_cases hk : k < 128
      · have Ea := (hRa.keep hX (by simp)).cell hla k _ (Da.out k hk)
        have Eb := (hRb.keep hX (by simp)).cell hlb k _ (Db.out k hk)
        have S1 := add_digit a.val b.val k
        have S2 := Lib.hid (add_carry a.val b.val k)
        have hc := carry_bd a.val b.val k
        have hl := bitsL_len (a.val + b.val) k
        have Hs := Lib.hid (bitsL_succ (a.val + b.val) k)
        have h0 : 0 ≤ a.val / 2 ^ k % 2 ∧ a.val / 2 ^ k % 2 ≤ 1 := by omega
        have h1 : 0 ≤ b.val / 2 ^ k % 2 ∧ b.val / 2 ^ k % 2 ≤ 1 := by omega
        rw [← S1] at Hs
        clear S1
        generalize a.val / 2 ^ k % 2 = d0 at *
        generalize b.val / 2 ^ k % 2 = d1 at *
        generalize carryN a.val b.val k = c at *
        generalize bitsL (a.val + b.val) k = L at *
        obtain ⟨L', hL'⟩ : ∃ L', bitsL (a.val + b.val) (k + 1) = L' := ⟨_, rfl⟩
        rw [hL'] at Hs
        have HL' := Lib.hid hL'
        clear hL'
        obtain ⟨c', hc'⟩ : ∃ c', carryN a.val b.val (k + 1) = c' := ⟨_, rfl⟩
        rw [hc'] at S2
        have HC' := Lib.hid hc'
        clear hc'
        have k1 : IntKind.i64.wrap (d0 + d1) = d0 + d1 := by rw [IntKind.wrap_i64]; omega
        have k2 : IntKind.i64.wrap (d0 + d1 + c) = d0 + d1 + c := by rw [IntKind.wrap_i64]; omega
        go_wp2_with fail
        go_quiet (fail)
        clear Ea Eb k1 k2
        replace hR := hR.drewN nq
        replace hX := hX.drewN nq
        have hs0 : 0 ≤ d0 + d1 + c ∧ d0 + d1 + c ≤ 3 := by omega
        generalize d0 + d1 + c = s at *
        have hzr' : zc ≤ (wr.drewN nq).heap.size := hzr
        generalize wr.drewN nq = wq at *
        clear hzr
        go_wp2_with (at_builtin; refine wpList_appI rfl (.tmp 30) (.tmp 33) rfl rfl (hR.alloc _) rfl (At.new _ _ _) (M := [s % 2]) rfl rfl (by rw [hl]; simp; omega) (by simp; omega) ?_; intro v' w' h1 h2; have hX1 := IRow.grown (hR.alloc _) (hX.alloc _) h2 (by omega); rw [← Hs.out] at h1)
        have hsz := h2.size
        go_roundg (gk - 1)
        case rel => exact ⟨k + 1, by omega, by go_num, by rw [HC'.out, ← S2.out], by rw [HL'.out]; exact h1, hX1, by simp at hsz; omega⟩
        case measure => omega
      · obtain rfl : k = 128 := by omega
        have HV := fun w' h => rvalue_any w' zc u7 _ h (bitsL_len (a.val + b.val) 128) (bits01 _ _)
        rw [valL_bits] at HV
        go_wp2_with fail
        refine (HV _ hR).mono ?_; rintro e w2 ⟨rfl, hX2⟩
        have hA2 := hX2.at (hX.at hA (by simp)) (by simp)
        have hX3 := (hXa.trans hX).trans hX2
        have Hr := Lib.hid (show (wV (a.val + b.val)).cells = #[.int .i64 (wV (a.val + b.val)).hi, .int .u64 (wV (a.val + b.val)).lo] from rfl)
        rw [Hr.out]
        generalize (wV (a.val + b.val)).hi = rh at *
        generalize (wV (a.val + b.val)).lo = rl at *
        have c0 := hA2.cell 0
        have c1 := hA2.cell 1
        have f0 := hA2.frozen 0
        have f1 := hA2.frozen 1
        go_wp2_with fail
        have hA3 := (hA2.set 0 (.int .i64 rh) (cs' := #[.int .i64 rh, .int .u64 0]) rfl).set 1 (.int .u64 rl) (cs' := #[.int .i64 rh, .int .u64 rl]) rfl
        have hX4 := (hX3.setCell (p := ⟨z + 1 + 1, 0, none⟩) (Or.inr (by simp; omega)) (.int .i64 rh)).setCell (p := ⟨z + 1 + 1, 1, none⟩) (Or.inr (by simp; omega)) (.int .u64 rl)
        clear c0 c1 f0 f1
        have c0 := hA3.cell 0
        have c1 := hA3.cell 1
        exact bodyPost_ret (v := .agg #[.int .i64 rh, .int .u64 rl]) (by simp [results, Try.results52, go_sem, c0, c1]) rfl ⟨by rw [Hr.out], hX4⟩
end Go.Proofs.Ythdjanjlpgcmoaa
