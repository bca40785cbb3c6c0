/- Wrb, Wrv, Wrp, Inv, Wra, Wrc, Wtl, Cl0. -/
import Derived.Test.YtpfglmlpodjneaaGreatZ00
import Derived.Test.YtpfglmlpodjneaaGreatZ02
import Derived.Deep.LoopGhost
import Derived.StillTailTactics
import Derived.Deep.RegionWith
import Derived.Deep.QuietTactic
import Derived.BigQuiet
import Derived.Deep.DeepCutAuto
set_option linter.unusedSimpArgs false
set_option linter.unusedVariables false
namespace Go.Proofs.YtpfglmlpodjneaaGreat
open Go.RowKit

def bitsL (v : Int) (n : Nat) : List Int := (List.range n).map (fun i => v / 2 ^ i % 2)
theorem bitsL_succ (v : Int) (n : Nat) : bitsL v (n + 1) = bitsL v n ++ [v / 2 ^ n % 2] := by
  unfold bitsL
  rw [List.range_succ, List.map_append]
  rfl
theorem bitsL_len (v : Int) (n : Nat) : (bitsL v n).length = n := by simp [bitsL]
theorem IRow.weaken {w : World} {base base' : Nat} {v : Value} {L : List Int} (h : IRow w base v L) (hb : base' ≤ base) : IRow w base' v L := by
  refine ⟨h.1, ?_⟩
  rcases h.2 with hn | ⟨g, cap, cur, rfl, hb1, rest⟩
  · exact .inl hn
  · exact .inr ⟨g, cap, cur, rfl, by omega, rest⟩

theorem and_one (x : Int) (h0 : 0 ≤ x) (h1 : x ≤ 18446744073709551615) : bits .and .u64 x 1 = x % 2 := by
  obtain ⟨m, rfl⟩ : ∃ m : Nat, x = (m : Int) := ⟨x.toNat, by omega⟩
  have e1 : (BitVec.ofInt 64 (m : Int)).toNat = m := by
    rw [BitVec.ofInt_natCast, BitVec.toNat_ofNat]; exact Nat.mod_eq_of_lt (by omega)
  show IntKind.u64.wrap ((BitVec.ofInt 64 (m : Int) &&& BitVec.ofInt 64 1).toNat : Int) = _
  rw [BitVec.toNat_and, e1, show (BitVec.ofInt 64 1).toNat = 2 ^ 1 - 1 from rfl, Nat.and_two_pow_sub_one_eq_mod]
  simp [IntKind.wrap, IntKind.bits, IntKind.signed]
  omega
theorem pow_split (k : Nat) (hk : k < 64) : (18446744073709551616 : Int) = 2 ^ k * (2 * 2 ^ (63 - k)) := by
  have e : (2 : Int) ^ k * (2 * 2 ^ (63 - k)) = 2 ^ (k + (1 + (63 - k))) := by
    rw [Int.pow_add, Int.pow_add]
    rfl
  rw [e, show k + (1 + (63 - k)) = 64 by omega]
  rfl
theorem pow_pos' (k : Nat) : (0 : Int) < 2 ^ k := Int.pow_pos (by omega)
theorem bit_shift (x q : Int) (k : Nat) (hk : k < 64) : (x + 18446744073709551616 * q) / 2 ^ k % 2 = x / 2 ^ k % 2 := by
  have hp := pow_pos' k
  have e := pow_split k hk
  rw [e, Int.mul_assoc, Int.add_mul_ediv_left _ _ (by omega), Int.mul_assoc]
  generalize 2 ^ (63 - k) * q = r
  omega
theorem div_bd (x : Int) (k : Nat) (h0 : 0 ≤ x) (h1 : x ≤ 18446744073709551615) : 0 ≤ x / 2 ^ k ∧ x / 2 ^ k ≤ 18446744073709551615 :=
  ⟨Int.ediv_nonneg h0 (by have := pow_pos' k; omega), Int.le_trans (Int.ediv_le_self _ h0) h1⟩
theorem bit_lo (a : WV) (ha : a.ok) (k : Nat) (hk : k < 64) : wrap64 (bits .and .u64 (a.lo / 2 ^ k) 1) = a.val / 2 ^ k % 2 := by
  obtain ⟨b0, b1⟩ := div_bd a.lo k ha.l0 ha.l1
  rw [and_one _ b0 b1]
  have e := bit_shift a.lo a.hi k hk
  rw [show a.val = a.lo + 18446744073709551616 * a.hi by unfold WV.val; omega, e]
  unfold wrap64
  omega
theorem bit_hi (a : WV) (ha : a.ok) (k : Nat) (hk : k < 64) : wrap64 (bits .and .u64 (IntKind.u64.wrap a.hi / 2 ^ k) 1) = a.val / 2 ^ (64 + k) % 2 := by
  have hu : 0 ≤ IntKind.u64.wrap a.hi ∧ IntKind.u64.wrap a.hi ≤ 18446744073709551615 := Go.bounds_u64 (wf_wrap .u64 a.hi)
  obtain ⟨b0, b1⟩ := div_bd _ k hu.1 hu.2
  rw [and_one _ b0 b1]
  have e := bit_shift (IntKind.u64.wrap a.hi) (a.hi / 18446744073709551616) k hk
  have u1 : IntKind.u64.wrap a.hi = a.hi % 18446744073709551616 := rfl
  rw [u1, Int.emod_add_mul_ediv] at e
  have l0 := ha.l0
  have l1 := ha.l1
  rw [Int.pow_add, ← Int.ediv_ediv_of_nonneg (by decide), show a.val / 2 ^ 64 = a.hi by unfold WV.val; omega, u1, ← e]
  unfold wrap64
  omega

set_option maxHeartbeats 1000000 in
theorem rbits_any (w : World) (a : WV) (ha : a.ok) : Calls Tryz.prog 133 #[.agg a.cells] w fun e w' => ∃ v, e = .returned v ∧ IRow w' w.heap.size v (bitsL a.val 128) ∧ Chg [] w w' := by
  have hA := At.new w #[.int .i64 a.hi, .int .u64 a.lo] 147
  have hX := (Chg.refl [] w).alloc (.cells #[.int .i64 a.hi, .int .u64 a.lo] 147)
  have B1 := Lib.hid (bit_lo a ha)
  have B2 := Lib.hid (bit_hi a ha)
  rw [show a.cells = #[.int .i64 a.hi, .int .u64 a.lo] from rfl]
  go_enter Tryz.func133, Tryz.ntmps133
  go_wp2_with fail
  generalize hz : w.heap.size = z at *
  have hzb : z + 1 ≤ (w.alloc (.cells #[.int .i64 a.hi, .int .u64 a.lo] 147)).heap.size := by simp [hz]
  generalize w.alloc (.cells #[.int .i64 a.hi, .int .u64 a.lo] 147) = w0 at *
  go_loopg [3, 4] 64 (fun g v i wr => ∃ k : Nat, g + k = 64 ∧ i = .int .i64 k ∧ IRow wr (z + 1) v (bitsL a.val k) ∧ At wr z #[.int .i64 a.hi, .int .u64 a.lo] ∧ Chg [] w wr ∧ z + 1 ≤ wr.heap.size)
  case atStart => exact ⟨0, by omega, rfl, IRow.nil _ _, hA, hX, hzb⟩
  case round =>
    obtain ⟨k, hg, rfl, hR, hA', hX', hzr⟩ := hrel
    have c0 := hA'.cell 0
    have c1 := hA'.cell 1
    by_cases hk : k < 64
    · have hb := B1.out k hk
      have hl := bitsL_len a.val k
      have Hs := Lib.hid (bitsL_succ a.val k)
      generalize bitsL a.val k = L at *
      generalize a.val / 2 ^ k % 2 = b at *
      obtain ⟨L', hL'⟩ : ∃ L', bitsL a.val (k + 1) = L' := ⟨_, rfl⟩
      rw [hL'] at Hs
      have HL' := Lib.hid hL'
      clear hL'
      go_wp2_with (at_builtin; refine wpList_appI rfl (.tmp 10) (.tmp 17) rfl rfl (hR.alloc _) rfl (At.new _ _ _) (M := [b]) rfl rfl (by rw [hl]; omega) (by simp; omega) ?_; intro v' w' h1 h2; have hX1 := IRow.grown (hR.alloc _) (hX'.alloc _) h2 (by omega); have hA1 := IRow.far (hR.alloc _) h2 (hA'.alloc _) (by omega); rw [← Hs.out] at h1)
      clear c0 c1
      have hsz := hA1.lt
      go_roundg (gk - 1)
      case rel => exact ⟨k + 1, by omega, by go_num, by rw [HL'.out]; exact h1, hA1, hX1, by omega⟩
      case measure => omega
    · obtain rfl : k = 64 := by omega
      go_wp2_with fail
      clear c0 c1
      go_loopg [3, 5] 64 (fun g v i wr => ∃ k : Nat, g + k = 64 ∧ i = .int .i64 k ∧ IRow wr (z + 1) v (bitsL a.val (64 + k)) ∧ At wr z #[.int .i64 a.hi, .int .u64 a.lo] ∧ Chg [] w wr ∧ z + 1 ≤ wr.heap.size)
      case atStart => exact ⟨0, by omega, rfl, hR, hA', hX', hzr⟩
      case round =>
        clear hR hA' hX' hzr
        obtain ⟨k, hg, rfl, hR, hA', hX', hzr⟩ := hrel
        have c0 := hA'.cell 0
        have c1 := hA'.cell 1
        by_cases hk : k < 64
        · have hb := B2.out k hk
          have hl := bitsL_len a.val (64 + k)
          have Hs := Lib.hid (bitsL_succ a.val (64 + k))
          generalize bitsL a.val (64 + k) = L at *
          generalize a.val / 2 ^ (64 + k) % 2 = b at *
          rw [Nat.add_assoc] at Hs
          obtain ⟨L', hL'⟩ : ∃ L', bitsL a.val (64 + (k + 1)) = L' := ⟨_, rfl⟩
          rw [hL'] at Hs
          have HL' := Lib.hid hL'
          clear hL'
          go_wp2_with (at_builtin; refine wpList_appI rfl (.tmp 23) (.tmp 31) rfl rfl (hR.alloc _) rfl (At.new _ _ _) (M := [b]) rfl rfl (by rw [hl]; omega) (by simp; omega) ?_; intro v' w' h1 h2; have hX1 := IRow.grown (hR.alloc _) (hX'.alloc _) h2 (by omega); have hA1 := IRow.far (hR.alloc _) h2 (hA'.alloc _) (by omega); rw [← Hs.out] at h1)
          clear c0 c1
          have hsz := hA1.lt
          go_roundg (gk - 1)
          case rel => exact ⟨k + 1, by omega, by go_num, by rw [HL'.out]; exact h1, hA1, hX1, by omega⟩
          case measure => omega
        · obtain rfl : k = 64 := by omega
          go_wp2_with fail
          go_returns
          exact ⟨_, rfl, hR.weaken (by omega), hX'⟩
end Go.Proofs.YtpfglmlpodjneaaGreat
namespace Go.Proofs.YtpfglmlpodjneaaGreat
open Go.RowKit

/-- The number of the digits o .. o+k-1. -/
def pnA (L : List Int) (o : Nat) : Nat → Int
  | 0 => 0
  | k + 1 => pnA L o k + L.getD (o + k) 0 * 2 ^ k
theorem pow_succ' (k : Nat) : (2 : Int) ^ (k + 1) = 2 * 2 ^ k := by rw [Int.pow_succ, Int.mul_comm]
theorem pnA_bd (L : List Int) (o : Nat) (h : ∀ j, L.getD j 0 = 0 ∨ L.getD j 0 = 1) : ∀ k, 0 ≤ pnA L o k ∧ pnA L o k < 2 ^ k := by
  intro k
  induction k with
  | zero => exact ⟨Int.le_refl _, by simp [pnA]⟩
  | succ k ih =>
    rw [pow_succ']
    unfold pnA
    have hp := pow_pos' k
    rcases h (o + k) with e | e <;> rw [e] <;> omega
theorem mod_pow_succ (x : Int) (k : Nat) : x % 2 ^ (k + 1) = x % 2 ^ k + x / 2 ^ k % 2 * 2 ^ k := by
  have hp := pow_pos' k
  have e1 := Int.emod_add_mul_ediv x (2 ^ (k + 1))
  have e2 := Int.emod_add_mul_ediv x (2 ^ k)
  have e3 := Int.emod_add_mul_ediv (x / 2 ^ k) 2
  have e4 : x / 2 ^ k / 2 = x / 2 ^ (k + 1) := by rw [Int.ediv_ediv_of_nonneg (by omega), Int.pow_succ]
  rw [e4] at e3
  have e5 : (2 : Int) ^ k * (x / 2 ^ k % 2 + 2 * (x / 2 ^ (k + 1))) = x / 2 ^ k % 2 * 2 ^ k + 2 ^ (k + 1) * (x / 2 ^ (k + 1)) := by
    rw [Int.mul_add, pow_succ', Int.mul_comm (2 ^ k) (x / 2 ^ k % 2), ← Int.mul_assoc, Int.mul_comm (2 ^ k) 2]
  rw [e3] at e5
  omega
theorem pnA_bits (v : Int) (n o : Nat) : ∀ k, o + k ≤ n → pnA (bitsL v n) o k = v / 2 ^ o % 2 ^ k := by
  intro k
  induction k with
  | zero => intro _; unfold pnA; simp
  | succ k ih =>
    intro hk
    unfold pnA
    rw [ih (by omega), mod_pow_succ]
    congr 2
    unfold bitsL
    rw [List.getD_eq_getElem?_getD, List.getElem?_map, List.getElem?_range (by omega)]
    simp only [Option.map_some, Option.getD_some]
    rw [Int.pow_add, Int.ediv_ediv_of_nonneg (by have := pow_pos' o; omega)]
theorem bits01 (v : Int) (n j : Nat) : (bitsL v n).getD j 0 = 0 ∨ (bitsL v n).getD j 0 = 1 := by
  unfold bitsL
  rw [List.getD_eq_getElem?_getD, List.getElem?_map]
  by_cases hj : j < n
  · rw [List.getElem?_range hj]
    simp only [Option.map_some, Option.getD_some]
    omega
  · rw [List.getElem?_eq_none (by simp; omega)]
    left; rfl
theorem or_bit (x : Int) (k : Nat) (hk : k < 64) (h0 : 0 ≤ x) (h1 : x < 2 ^ k) : bits .or .u64 x (2 ^ k) = x + 2 ^ k := by
  obtain ⟨m, rfl⟩ : ∃ m : Nat, x = (m : Int) := ⟨x.toNat, by omega⟩
  have h2 : m < 2 ^ k := by
    have : ((2 ^ k : Nat) : Int) = 2 ^ k := by simp
    omega
  have hlt : 2 ^ k ≤ 2 ^ 63 := Nat.pow_le_pow_right (by omega) (by omega)
  have e1 : ∀ n : Nat, n < 2 ^ 64 → (BitVec.ofInt 64 (n : Int)).toNat = n := fun n hn => by
    rw [BitVec.ofInt_natCast, BitVec.toNat_ofNat]; exact Nat.mod_eq_of_lt hn
  rw [show ((2 : Int) ^ k) = ((2 ^ k : Nat) : Int) by simp, or_u]
  unfold bv
  have h3 := Nat.two_pow_add_eq_or_of_lt h2 1
  rw [Nat.mul_one] at h3
  rw [BitVec.toNat_or, e1 _ (by omega), e1 _ (by omega), Nat.or_comm, ← h3]
  simp
  omega
def valL (L : List Int) : WV := ⟨wrap64 (pnA L 64 64), pnA L 0 64⟩

theorem shl_one (k : Nat) (hk : k < 64) : IntKind.u64.wrap (2 ^ k) = 2 ^ k := by
  have e := pow_split k hk
  have hp := pow_pos' k
  have hq := pow_pos' (63 - k)
  rw [IntKind.wrap_u64]
  refine Int.emod_eq_of_lt (by omega) ?_
  rw [e]
  have : (2 : Int) ^ k * 1 < 2 ^ k * (2 * 2 ^ (63 - k)) := Int.mul_lt_mul_of_pos_left (by omega) hp
  omega

set_option maxRecDepth 100000 in
set_option maxHeartbeats 1000000 in
theorem rvalue_any (w : World) (base : Nat) (v : Value) (L : List Int) (h : IRow w base v L) (hl : L.length = 128) (h01 : ∀ j, L.getD j 0 = 0 ∨ L.getD j 0 = 1) :
    Calls Tryz.prog 134 #[v] w fun e w' => e = .returned (.agg (valL L).cells) ∧ Chg [] w w' := by
  obtain ⟨g, cap, rfl⟩ := h.form (by omega)
  rw [hl] at h ⊢
  have hgz := (World.ownsRow.lt h g rfl).2
  have H0 := (At.new w #[.int .i64 0, .int .u64 0] 147).alloc (.cells #[.int .i64 0, .int .u64 0] 147)
  have H1 := At.new (w.alloc (.cells #[.int .i64 0, .int .u64 0] 147)) #[.int .i64 0, .int .u64 0] 147
  rw [show (w.alloc (.cells #[.int .i64 0, .int .u64 0] 147)).heap.size = w.heap.size + 1 by simp] at H1
  have hX := ((Chg.refl [] w).alloc (.cells #[.int .i64 0, .int .u64 0] 147)).alloc (.cells #[.int .i64 0, .int .u64 0] 147)
  go_enter Tryz.func134, Tryz.ntmps134
  go_wp2_with fail
  generalize hz : w.heap.size = z at *
  generalize (w.alloc (.cells #[.int .i64 0, .int .u64 0] 147)).alloc (.cells #[.int .i64 0, .int .u64 0] 147) = w0 at *
  go_loopg [4, 5] 64 (fun gg hi i wr => ∃ k : Nat, gg + k = 64 ∧ i = .int .i64 k ∧ hi = .int .u64 (pnA L 64 k) ∧ At wr z #[.int .i64 0, .int .u64 0] ∧ At wr (z + 1) #[.int .i64 0, .int .u64 (pnA L 0 k)] ∧ Chg [] w wr)
  case atStart => exact ⟨0, by omega, rfl, rfl, H0, H1, hX⟩
  case round =>
    clear H0 H1 hX
    obtain ⟨k, hg, rfl, rfl, H0, H1, hX⟩ := hrel
    have c0 := H1.cell 0
    have c1 := H1.cell 1
    have f0 := H1.frozen 0
    have f1 := H1.frozen 1
    have hR := h.keep hX (by simp)
    by_cases hk : k < 64
    · have E0 : L[k]? = some (L.getD k 0) := by rw [List.getD_eq_getElem?_getD, List.getElem?_eq_getElem (by omega)]; rfl
      have E1 : L[64 + k]? = some (L.getD (64 + k) 0) := by rw [List.getD_eq_getElem?_getD, List.getElem?_eq_getElem (by omega)]; rfl
      have b0 := pnA_bd L 0 h01 k
      have b1 := pnA_bd L 64 h01 k
      have S0 := Lib.hid (show pnA L 0 (k + 1) = pnA L 0 k + L.getD k 0 * 2 ^ k by rw [pnA, Nat.zero_add])
      have S1 := Lib.hid (show pnA L 64 (k + 1) = pnA L 64 k + L.getD (64 + k) 0 * 2 ^ k from rfl)
      have o0 := or_bit _ k hk b0.1 b0.2
      have o1 := or_bit _ k hk b1.1 b1.2
      have s0 := shl_one k hk
      have hd0 := h01 k
      have hd1 := h01 (64 + k)
      generalize pnA L 0 k = lo at *
      generalize pnA L 64 k = hi at *
      generalize L.getD k 0 = d0 at *
      generalize L.getD (64 + k) 0 = d1 at *
      replace E0 := Lib.hid E0
      replace E1 := Lib.hid E1
      rcases hd0 with rfl | rfl <;> rcases hd1 with rfl | rfl
      · rw [Int.zero_mul, Int.add_zero] at S0
        rw [Int.zero_mul, Int.add_zero] at S1
        have e0 := hR.cell hl k _ E0.out
        have e1 := hR.cell hl (64 + k) _ E1.out
        go_wp2_with fail
        go_roundg (gk - 1)
        case rel => exact ⟨k + 1, by omega, by go_num, by rw [S1.out], H0, by rw [S0.out]; exact H1, hX⟩
        case measure => omega
      · rw [Int.zero_mul, Int.add_zero] at S0
        rw [Int.one_mul] at S1
        have e0 := hR.cell hl k _ E0.out
        have e1 := hR.cell hl (64 + k) _ E1.out
        go_wp2_with fail
        go_roundg (gk - 1)
        case rel => exact ⟨k + 1, by omega, by go_num, by rw [S1.out], H0, by rw [S0.out]; exact H1, hX⟩
        case measure => omega
      · rw [Int.one_mul] at S0
        rw [Int.zero_mul, Int.add_zero] at S1
        have e0 := hR.cell hl k _ E0.out
        have e1 := hR.cell hl (64 + k) _ E1.out
        go_wp2_with fail
        go_still_tail 6, (by kernel_rfl)
        change wpList _ _ _ _ _ wr.drew
        have H0d := (At.other H0 ⟨z + 1, 1, none⟩ (.int .u64 (lo + 2 ^ k)) (by simp)).drew
        have H1d := (H1.set 1 (.int .u64 (lo + 2 ^ k)) (cs' := #[.int .i64 0, .int .u64 (lo + 2 ^ k)]) rfl).drew
        have hXd := (hX.setCell (p := ⟨z + 1, 1, none⟩) (Or.inr (by simp; omega)) (.int .u64 (lo + 2 ^ k))).drew
        clear e0 e1 c0 c1 f0 f1
        have c1 := H1.drew.cell 1
        have f1 := H1.drew.frozen 1
        have e1 := (h.keep hXd (by simp)).cell hl (64 + k) _ E1.out
        clear H0 H1 hX hR
        go_wp2_with fail
        go_roundg (gk - 1)
        case rel => exact ⟨k + 1, by omega, by go_num, by rw [S1.out], H0d, by rw [S0.out]; exact H1d, hXd⟩
        case measure => omega
      · rw [Int.one_mul] at S0
        rw [Int.one_mul] at S1
        have e0 := hR.cell hl k _ E0.out
        have e1 := hR.cell hl (64 + k) _ E1.out
        go_wp2_with fail
        go_still_tail 6, (by kernel_rfl)
        change wpList _ _ _ _ _ wr.drew
        have H0d := (At.other H0 ⟨z + 1, 1, none⟩ (.int .u64 (lo + 2 ^ k)) (by simp)).drew
        have H1d := (H1.set 1 (.int .u64 (lo + 2 ^ k)) (cs' := #[.int .i64 0, .int .u64 (lo + 2 ^ k)]) rfl).drew
        have hXd := (hX.setCell (p := ⟨z + 1, 1, none⟩) (Or.inr (by simp; omega)) (.int .u64 (lo + 2 ^ k))).drew
        clear e0 e1 c0 c1 f0 f1
        have c1 := H1.drew.cell 1
        have f1 := H1.drew.frozen 1
        have e1 := (h.keep hXd (by simp)).cell hl (64 + k) _ E1.out
        clear H0 H1 hX hR
        go_wp2_with fail
        go_roundg (gk - 1)
        case rel => exact ⟨k + 1, by omega, by go_num, by rw [S1.out], H0d, by rw [S0.out]; exact H1d, hXd⟩
        case measure => omega
    · obtain rfl : k = 64 := by omega
      have d0 := H0.cell 0
      have d1 := H0.cell 1
      have q0 := H0.frozen 0
      have q1 := H0.frozen 1
      have Hr := Lib.hid (show (valL L).cells = #[.int .i64 (wrap64 (pnA L 64 64)), .int .u64 (pnA L 0 64)] from rfl)
      generalize pnA L 64 64 = hi at *
      generalize pnA L 0 64 = lo at *
      clear h hR
      go_wp2_with fail
      have H1d := At.other (At.other (H1.set 0 (.int .i64 (wrap64 hi)) (cs' := #[.int .i64 (wrap64 hi), .int .u64 lo]) rfl) ⟨z, 0, none⟩ (.int .i64 (wrap64 hi)) (by simp)) ⟨z, 1, none⟩ (.int .u64 lo) (by simp)
      have H0d := ((At.other H0 ⟨z + 1, 0, none⟩ (.int .i64 (wrap64 hi)) (by simp)).set 0 (.int .i64 (wrap64 hi)) (cs' := #[.int .i64 (wrap64 hi), .int .u64 0]) rfl).set 1 (.int .u64 lo) (cs' := #[.int .i64 (wrap64 hi), .int .u64 lo]) rfl
      have hXd := ((hX.setCell (p := ⟨z + 1, 0, none⟩) (Or.inr (by simp; omega)) (.int .i64 (wrap64 hi))).setCell (p := ⟨z, 0, none⟩) (Or.inr (by simp; omega)) (.int .i64 (wrap64 hi))).setCell (p := ⟨z, 1, none⟩) (Or.inr (by simp; omega)) (.int .u64 lo)
      clear c0 c1 f0 f1 d0 d1 q0 q1
      have d0 := H0d.cell 0
      have d1 := H0d.cell 1
      exact bodyPost_ret (v := .agg #[.int .i64 (wrap64 hi), .int .u64 lo]) (by simp [results, Tryz.results134, go_sem, d0, d1]) rfl ⟨by rw [Hr.out], hXd⟩
end Go.Proofs.YtpfglmlpodjneaaGreat
namespace Go.Proofs.YtpfglmlpodjneaaGreat
open Go.RowKit

/-- A number modulo 2^128. -/
def wV (v : Int) : WV := ⟨wrap64 (v / 18446744073709551616), v % 18446744073709551616⟩
theorem wV_ok (v : Int) : (wV v).ok := by
  unfold wV wrap64
  exact ⟨by simp only; omega, by simp only; omega, by simp only; omega, by simp only; omega⟩
theorem wV_fits (v : Int) (h : fitsV v = true) : wV v = ofV v := by
  have := (fitsV_iff v).1 h
  unfold wV ofV wrap64
  congr 1
  omega
theorem wV_val (v : Int) : ∃ q, (wV v).val = v + 340282366920938463463374607431768211456 * q := by
  unfold wV wrap64 WV.val
  simp only
  exact ⟨((v / 18446744073709551616 + 9223372036854775808) % 18446744073709551616 - 9223372036854775808 - v / 18446744073709551616) / 18446744073709551616, by omega⟩
theorem wV_mod (v q : Int) : wV (v + 340282366920938463463374607431768211456 * q) = wV v := by
  unfold wV wrap64
  congr 1 <;> omega
theorem valL_bits (v : Int) : valL (bitsL v 128) = wV v := by
  unfold valL wV
  rw [pnA_bits v 128 64 64 (by omega), pnA_bits v 128 0 64 (by omega)]
  have e : (2 : Int) ^ 64 = 18446744073709551616 := rfl
  rw [e]
  unfold wrap64
  congr 1
  · omega
  · simp
/-- The carry ahead of digit k. -/
def carryN (x y : Int) (k : Nat) : Int := (x % 2 ^ k + y % 2 ^ k) / 2 ^ k
theorem add_digit (x y : Int) (k : Nat) : (x / 2 ^ k % 2 + y / 2 ^ k % 2 + carryN x y k) % 2 = (x + y) / 2 ^ k % 2 := by
  have hp := pow_pos' k
  have e : (x + y) / 2 ^ k = x / 2 ^ k + y / 2 ^ k + carryN x y k := by
    have e1 := Int.emod_add_mul_ediv x (2 ^ k)
    have e2 := Int.emod_add_mul_ediv y (2 ^ k)
    unfold carryN
    have e3 : x + y = (x % 2 ^ k + y % 2 ^ k) + 2 ^ k * (x / 2 ^ k + y / 2 ^ k) := by rw [Int.mul_add]; omega
    rw [e3, Int.add_mul_ediv_left _ _ (by omega)]
    omega
  rw [e]
  omega
theorem add_carry (x y : Int) (k : Nat) : (x / 2 ^ k % 2 + y / 2 ^ k % 2 + carryN x y k) / 2 = carryN x y (k + 1) := by
  have hp := pow_pos' k
  unfold carryN
  rw [mod_pow_succ, mod_pow_succ, show (2 : Int) ^ (k + 1) = 2 ^ k * 2 from Int.pow_succ _ _, ← Int.ediv_ediv_of_nonneg (by omega)]
  rw [show x % 2 ^ k + x / 2 ^ k % 2 * 2 ^ k + (y % 2 ^ k + y / 2 ^ k % 2 * 2 ^ k) = x % 2 ^ k + y % 2 ^ k + 2 ^ k * (x / 2 ^ k % 2 + y / 2 ^ k % 2) by rw [Int.mul_comm _ (2 ^ k), Int.mul_comm (y / 2 ^ k % 2) (2 ^ k), Int.mul_add]; omega,
    Int.add_mul_ediv_left _ _ (by omega)]
  omega
theorem carry_bd (x y : Int) (k : Nat) : 0 ≤ carryN x y k ∧ carryN x y k ≤ 1 := by
  have hp := pow_pos' k
  have a0 := Int.emod_nonneg x (show (2 : Int) ^ k ≠ 0 by omega)
  have a1 := Int.emod_lt_of_pos x hp
  have b0 := Int.emod_nonneg y (show (2 : Int) ^ k ≠ 0 by omega)
  have b1 := Int.emod_lt_of_pos y hp
  unfold carryN
  refine ⟨Int.ediv_nonneg (by omega) (by omega), ?_⟩
  have : (x % 2 ^ k + y % 2 ^ k) / 2 ^ k < 2 := Int.ediv_lt_of_lt_mul hp (by omega)
  omega
theorem bit_at (v : Int) (n k : Nat) (hk : k < n) : (bitsL v n)[k]? = some (v / 2 ^ k % 2) := by
  unfold bitsL
  rw [List.getElem?_map, List.getElem?_range hk]
  rfl

theorem Chg.undr {S : List Nat} {w w' : World} (h : Chg S w.drew w') : Chg S w w' := ⟨h.os, h.tape, h.output, h.size, h.block⟩
set_option maxRecDepth 100000 in
set_option maxHeartbeats 1000000 in
theorem rplus_any (w : World) (a b : WV) (ha : a.ok) (hb : b.ok) : Calls Tryz.prog 120 #[.agg a.cells, .agg b.cells] w fun e w' => e = .returned (.agg (wV (a.val + b.val)).cells) ∧ Chg [] w w' := by
  have HA := fun w => rbits_any w a ha
  have HB := fun w => rbits_any w b hb
  have A0 := ((At.new w #[.int .i64 a.hi, .int .u64 a.lo] 147).alloc (.cells #[.int .i64 b.hi, .int .u64 b.lo] 147)).alloc (.cells #[.int .i64 0, .int .u64 0] 147)
  have A1 := (At.new (w.alloc (.cells #[.int .i64 a.hi, .int .u64 a.lo] 147)) #[.int .i64 b.hi, .int .u64 b.lo] 147).alloc (.cells #[.int .i64 0, .int .u64 0] 147)
  have A2 := At.new ((w.alloc (.cells #[.int .i64 a.hi, .int .u64 a.lo] 147)).alloc (.cells #[.int .i64 b.hi, .int .u64 b.lo] 147)) #[.int .i64 0, .int .u64 0] 147
  rw [show (w.alloc (.cells #[.int .i64 a.hi, .int .u64 a.lo] 147)).heap.size = w.heap.size + 1 by simp] at A1
  rw [show ((w.alloc (.cells #[.int .i64 a.hi, .int .u64 a.lo] 147)).alloc (.cells #[.int .i64 b.hi, .int .u64 b.lo] 147)).heap.size = w.heap.size + 1 + 1 by simp] at A2
  have hX := (((Chg.refl [] w).alloc (.cells #[.int .i64 a.hi, .int .u64 a.lo] 147)).alloc (.cells #[.int .i64 b.hi, .int .u64 b.lo] 147)).alloc (.cells #[.int .i64 0, .int .u64 0] 147)
  have hsz : (((w.alloc (.cells #[.int .i64 a.hi, .int .u64 a.lo] 147)).alloc (.cells #[.int .i64 b.hi, .int .u64 b.lo] 147)).alloc (.cells #[.int .i64 0, .int .u64 0] 147)).heap.size = w.heap.size + 3 := by simp
  rw [show a.cells = #[.int .i64 a.hi, .int .u64 a.lo] from rfl, show b.cells = #[.int .i64 b.hi, .int .u64 b.lo] from rfl] at *
  go_enter Tryz.func120, Tryz.ntmps120
  go_wp2_with fail
  generalize hz : w.heap.size = z at *
  generalize (((w.alloc (.cells #[.int .i64 a.hi, .int .u64 a.lo] 147)).alloc (.cells #[.int .i64 b.hi, .int .u64 b.lo] 147)).alloc (.cells #[.int .i64 0, .int .u64 0] 147)) = w0 at *
  go_cut [5, 6] (fun x y wx => IRow wx (z + 3) x (bitsL a.val 128) ∧ IRow wx (z + 3) y (bitsL b.val 128) ∧ At wx (z + 1 + 1) #[.int .i64 0, .int .u64 0] ∧ Chg [] w wx)
  case first =>
    have c0 := A0.cell 0
    have c1 := A0.cell 1
    have c2 := A1.cell 0
    have c3 := A1.cell 1
    go_region_with (go_at_call 133; first
      | ((with_reducible refine (HA _).mono ?_); rintro e w1 ⟨v1, rfl, hR1, hX1⟩; have g2 := (hX1.at A1.drew (by simp)).cell 0; have g3 := (hX1.at A1.drew (by simp)).cell 1)
      | ((with_reducible refine (HB _).mono ?_); rintro e w2 ⟨v2, rfl, hR2, hX2⟩))
    all_goals
      have hs1 : z + 3 ≤ w0.drew.heap.size := by show z + 3 ≤ w0.heap.size; omega
      have hs2 := hX1.size
      have hRa := (hR1.keep hX2 (by simp)).weaken hs1
      have hRb := hR2.weaken (Nat.le_trans hs1 hs2)
      have hAa := hX2.at (hX1.at A2.drew (by simp)) (by simp)
      have hXa := hX.trans ((Chg.undr hX1).trans hX2)
      clear c0 c1 c2 c3 g2 g3
      go_wp2_with fail
      go_meet
      exact ⟨hRa, hRb, hAa, hXa⟩
  case rest =>
    obtain ⟨hRa, hRb, hA, hXa⟩ := hcut
    have hla := bitsL_len a.val 128
    have hlb := bitsL_len b.val 128
    have Da := Lib.hid (bit_at a.val 128)
    have Db := Lib.hid (bit_at b.val 128)
    obtain ⟨ga, capa, rfl⟩ := hRa.form (by omega)
    obtain ⟨gb, capb, rfl⟩ := hRb.form (by omega)
    rw [hla] at hRa ⊢
    rw [hlb] at hRb ⊢
    generalize bitsL a.val 128 = La at *
    generalize bitsL b.val 128 = Lb at *
    clear A0 A1 A2 HA HB hX hsz ha hb
    go_wp2_with fail
    have hzc : z + 1 + 1 < wc.heap.size := hA.lt
    generalize hzz : wc.heap.size = zc at *
    go_loopg [7, 8, 9] 128 (fun g v c i wr => ∃ k : Nat, g + k = 128 ∧ i = .int .i64 k ∧ c = .int .i64 (carryN a.val b.val k) ∧ IRow wr zc v (bitsL (a.val + b.val) k) ∧ Chg [] wc wr ∧ zc ≤ wr.heap.size)
    case atStart => exact ⟨0, by omega, rfl, by simp [carryN], IRow.nil _ _, Chg.refl _ _, by omega⟩
    case round =>
      obtain ⟨k, hg, rfl, rfl, hR, hX, hzr⟩ := hrel
      by_cases hk : k < 128
      · have Ea := (hRa.keep hX (by simp)).cell hla k _ (Da.out k hk)
        have Eb := (hRb.keep hX (by simp)).cell hlb k _ (Db.out k hk)
        have S1 := add_digit a.val b.val k
        have S2 := Lib.hid (add_carry a.val b.val k)
        have hc := carry_bd a.val b.val k
        have hl := bitsL_len (a.val + b.val) k
        have Hs := Lib.hid (bitsL_succ (a.val + b.val) k)
        have h0 : 0 ≤ a.val / 2 ^ k % 2 ∧ a.val / 2 ^ k % 2 ≤ 1 := by omega
        have h1 : 0 ≤ b.val / 2 ^ k % 2 ∧ b.val / 2 ^ k % 2 ≤ 1 := by omega
        rw [← S1] at Hs
        clear S1
        generalize a.val / 2 ^ k % 2 = d0 at *
        generalize b.val / 2 ^ k % 2 = d1 at *
        generalize carryN a.val b.val k = c at *
        generalize bitsL (a.val + b.val) k = L at *
        obtain ⟨L', hL'⟩ : ∃ L', bitsL (a.val + b.val) (k + 1) = L' := ⟨_, rfl⟩
        rw [hL'] at Hs
        have HL' := Lib.hid hL'
        clear hL'
        obtain ⟨c', hc'⟩ : ∃ c', carryN a.val b.val (k + 1) = c' := ⟨_, rfl⟩
        rw [hc'] at S2
        have HC' := Lib.hid hc'
        clear hc'
        have k1 : IntKind.i64.wrap (d0 + d1) = d0 + d1 := by rw [IntKind.wrap_i64]; omega
        have k2 : IntKind.i64.wrap (d0 + d1 + c) = d0 + d1 + c := by rw [IntKind.wrap_i64]; omega
        go_wp2_with fail
        go_quiet (fail)
        clear Ea Eb k1 k2
        replace hR := hR.drewN nq
        replace hX := hX.drewN nq
        have hs0 : 0 ≤ d0 + d1 + c ∧ d0 + d1 + c ≤ 3 := by omega
        generalize d0 + d1 + c = s at *
        have hzr' : zc ≤ (wr.drewN nq).heap.size := hzr
        generalize wr.drewN nq = wq at *
        clear hzr
        go_wp2_with (at_builtin; refine wpList_appI rfl (.tmp 30) (.tmp 33) rfl rfl (hR.alloc _) rfl (At.new _ _ _) (M := [s % 2]) rfl rfl (by rw [hl]; simp; omega) (by simp; omega) ?_; intro v' w' h1 h2; have hX1 := IRow.grown (hR.alloc _) (hX.alloc _) h2 (by omega); rw [← Hs.out] at h1)
        have hsz := h2.size
        go_roundg (gk - 1)
        case rel => exact ⟨k + 1, by omega, by go_num, by rw [HC'.out, ← S2.out], by rw [HL'.out]; exact h1, hX1, by simp at hsz; omega⟩
        case measure => omega
      · obtain rfl : k = 128 := by omega
        have HV := fun w' h => rvalue_any w' zc u7 _ h (bitsL_len (a.val + b.val) 128) (bits01 _ _)
        rw [valL_bits] at HV
        go_wp2_with fail
        refine (HV _ hR).mono ?_; rintro e w2 ⟨rfl, hX2⟩
        have hA2 := hX2.at (hX.at hA (by simp)) (by simp)
        have hX3 := (hXa.trans hX).trans hX2
        have Hr := Lib.hid (show (wV (a.val + b.val)).cells = #[.int .i64 (wV (a.val + b.val)).hi, .int .u64 (wV (a.val + b.val)).lo] from rfl)
        rw [Hr.out]
        generalize (wV (a.val + b.val)).hi = rh at *
        generalize (wV (a.val + b.val)).lo = rl at *
        have c0 := hA2.cell 0
        have c1 := hA2.cell 1
        have f0 := hA2.frozen 0
        have f1 := hA2.frozen 1
        go_wp2_with fail
        have hA3 := (hA2.set 0 (.int .i64 rh) (cs' := #[.int .i64 rh, .int .u64 0]) rfl).set 1 (.int .u64 rl) (cs' := #[.int .i64 rh, .int .u64 rl]) rfl
        have hX4 := (hX3.setCell (p := ⟨z + 1 + 1, 0, none⟩) (Or.inr (by simp; omega)) (.int .i64 rh)).setCell (p := ⟨z + 1 + 1, 1, none⟩) (Or.inr (by simp; omega)) (.int .u64 rl)
        clear c0 c1 f0 f1
        have c0 := hA3.cell 0
        have c1 := hA3.cell 1
        exact bodyPost_ret (v := .agg #[.int .i64 rh, .int .u64 rl]) (by simp [results, Tryz.results120, go_sem, c0, c1]) rfl ⟨by rw [Hr.out], hX4⟩
end Go.Proofs.YtpfglmlpodjneaaGreat
namespace Go.Proofs.YtpfglmlpodjneaaGreat
open Go

section
variable {P : Program} {ops : Array Oper}

def unl (L : Array Bool) : Nat := L.countP (fun b => !b)
theorem unl_set {L : Array Bool} {i : Nat} (h : L.getD i true = false) : unl (L.setIfInBounds i true) + 1 = unl L := by
  have hi : i < L.size := by
    rcases Nat.lt_or_ge i L.size with h' | h'
    · exact h'
    · simp [Array.getElem?_eq_none h'] at h
  have hv : L[i] = false := by simpa [hi] using h
  unfold unl
  rw [Array.setIfInBounds_def, dif_pos hi, Array.countP_set]
  have hpos : 0 < L.countP (fun b => !b) := Array.countP_pos_iff.2 ⟨L[i], Array.getElem_mem hi, by simp [hv]⟩
  simp [hv]
  omega
theorem wpAny_of_inv {I : Array Bool → Act → World → Prop} {Q' : Exit → Act → World → Prop}
    (hstep : ∀ (L : Array Bool) (a : Act) (w : World) (i : Nat), Good ops L → i ∈ Region.ready .any ops L → I L a w → wpOp P ops Q' i (fun a' w' => I (L.setIfInBounds i true) a' w') a w)
    (hend : ∀ (L : Array Bool) (a : Act) (w : World), Good ops L → Region.ready .any ops L = [] → I L a w → Q' .normal a w) :
    ∀ (n : Nat) (L : Array Bool) (a : Act) (w : World), unl L ≤ n → Good ops L → I L a w → wpAny P .any ops Q' n L a w
  | 0, L, a, w, hn, hG, h => by
    have h0 : Region.ready .any ops L = [] := by
      apply List.eq_nil_iff_forall_not_mem.2
      intro i hi
      have := unl_set (mem_ready.1 hi).1
      omega
    exact ⟨h0, hend L a w hG h0 h⟩
  | n + 1, L, a, w, hn, hG, h => ⟨fun h0 => hend L a w hG h0 h, fun i hi => wpOp_mono (fun a' w' h' => wpAny_of_inv hstep hend n _ a' w' (by have := unl_set (mem_ready.1 hi).1; omega) (hG.set hi) h') (hstep L a w i hG hi h)⟩

/-- A region that draws its order, by an invariant. -/
theorem wp_region_inv {id : Nat} {Q : Exit → Act → World → Prop} {a : Act} {w : World} {l : List Oper} (I : Array Bool → Act → World → Prop) (hm : P.follows .mixedOrders = true)
    (hc : certB l.toArray (Region.before l.toArray) = true) (h0 : I (Array.replicate l.length false) a w.drew)
    (hstep : ∀ (i : Nat) (o : Oper), l[i]? = some o → ∀ (L : Array Bool) (a : Act) (w : World), L.size = l.length → L.getD i false = false → (∀ e ∈ o.after, Region.binds .any e = true → L.getD e.on false = true) → I L a w →
      wpOp P l.toArray Q i (fun a' w' => I (L.setIfInBounds i true) a' w') a w)
    (hend : ∀ (L : Array Bool) (a : Act) (w : World), (∀ i, i < l.length → L.getD i false = true) → I L a w → Q .normal a w) : (Code.region id l.toArray true).wp P Q a w := by
  have hG0 : Good l.toArray (Array.replicate l.toArray.size false) := ⟨by simp, fun j o hj hl => by
    have := (Array.getElem?_eq_some_iff.1 hj).1
    simp only [List.size_toArray] at this
    simp [this] at hl⟩
  refine wp_region_any hm (wpAny_of_inv (I := I) (fun L a w i hG hi h => ?_) (fun L a w hG hr h => hend L a w (fun i hi => all_listed hc hG hr i i (Nat.le_refl _) (by simpa using hi)) h) _ _ _ _ (by unfold unl; exact Nat.le_trans (Array.countP_le_size) (by simp)) hG0 (by simpa using h0))
  obtain ⟨hun, o, ho, hall⟩ := mem_ready.1 hi
  exact hstep i o (by simpa using ho) L a w (by simpa using hG.size) (getD_false_of_true hun) hall h

def invUpon (P : Program) (K : Value → World → Prop) : Result Next → Prop
  | .ok (.value u) w => K u w
  | .ok .skip w => K undef w
  | .ok (.enter f args) w => Calls P f args w fun e w' => ∃ v, e = .returned v ∧ K v w'
  | _ => False
attribute [go_sem] invUpon
theorem wpOp_inv {i : Nat} {o : Oper} {a : Act} {w : World} {K : Act → World → Prop} {Q : Exit → Act → World → Prop} (hi : ops[i]? = some o) (hw : Region.wanted o (yielded ops a.tmps) = true)
    (h : invUpon P (fun v w' => K (a.put o.dst v) w') ((execOp a.eval o).run P w)) : wpOp P ops Q i K a w := by
  unfold wpOp
  simp only [hi]
  rw [if_pos hw]
  refine .inl ?_
  unfold Oper.wp
  generalize (execOp a.eval o).run P w = r at *
  cases r with
  | ok n w' =>
    cases n <;> simp only [invUpon] at h <;> simp only [Oper.upon]
    case value u => exact h
    case skip => exact h
    case enter f args => exact h.mono fun e w'' ⟨v, he, hk⟩ => by subst he; exact hk
  | halt x w' => simp only [invUpon] at h
theorem wpOp_pass {i : Nat} {o : Oper} {a : Act} {w : World} {K : Act → World → Prop} {Q : Exit → Act → World → Prop} (hi : ops[i]? = some o) (hw : Region.wanted o (yielded ops a.tmps) = false)
    (h : K (a.put o.dst undef) w) : wpOp P ops Q i K a w := by
  unfold wpOp
  simp only [hi]
  rw [if_neg (by simp [hw])]
  exact h
theorem getD_set_if (L : Array Bool) (i j : Nat) (hi : i < L.size) : (L.setIfInBounds i true).getD j false = if i = j then true else L.getD j false := by
  by_cases h : i = j
  · subst h
    simp [hi]
  · rw [if_neg h, getD_set_ne false h]
end
end Go.Proofs.YtpfglmlpodjneaaGreat
namespace Go.Proofs.YtpfglmlpodjneaaGreat
open Go.RowKit

theorem At.set2 {w : World} {b : Nat} {x y : Value} (h : At w b #[x, y]) (p q : Value) : At ((w.setCell ⟨b, 0, none⟩ p).setCell ⟨b, 1, none⟩ q) b #[p, q] :=
  (h.set 0 p (cs' := #[p, y]) rfl).set 1 q (cs' := #[p, q]) rfl
theorem Chg.set2 {S : List Nat} {a w : World} {b : Nat} (h : Chg S a w) (hb : a.heap.size ≤ b) (p q : Value) : Chg S a ((w.setCell ⟨b, 0, none⟩ p).setCell ⟨b, 1, none⟩ q) :=
  (h.setCell (p := ⟨b, 0, none⟩) (Or.inr hb) p).setCell (p := ⟨b, 1, none⟩) (Or.inr hb) q
theorem wv_cells (a : WV) : a.cells = #[.int .i64 a.hi, .int .u64 a.lo] := rfl

theorem not_i (a : Int) (h0 : -9223372036854775808 ≤ a) (h1 : a ≤ 9223372036854775807) : bits .xor .i64 (-1) a = -a - 1 := by
  have e : ((bv a).toNat : Int) = a % 18446744073709551616 := by
    unfold bv
    rw [BitVec.toNat_ofInt]
    have : ((2 ^ 64 : Nat) : Int) = 18446744073709551616 := rfl
    rw [this]
    omega
  rw [xor_i, show bv (-1) = BitVec.allOnes 64 from rfl, BitVec.allOnes_xor, BitVec.toInt_not, e]
  rw [show ((2 : Int) ^ 64 - 1 - a % 18446744073709551616) = 18446744073709551615 - a % 18446744073709551616 from rfl, show (2 ^ 64 : Nat) = 18446744073709551616 from rfl, Int.bmod_def]
  split <;> omega
theorem not_u (a : Int) (h0 : 0 ≤ a) (h1 : a ≤ 18446744073709551615) : bits .xor .u64 IntKind.u64.max a = 18446744073709551615 - a := by
  have e := bv_toNat a h0 h1
  rw [xor_u, show bv IntKind.u64.max = BitVec.allOnes 64 from rfl, BitVec.allOnes_xor, BitVec.toNat_not]
  have := (bv a).isLt
  omega
theorem rof_any (w : World) (n : Int) (h0 : -9223372036854775808 ≤ n) (h1 : n ≤ 9223372036854775807) : Calls Tryz.prog 119 #[.int .i64 n] w fun e w' => e = .returned (.agg (ofV n).cells) ∧ Chg [] w w' := by
  have hA := At.new w #[.int .i64 0, .int .u64 0] 147
  have c0 := hA.cell 0; have c1 := hA.cell 1; have f0 := hA.frozen 0; have f1 := hA.frozen 1
  have Hr := Lib.hid (show (ofV n).cells = #[.int .i64 (if n < 0 then -1 else 0), .int .u64 (n % 18446744073709551616)] by
    unfold ofV WV.cells
    simp only
    rw [show n / 18446744073709551616 = if n < 0 then -1 else 0 by split <;> omega])
  by_cases hn : n < 0
  · go_enter Tryz.func119, Tryz.ntmps119
    go_wp2_with fail
    go_returns
    exact ⟨by rw [Hr.out, if_pos hn]; rfl, (Chg.refl _ _).alloc _⟩
  · go_enter Tryz.func119, Tryz.ntmps119
    go_wp2_with fail
    go_returns
    exact ⟨by rw [Hr.out, if_neg (by omega), Int.emod_eq_of_lt hn (by omega)], (Chg.refl _ _).alloc _⟩

theorem rflip_any (w : World) (a : WV) (ha : a.ok) : Calls Tryz.prog 121 #[.agg a.cells] w fun e w' => e = .returned (.agg (wV (-a.val)).cells) ∧ Chg [] w w' := by
  have hA := (At.new w #[.int .i64 a.hi, .int .u64 a.lo] 147).alloc (.cells #[.int .i64 0, .int .u64 0] 147)
  have hB := At.new (w.alloc (.cells #[.int .i64 a.hi, .int .u64 a.lo] 147)) #[.int .i64 0, .int .u64 0] 147
  rw [show (w.alloc (.cells #[.int .i64 a.hi, .int .u64 a.lo] 147)).heap.size = w.heap.size + 1 by simp] at hB
  have hX := ((Chg.refl [] w).alloc (.cells #[.int .i64 a.hi, .int .u64 a.lo] 147)).alloc (.cells #[.int .i64 0, .int .u64 0] 147)
  have c0 := hA.cell 0; have c1 := hA.cell 1
  have n0 := not_i a.hi ha.h0 ha.h1
  have n1 := not_u a.lo ha.l0 ha.l1
  have b0 := ha.h0; have b1 := ha.h1; have b2 := ha.l0; have b3 := ha.l1
  have HP := fun w => rplus_any w ⟨-a.hi - 1, 18446744073709551615 - a.lo⟩ ⟨0, 1⟩ ⟨by simp only; omega, by simp only; omega, by simp only; omega, by simp only; omega⟩ ⟨by decide, by decide, by decide, by decide⟩
  rw [show (WV.mk (-a.hi - 1) (18446744073709551615 - a.lo)).val + (WV.mk 0 1).val = -a.val by unfold WV.val; simp only; omega,
    wv_cells ⟨-a.hi - 1, 18446744073709551615 - a.lo⟩, wv_cells ⟨0, 1⟩, wv_cells (wV _)] at HP
  simp only at HP
  rw [wv_cells a, wv_cells (wV _)]
  generalize (wV (-a.val)).hi = rh at *
  generalize (wV (-a.val)).lo = rl at *
  replace HP := Lib.hid HP
  have q1 : IntKind.i64.signed = true := rfl
  have q2 : IntKind.u64.signed = false := rfl
  clear b0 b1 b2 b3 ha
  go_enter Tryz.func121, Tryz.ntmps121
  go_wp2_with fail
  refine (HP.out _).mono ?_; rintro e w2 ⟨rfl, hX2⟩
  have hB2 := hX2.at hB (by simp)
  have hX3 := hX.trans hX2
  clear c0 c1 n0 n1
  have c0 := hB2.cell 0; have c1 := hB2.cell 1; have f0 := hB2.frozen 0; have f1 := hB2.frozen 1
  go_wp2_with fail
  clear c0 c1 f0 f1
  have d := hB2.set2 (.int .i64 rh) (.int .u64 rl)
  have d0 := d.cell 0; have d1 := d.cell 1
  exact bodyPost_ret (v := .agg #[.int .i64 rh, .int .u64 rl]) (by simp [results, Tryz.results121, go_sem, d0, d1]) rfl ⟨rfl, hX3.set2 (by omega) _ _⟩
/-- Two numbers in boxes, a result's cell behind them. -/
theorem start2 (w : World) (a b : WV) : At (((w.alloc (.cells #[.int .i64 a.hi, .int .u64 a.lo] 147)).alloc (.cells #[.int .i64 b.hi, .int .u64 b.lo] 147)).alloc (.cells #[.int .i64 0, .int .u64 0] 147)) w.heap.size #[.int .i64 a.hi, .int .u64 a.lo] ∧
    At (((w.alloc (.cells #[.int .i64 a.hi, .int .u64 a.lo] 147)).alloc (.cells #[.int .i64 b.hi, .int .u64 b.lo] 147)).alloc (.cells #[.int .i64 0, .int .u64 0] 147)) (w.heap.size + 1) #[.int .i64 b.hi, .int .u64 b.lo] ∧
    At (((w.alloc (.cells #[.int .i64 a.hi, .int .u64 a.lo] 147)).alloc (.cells #[.int .i64 b.hi, .int .u64 b.lo] 147)).alloc (.cells #[.int .i64 0, .int .u64 0] 147)) (w.heap.size + 1 + 1) #[.int .i64 0, .int .u64 0] ∧
    Chg [] w (((w.alloc (.cells #[.int .i64 a.hi, .int .u64 a.lo] 147)).alloc (.cells #[.int .i64 b.hi, .int .u64 b.lo] 147)).alloc (.cells #[.int .i64 0, .int .u64 0] 147)) := by
  have A0 := ((At.new w #[.int .i64 a.hi, .int .u64 a.lo] 147).alloc (.cells #[.int .i64 b.hi, .int .u64 b.lo] 147)).alloc (.cells #[.int .i64 0, .int .u64 0] 147)
  have A1 := (At.new (w.alloc (.cells #[.int .i64 a.hi, .int .u64 a.lo] 147)) #[.int .i64 b.hi, .int .u64 b.lo] 147).alloc (.cells #[.int .i64 0, .int .u64 0] 147)
  have A2 := At.new ((w.alloc (.cells #[.int .i64 a.hi, .int .u64 a.lo] 147)).alloc (.cells #[.int .i64 b.hi, .int .u64 b.lo] 147)) #[.int .i64 0, .int .u64 0] 147
  rw [show (w.alloc (.cells #[.int .i64 a.hi, .int .u64 a.lo] 147)).heap.size = w.heap.size + 1 by simp] at A1
  rw [show ((w.alloc (.cells #[.int .i64 a.hi, .int .u64 a.lo] 147)).alloc (.cells #[.int .i64 b.hi, .int .u64 b.lo] 147)).heap.size = w.heap.size + 1 + 1 by simp] at A2
  exact ⟨A0, A1, A2, (((Chg.refl [] w).alloc _).alloc _).alloc _⟩
/-- What the reference's add reckons. -/
theorem radd_plain (a b : WV) (ha : a.ok) (hb : b.ok) (s : WV) (hs : wV (a.val + b.val) = s) :
    (((a.hi < 0 ↔ b.hi < 0) ∧ ¬(s.hi < 0 ↔ a.hi < 0)) → fitsV (a.val + b.val) = false ∧ addV (a.val + b.val) = WV.zero) ∧ (¬((a.hi < 0 ↔ b.hi < 0) ∧ ¬(s.hi < 0 ↔ a.hi < 0)) → fitsV (a.val + b.val) = true ∧ addV (a.val + b.val) = s) := by
  have hx : fitsV (a.val + b.val) = false ↔ ((a.hi < 0 ↔ b.hi < 0) ∧ ¬(s.hi < 0 ↔ a.hi < 0)) := by
    rw [← hs, ← Bool.not_eq_true, fitsV_iff]
    obtain ⟨ah, al⟩ := a
    obtain ⟨bh, bl⟩ := b
    have a1 : -9223372036854775808 ≤ ah := ha.h0
    have a2 : ah ≤ 9223372036854775807 := ha.h1
    have a3 : 0 ≤ al := ha.l0
    have a4 : al ≤ 18446744073709551615 := ha.l1
    have b1 : -9223372036854775808 ≤ bh := hb.h0
    have b2 : bh ≤ 9223372036854775807 := hb.h1
    have b3 : 0 ≤ bl := hb.l0
    have b4 : bl ≤ 18446744073709551615 := hb.l1
    unfold wV WV.val wrap64
    simp only
    omega
  refine ⟨fun h => ?_, fun h => ?_⟩
  · have hf := hx.2 h
    exact ⟨hf, by unfold addV; rw [if_neg (by rw [hf]; decide)]⟩
  · have hf : fitsV (a.val + b.val) = true := by
      rcases Bool.eq_false_or_eq_true (fitsV (a.val + b.val)) with e | e
      · exact e
      · exact absurd (hx.1 e) h
    refine ⟨hf, ?_⟩
    unfold addV
    rw [if_pos hf, ← hs, wV_fits _ hf]
/-- What the reference's sub reckons. -/
theorem rsub_plain (a b : WV) (ha : a.ok) (hb : b.ok) (s : WV) (hs : wV (a.val - b.val) = s) :
    ((¬(a.hi < 0 ↔ b.hi < 0) ∧ ¬(s.hi < 0 ↔ a.hi < 0)) → fitsV (a.val - b.val) = false ∧ addV (a.val - b.val) = WV.zero) ∧ (¬(¬(a.hi < 0 ↔ b.hi < 0) ∧ ¬(s.hi < 0 ↔ a.hi < 0)) → fitsV (a.val - b.val) = true ∧ addV (a.val - b.val) = s) := by
  have hx : fitsV (a.val - b.val) = false ↔ (¬(a.hi < 0 ↔ b.hi < 0) ∧ ¬(s.hi < 0 ↔ a.hi < 0)) := by
    rw [← hs, ← Bool.not_eq_true, fitsV_iff]
    obtain ⟨ah, al⟩ := a
    obtain ⟨bh, bl⟩ := b
    have a1 : -9223372036854775808 ≤ ah := ha.h0
    have a2 : ah ≤ 9223372036854775807 := ha.h1
    have a3 : 0 ≤ al := ha.l0
    have a4 : al ≤ 18446744073709551615 := ha.l1
    have b1 : -9223372036854775808 ≤ bh := hb.h0
    have b2 : bh ≤ 9223372036854775807 := hb.h1
    have b3 : 0 ≤ bl := hb.l0
    have b4 : bl ≤ 18446744073709551615 := hb.l1
    unfold wV WV.val wrap64
    simp only
    omega
  refine ⟨fun h => ?_, fun h => ?_⟩
  · have hf := hx.2 h
    exact ⟨hf, by unfold addV; rw [if_neg (by rw [hf]; decide)]⟩
  · have hf : fitsV (a.val - b.val) = true := by
      rcases Bool.eq_false_or_eq_true (fitsV (a.val - b.val)) with e | e
      · exact e
      · exact absurd (hx.1 e) h
    refine ⟨hf, ?_⟩
    unfold addV
    rw [if_pos hf, ← hs, wV_fits _ hf]
/-- What has come up of Sub's first region. -/
structure SubI (w : World) (z : Nat) (a b s : WV) (fh fl : Int) (L : Array Bool) (ac : Act) (wx : World) : Prop where
  ex : ∃ v6 v7 v8 v9 v10, ac = { tmps := #[.agg #[.int .i64 a.hi, .int .u64 a.lo], .agg #[.int .i64 b.hi, .int .u64 b.lo], .pointer (some ⟨z, 0, none⟩), .pointer (some ⟨z + 1, 0, none⟩), .pointer (some ⟨z + 1 + 1, 0, none⟩), .bool false, v6, v7, v8, v9, v10, undef, undef, undef, undef, undef, undef, undef, undef, undef, undef, undef, undef, undef, undef, undef, undef, undef, undef], defers := [] } ∧ (L.getD 0 false = true → v7 = .agg #[.int .i64 a.hi, .int .u64 a.lo]) ∧ (L.getD 1 false = true → v8 = .agg #[.int .i64 b.hi, .int .u64 b.lo]) ∧
      (L.getD 2 false = true → v9 = .agg #[.int .i64 fh, .int .u64 fl]) ∧ (L.getD 3 false = true → v10 = .agg #[.int .i64 s.hi, .int .u64 s.lo]) ∧ (L.getD 4 false = true → ∃ y, v6 = .pointer (some ⟨y, 0, none⟩) ∧ z + 1 + 1 < y ∧ At wx y (if L.getD 5 false = true then #[.int .i64 s.hi, .int .u64 s.lo] else #[.int .i64 0, .int .u64 0])) ∧
      (L.getD 5 false = true → L.getD 4 false = true) ∧ At wx z #[.int .i64 a.hi, .int .u64 a.lo] ∧ At wx (z + 1) #[.int .i64 b.hi, .int .u64 b.lo] ∧ At wx (z + 1 + 1) #[.int .i64 0, .int .u64 0] ∧ Chg [] w wx
end Go.Proofs.YtpfglmlpodjneaaGreat
namespace Go.Proofs.YtpfglmlpodjneaaGreat
open Go.RowKit

theorem rneg_plain (a : WV) (ha : a.ok) : ((a.hi = -9223372036854775808 ∧ a.lo = 0) → fitsV (-a.val) = false ∧ addV (-a.val) = WV.zero) ∧ (¬(a.hi = -9223372036854775808 ∧ a.lo = 0) → fitsV (-a.val) = true ∧ addV (-a.val) = wV (-a.val)) := by
  have hx : fitsV (-a.val) = false ↔ (a.hi = -9223372036854775808 ∧ a.lo = 0) := by
    rw [← Bool.not_eq_true, fitsV_iff]
    obtain ⟨ah, al⟩ := a
    have a1 : -9223372036854775808 ≤ ah := ha.h0
    have a2 : ah ≤ 9223372036854775807 := ha.h1
    have a3 : 0 ≤ al := ha.l0
    have a4 : al ≤ 18446744073709551615 := ha.l1
    unfold WV.val
    simp only
    omega
  refine ⟨fun h => ?_, fun h => ?_⟩
  · have hf := hx.2 h
    exact ⟨hf, by unfold addV; rw [if_neg (by rw [hf]; decide)]⟩
  · have hf : fitsV (-a.val) = true := by
      rcases Bool.eq_false_or_eq_true (fitsV (-a.val)) with e | e
      · exact e
      · exact absurd (hx.1 e) h
    refine ⟨hf, ?_⟩
    unfold addV
    rw [if_pos hf, wV_fits _ hf]
theorem cmpV_spell (a b : WV) (ha : a.ok) (hb : b.ok) : cmpV a b = if a.hi < b.hi then -1 else if a.hi = b.hi then (if a.lo < b.lo then -1 else if a.lo = b.lo then 0 else 1) else 1 := by
  have a3 := ha.l0; have a4 := ha.l1; have b3 := hb.l0; have b4 := hb.l1
  unfold cmpV cmpI WV.val
  repeat' split
  all_goals omega
theorem rcmp_any (w : World) (a b : WV) (ha : a.ok) (hb : b.ok) : Calls Tryz.prog 103 #[.agg a.cells, .agg b.cells] w fun e w' => e = .returned (.int .i64 (cmpV a b)) ∧ Chg [] w w' := by
  have A0 := (At.new w #[.int .i64 a.hi, .int .u64 a.lo] 147).alloc (.cells #[.int .i64 b.hi, .int .u64 b.lo] 147)
  have A1 := At.new (w.alloc (.cells #[.int .i64 a.hi, .int .u64 a.lo] 147)) #[.int .i64 b.hi, .int .u64 b.lo] 147
  rw [show (w.alloc (.cells #[.int .i64 a.hi, .int .u64 a.lo] 147)).heap.size = w.heap.size + 1 by simp] at A1
  have hX := ((Chg.refl [] w).alloc (.cells #[.int .i64 a.hi, .int .u64 a.lo] 147)).alloc (.cells #[.int .i64 b.hi, .int .u64 b.lo] 147)
  have a0 := A0.cell 0; have a1 := A0.cell 1; have b0 := A1.cell 0; have b1 := A1.cell 1
  have Hs := cmpV_spell a b ha hb
  rw [wv_cells a, wv_cells b] at *
  by_cases h1 : a.hi < b.hi
  · rw [if_pos h1] at Hs
    replace Hs := Lib.hid Hs
    go_enter Tryz.func103, Tryz.ntmps103
    go_wp2_with fail
    go_returns
    exact ⟨ret_int Hs.out.symm, ((Chg.refl [] w).alloc _).alloc _⟩
  · rw [if_neg h1] at Hs
    by_cases h2 : a.hi = b.hi
    · rw [if_pos h2] at Hs
      by_cases h3 : a.lo < b.lo
      · rw [if_pos h3] at Hs
        replace Hs := Lib.hid Hs
        go_enter Tryz.func103, Tryz.ntmps103
        go_wp2_with fail
        go_returns
        exact ⟨ret_int Hs.out.symm, ((Chg.refl [] w).alloc _).alloc _⟩
      · rw [if_neg h3] at Hs
        by_cases h4 : a.lo = b.lo
        · rw [if_pos h4] at Hs
          replace Hs := Lib.hid Hs
          go_enter Tryz.func103, Tryz.ntmps103
          go_wp2_with fail
          go_returns
          exact ⟨ret_int Hs.out.symm, ((Chg.refl [] w).alloc _).alloc _⟩
        · rw [if_neg h4] at Hs
          replace Hs := Lib.hid Hs
          go_enter Tryz.func103, Tryz.ntmps103
          go_wp2_with fail
          go_returns
          exact ⟨ret_int Hs.out.symm, ((Chg.refl [] w).alloc _).alloc _⟩
    · rw [if_neg h2] at Hs
      replace Hs := Lib.hid Hs
      go_enter Tryz.func103, Tryz.ntmps103
      go_wp2_with fail
      go_returns
      exact ⟨ret_int Hs.out.symm, ((Chg.refl [] w).alloc _).alloc _⟩
end Go.Proofs.YtpfglmlpodjneaaGreat
namespace Go.Proofs.YtpfglmlpodjneaaGreat
open Go.RowKit

theorem CL.alloc0 {W : World} {L : List (Nat × Array Value)} {k j : Nat} {w : World} (h : CL W L k w) (o : Obj) : CL W L j (w.alloc o) := ⟨fun p hp => (h.A p hp).alloc _, h.x.alloc _⟩
theorem CL.store2 {W : World} {L : List (Nat × Array Value)} {k j y zb : Nat} {w : World} (h : CL W L k w) (hy : zb ≤ y) (hbs : ∀ p ∈ L, p.1 < zb) (hbW : W.heap.size ≤ zb) (u v : Value) : CL W L j ((w.setCell ⟨y, 0, none⟩ u).setCell ⟨y, 1, none⟩ v) :=
  ⟨fun p hp => At.other (At.other (h.A p hp) ⟨y, 0, none⟩ u (by have := hbs p hp; simp only; omega)) ⟨y, 1, none⟩ v (by have := hbs p hp; simp only; omega), h.x.set2 (by omega) _ _⟩
theorem CL.cons {W : World} {L : List (Nat × Array Value)} {k y : Nat} {w : World} {c : Array Value} (h : CL W L k w) (hb : At w y c) : CL W ((y, c) :: L) k w := by
  refine ⟨fun p hp => ?_, h.x⟩
  rcases List.mem_cons.1 hp with rfl | hp
  · exact hb
  · exact h.A p hp
theorem CL.bounds {W : World} {L : List (Nat × Array Value)} {k : Nat} {w : World} (h : CL W L k w) : (∀ p ∈ L, p.1 < w.heap.size) ∧ W.heap.size ≤ w.heap.size := ⟨fun p hp => (h.A p hp).lt, h.x.size⟩
/-- What has come up of a region. -/
structure TlI5 (W : World) (z z1 z2 z3 zb : Nat) (a b s d n : WV) (p q r fi : Bool) (i : Int) (L : Array Bool) (ac : Act) (wx : World) : Prop where
  ex : ∃ v13 v14 v43 v44 v45 v46 v47 v48 v49 v50, ac = { tmps := #[.agg #[.int .i64 a.hi, .int .u64 a.lo], .agg #[.int .i64 b.hi, .int .u64 b.lo], .pointer (some ⟨z, 0, none⟩), .pointer (some ⟨z + 1, 0, none⟩), .bool false, .pointer (some ⟨z1, 0, none⟩), .bool p, .pointer (some ⟨z2, 0, none⟩), .bool q, .pointer (some ⟨z3, 0, none⟩), .bool r, .int .i64 i, .bool fi, v13, v14, undef, undef, undef, undef, undef, undef, .tuple #[.agg #[.int .i64 s.hi, .int .u64 s.lo], .bool p], .agg #[.int .i64 a.hi, .int .u64 a.lo], .agg #[.int .i64 b.hi, .int .u64 b.lo], .tuple #[.agg #[.int .i64 s.hi, .int .u64 s.lo], .bool p], .agg #[.int .i64 s.hi, .int .u64 s.lo], .bool p, .tuple #[.agg #[.int .i64 d.hi, .int .u64 d.lo], .bool q], .agg #[.int .i64 a.hi, .int .u64 a.lo], .agg #[.int .i64 b.hi, .int .u64 b.lo], .tuple #[.agg #[.int .i64 d.hi, .int .u64 d.lo], .bool q], .agg #[.int .i64 d.hi, .int .u64 d.lo], .bool q, .tuple #[.agg #[.int .i64 n.hi, .int .u64 n.lo], .bool r], .agg #[.int .i64 a.hi, .int .u64 a.lo], .tuple #[.agg #[.int .i64 n.hi, .int .u64 n.lo], .bool r], .agg #[.int .i64 n.hi, .int .u64 n.lo], .bool r, .tuple #[.int .i64 i, .bool fi], .agg #[.int .i64 a.hi, .int .u64 a.lo], .tuple #[.int .i64 i, .bool fi], .int .i64 i, .bool fi, v43, v44, v45, v46, v47, v48, v49, v50, undef, undef, undef, undef, undef, undef, undef, undef, undef, undef, undef, undef, undef, undef, undef, undef, undef, undef, undef, undef, undef, undef, undef, undef, undef, undef, undef, undef, undef, undef, undef, undef, undef, undef, undef, undef, undef, undef, undef, undef, undef, undef, undef, undef, undef, undef, undef, undef, undef, undef, undef, undef, undef, undef, undef, undef, undef, undef, undef, undef, undef, undef, undef, undef, undef, undef, undef, undef, undef, undef, undef, undef, undef, undef, undef, undef, undef, undef, undef, undef, undef, undef, undef, undef], defers := [] } ∧ (L.getD 0 false = true → v44 = .agg #[.int .i64 a.hi, .int .u64 a.lo]) ∧ (L.getD 1 false = true → v45 = .agg #[.int .i64 a.hi, .int .u64 a.lo]) ∧ (L.getD 2 false = true → v46 = .agg #[.int .i64 b.hi, .int .u64 b.lo]) ∧ (L.getD 3 false = true → v47 = .agg #[.int .i64 b.hi, .int .u64 b.lo]) ∧ (L.getD 4 false = true → v48 = .tuple #[.agg #[.int .i64 s.hi, .int .u64 s.lo], .bool p]) ∧ (L.getD 5 false = true → v43 = .tuple #[.agg #[.int .i64 s.hi, .int .u64 s.lo], .bool p]) ∧ (L.getD 6 false = true → v49 = .agg #[.int .i64 s.hi, .int .u64 s.lo]) ∧ (L.getD 7 false = true → v50 = .bool p) ∧ (L.getD 10 false = true → v14 = .bool p) ∧ (L.getD 8 false = true → ∃ y, v13 = .pointer (some ⟨y, 0, none⟩) ∧ zb ≤ y ∧ At wx y (if L.getD 9 false = true then #[.int .i64 s.hi, .int .u64 s.lo] else #[.int .i64 0, .int .u64 0])) ∧ (L.getD 9 false = true → L.getD 8 false = true) ∧ CL W [(z3, #[.int .i64 n.hi, .int .u64 n.lo]), (z2, #[.int .i64 d.hi, .int .u64 d.lo]), (z1, #[.int .i64 s.hi, .int .u64 s.lo]), (z + 1, #[.int .i64 b.hi, .int .u64 b.lo]), (z, #[.int .i64 a.hi, .int .u64 a.lo])] 0 wx ∧ zb ≤ wx.heap.size
/-- What has come up of a region. -/
structure TlI6 (W : World) (z z1 z2 z3 y1 zb : Nat) (a b s d n : WV) (p q r fi : Bool) (i : Int) (L : Array Bool) (ac : Act) (wx : World) : Prop where
  ex : ∃ v15 v16 v51 v52 v53 v54 v55 v56 v57 v58, ac = { tmps := #[.agg #[.int .i64 a.hi, .int .u64 a.lo], .agg #[.int .i64 b.hi, .int .u64 b.lo], .pointer (some ⟨z, 0, none⟩), .pointer (some ⟨z + 1, 0, none⟩), .bool false, .pointer (some ⟨z1, 0, none⟩), .bool p, .pointer (some ⟨z2, 0, none⟩), .bool q, .pointer (some ⟨z3, 0, none⟩), .bool r, .int .i64 i, .bool fi, .pointer (some ⟨y1, 0, none⟩), .bool p, v15, v16, undef, undef, undef, undef, .tuple #[.agg #[.int .i64 s.hi, .int .u64 s.lo], .bool p], .agg #[.int .i64 a.hi, .int .u64 a.lo], .agg #[.int .i64 b.hi, .int .u64 b.lo], .tuple #[.agg #[.int .i64 s.hi, .int .u64 s.lo], .bool p], .agg #[.int .i64 s.hi, .int .u64 s.lo], .bool p, .tuple #[.agg #[.int .i64 d.hi, .int .u64 d.lo], .bool q], .agg #[.int .i64 a.hi, .int .u64 a.lo], .agg #[.int .i64 b.hi, .int .u64 b.lo], .tuple #[.agg #[.int .i64 d.hi, .int .u64 d.lo], .bool q], .agg #[.int .i64 d.hi, .int .u64 d.lo], .bool q, .tuple #[.agg #[.int .i64 n.hi, .int .u64 n.lo], .bool r], .agg #[.int .i64 a.hi, .int .u64 a.lo], .tuple #[.agg #[.int .i64 n.hi, .int .u64 n.lo], .bool r], .agg #[.int .i64 n.hi, .int .u64 n.lo], .bool r, .tuple #[.int .i64 i, .bool fi], .agg #[.int .i64 a.hi, .int .u64 a.lo], .tuple #[.int .i64 i, .bool fi], .int .i64 i, .bool fi, .tuple #[.agg #[.int .i64 s.hi, .int .u64 s.lo], .bool p], .agg #[.int .i64 a.hi, .int .u64 a.lo], .agg #[.int .i64 a.hi, .int .u64 a.lo], .agg #[.int .i64 b.hi, .int .u64 b.lo], .agg #[.int .i64 b.hi, .int .u64 b.lo], .tuple #[.agg #[.int .i64 s.hi, .int .u64 s.lo], .bool p], .agg #[.int .i64 s.hi, .int .u64 s.lo], .bool p, v51, v52, v53, v54, v55, v56, v57, v58, undef, undef, undef, undef, undef, undef, undef, undef, undef, undef, undef, undef, undef, undef, undef, undef, undef, undef, undef, undef, undef, undef, undef, undef, undef, undef, undef, undef, undef, undef, undef, undef, undef, undef, undef, undef, undef, undef, undef, undef, undef, undef, undef, undef, undef, undef, undef, undef, undef, undef, undef, undef, undef, undef, undef, undef, undef, undef, undef, undef, undef, undef, undef, undef, undef, undef, undef, undef, undef, undef, undef, undef, undef, undef, undef, undef], defers := [] } ∧ (L.getD 0 false = true → v52 = .agg #[.int .i64 a.hi, .int .u64 a.lo]) ∧ (L.getD 1 false = true → v53 = .agg #[.int .i64 a.hi, .int .u64 a.lo]) ∧ (L.getD 2 false = true → v54 = .agg #[.int .i64 b.hi, .int .u64 b.lo]) ∧ (L.getD 3 false = true → v55 = .agg #[.int .i64 b.hi, .int .u64 b.lo]) ∧ (L.getD 4 false = true → v56 = .tuple #[.agg #[.int .i64 d.hi, .int .u64 d.lo], .bool q]) ∧ (L.getD 5 false = true → v51 = .tuple #[.agg #[.int .i64 d.hi, .int .u64 d.lo], .bool q]) ∧ (L.getD 6 false = true → v57 = .agg #[.int .i64 d.hi, .int .u64 d.lo]) ∧ (L.getD 7 false = true → v58 = .bool q) ∧ (L.getD 10 false = true → v16 = .bool q) ∧ (L.getD 8 false = true → ∃ y, v15 = .pointer (some ⟨y, 0, none⟩) ∧ zb ≤ y ∧ At wx y (if L.getD 9 false = true then #[.int .i64 d.hi, .int .u64 d.lo] else #[.int .i64 0, .int .u64 0])) ∧ (L.getD 9 false = true → L.getD 8 false = true) ∧ CL W [(y1, #[.int .i64 s.hi, .int .u64 s.lo]), (z3, #[.int .i64 n.hi, .int .u64 n.lo]), (z2, #[.int .i64 d.hi, .int .u64 d.lo]), (z1, #[.int .i64 s.hi, .int .u64 s.lo]), (z + 1, #[.int .i64 b.hi, .int .u64 b.lo]), (z, #[.int .i64 a.hi, .int .u64 a.lo])] 0 wx ∧ zb ≤ wx.heap.size
end Go.Proofs.YtpfglmlpodjneaaGreat
namespace Go.Proofs.YtpfglmlpodjneaaGreat
open Go.RowKit

theorem CL.at_y {W : World} {L : List (Nat × Array Value)} {k j y zb : Nat} {w w' : World} (h : CL W L k w) (hX : Chg [y] w w') (hy : zb ≤ y) (hbs : ∀ p ∈ L, p.1 < zb) (hbW : W.heap.size ≤ zb) : CL W L j w' :=
  ⟨fun p hp => hX.at (h.A p hp) (by have := hbs p hp; simp; omega), h.x.then hX (fun x hx hl => by simp at hx; omega)⟩
end Go.Proofs.YtpfglmlpodjneaaGreat
