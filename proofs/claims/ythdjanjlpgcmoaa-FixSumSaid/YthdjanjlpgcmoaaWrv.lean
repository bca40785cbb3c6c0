/- The reference of wide: the number of 128 bits. -/
import Derived.Test.YthdjanjlpgcmoaaWrb
import Derived.Deep.LoopGhost
import Derived.StillTailTactics
namespace Go.Proofs.Ythdjanjlpgcmoaa
open Go.RowKit

/-- The number of the digits o .. o+k-1. -/
def pnA (L : List Int) (o : Nat) : Nat → Int
  | 0 => 0
  | k + 1 => pnA L o k + L.getD (o + k) 0 * 2 ^ k
theorem pow_succ' (k : Nat) : (2 : Int) ^ (k + 1) = 2 * 2 ^ k := by rw [Int.pow_succ, Int.mul_comm]
theorem pnA_bd (L : List Int) (o : Nat) (h : ∀ j, L.getD j 0 = 0 ∨ L.getD j 0 = 1) : ∀ k, 0 ≤ pnA L o k ∧ pnA L o k < 2 ^ k := by
  intro k
  induction k with
  | zero => exact ⟨Int.le_refl _, by simp [pnA]⟩
  | succ k ih =>
    rw [pow_succ']
    unfold pnA
    have hp := pow_pos' k
    rcases h (o + k) with e | e <;> rw [e] <;> omega
theorem mod_pow_succ (x : Int) (k : Nat) : x % 2 ^ (k + 1) = x % 2 ^ k + x / 2 ^ k % 2 * 2 ^ k := by
  have hp := pow_pos' k
  have e1 := Int.emod_add_mul_ediv x (2 ^ (k + 1))
  have e2 := Int.emod_add_mul_ediv x (2 ^ k)
  have e3 := Int.emod_add_mul_ediv (x / 2 ^ k) 2
  have e4 : x / 2 ^ k / 2 = x / 2 ^ (k + 1) := by rw [Int.ediv_ediv_of_nonneg (by omega), Int.pow_succ]
  rw [e4] at e3
  have e5 : (2 : Int) ^ k * (x / 2 ^ k % 2 + 2 * (x / 2 ^ (k + 1))) = x / 2 ^ k % 2 * 2 ^ k + 2 ^ (k + 1) * (x / 2 ^ (k + 1)) := by
    rw [Int.mul_add, pow_succ', Int.mul_comm (2 ^ k) (x / 2 ^ k % 2), ← Int.mul_assoc, Int.mul_comm (2 ^ k) 2]
  rw [e3] at e5
  omega
theorem pnA_bits (v : Int) (n o : Nat) : ∀ k, o + k ≤ n → pnA (bitsL v n) o k = v / 2 ^ o % 2 ^ k := by
  intro k
  induction k with
  | zero => intro _; unfold pnA; simp
  | succ k ih =>
    intro hk
    unfold pnA
    rw [ih (by omega), mod_pow_succ]
    congr 2
    unfold bitsL
    rw [List.getD_eq_getElem?_getD, List.getElem?_map, List.getElem?_range (by omega)]
    simp only [Option.map_some, Option.getD_some]
    rw [Int.pow_add, Int.ediv_ediv_of_nonneg (by have := pow_pos' o; omega)]
theorem bits01 (v : Int) (n j : Nat) : (bitsL v n).getD j 0 = 0 ∨ (bitsL v n).getD j 0 = 1 := by
  unfold bitsL
  rw [List.getD_eq_getElem?_getD, List.getElem?_map]
  by_cases hj : j < n
  · rw [List.getElem?_range hj]
    simp only [Option.map_some, Option.getD_some]
    omega
  · rw [List.getElem?_eq_none (by simp; omega)]
    left; rfl
theorem or_bit (x : Int) (k : Nat) (hk : k < 64) (h0 : 0 ≤ x) (h1 : x < 2 ^ k) : bits .or .u64 x (2 ^ k) = x + 2 ^ k := by
  obtain ⟨m, rfl⟩ : ∃ m : Nat, x = (m : Int) := ⟨x.toNat, by omega⟩
  have h2 : m < 2 ^ k := by
    have : ((2 ^ k : Nat) : Int) = 2 ^ k := by simp
    omega
  have hlt : 2 ^ k ≤ 2 ^ 63 := Nat.pow_le_pow_right (by omega) (by omega)
  have e1 : ∀ n : Nat, n < 2 ^ 64 → (BitVec.ofInt 64 (n : Int)).toNat = n := fun n hn => by
    rw [BitVec.ofInt_natCast, BitVec.toNat_ofNat]; exact Nat.mod_eq_of_lt hn
  rw [show ((2 : Int) ^ k) = ((2 ^ k : Nat) : Int) by simp, or_u]
  unfold bv
  have h3 := Nat.two_pow_add_eq_or_of_lt h2 1
  rw [Nat.mul_one] at h3
  rw [BitVec.toNat_or, e1 _ (by omega), e1 _ (by omega), Nat.or_comm, ← h3]
  simp
  omega
def valL (L : List Int) : WV := ⟨wrap64 (pnA L 64 64), pnA L 0 64⟩

theorem shl_one (k : Nat) (hk : k < 64) : IntKind.u64.wrap (2 ^ k) = 2 ^ k := by
  have e := pow_split k hk
  have hp := pow_pos' k
  have hq := pow_pos' (63 - k)
  rw [IntKind.wrap_u64]
  refine Int.emod_eq_of_lt (by omega) ?_
  rw [e]
  have : (2 : Int) ^ k * 1 < 2 ^ k * (2 * 2 ^ (63 - k)) := Int.mul_lt_mul_of_pos_left (by omega) hp
  omega

set_option maxHeartbeats 1000000 in
theorem rvalue_any (w : World) (base : Nat) (v : Value) (L : List Int) (h : IRow w base v L) (hl : L.length = 128) (h01 : ∀ j, L.getD j 0 = 0 ∨ L.getD j 0 = 1) :
    Calls Try.prog 55 #[v] w fun e w' => e = .returned (.agg (valL L).cells) ∧ Chg [] w w' := by
  obtain ⟨g, cap, rfl⟩ := h.form (by omega)
  rw [hl] at h ⊢
  have hgz := (World.ownsRow.lt h g rfl).2
  have H0 := (At.new w #[.int .i64 0, .int .u64 0] 43).alloc (.cells #[.int .i64 0, .int .u64 0] 43)
  have H1 := At.new (w.alloc (.cells #[.int .i64 0, .int .u64 0] 43)) #[.int .i64 0, .int .u64 0] 43
  rw [show (w.alloc (.cells #[.int .i64 0, .int .u64 0] 43)).heap.size = w.heap.size + 1 by simp] at H1
  have hX := ((Chg.refl [] w).alloc (.cells #[.int .i64 0, .int .u64 0] 43)).alloc (.cells #[.int .i64 0, .int .u64 0] 43)
  go_enter Try.func55, Try.ntmps55
  go_wp2_with fail
  generalize hz : w.heap.size = z at *
  generalize (w.alloc (.cells #[.int .i64 0, .int .u64 0] 43)).alloc (.cells #[.int .i64 0, .int .u64 0] 43) = w0 at *
  go_loopg [4, 5] 64 (fun gg hi i wr => ∃ k : Nat, gg + k = 64 ∧ i = .int .i64 k ∧ hi = .int .u64 (pnA L 64 k) ∧ At wr z #[.int .i64 0, .int .u64 0] ∧ At wr (z + 1) #[.int .i64 0, .int .u64 (pnA L 0 k)] ∧ Chg [] w wr)
  case atStart => exact ⟨0, by omega, rfl, rfl, H0, H1, hX⟩
  case round =>
    clear H0 H1 hX
    obtain ⟨k, hg, rfl, rfl, H0, H1, hX⟩ := hrel
    have c0 := H1.cell 0
    have c1 := H1.cell 1
    have f0 := H1.frozen 0
    have f1 := H1.frozen 1
    have hR := h.keep hX (by simp)
    by_cases hk : k < 64
    · have E0 : L[k]? = some (L.getD k 0) := by rw [List.getD_eq_getElem?_getD, List.getElem?_eq_getElem (by omega)]; rfl
      have E1 : L[64 + k]? = some (L.getD (64 + k) 0) := by rw [List.getD_eq_getElem?_getD, List.getElem?_eq_getElem (by omega)]; rfl
      have b0 := pnA_bd L 0 h01 k
      have b1 := pnA_bd L 64 h01 k
      have S0 := Lib.hid (show pnA L 0 (k + 1) = pnA L 0 k + L.getD k 0 * 2 ^ k by rw [pnA, Nat.zero_add])
      have S1 := Lib.hid (show pnA L 64 (k + 1) = pnA L 64 k + L.getD (64 + k) 0 * 2 ^ k from rfl)
      have o0 := or_bit _ k hk b0.1 b0.2
      have o1 := or_bit _ k hk b1.1 b1.2
      have s0 := shl_one k hk
      have hd0 := h01 k
      have hd1 := h01 (64 + k)
      generalize pnA L 0 k = lo at *
      generalize pnA L 64 k = hi at *
      generalize L.getD k 0 = d0 at *
      generalize L.getD (64 + k) 0 = d1 at *
      replace E0 := Lib.hid E0
      replace E1 := Lib.hid E1
      rcases hd0 with rfl | rfl <;> rcases hd1 with rfl | rfl
      · rw [Int.zero_mul, Int.add_zero] at S0
        rw [Int.zero_mul, Int.add_zero] at S1
        have e0 := hR.cell hl k _ E0.out
        have e1 := hR.cell hl (64 + k) _ E1.out
        go_wp2_with fail
        go_roundg (gk - 1)
        case rel => exact ⟨k + 1, by omega, by go_num, by rw [S1.out], H0, by rw [S0.out]; exact H1, hX⟩
        case measure => omega
      · rw [Int.zero_mul, Int.add_zero] at S0
        rw [Int.one_mul] at S1
        have e0 := hR.cell hl k _ E0.out
        have e1 := hR.cell hl (64 + k) _ E1.out
        go_wp2_with fail
        go_roundg (gk - 1)
        case rel => exact ⟨k + 1, by omega, by go_num, by rw [S1.out], H0, by rw [S0.out]; exact H1, hX⟩
        case measure => omega
      · rw [Int.one_mul] at S0
        rw [Int.zero_mul, Int.add_zero] at S1
        have e0 := hR.cell hl k _ E0.out
        have e1 := hR.cell hl (64 + k) _ E1.out
        go_wp2_with fail
        go_still_tail 6, (by kernel_rfl)
        change wpList _ _ _ _ _ wr.drew
        have H0d := (At.other H0 ⟨z + 1, 1, none⟩ (.int .u64 (lo + 2 ^ k)) (by simp)).drew
        have H1d := (H1.set 1 (.int .u64 (lo + 2 ^ k)) (cs' := #[.int .i64 0, .int .u64 (lo + 2 ^ k)]) rfl).drew
        have hXd := (hX.setCell (p := ⟨z + 1, 1, none⟩) (Or.inr (by simp; omega)) (.int .u64 (lo + 2 ^ k))).drew
        clear e0 e1 c0 c1 f0 f1
        have c1 := H1.drew.cell 1
        have f1 := H1.drew.frozen 1
        have e1 := (h.keep hXd (by simp)).cell hl (64 + k) _ E1.out
        clear H0 H1 hX hR
        go_wp2_with fail
        go_roundg (gk - 1)
        case rel => exact ⟨k + 1, by omega, by go_num, by rw [S1.out], H0d, by rw [S0.out]; exact H1d, hXd⟩
        case measure => omega
      · rw [Int.one_mul] at S0
        rw [Int.one_mul] at S1
        have e0 := hR.cell hl k _ E0.out
        have e1 := hR.cell hl (64 + k) _ E1.out
        go_wp2_with fail
        go_still_tail 6, (by kernel_rfl)
        change wpList _ _ _ _ _ wr.drew
        have H0d := (At.other H0 ⟨z + 1, 1, none⟩ (.int .u64 (lo + 2 ^ k)) (by simp)).drew
        have H1d := (H1.set 1 (.int .u64 (lo + 2 ^ k)) (cs' := #[.int .i64 0, .int .u64 (lo + 2 ^ k)]) rfl).drew
        have hXd := (hX.setCell (p := ⟨z + 1, 1, none⟩) (Or.inr (by simp; omega)) (.int .u64 (lo + 2 ^ k))).drew
        clear e0 e1 c0 c1 f0 f1
        have c1 := H1.drew.cell 1
        have f1 := H1.drew.frozen 1
        have e1 := (h.keep hXd (by simp)).cell hl (64 + k) _ E1.out
        clear H0 H1 hX hR
        go_wp2_with fail
        go_roundg (gk - 1)
        case rel => exact ⟨k + 1, by omega, by go_num, by rw [S1.out], H0d, by rw [S0.out]; exact H1d, hXd⟩
        case measure => omega
    · obtain rfl : k = 64 := by omega
      have d0 := H0.cell 0
      have d1 := H0.cell 1
      have q0 := H0.frozen 0
      have q1 := H0.frozen 1
      have Hr := Lib.hid (show (valL L).cells = #[.int .i64 (wrap64 (pnA L 64 64)), .int .u64 (pnA L 0 64)] from rfl)
      generalize pnA L 64 64 = hi at *
      generalize pnA L 0 64 = lo at *
      clear h hR
      go_wp2_with fail
      have H1d := At.other (At.other (H1.set 0 (.int .i64 (wrap64 hi)) (cs' := #[.int .i64 (wrap64 hi), .int .u64 lo]) rfl) ⟨z, 0, none⟩ (.int .i64 (wrap64 hi)) (by simp)) ⟨z, 1, none⟩ (.int .u64 lo) (by simp)
      have H0d := ((At.other H0 ⟨z + 1, 0, none⟩ (.int .i64 (wrap64 hi)) (by simp)).set 0 (.int .i64 (wrap64 hi)) (cs' := #[.int .i64 (wrap64 hi), .int .u64 0]) rfl).set 1 (.int .u64 lo) (cs' := #[.int .i64 (wrap64 hi), .int .u64 lo]) rfl
      have hXd := ((hX.setCell (p := ⟨z + 1, 0, none⟩) (Or.inr (by simp; omega)) (.int .i64 (wrap64 hi))).setCell (p := ⟨z, 0, none⟩) (Or.inr (by simp; omega)) (.int .i64 (wrap64 hi))).setCell (p := ⟨z, 1, none⟩) (Or.inr (by simp; omega)) (.int .u64 lo)
      clear c0 c1 f0 f1 d0 d1 q0 q1
      have d0 := H0d.cell 0
      have d1 := H0d.cell 1
      exact bodyPost_ret (v := .agg #[.int .i64 (wrap64 hi), .int .u64 lo]) (by simp [results, Try.results55, go_sem, d0, d1]) rfl ⟨by rw [Hr.out], hXd⟩
end Go.Proofs.Ythdjanjlpgcmoaa
