/- The reference of wide: Div. -/
import Derived.Test.YthdjanjlpgcmoaaWrm
import Derived.Laws.OwnMore
import Derived.Deep.LoopGhost
namespace Go.Proofs.Ythdjanjlpgcmoaa
open Go.RowKit

theorem IRow.stored {w : World} {base g n cap : Nat} {L : List Int} (h : IRow w base (.slice (some ⟨g, 0, none⟩) n cap) L) (hn : L.length = n) (j : Nat) (u : Int) : IRow (w.setCell ⟨g, j, none⟩ (.int .i64 u)) base (.slice (some ⟨g, 0, none⟩) n cap) (L.set j u) := by
  subst hn
  have := World.ownsRow.stored h j (.int .i64 u)
  unfold IRow
  rw [List.length_set, List.map_set]
  exact this.1
theorem IRow.frozen {w : World} {base g n cap : Nat} {L : List Int} (h : IRow w base (.slice (some ⟨g, 0, none⟩) n cap) L) (hn : L.length = n) (j : Nat) : w.frozen? ⟨g, j, none⟩ = false := by
  subst hn
  exact World.ownsRow.frozenAt h j
/-- The quotient's digits from k on. -/
def quoL (Q : Int) (k : Nat) : List Int := (List.range 128).map (fun j => if j < k then 0 else Q / 2 ^ j % 2)
theorem quoL_len (Q : Int) (k : Nat) : (quoL Q k).length = 128 := by simp [quoL]
theorem quoL_at (Q : Int) (k : Nat) (hk : k < 128) : (quoL Q (k + 1))[k]? = some 0 := by
  unfold quoL
  rw [List.getElem?_map, List.getElem?_range hk]
  simp
theorem quoL_zero (Q : Int) : quoL Q 0 = bitsL Q 128 := by simp [quoL, bitsL]
theorem quoL_top (Q : Int) : quoL Q 128 = List.replicate 128 0 := by
  unfold quoL
  apply List.ext_getElem (by simp)
  intro i h1 h2
  simp only [List.length_map, List.length_range] at h1
  rw [List.getElem_replicate, List.getElem_map, List.getElem_range, if_pos h1]
theorem quoL_keep (Q : Int) (k : Nat) (h : Q / 2 ^ k % 2 = 0) : quoL Q (k + 1) = quoL Q k := by
  unfold quoL
  apply List.map_congr_left
  intro j _
  by_cases h1 : j < k
  · rw [if_pos h1, if_pos (by omega)]
  · by_cases h2 : j = k
    · subst h2
      rw [if_pos (by omega), if_neg h1, h]
    · rw [if_neg (by omega), if_neg h1]
theorem quoL_set (Q : Int) (k : Nat) (h : Q / 2 ^ k % 2 = 1) : (quoL Q (k + 1)).set k 1 = quoL Q k := by
  unfold quoL
  apply List.ext_getElem (by simp)
  intro j h1 h2
  simp only [List.length_map, List.length_range, List.length_set] at h1 h2
  rw [List.getElem_set]
  by_cases h3 : k = j
  · subst h3
    simp [h]
  · rw [if_neg h3]
    simp only [List.getElem_map, List.getElem_range]
    by_cases h4 : j < k
    · rw [if_pos h4, if_pos (by omega)]
    · rw [if_neg h4, if_neg (by omega)]
/-- One digit of a long division. -/
theorem div_step (M d : Int) (k : Nat) (hd : 0 < d) :
    (d ≤ 2 * (M / 2 ^ (k + 1) % d) + M / 2 ^ k % 2 → M / 2 ^ k % d = 2 * (M / 2 ^ (k + 1) % d) + M / 2 ^ k % 2 - d ∧ M / d / 2 ^ k % 2 = 1) ∧
    (¬d ≤ 2 * (M / 2 ^ (k + 1) % d) + M / 2 ^ k % 2 → M / 2 ^ k % d = 2 * (M / 2 ^ (k + 1) % d) + M / 2 ^ k % 2 ∧ M / d / 2 ^ k % 2 = 0) := by
  have hp := pow_pos' k
  have e1 : M / 2 ^ (k + 1) = M / 2 ^ k / 2 := by rw [Int.ediv_ediv_of_nonneg (by omega), Int.pow_succ]
  have e2 : M / d / 2 ^ k = M / 2 ^ k / d := by rw [Int.ediv_ediv_of_nonneg (by omega), Int.ediv_ediv_of_nonneg (by omega), Int.mul_comm]
  rw [e1, e2]
  generalize M / 2 ^ k = B
  have h1 := Int.emod_add_mul_ediv (B / 2) d
  have h2 := Int.emod_nonneg (B / 2) (show d ≠ 0 by omega)
  have h3 := Int.emod_lt_of_pos (B / 2) hd
  have h4 : B = 2 * (B / 2) + B % 2 := by omega
  generalize B / 2 / d = q at *
  generalize B / 2 % d = r at *
  constructor
  · intro h
    have := (Int.ediv_emod_unique (a := B) (b := d) (r := 2 * r + B % 2 - d) (q := 2 * q + 1) hd).2 ⟨by rw [Int.mul_add, Int.mul_left_comm]; omega, by omega, by omega⟩
    rw [this.1, this.2]
    omega
  · intro h
    have := (Int.ediv_emod_unique (a := B) (b := d) (r := 2 * r + B % 2) (q := 2 * q) hd).2 ⟨by rw [Int.mul_left_comm]; omega, by omega, by omega⟩
    rw [this.1, this.2]
    omega
theorem bit_shift128 (x q : Int) (k : Nat) (hk : k < 128) : (x + 340282366920938463463374607431768211456 * q) / 2 ^ k % 2 = x / 2 ^ k % 2 := by
  have hp := pow_pos' k
  have e : (340282366920938463463374607431768211456 : Int) = 2 ^ k * (2 * 2 ^ (127 - k)) := by
    have e : (2 : Int) ^ k * (2 * 2 ^ (127 - k)) = 2 ^ (k + (1 + (127 - k))) := by
      rw [Int.pow_add, Int.pow_add]
      rfl
    rw [e, show k + (1 + (127 - k)) = 128 by omega]
    rfl
  rw [e, Int.mul_assoc, Int.add_mul_ediv_left _ _ (by omega), Int.mul_assoc]
  generalize 2 ^ (127 - k) * q = r
  omega
set_option maxRecDepth 100000 in
theorem make_ints (w : World) : ∃ w', (Instr.makeSlice 71 (.int .i64 128) (.int .i64 128)).run Try.prog w = .ok (.slice (some ⟨w.heap.size, 0, none⟩) 128 128) w' ∧ IRow w' w.heap.size (.slice (some ⟨w.heap.size, 0, none⟩) 128 128) (List.replicate 128 0) ∧ Chg [] w w' := by
  obtain ⟨i, hi, hz, hz1, hz2⟩ := info_parts info_int
  obtain ⟨w', h1, h2, h3⟩ := run_makeSlice_full (P := Try.prog) (w := w) w.heap.size 71 3 i (.int .i64 0) 1 und_intn hi hz hz1 .i64 .i64 128 (by decide) (by rw [hz2]; decide) (by decide) (Nat.le_refl _)
  refine ⟨w', h1, ?_, ⟨h3.os, h3.tape, h3.output, h3.size, fun k hk _ => h3.block k hk (by simp)⟩⟩
  have e : (madeCells (Value.int .i64 0).cells (128 * 1)).toList = (List.replicate 128 (0 : Int)).map (Value.int .i64) := by kernel_rfl
  rw [e] at h2
  unfold IRow
  rw [List.length_replicate]
  exact h2
theorem fits_val' (a : WV) (h : a.ok) : fitsV a.val = true := by
  rw [fitsV_iff]
  have := h.h0; have := h.h1; have := h.l0; have := h.l1
  unfold WV.val
  omega
theorem bits_wV (v : Int) : bitsL (wV v).val 128 = bitsL v 128 := by
  obtain ⟨q, hq⟩ := wV_val v
  unfold bitsL
  apply List.map_congr_left
  intro j hj
  rw [hq, bit_shift128 _ _ _ (by simpa using hj)]
/-- The quotient and the rest of a number below 0. -/
theorem div_neg (M d : Int) (hd : 0 < d) : (M % d = 0 → -M / d = -(M / d) ∧ -M % d = 0) ∧ (0 < M % d → -M / d = -(M / d) - 1 ∧ -M % d = d - M % d) := by
  have h1 := Int.emod_add_mul_ediv M d
  have h3 := Int.emod_lt_of_pos M hd
  generalize M / d = q at *
  generalize M % d = r at *
  constructor
  · intro h
    exact (Int.ediv_emod_unique hd).2 ⟨by rw [Int.mul_neg]; omega, by omega, by omega⟩
  · intro h
    exact (Int.ediv_emod_unique hd).2 ⟨by rw [Int.mul_sub, Int.mul_neg]; omega, by omega, by omega⟩

set_option maxRecDepth 100000 in
set_option maxHeartbeats 2000000 in
/-- A division by 0 or less. -/
theorem rdiv_none (w : World) (a : WV) (d : Int) (hd : d ≤ 0) :
    Calls Try.prog 36 #[.agg a.cells, .int .i64 d] w fun e w' => e = .returned (.tuple #[.agg WV.zero.cells, .int .i64 0, .bool false]) ∧ Chg [] w w' := by
  rw [wv_cells a, show WV.zero.cells = #[.int .i64 0, .int .u64 0] from rfl]
  have A1 := At.new (w.alloc (.cells #[.int .i64 a.hi, .int .u64 a.lo] 43)) #[.int .i64 0, .int .u64 0] 43
  rw [show (w.alloc (.cells #[.int .i64 a.hi, .int .u64 a.lo] 43)).heap.size = w.heap.size + 1 by simp] at A1
  have c0 := A1.cell 0; have c1 := A1.cell 1; have f0 := A1.frozen 0; have f1 := A1.frozen 1
  go_enter Try.func36, Try.ntmps36
  go_wp2_with fail
  go_returns
  exact ⟨rfl, by first | exact ((Chg.refl [] w).alloc _).alloc _ | exact (((Chg.refl [] w).alloc _).alloc _).set2 (by omega) _ _⟩
set_option maxRecDepth 100000 in
set_option maxHeartbeats 4000000 in
theorem rdiv_some (w : World) (a : WV) (ha : a.ok) (d : Int) (hd0 : 0 < d) (hd1 : d ≤ 9223372036854775807) :
    Calls Try.prog 36 #[.agg a.cells, .int .i64 d] w fun e w' => e = .returned (.tuple #[.agg (divQ a d).cells, .int .i64 (divR a d), .bool true]) ∧ Chg [] w w' := by
  have HF := fun w => rflip_any w a ha
  have A0 := ((At.new w #[.int .i64 a.hi, .int .u64 a.lo] 43).alloc (.cells #[.int .i64 0, .int .u64 0] 43)).alloc (.cells #[.int .i64 a.hi, .int .u64 a.lo] 43)
  have A1 := (At.new (w.alloc (.cells #[.int .i64 a.hi, .int .u64 a.lo] 43)) #[.int .i64 0, .int .u64 0] 43).alloc (.cells #[.int .i64 a.hi, .int .u64 a.lo] 43)
  have A2 := At.new ((w.alloc (.cells #[.int .i64 a.hi, .int .u64 a.lo] 43)).alloc (.cells #[.int .i64 0, .int .u64 0] 43)) #[.int .i64 a.hi, .int .u64 a.lo] 43
  rw [show (w.alloc (.cells #[.int .i64 a.hi, .int .u64 a.lo] 43)).heap.size = w.heap.size + 1 by simp] at A1
  rw [show ((w.alloc (.cells #[.int .i64 a.hi, .int .u64 a.lo] 43)).alloc (.cells #[.int .i64 0, .int .u64 0] 43)).heap.size = w.heap.size + 1 + 1 by simp] at A2
  have hX := (((Chg.refl [] w).alloc (.cells #[.int .i64 a.hi, .int .u64 a.lo] 43)).alloc (.cells #[.int .i64 0, .int .u64 0] 43)).alloc (.cells #[.int .i64 a.hi, .int .u64 a.lo] 43)
  have hsz : (((w.alloc (.cells #[.int .i64 a.hi, .int .u64 a.lo] 43)).alloc (.cells #[.int .i64 0, .int .u64 0] 43)).alloc (.cells #[.int .i64 a.hi, .int .u64 a.lo] 43)).heap.size = w.heap.size + 3 := by simp
  rw [wv_cells a] at *
  -- the magnitude
  obtain ⟨M, hM⟩ : ∃ M, (if a.hi < 0 then -a.val else a.val) = M := ⟨_, rfl⟩
  have hM0 : 0 ≤ M ∧ M ≤ 170141183460469231731687303715884105728 := by
    have := ha.h0; have := ha.h1; have := ha.l0; have := ha.l1
    unfold WV.val at hM
    split at hM <;> omega
  have hneg : a.hi < 0 → a.val = -M := fun h => by rw [if_pos h] at hM; omega
  have hpos : ¬a.hi < 0 → a.val = M := fun h => by rw [if_neg h] at hM; exact hM
  clear hM
  obtain ⟨m, hm⟩ : ∃ m, wV M = m := ⟨_, rfl⟩
  have hmneg : a.hi < 0 → wV (-a.val) = m := fun h => by rw [hneg h, Int.neg_neg, hm]
  have hmpos : ¬a.hi < 0 → a = m := fun h => by
    rw [← hm, ← hpos h, wV_fits _ (fits_val' a ha), ofV_val a ha]
  have hmok : m.ok := hm ▸ wV_ok M
  have HB := fun w => rbits_any w m hmok
  rw [← hm, bits_wV, hm] at HB
  rw [wv_cells m] at HB
  have HMneg := Lib.hid hmneg
  have HMpos := Lib.hid hmpos
  replace HF := Lib.hid HF
  replace HB := Lib.hid HB
  have hq1 : IntKind.u64.wrap d = d := by rw [IntKind.wrap_u64]; omega
  clear hmneg hmpos hm hmok
  go_enter Try.func36, Try.ntmps36
  generalize hz : w.heap.size = z at *
  have c0 := A0.cell 0; have c1 := A0.cell 1
  generalize hw0 : ((w.alloc (.cells #[.int .i64 a.hi, .int .u64 a.lo] 43)).alloc (.cells #[.int .i64 0, .int .u64 0] 43)).alloc (.cells #[.int .i64 a.hi, .int .u64 a.lo] 43) = w0 at *
  go_upto_if 19 with fail
  go_cut [7] (fun v wx => v = .pointer (some ⟨z + 1 + 1, 0, none⟩) ∧ At wx z #[.int .i64 a.hi, .int .u64 a.lo] ∧ At wx (z + 1) #[.int .i64 0, .int .u64 0] ∧ At wx (z + 1 + 1) #[.int .i64 m.hi, .int .u64 m.lo] ∧ Chg [] w wx)
  case first =>
    clear HB
    by_cases hlt : a.hi < 0
    · have hm := HMneg.out hlt
      rw [hm, wv_cells] at HF
      have d0 := A2.cell 0; have d1 := A2.cell 1
      go_wp2_with fail
      refine (HF.out _).mono ?_; rintro e w1 ⟨rfl, hX1⟩
      replace A0 := hX1.at A0 (by simp)
      replace A1 := hX1.at A1 (by simp)
      replace A2 := hX1.at A2 (by simp)
      replace hX := hX.trans hX1
      clear c0 c1 d0 d1 hX1
      have d0 := A2.cell 0; have d1 := A2.cell 1; have f0 := A2.frozen 0; have f1 := A2.frozen 1
      have B0 := A0.other2 (c := z + 1 + 1) (by omega) (.int .i64 m.hi) (.int .u64 m.lo)
      have B1 := A1.other2 (c := z + 1 + 1) (by omega) (.int .i64 m.hi) (.int .u64 m.lo)
      have B2 := A2.set2 (.int .i64 m.hi) (.int .u64 m.lo)
      have hXd := hX.set2 (b := z + 1 + 1) (by omega) (.int .i64 m.hi) (.int .u64 m.lo)
      go_wp2_with fail
      go_meet
      exact ⟨rfl, B0, B1, B2, hXd⟩
    · have B2 := Lib.hid (show At w0 (z + 1 + 1) #[.int .i64 m.hi, .int .u64 m.lo] by rw [← HMpos.out hlt]; exact A2)
      go_wp2_with fail
      go_meet
      exact ⟨rfl, A0, A1, B2.out, hX⟩
  case rest =>
    clear A0 A1 A2 hX c0 c1 hw0 hsz HMneg HMpos HF
    obtain ⟨rfl, A0, A1, A2, hX⟩ := hcut
    have d0 := A2.cell 0; have d1 := A2.cell 1
    go_wp2_with fail
    refine (HB.out _).mono ?_; rintro e w1 ⟨xs, rfl, hR, hX1⟩
    replace A0 := hX1.at A0 (by simp)
    replace A1 := hX1.at A1 (by simp)
    replace hX := hX.trans hX1
    have hzz := A1.lt
    clear A2 d0 d1
    obtain ⟨w2, hmk, hQ, hX2⟩ := make_ints w1
    generalize hgg : w1.heap.size = g at *
    go_wp2_with fail
    clear hmk
    have hlx := bitsL_len M 128
    have Dx := Lib.hid (bit_at M 128)
    obtain ⟨gx, capx, rfl⟩ := hR.form (by omega)
    rw [hlx] at hR ⊢
    have hgx := (World.ownsRow.lt hR gx rfl).2
    rw [hgg] at hgx
    have hRx := hR.keep hX2 (by simp)
    have hzg : wc.heap.size ≤ g := by have := hX1.size; omega
    have hX0 := hX.trans hX2
    have E0 := hX2.at A0 (by simp)
    have E1 := hX2.at A1 (by simp)
    have hgs : g < w2.heap.size := (World.ownsRow.lt hQ g rfl).2
    have Hstep := Lib.hid (fun k => div_step M d k hd0)
    have Hlt := Lib.hid (fun k => show 0 ≤ M / 2 ^ k % d ∧ M / 2 ^ k % d < d from ⟨Int.emod_nonneg _ (by omega), Int.emod_lt_of_pos _ hd0⟩)
    have H128 := Lib.hid (show M / 2 ^ 128 % d = 0 by rw [show (2 : Int) ^ 128 = 340282366920938463463374607431768211456 from rfl, Int.ediv_eq_zero_of_lt hM0.1 (by omega)]; simp)
    generalize bitsL M 128 = Lx at *
    clear hR hX A0 A1 hX1 hX2
    rw [← quoL_top (M / d)] at hQ
    go_loopg [10, 11] 128 (fun gg r i wr => ∃ k : Nat, gg = k ∧ k ≤ 128 ∧ i = .int .i64 ((k : Int) - 1) ∧ r = .int .u64 (M / 2 ^ k % d) ∧ IRow wr g (.slice (some ⟨g, 0, none⟩) 128 128) (quoL (M / d) k) ∧ Chg [] w wr ∧
      IRow wr wc.heap.size (.slice (some ⟨gx, 0, none⟩) 128 capx) Lx ∧ At wr z #[.int .i64 a.hi, .int .u64 a.lo] ∧ At wr (z + 1) #[.int .i64 0, .int .u64 0])
    case atStart => exact ⟨128, rfl, Nat.le_refl _, by simp, by rw [H128.out], hQ, hX0, hRx, E0, E1⟩
    case round =>
      clear hQ hX0 hRx E0 E1
      obtain ⟨k, hg, hk, rfl, rfl, hQ, hX0, hRx, E0, E1⟩ := hrel
      rcases k with _ | k
      · rw [show (((0 : Nat) : Int) - 1) = -1 by omega, show M / 2 ^ 0 % d = M % d by simp]
        rw [quoL_zero] at hQ
        have HV := fun w' h => rvalue_any w' g (.slice (some ⟨g, 0, none⟩) 128 128) _ h (bitsL_len (M / d) 128) (bits01 _ _)
        rw [valL_bits] at HV
        have hr := Hlt.out 0
        rw [show M / 2 ^ 0 % d = M % d by simp] at hr
        have hQM : 0 ≤ M / d ∧ M / d ≤ M := ⟨Int.ediv_nonneg hM0.1 (by omega), Int.ediv_le_self _ hM0.1⟩
        have hdn := div_neg M d hd0
        have hQM1 : M / d + M % d ≤ M := by
          have e1 := Int.emod_add_mul_ediv M d
          have e2 := Int.mul_le_mul_of_nonneg_right (show (1 : Int) ≤ d by omega) hQM.1
          omega
        have HF2 := fun w => rflip_any w _ (wV_ok (M / d))
        rw [wV_neg] at HF2
        have HP := fun w => rplus_any w _ _ (wV_ok (-(M / d))) (wV_ok (-1))
        rw [wV_plus, show wV (-1) = ofV (-1) from wV_fits _ (by decide)] at HP
        have HO := fun w => rof_any w (-1) (by decide) (by decide)
        have hfq : ∀ v, -170141183460469231731687303715884105728 ≤ v → v ≤ 170141183460469231731687303715884105727 → a.val / d = v → divQ a d = wV v := fun v g0 g1 e => by
          unfold divQ; rw [if_pos hd0, e, wV_fits v (by rw [fitsV_iff]; omega)]
        have hfr : divR a d = a.val % d := by unfold divR; rw [if_pos hd0]
        have hM1 : ¬a.hi < 0 → M ≤ 170141183460469231731687303715884105727 := fun h => by
          have := hpos (by omega); have := ha.h0; have := ha.h1; have := ha.l0; have := ha.l1; unfold WV.val at *; omega
        rw [show ofV (-1) = ⟨-1, 18446744073709551615⟩ from rfl] at *
        clear Hstep Hlt H128 HB Dx hRx
        go_wp2_with fail
        refine (HV _ hQ).mono ?_; rintro e w3 ⟨rfl, hX3⟩
        have hyz := hX3.size
        have hyz0 := E1.lt
        obtain ⟨u, hu⟩ : ∃ u, wV (M / d) = u := ⟨_, rfl⟩
        rw [hu] at HF2
        rw [hu, wv_cells u]
        rw [wv_cells u] at HF2
        have A0 := (hX3.at E0 (by simp)).alloc (.cells #[.int .i64 u.hi, .int .u64 u.lo] 43)
        have A1 := (hX3.at E1 (by simp)).alloc (.cells #[.int .i64 u.hi, .int .u64 u.lo] 43)
        have A2 := At.new w3 #[.int .i64 u.hi, .int .u64 u.lo] 43
        have hX := (hX0.trans hX3).alloc (.cells #[.int .i64 u.hi, .int .u64 u.lo] 43)
        clear E0 E1 hX0 hX3 hQ
        generalize hyy : w3.heap.size = y at *
        have a0 := A0.cell 0
        by_cases hlt : a.hi < 0
        · have hv := hneg hlt
          obtain ⟨f, hf⟩ : ∃ f, wV (-(M / d)) = f := ⟨_, rfl⟩
          rw [hf] at HF2 HP
          rw [wv_cells f] at HF2 HP
          replace HF2 := Lib.hid HF2
          by_cases hr0 : M % d = 0
          · obtain ⟨t1, t2⟩ := hdn.1 hr0
            have HQ := Lib.hid (show divQ a d = f by rw [hfq (-(M / d)) (by omega) (by omega) (by rw [hv]; exact t1), hf])
            have HRr := Lib.hid (show divR a d = 0 by rw [hfr, hv, t2])
            have KR : M % d = 0 := hr0
            clear hfq hfr hdn hneg hpos hM1 hu hf hv t1 t2 HP HO hr0 hr
            rw [KR]
            have y0 := A2.cell 0; have y1 := A2.cell 1
            go_wp2_with fail
            refine (HF2.out _).mono ?_; rintro e w4 ⟨rfl, hX4⟩
            replace A0 := hX4.at A0 (by simp)
            replace A1 := hX4.at A1 (by simp)
            replace A2 := hX4.at A2 (by simp)
            replace hX := hX.trans hX4
            clear hX4 y0 y1 a0
            have l0 := A1.cell 0; have l1 := A1.cell 1; have l2 := A1.frozen 0; have l3 := A1.frozen 1
            have y0 := A2.cell 0; have y1 := A2.cell 1; have f0 := A2.frozen 0; have f1 := A2.frozen 1
            have B0 := A0.other2 (c := y) (by omega) (.int .i64 f.hi) (.int .u64 f.lo)
            have B1 := A1.other2 (c := y) (by omega) (.int .i64 f.hi) (.int .u64 f.lo)
            have B2 := A2.set2 (.int .i64 f.hi) (.int .u64 f.lo)
            have hXd := hX.set2 (b := y) (by omega) (.int .i64 f.hi) (.int .u64 f.lo)
            clear A0 A1 A2 hX
            have A0 := B0; have A1 := B1; have A2 := B2; have hX := hXd
            clear B0 B1 B2 hXd
            have b0 := A0.cell 0
            have D := A1.set2 (.int .i64 f.hi) (.int .u64 f.lo)
            have hXd := hX.set2 (b := z + 1) (by omega) (.int .i64 f.hi) (.int .u64 f.lo)
            go_wp2_with fail
            clear y0 y1 f0 f1 b0 l0 l1 l2 l3
            have d0 := D.cell 0; have d1 := D.cell 1
            exact bodyPost_ret (v := .tuple #[.agg #[.int .i64 f.hi, .int .u64 f.lo], .int .i64 0, .bool true]) (by simp [results, Try.results36, go_sem, d0, d1]) rfl ⟨by rw [HQ.out, HRr.out, wv_cells], hXd⟩
          · obtain ⟨t1, t2⟩ := hdn.2 (by omega)
            obtain ⟨p, hp⟩ : ∃ p, wV (-(M / d) + -1) = p := ⟨_, rfl⟩
            rw [hp, wv_cells p] at HP
            have HQ := Lib.hid (show divQ a d = p by rw [hfq (-(M / d) + -1) (by omega) (by omega) (by rw [hv, t1]; omega), hp])
            have HRr := Lib.hid (show divR a d = d - M % d by rw [hfr, hv, t2])
            have hrp : 0 < M % d := by omega
            replace HP := Lib.hid HP
            replace HO := Lib.hid HO
            clear hfq hfr hdn hneg hpos hM1 hu hf hp hv t1 t2 hr0
            generalize M % d = r at *
            have KR : True := trivial
            have y0 := A2.cell 0; have y1 := A2.cell 1
            go_wp2_with fail
            refine (HF2.out _).mono ?_; rintro e w4 ⟨rfl, hX4⟩
            replace A0 := hX4.at A0 (by simp)
            replace A1 := hX4.at A1 (by simp)
            replace A2 := hX4.at A2 (by simp)
            replace hX := hX.trans hX4
            clear hX4 y0 y1 a0
            have y0 := A2.cell 0; have y1 := A2.cell 1; have f0 := A2.frozen 0; have f1 := A2.frozen 1
            have B0 := A0.other2 (c := y) (by omega) (.int .i64 f.hi) (.int .u64 f.lo)
            have B1 := A1.other2 (c := y) (by omega) (.int .i64 f.hi) (.int .u64 f.lo)
            have B2 := A2.set2 (.int .i64 f.hi) (.int .u64 f.lo)
            have hXd := hX.set2 (b := y) (by omega) (.int .i64 f.hi) (.int .u64 f.lo)
            clear A0 A1 A2 hX
            have A0 := B0; have A1 := B1; have A2 := B2; have hX := hXd
            clear B0 B1 B2 hXd
            have b0 := A0.cell 0
            go_wp2_with fail
            have Cd : CL w [(z, #[.int .i64 a.hi, .int .u64 a.lo]), (z + 1, #[.int .i64 0, .int .u64 0]), (y, #[.int .i64 f.hi, .int .u64 f.lo])] 0 ((w4.setCell ⟨y, 0, none⟩ (.int .i64 f.hi)).setCell ⟨y, 1, none⟩ (.int .u64 f.lo)).drew := by
              refine ⟨fun p hp => ?_, hX.drew⟩
              simp only [List.mem_cons, List.not_mem_nil, or_false] at hp
              rcases hp with rfl | rfl | rfl
              · exact A0.drew
              · exact A1.drew
              · exact A2.drew
            clear A0 A1 A2 hX b0 y0 y1 f0 f1
            refine wp_region_sttl (CL w [(z, #[.int .i64 a.hi, .int .u64 a.lo]), (z + 1, #[.int .i64 0, .int .u64 0]), (y, #[.int .i64 f.hi, .int .u64 f.lo])]) 2 [] [(0, 0, false), (0, 0, false)]
              (by kernel_rfl) (by kernel_rfl) (by kernel_rfl) (Cd) ?_
            simp only [List.take_succ_cons, List.take_zero, List.drop_succ_cons, List.drop_zero, List.zip_cons_cons, List.zip_nil_right]
            refine wpStage_yes (by go_simp) ?_
            intro K hK
            apply Exists.intro
            refine ⟨fun kk ww hk1 hk2 hC => ?_, ?_⟩
            · have c0 := (hC.get 2 rfl).cell 0; have c1 := (hC.get 2 rfl).cell 1
              go_simp
              with_reducible exact rfl
            go_simp
            refine hK _ ?_
            clear hK K
            refine wpStage_yes (by go_simp) ?_
            intro K hK
            apply Exists.intro
            refine ⟨fun kk ww hk1 hk2 hC => ?_, ?_⟩
            · go_simp
              go_at_call 29; refine (HO.out _).mono ?_; rintro e w' ⟨rfl, hX⟩
              exact ⟨rfl, hC.step hX⟩
            go_simp
            refine hK _ ?_
            clear hK K
            refine wpStage_nil (fun ww hC => ?_)
            clear Cd
            go_wp2_with fail
            refine (HP.out _).mono ?_; rintro e w5 ⟨rfl, hX5⟩
            have hC2 := hC.step (j := 0) hX5
            have B0 := hC2.get 0 rfl
            have B1 := hC2.get 1 rfl
            have B2 := hC2.get 2 rfl
            have hX := hC2.x
            simp only at B0 B1 B2
            clear hC hC2 hX5
            have l0 := B1.cell 0; have l1 := B1.cell 1; have l2 := B1.frozen 0; have l3 := B1.frozen 1
            have y0 := B2.cell 0; have y1 := B2.cell 1; have f0 := B2.frozen 0; have f1 := B2.frozen 1
            have A1 := B1.other2 (c := y) (by omega) (.int .i64 p.hi) (.int .u64 p.lo)
            have hX' := hX.set2 (b := y) (by omega) (.int .i64 p.hi) (.int .u64 p.lo)
            have D := A1.set2 (.int .i64 p.hi) (.int .u64 p.lo)
            have hXd := hX'.set2 (b := z + 1) (by omega) (.int .i64 p.hi) (.int .u64 p.lo)
            go_wp2_with fail
            clear y0 y1 f0 f1 l0 l1 l2 l3
            have d0 := D.cell 0; have d1 := D.cell 1
            exact bodyPost_ret (v := .tuple #[.agg #[.int .i64 p.hi, .int .u64 p.lo], .int .i64 (d - r), .bool true]) (by simp [results, Try.results36, go_sem, d0, d1]) rfl ⟨by rw [HQ.out, HRr.out, wv_cells], hXd⟩
        · have hv := hpos (by omega)
          have HQ := Lib.hid (show divQ a d = u by rw [hfq (M / d) (by omega) (by have := hM1 (by omega); omega) (by rw [hv]), hu])
          have HRr := Lib.hid (show divR a d = M % d by rw [hfr, hv])
          clear hfq hfr hdn hneg hpos hM1 hu hv HF2 HP HO
          generalize M % d = r at *
          have KR : True := trivial
          have y0 := A2.cell 0; have y1 := A2.cell 1; have b0 := A1.cell 0; have b1 := A1.cell 1; have f0 := A1.frozen 0; have f1 := A1.frozen 1
          go_wp2_with fail
          have D := A1.set2 (.int .i64 u.hi) (.int .u64 u.lo)
          have hXd := hX.set2 (b := z + 1) (by omega) (.int .i64 u.hi) (.int .u64 u.lo)
          clear y0 y1 b0 b1 f0 f1
          have d0 := D.cell 0; have d1 := D.cell 1
          exact bodyPost_ret (v := .tuple #[.agg #[.int .i64 u.hi, .int .u64 u.lo], .int .i64 r, .bool true]) (by simp [results, Try.results36, go_sem, d0, d1]) rfl ⟨by rw [HQ.out, HRr.out, wv_cells], hXd⟩
      · rw [show ((k + 1 : Nat) : Int) - 1 = k by omega]
        have hi0 : (0 : Int) ≤ k := by omega
        have ex := hRx.cell hlx k _ (Dx.out k (by omega))
        have hb : M / 2 ^ k % 2 = 0 ∨ M / 2 ^ k % 2 = 1 := by omega
        have hr := Hlt.out (k + 1)
        obtain ⟨s1, s2⟩ := Hstep.out k
        have hbq := quoL_set (M / d) k
        have hbk := quoL_keep (M / d) k
        have e0 := hQ.cell (quoL_len _ _) k 0 (quoL_at (M / d) k (by omega))
        have f0 := hQ.frozen (quoL_len _ _) k
        generalize M / 2 ^ k % 2 = x at *
        generalize M / 2 ^ (k + 1) % d = r at *
        by_cases hc : d ≤ 2 * r + x
        · obtain ⟨t1, t2⟩ := s1 hc
          have T1 := Lib.hid t1
          have hqq := hQ.stored (quoL_len _ _) k 1
          have hgr := (World.ownsRow.stored hQ k (.int .i64 1)).2
          rw [hbq t2] at hqq
          have hRy : IRow _ _ _ _ := World.ownsRow.kept hRx hgr (Or.inr (by simp [Value.ownBlock]; omega))
          have F0 := At.other E0 ⟨g, k, none⟩ (.int .i64 1) (by simp; omega)
          have F1 := At.other E1 ⟨g, k, none⟩ (.int .i64 1) (by simp; omega)
          have hX0' := hX0.setCell (p := ⟨g, k, none⟩) (Or.inr (by simp; omega)) (.int .i64 1)
          clear hbq hbk s1 s2 t1 t2 hgr
          go_wp2_with fail
          go_roundg (gk - 1)
          case rel => exact ⟨k, by omega, by omega, rfl, by rw [T1.out], hqq, hX0', hRy, F0, F1⟩
          case measure => omega
        · obtain ⟨t1, t2⟩ := s2 hc
          have T1 := Lib.hid t1
          rw [hbk t2] at hQ
          clear hbq hbk s1 s2 t1 t2
          go_wp2_with fail
          go_roundg (gk - 1)
          case rel => exact ⟨k, by omega, by omega, rfl, by rw [T1.out], hQ, hX0, hRx, E0, E1⟩
          case measure => omega
end Go.Proofs.Ythdjanjlpgcmoaa
