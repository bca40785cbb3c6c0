/- The reference of wide: Of, Flip, Add, Sub, Neg, Cmp, Int. -/
import Derived.Test.YthdjanjlpgcmoaaWrp
import Derived.Test.YthdjanjlpgcmoaaInv
namespace Go.Proofs.Ythdjanjlpgcmoaa
open Go.RowKit

theorem At.set2 {w : World} {b : Nat} {x y : Value} (h : At w b #[x, y]) (p q : Value) : At ((w.setCell ⟨b, 0, none⟩ p).setCell ⟨b, 1, none⟩ q) b #[p, q] :=
  (h.set 0 p (cs' := #[p, y]) rfl).set 1 q (cs' := #[p, q]) rfl
theorem Chg.set2 {S : List Nat} {a w : World} {b : Nat} (h : Chg S a w) (hb : a.heap.size ≤ b) (p q : Value) : Chg S a ((w.setCell ⟨b, 0, none⟩ p).setCell ⟨b, 1, none⟩ q) :=
  (h.setCell (p := ⟨b, 0, none⟩) (Or.inr hb) p).setCell (p := ⟨b, 1, none⟩) (Or.inr hb) q
theorem wv_cells (a : WV) : a.cells = #[.int .i64 a.hi, .int .u64 a.lo] := rfl

theorem not_i (a : Int) (h0 : -9223372036854775808 ≤ a) (h1 : a ≤ 9223372036854775807) : bits .xor .i64 (-1) a = -a - 1 := by
  have e : ((bv a).toNat : Int) = a % 18446744073709551616 := by
    unfold bv
    rw [BitVec.toNat_ofInt]
    have : ((2 ^ 64 : Nat) : Int) = 18446744073709551616 := rfl
    rw [this]
    omega
  rw [xor_i, show bv (-1) = BitVec.allOnes 64 from rfl, BitVec.allOnes_xor, BitVec.toInt_not, e]
  rw [show ((2 : Int) ^ 64 - 1 - a % 18446744073709551616) = 18446744073709551615 - a % 18446744073709551616 from rfl, show (2 ^ 64 : Nat) = 18446744073709551616 from rfl, Int.bmod_def]
  split <;> omega
theorem not_u (a : Int) (h0 : 0 ≤ a) (h1 : a ≤ 18446744073709551615) : bits .xor .u64 IntKind.u64.max a = 18446744073709551615 - a := by
  have e := bv_toNat a h0 h1
  rw [xor_u, show bv IntKind.u64.max = BitVec.allOnes 64 from rfl, BitVec.allOnes_xor, BitVec.toNat_not]
  have := (bv a).isLt
  omega
theorem rof_any (w : World) (n : Int) (h0 : -9223372036854775808 ≤ n) (h1 : n ≤ 9223372036854775807) : Calls Try.prog 29 #[.int .i64 n] w fun e w' => e = .returned (.agg (ofV n).cells) ∧ Chg [] w w' := by
  have hA := At.new w #[.int .i64 0, .int .u64 0] 43
  have c0 := hA.cell 0; have c1 := hA.cell 1; have f0 := hA.frozen 0; have f1 := hA.frozen 1
  have Hr := Lib.hid (show (ofV n).cells = #[.int .i64 (if n < 0 then -1 else 0), .int .u64 (n % 18446744073709551616)] by
    unfold ofV WV.cells
    simp only
    rw [show n / 18446744073709551616 = if n < 0 then -1 else 0 by split <;> omega])
  by_cases hn : n < 0
  · go_enter Try.func29, Try.ntmps29
    go_wp2_with fail
    go_returns
    exact ⟨by rw [Hr.out, if_pos hn]; rfl, (Chg.refl _ _).alloc _⟩
  · go_enter Try.func29, Try.ntmps29
    go_wp2_with fail
    go_returns
    exact ⟨by rw [Hr.out, if_neg (by omega), Int.emod_eq_of_lt hn (by omega)], (Chg.refl _ _).alloc _⟩

theorem rflip_any (w : World) (a : WV) (ha : a.ok) : Calls Try.prog 53 #[.agg a.cells] w fun e w' => e = .returned (.agg (wV (-a.val)).cells) ∧ Chg [] w w' := by
  have hA := (At.new w #[.int .i64 a.hi, .int .u64 a.lo] 43).alloc (.cells #[.int .i64 0, .int .u64 0] 43)
  have hB := At.new (w.alloc (.cells #[.int .i64 a.hi, .int .u64 a.lo] 43)) #[.int .i64 0, .int .u64 0] 43
  rw [show (w.alloc (.cells #[.int .i64 a.hi, .int .u64 a.lo] 43)).heap.size = w.heap.size + 1 by simp] at hB
  have hX := ((Chg.refl [] w).alloc (.cells #[.int .i64 a.hi, .int .u64 a.lo] 43)).alloc (.cells #[.int .i64 0, .int .u64 0] 43)
  have c0 := hA.cell 0; have c1 := hA.cell 1
  have n0 := not_i a.hi ha.h0 ha.h1
  have n1 := not_u a.lo ha.l0 ha.l1
  have b0 := ha.h0; have b1 := ha.h1; have b2 := ha.l0; have b3 := ha.l1
  have HP := fun w => rplus_any w ⟨-a.hi - 1, 18446744073709551615 - a.lo⟩ ⟨0, 1⟩ ⟨by simp only; omega, by simp only; omega, by simp only; omega, by simp only; omega⟩ ⟨by decide, by decide, by decide, by decide⟩
  rw [show (WV.mk (-a.hi - 1) (18446744073709551615 - a.lo)).val + (WV.mk 0 1).val = -a.val by unfold WV.val; simp only; omega,
    wv_cells ⟨-a.hi - 1, 18446744073709551615 - a.lo⟩, wv_cells ⟨0, 1⟩, wv_cells (wV _)] at HP
  simp only at HP
  rw [wv_cells a, wv_cells (wV _)]
  generalize (wV (-a.val)).hi = rh at *
  generalize (wV (-a.val)).lo = rl at *
  replace HP := Lib.hid HP
  have q1 : IntKind.i64.signed = true := rfl
  have q2 : IntKind.u64.signed = false := rfl
  clear b0 b1 b2 b3 ha
  go_enter Try.func53, Try.ntmps53
  go_wp2_with fail
  refine (HP.out _).mono ?_; rintro e w2 ⟨rfl, hX2⟩
  have hB2 := hX2.at hB (by simp)
  have hX3 := hX.trans hX2
  clear c0 c1 n0 n1
  have c0 := hB2.cell 0; have c1 := hB2.cell 1; have f0 := hB2.frozen 0; have f1 := hB2.frozen 1
  go_wp2_with fail
  clear c0 c1 f0 f1
  have d := hB2.set2 (.int .i64 rh) (.int .u64 rl)
  have d0 := d.cell 0; have d1 := d.cell 1
  exact bodyPost_ret (v := .agg #[.int .i64 rh, .int .u64 rl]) (by simp [results, Try.results53, go_sem, d0, d1]) rfl ⟨rfl, hX3.set2 (by omega) _ _⟩
/-- Two numbers in boxes, a result's cell behind them. -/
theorem start2 (w : World) (a b : WV) : At (((w.alloc (.cells #[.int .i64 a.hi, .int .u64 a.lo] 43)).alloc (.cells #[.int .i64 b.hi, .int .u64 b.lo] 43)).alloc (.cells #[.int .i64 0, .int .u64 0] 43)) w.heap.size #[.int .i64 a.hi, .int .u64 a.lo] ∧
    At (((w.alloc (.cells #[.int .i64 a.hi, .int .u64 a.lo] 43)).alloc (.cells #[.int .i64 b.hi, .int .u64 b.lo] 43)).alloc (.cells #[.int .i64 0, .int .u64 0] 43)) (w.heap.size + 1) #[.int .i64 b.hi, .int .u64 b.lo] ∧
    At (((w.alloc (.cells #[.int .i64 a.hi, .int .u64 a.lo] 43)).alloc (.cells #[.int .i64 b.hi, .int .u64 b.lo] 43)).alloc (.cells #[.int .i64 0, .int .u64 0] 43)) (w.heap.size + 1 + 1) #[.int .i64 0, .int .u64 0] ∧
    Chg [] w (((w.alloc (.cells #[.int .i64 a.hi, .int .u64 a.lo] 43)).alloc (.cells #[.int .i64 b.hi, .int .u64 b.lo] 43)).alloc (.cells #[.int .i64 0, .int .u64 0] 43)) := by
  have A0 := ((At.new w #[.int .i64 a.hi, .int .u64 a.lo] 43).alloc (.cells #[.int .i64 b.hi, .int .u64 b.lo] 43)).alloc (.cells #[.int .i64 0, .int .u64 0] 43)
  have A1 := (At.new (w.alloc (.cells #[.int .i64 a.hi, .int .u64 a.lo] 43)) #[.int .i64 b.hi, .int .u64 b.lo] 43).alloc (.cells #[.int .i64 0, .int .u64 0] 43)
  have A2 := At.new ((w.alloc (.cells #[.int .i64 a.hi, .int .u64 a.lo] 43)).alloc (.cells #[.int .i64 b.hi, .int .u64 b.lo] 43)) #[.int .i64 0, .int .u64 0] 43
  rw [show (w.alloc (.cells #[.int .i64 a.hi, .int .u64 a.lo] 43)).heap.size = w.heap.size + 1 by simp] at A1
  rw [show ((w.alloc (.cells #[.int .i64 a.hi, .int .u64 a.lo] 43)).alloc (.cells #[.int .i64 b.hi, .int .u64 b.lo] 43)).heap.size = w.heap.size + 1 + 1 by simp] at A2
  exact ⟨A0, A1, A2, (((Chg.refl [] w).alloc _).alloc _).alloc _⟩
/-- What the reference's add reckons. -/
theorem radd_plain (a b : WV) (ha : a.ok) (hb : b.ok) (s : WV) (hs : wV (a.val + b.val) = s) :
    (((a.hi < 0 ↔ b.hi < 0) ∧ ¬(s.hi < 0 ↔ a.hi < 0)) → fitsV (a.val + b.val) = false ∧ addV (a.val + b.val) = WV.zero) ∧ (¬((a.hi < 0 ↔ b.hi < 0) ∧ ¬(s.hi < 0 ↔ a.hi < 0)) → fitsV (a.val + b.val) = true ∧ addV (a.val + b.val) = s) := by
  have hx : fitsV (a.val + b.val) = false ↔ ((a.hi < 0 ↔ b.hi < 0) ∧ ¬(s.hi < 0 ↔ a.hi < 0)) := by
    rw [← hs, ← Bool.not_eq_true, fitsV_iff]
    obtain ⟨ah, al⟩ := a
    obtain ⟨bh, bl⟩ := b
    have a1 : -9223372036854775808 ≤ ah := ha.h0
    have a2 : ah ≤ 9223372036854775807 := ha.h1
    have a3 : 0 ≤ al := ha.l0
    have a4 : al ≤ 18446744073709551615 := ha.l1
    have b1 : -9223372036854775808 ≤ bh := hb.h0
    have b2 : bh ≤ 9223372036854775807 := hb.h1
    have b3 : 0 ≤ bl := hb.l0
    have b4 : bl ≤ 18446744073709551615 := hb.l1
    unfold wV WV.val wrap64
    simp only
    omega
  refine ⟨fun h => ?_, fun h => ?_⟩
  · have hf := hx.2 h
    exact ⟨hf, by unfold addV; rw [if_neg (by rw [hf]; decide)]⟩
  · have hf : fitsV (a.val + b.val) = true := by
      rcases Bool.eq_false_or_eq_true (fitsV (a.val + b.val)) with e | e
      · exact e
      · exact absurd (hx.1 e) h
    refine ⟨hf, ?_⟩
    unfold addV
    rw [if_pos hf, ← hs, wV_fits _ hf]
set_option maxHeartbeats 1000000 in
theorem radd_any (w : World) (a b : WV) (ha : a.ok) (hb : b.ok) : Calls Try.prog 37 #[.agg a.cells, .agg b.cells] w fun e w' => e = .returned (.tuple #[.agg (addV (a.val + b.val)).cells, .bool (fitsV (a.val + b.val))]) ∧ Chg [] w w' := by
  obtain ⟨A0, A1, A2, hX⟩ := start2 w a b
  have HP := fun w => rplus_any w a b ha hb
  have c0 := A0.cell 0; have c1 := A0.cell 1; have d0 := A1.cell 0; have d1 := A1.cell 1
  obtain ⟨s, hs⟩ : ∃ s, wV (a.val + b.val) = s := ⟨_, rfl⟩
  obtain ⟨p1, p2⟩ := radd_plain a b ha hb s hs
  rw [hs] at HP
  rw [wv_cells a, wv_cells b, wv_cells s] at *
  replace HP := Lib.hid HP
  obtain ⟨res, hres⟩ : ∃ r, addV (a.val + b.val) = r := ⟨_, rfl⟩
  obtain ⟨fv, hfv⟩ : ∃ r, fitsV (a.val + b.val) = r := ⟨_, rfl⟩
  rw [hres, hfv] at p1 p2 ⊢
  have P1 := Lib.hid p1
  have P2 := Lib.hid p2
  clear p1 p2 hs hres hfv ha hb
  go_enter Try.func37, Try.ntmps37
  generalize hzw : w.heap.size = z at *
  go_wp2_with fail
  refine (HP.out _).mono ?_; rintro e w2 ⟨rfl, hX2⟩
  clear c0 c1 d0 d1
  have B0 := (hX2.at A0 (by simp)).alloc (.cells #[.int .i64 s.hi, .int .u64 s.lo] 43)
  have B1 := (hX2.at A1 (by simp)).alloc (.cells #[.int .i64 s.hi, .int .u64 s.lo] 43)
  have B2 := (hX2.at A2 (by simp)).alloc (.cells #[.int .i64 s.hi, .int .u64 s.lo] 43)
  have BS := At.new w2 #[.int .i64 s.hi, .int .u64 s.lo] 43
  have hX4 := (hX.trans hX2).alloc (.cells #[.int .i64 s.hi, .int .u64 s.lo] 43)
  generalize hzy : w2.heap.size = y at *
  have a0 := B0.cell 0; have a1 := B0.cell 1; have b0 := B1.cell 0; have b1 := B1.cell 1; have s0 := BS.cell 0; have s1 := BS.cell 1
  have r0 := B2.cell 0; have r1 := B2.cell 1; have g0 := B2.frozen 0; have g1 := B2.frozen 1
  by_cases hc : (a.hi < 0 ↔ b.hi < 0) ∧ ¬(s.hi < 0 ↔ a.hi < 0)
  · obtain ⟨rfl, rfl⟩ := P1.out hc
    rcases Bool.eq_false_or_eq_true (decide (a.hi < 0)) with e1 | e1 <;> rcases Bool.eq_false_or_eq_true (decide (b.hi < 0)) with e2 | e2 <;> rcases Bool.eq_false_or_eq_true (decide (s.hi < 0)) with e3 | e3
    all_goals
      have h1 := e1; have h2 := e2; have h3 := e3
      simp only [decide_eq_true_eq, decide_eq_false_iff_not] at h1 h2 h3
    all_goals first
      | (exfalso; omega)
      | (clear hc P1 P2
         go_wp2_with fail
         clear a0 a1 b0 b1 s0 s1 r0 r1 g0 g1
         have d := B2.set2 (.int .i64 0) (.int .u64 0)
         have d0 := d.cell 0; have d1 := d.cell 1
         exact bodyPost_ret (v := .tuple #[.agg #[.int .i64 0, .int .u64 0], .bool false]) (by simp [results, Try.results37, go_sem, d0, d1]) rfl ⟨rfl, hX4.set2 (by omega) _ _⟩)
  · obtain ⟨rfl, rfl⟩ := P2.out hc
    rcases Bool.eq_false_or_eq_true (decide (a.hi < 0)) with e1 | e1 <;> rcases Bool.eq_false_or_eq_true (decide (b.hi < 0)) with e2 | e2 <;> rcases Bool.eq_false_or_eq_true (decide (res.hi < 0)) with e3 | e3
    all_goals
      have h1 := e1; have h2 := e2; have h3 := e3
      simp only [decide_eq_true_eq, decide_eq_false_iff_not] at h1 h2 h3
    all_goals first
      | (exfalso; omega)
      | (clear hc P1 P2
         go_wp2_with fail
         clear a0 a1 b0 b1 s0 s1 r0 r1 g0 g1
         have d := B2.set2 (.int .i64 res.hi) (.int .u64 res.lo)
         have d0 := d.cell 0; have d1 := d.cell 1
         exact bodyPost_ret (v := .tuple #[.agg #[.int .i64 res.hi, .int .u64 res.lo], .bool true]) (by simp [results, Try.results37, go_sem, d0, d1]) rfl ⟨rfl, hX4.set2 (by omega) _ _⟩)
/-- What the reference's sub reckons. -/
theorem rsub_plain (a b : WV) (ha : a.ok) (hb : b.ok) (s : WV) (hs : wV (a.val - b.val) = s) :
    ((¬(a.hi < 0 ↔ b.hi < 0) ∧ ¬(s.hi < 0 ↔ a.hi < 0)) → fitsV (a.val - b.val) = false ∧ addV (a.val - b.val) = WV.zero) ∧ (¬(¬(a.hi < 0 ↔ b.hi < 0) ∧ ¬(s.hi < 0 ↔ a.hi < 0)) → fitsV (a.val - b.val) = true ∧ addV (a.val - b.val) = s) := by
  have hx : fitsV (a.val - b.val) = false ↔ (¬(a.hi < 0 ↔ b.hi < 0) ∧ ¬(s.hi < 0 ↔ a.hi < 0)) := by
    rw [← hs, ← Bool.not_eq_true, fitsV_iff]
    obtain ⟨ah, al⟩ := a
    obtain ⟨bh, bl⟩ := b
    have a1 : -9223372036854775808 ≤ ah := ha.h0
    have a2 : ah ≤ 9223372036854775807 := ha.h1
    have a3 : 0 ≤ al := ha.l0
    have a4 : al ≤ 18446744073709551615 := ha.l1
    have b1 : -9223372036854775808 ≤ bh := hb.h0
    have b2 : bh ≤ 9223372036854775807 := hb.h1
    have b3 : 0 ≤ bl := hb.l0
    have b4 : bl ≤ 18446744073709551615 := hb.l1
    unfold wV WV.val wrap64
    simp only
    omega
  refine ⟨fun h => ?_, fun h => ?_⟩
  · have hf := hx.2 h
    exact ⟨hf, by unfold addV; rw [if_neg (by rw [hf]; decide)]⟩
  · have hf : fitsV (a.val - b.val) = true := by
      rcases Bool.eq_false_or_eq_true (fitsV (a.val - b.val)) with e | e
      · exact e
      · exact absurd (hx.1 e) h
    refine ⟨hf, ?_⟩
    unfold addV
    rw [if_pos hf, ← hs, wV_fits _ hf]
/-- What has come up of Sub's first region. -/
structure SubI (w : World) (z : Nat) (a b s : WV) (fh fl : Int) (L : Array Bool) (ac : Act) (wx : World) : Prop where
  ex : ∃ v6 v7 v8 v9 v10, ac = { tmps := #[.agg #[.int .i64 a.hi, .int .u64 a.lo], .agg #[.int .i64 b.hi, .int .u64 b.lo], .pointer (some ⟨z, 0, none⟩), .pointer (some ⟨z + 1, 0, none⟩), .pointer (some ⟨z + 1 + 1, 0, none⟩), .bool false, v6, v7, v8, v9, v10, undef, undef, undef, undef, undef, undef, undef, undef, undef, undef, undef, undef, undef, undef, undef, undef, undef, undef], defers := [] } ∧ (L.getD 0 false = true → v7 = .agg #[.int .i64 a.hi, .int .u64 a.lo]) ∧ (L.getD 1 false = true → v8 = .agg #[.int .i64 b.hi, .int .u64 b.lo]) ∧
      (L.getD 2 false = true → v9 = .agg #[.int .i64 fh, .int .u64 fl]) ∧ (L.getD 3 false = true → v10 = .agg #[.int .i64 s.hi, .int .u64 s.lo]) ∧ (L.getD 4 false = true → ∃ y, v6 = .pointer (some ⟨y, 0, none⟩) ∧ z + 1 + 1 < y ∧ At wx y (if L.getD 5 false = true then #[.int .i64 s.hi, .int .u64 s.lo] else #[.int .i64 0, .int .u64 0])) ∧
      (L.getD 5 false = true → L.getD 4 false = true) ∧ At wx z #[.int .i64 a.hi, .int .u64 a.lo] ∧ At wx (z + 1) #[.int .i64 b.hi, .int .u64 b.lo] ∧ At wx (z + 1 + 1) #[.int .i64 0, .int .u64 0] ∧ Chg [] w wx
end Go.Proofs.Ythdjanjlpgcmoaa
