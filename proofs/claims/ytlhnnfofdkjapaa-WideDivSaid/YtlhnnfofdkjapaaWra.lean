/- The reference of wide: Of, Flip, Add, Sub, Neg, Cmp, Int. -/
import Derived.Test.YtlhnnfofdkjapaaWrp
import Derived.Test.YtlhnnfofdkjapaaInv
namespace Go.Proofs.Ytlhnnfofdkjapaa
open Go.RowKit

theorem At.set2 {w : World} {b : Nat} {x y : Value} (h : At w b #[x, y]) (p q : Value) : At ((w.setCell ⟨b, 0, none⟩ p).setCell ⟨b, 1, none⟩ q) b #[p, q] :=
  (h.set 0 p (cs' := #[p, y]) rfl).set 1 q (cs' := #[p, q]) rfl
theorem Chg.set2 {S : List Nat} {a w : World} {b : Nat} (h : Chg S a w) (hb : a.heap.size ≤ b) (p q : Value) : Chg S a ((w.setCell ⟨b, 0, none⟩ p).setCell ⟨b, 1, none⟩ q) :=
  (h.setCell (p := ⟨b, 0, none⟩) (Or.inr hb) p).setCell (p := ⟨b, 1, none⟩) (Or.inr hb) q
theorem wv_cells (a : WV) : a.cells = #[.int .i64 a.hi, .int .u64 a.lo] := rfl

theorem not_i (a : Int) (h0 : -9223372036854775808 ≤ a) (h1 : a ≤ 9223372036854775807) : bits .xor .i64 (-1) a = -a - 1 := by
  have e : ((bv a).toNat : Int) = a % 18446744073709551616 := by
    unfold bv
    rw [BitVec.toNat_ofInt]
    have : ((2 ^ 64 : Nat) : Int) = 18446744073709551616 := rfl
    rw [this]
    omega
  rw [xor_i, show bv (-1) = BitVec.allOnes 64 from rfl, BitVec.allOnes_xor, BitVec.toInt_not, e]
  rw [show ((2 : Int) ^ 64 - 1 - a % 18446744073709551616) = 18446744073709551615 - a % 18446744073709551616 from rfl, show (2 ^ 64 : Nat) = 18446744073709551616 from rfl, Int.bmod_def]
  split <;> omega
theorem not_u (a : Int) (h0 : 0 ≤ a) (h1 : a ≤ 18446744073709551615) : bits .xor .u64 IntKind.u64.max a = 18446744073709551615 - a := by
  have e := bv_toNat a h0 h1
  rw [xor_u, show bv IntKind.u64.max = BitVec.allOnes 64 from rfl, BitVec.allOnes_xor, BitVec.toNat_not]
  have := (bv a).isLt
  omega
theorem rof_any (w : World) (n : Int) (h0 : -9223372036854775808 ≤ n) (h1 : n ≤ 9223372036854775807) : Calls Try.prog 30 #[.int .i64 n] w fun e w' => e = .returned (.agg (ofV n).cells) ∧ Chg [] w w' := by
  have hA := At.new w #[.int .i64 0, .int .u64 0] 27
  have c0 := hA.cell 0; have c1 := hA.cell 1; have f0 := hA.frozen 0; have f1 := hA.frozen 1
  have Hr := Lib.hid (show (ofV n).cells = #[.int .i64 (if n < 0 then -1 else 0), .int .u64 (n % 18446744073709551616)] by
    unfold ofV WV.cells
    simp only
    rw [show n / 18446744073709551616 = if n < 0 then -1 else 0 by split <;> omega])
  by_cases hn : n < 0
  · go_enter Try.func30, Try.ntmps30
    go_wp2_with fail
    go_returns
    exact ⟨by rw [Hr.out, if_pos hn]; rfl, (Chg.refl _ _).alloc _⟩
  · go_enter Try.func30, Try.ntmps30
    go_wp2_with fail
    go_returns
    exact ⟨by rw [Hr.out, if_neg (by omega), Int.emod_eq_of_lt hn (by omega)], (Chg.refl _ _).alloc _⟩

theorem rflip_any (w : World) (a : WV) (ha : a.ok) : Calls Try.prog 32 #[.agg a.cells] w fun e w' => e = .returned (.agg (wV (-a.val)).cells) ∧ Chg [] w w' := by
  have hA := (At.new w #[.int .i64 a.hi, .int .u64 a.lo] 27).alloc (.cells #[.int .i64 0, .int .u64 0] 27)
  have hB := At.new (w.alloc (.cells #[.int .i64 a.hi, .int .u64 a.lo] 27)) #[.int .i64 0, .int .u64 0] 27
  rw [show (w.alloc (.cells #[.int .i64 a.hi, .int .u64 a.lo] 27)).heap.size = w.heap.size + 1 by simp] at hB
  have hX := ((Chg.refl [] w).alloc (.cells #[.int .i64 a.hi, .int .u64 a.lo] 27)).alloc (.cells #[.int .i64 0, .int .u64 0] 27)
  have c0 := hA.cell 0; have c1 := hA.cell 1
  have n0 := not_i a.hi ha.h0 ha.h1
  have n1 := not_u a.lo ha.l0 ha.l1
  have b0 := ha.h0; have b1 := ha.h1; have b2 := ha.l0; have b3 := ha.l1
  have HP := fun w => rplus_any w ⟨-a.hi - 1, 18446744073709551615 - a.lo⟩ ⟨0, 1⟩ ⟨by simp only; omega, by simp only; omega, by simp only; omega, by simp only; omega⟩ ⟨by decide, by decide, by decide, by decide⟩
  rw [show (WV.mk (-a.hi - 1) (18446744073709551615 - a.lo)).val + (WV.mk 0 1).val = -a.val by unfold WV.val; simp only; omega,
    wv_cells ⟨-a.hi - 1, 18446744073709551615 - a.lo⟩, wv_cells ⟨0, 1⟩, wv_cells (wV _)] at HP
  simp only at HP
  rw [wv_cells a, wv_cells (wV _)]
  generalize (wV (-a.val)).hi = rh at *
  generalize (wV (-a.val)).lo = rl at *
  replace HP := Lib.hid HP
  have q1 : IntKind.i64.signed = true := rfl
  have q2 : IntKind.u64.signed = false := rfl
  clear b0 b1 b2 b3 ha
  go_enter Try.func32, Try.ntmps32
  go_wp2_with fail
  refine (HP.out _).mono ?_; rintro e w2 ⟨rfl, hX2⟩
  have hB2 := hX2.at hB (by simp)
  have hX3 := hX.trans hX2
  clear c0 c1 n0 n1
  have c0 := hB2.cell 0; have c1 := hB2.cell 1; have f0 := hB2.frozen 0; have f1 := hB2.frozen 1
  go_wp2_with fail
  clear c0 c1 f0 f1
  have d := hB2.set2 (.int .i64 rh) (.int .u64 rl)
  have d0 := d.cell 0; have d1 := d.cell 1
  exact bodyPost_ret (v := .agg #[.int .i64 rh, .int .u64 rl]) (by simp [results, Try.results32, go_sem, d0, d1]) rfl ⟨rfl, hX3.set2 (by omega) _ _⟩
/-- Two numbers in boxes, a result's cell behind them. -/
theorem start2 (w : World) (a b : WV) : At (((w.alloc (.cells #[.int .i64 a.hi, .int .u64 a.lo] 27)).alloc (.cells #[.int .i64 b.hi, .int .u64 b.lo] 27)).alloc (.cells #[.int .i64 0, .int .u64 0] 27)) w.heap.size #[.int .i64 a.hi, .int .u64 a.lo] ∧
    At (((w.alloc (.cells #[.int .i64 a.hi, .int .u64 a.lo] 27)).alloc (.cells #[.int .i64 b.hi, .int .u64 b.lo] 27)).alloc (.cells #[.int .i64 0, .int .u64 0] 27)) (w.heap.size + 1) #[.int .i64 b.hi, .int .u64 b.lo] ∧
    At (((w.alloc (.cells #[.int .i64 a.hi, .int .u64 a.lo] 27)).alloc (.cells #[.int .i64 b.hi, .int .u64 b.lo] 27)).alloc (.cells #[.int .i64 0, .int .u64 0] 27)) (w.heap.size + 1 + 1) #[.int .i64 0, .int .u64 0] ∧
    Chg [] w (((w.alloc (.cells #[.int .i64 a.hi, .int .u64 a.lo] 27)).alloc (.cells #[.int .i64 b.hi, .int .u64 b.lo] 27)).alloc (.cells #[.int .i64 0, .int .u64 0] 27)) := by
  have A0 := ((At.new w #[.int .i64 a.hi, .int .u64 a.lo] 27).alloc (.cells #[.int .i64 b.hi, .int .u64 b.lo] 27)).alloc (.cells #[.int .i64 0, .int .u64 0] 27)
  have A1 := (At.new (w.alloc (.cells #[.int .i64 a.hi, .int .u64 a.lo] 27)) #[.int .i64 b.hi, .int .u64 b.lo] 27).alloc (.cells #[.int .i64 0, .int .u64 0] 27)
  have A2 := At.new ((w.alloc (.cells #[.int .i64 a.hi, .int .u64 a.lo] 27)).alloc (.cells #[.int .i64 b.hi, .int .u64 b.lo] 27)) #[.int .i64 0, .int .u64 0] 27
  rw [show (w.alloc (.cells #[.int .i64 a.hi, .int .u64 a.lo] 27)).heap.size = w.heap.size + 1 by simp] at A1
  rw [show ((w.alloc (.cells #[.int .i64 a.hi, .int .u64 a.lo] 27)).alloc (.cells #[.int .i64 b.hi, .int .u64 b.lo] 27)).heap.size = w.heap.size + 1 + 1 by simp] at A2
  exact ⟨A0, A1, A2, (((Chg.refl [] w).alloc _).alloc _).alloc _⟩
/-- What the reference's add reckons. -/
theorem radd_plain (a b : WV) (ha : a.ok) (hb : b.ok) (s : WV) (hs : wV (a.val + b.val) = s) :
    (((a.hi < 0 ↔ b.hi < 0) ∧ ¬(s.hi < 0 ↔ a.hi < 0)) → fitsV (a.val + b.val) = false ∧ addV (a.val + b.val) = WV.zero) ∧ (¬((a.hi < 0 ↔ b.hi < 0) ∧ ¬(s.hi < 0 ↔ a.hi < 0)) → fitsV (a.val + b.val) = true ∧ addV (a.val + b.val) = s) := by
  have hx : fitsV (a.val + b.val) = false ↔ ((a.hi < 0 ↔ b.hi < 0) ∧ ¬(s.hi < 0 ↔ a.hi < 0)) := by
    rw [← hs, ← Bool.not_eq_true, fitsV_iff]
    obtain ⟨ah, al⟩ := a
    obtain ⟨bh, bl⟩ := b
    have a1 : -9223372036854775808 ≤ ah := ha.h0
    have a2 : ah ≤ 9223372036854775807 := ha.h1
    have a3 : 0 ≤ al := ha.l0
    have a4 : al ≤ 18446744073709551615 := ha.l1
    have b1 : -9223372036854775808 ≤ bh := hb.h0
    have b2 : bh ≤ 9223372036854775807 := hb.h1
    have b3 : 0 ≤ bl := hb.l0
    have b4 : bl ≤ 18446744073709551615 := hb.l1
    unfold wV WV.val wrap64
    simp only
    omega
  refine ⟨fun h => ?_, fun h => ?_⟩
  · have hf := hx.2 h
    exact ⟨hf, by unfold addV; rw [if_neg (by rw [hf]; decide)]⟩
  · have hf : fitsV (a.val + b.val) = true := by
      rcases Bool.eq_false_or_eq_true (fitsV (a.val + b.val)) with e | e
      · exact e
      · exact absurd (hx.1 e) h
    refine ⟨hf, ?_⟩
    unfold addV
    rw [if_pos hf, ← hs, wV_fits _ hf]
set_option maxHeartbeats 1000000 in
theorem radd_any (w : World) (a b : WV) (ha : a.ok) (hb : b.ok) : Calls Try.prog 23 #[.agg a.cells, .agg b.cells] w fun e w' => e = .returned (.tuple #[.agg (addV (a.val + b.val)).cells, .bool (fitsV (a.val + b.val))]) ∧ Chg [] w w' := by
  obtain ⟨A0, A1, A2, hX⟩ := start2 w a b
  have HP := fun w => rplus_any w a b ha hb
  have c0 := A0.cell 0; have c1 := A0.cell 1; have d0 := A1.cell 0; have d1 := A1.cell 1
  obtain ⟨s, hs⟩ : ∃ s, wV (a.val + b.val) = s := ⟨_, rfl⟩
  obtain ⟨p1, p2⟩ := radd_plain a b ha hb s hs
  rw [hs] at HP
  rw [wv_cells a, wv_cells b, wv_cells s] at *
  replace HP := Lib.hid HP
  obtain ⟨res, hres⟩ : ∃ r, addV (a.val + b.val) = r := ⟨_, rfl⟩
  obtain ⟨fv, hfv⟩ : ∃ r, fitsV (a.val + b.val) = r := ⟨_, rfl⟩
  rw [hres, hfv] at p1 p2 ⊢
  have P1 := Lib.hid p1
  have P2 := Lib.hid p2
  clear p1 p2 hs hres hfv ha hb
  go_enter Try.func23, Try.ntmps23
  generalize hzw : w.heap.size = z at *
  go_wp2_with fail
  refine (HP.out _).mono ?_; rintro e w2 ⟨rfl, hX2⟩
  clear c0 c1 d0 d1
  have B0 := (hX2.at A0 (by simp)).alloc (.cells #[.int .i64 s.hi, .int .u64 s.lo] 27)
  have B1 := (hX2.at A1 (by simp)).alloc (.cells #[.int .i64 s.hi, .int .u64 s.lo] 27)
  have B2 := (hX2.at A2 (by simp)).alloc (.cells #[.int .i64 s.hi, .int .u64 s.lo] 27)
  have BS := At.new w2 #[.int .i64 s.hi, .int .u64 s.lo] 27
  have hX4 := (hX.trans hX2).alloc (.cells #[.int .i64 s.hi, .int .u64 s.lo] 27)
  generalize hzy : w2.heap.size = y at *
  have a0 := B0.cell 0; have a1 := B0.cell 1; have b0 := B1.cell 0; have b1 := B1.cell 1; have s0 := BS.cell 0; have s1 := BS.cell 1
  have r0 := B2.cell 0; have r1 := B2.cell 1; have g0 := B2.frozen 0; have g1 := B2.frozen 1
  by_cases hc : (a.hi < 0 ↔ b.hi < 0) ∧ ¬(s.hi < 0 ↔ a.hi < 0)
  · obtain ⟨rfl, rfl⟩ := P1.out hc
    rcases Bool.eq_false_or_eq_true (decide (a.hi < 0)) with e1 | e1 <;> rcases Bool.eq_false_or_eq_true (decide (b.hi < 0)) with e2 | e2 <;> rcases Bool.eq_false_or_eq_true (decide (s.hi < 0)) with e3 | e3
    all_goals
      have h1 := e1; have h2 := e2; have h3 := e3
      simp only [decide_eq_true_eq, decide_eq_false_iff_not] at h1 h2 h3
    all_goals first
      | (exfalso; omega)
      | (clear hc P1 P2
         go_wp2_with fail
         clear a0 a1 b0 b1 s0 s1 r0 r1 g0 g1
         have d := B2.set2 (.int .i64 0) (.int .u64 0)
         have d0 := d.cell 0; have d1 := d.cell 1
         exact bodyPost_ret (v := .tuple #[.agg #[.int .i64 0, .int .u64 0], .bool false]) (by simp [results, Try.results23, go_sem, d0, d1]) rfl ⟨rfl, hX4.set2 (by omega) _ _⟩)
  · obtain ⟨rfl, rfl⟩ := P2.out hc
    rcases Bool.eq_false_or_eq_true (decide (a.hi < 0)) with e1 | e1 <;> rcases Bool.eq_false_or_eq_true (decide (b.hi < 0)) with e2 | e2 <;> rcases Bool.eq_false_or_eq_true (decide (res.hi < 0)) with e3 | e3
    all_goals
      have h1 := e1; have h2 := e2; have h3 := e3
      simp only [decide_eq_true_eq, decide_eq_false_iff_not] at h1 h2 h3
    all_goals first
      | (exfalso; omega)
      | (clear hc P1 P2
         go_wp2_with fail
         clear a0 a1 b0 b1 s0 s1 r0 r1 g0 g1
         have d := B2.set2 (.int .i64 res.hi) (.int .u64 res.lo)
         have d0 := d.cell 0; have d1 := d.cell 1
         exact bodyPost_ret (v := .tuple #[.agg #[.int .i64 res.hi, .int .u64 res.lo], .bool true]) (by simp [results, Try.results23, go_sem, d0, d1]) rfl ⟨rfl, hX4.set2 (by omega) _ _⟩)
/-- What the reference's sub reckons. -/
theorem rsub_plain (a b : WV) (ha : a.ok) (hb : b.ok) (s : WV) (hs : wV (a.val - b.val) = s) :
    ((¬(a.hi < 0 ↔ b.hi < 0) ∧ ¬(s.hi < 0 ↔ a.hi < 0)) → fitsV (a.val - b.val) = false ∧ addV (a.val - b.val) = WV.zero) ∧ (¬(¬(a.hi < 0 ↔ b.hi < 0) ∧ ¬(s.hi < 0 ↔ a.hi < 0)) → fitsV (a.val - b.val) = true ∧ addV (a.val - b.val) = s) := by
  have hx : fitsV (a.val - b.val) = false ↔ (¬(a.hi < 0 ↔ b.hi < 0) ∧ ¬(s.hi < 0 ↔ a.hi < 0)) := by
    rw [← hs, ← Bool.not_eq_true, fitsV_iff]
    obtain ⟨ah, al⟩ := a
    obtain ⟨bh, bl⟩ := b
    have a1 : -9223372036854775808 ≤ ah := ha.h0
    have a2 : ah ≤ 9223372036854775807 := ha.h1
    have a3 : 0 ≤ al := ha.l0
    have a4 : al ≤ 18446744073709551615 := ha.l1
    have b1 : -9223372036854775808 ≤ bh := hb.h0
    have b2 : bh ≤ 9223372036854775807 := hb.h1
    have b3 : 0 ≤ bl := hb.l0
    have b4 : bl ≤ 18446744073709551615 := hb.l1
    unfold wV WV.val wrap64
    simp only
    omega
  refine ⟨fun h => ?_, fun h => ?_⟩
  · have hf := hx.2 h
    exact ⟨hf, by unfold addV; rw [if_neg (by rw [hf]; decide)]⟩
  · have hf : fitsV (a.val - b.val) = true := by
      rcases Bool.eq_false_or_eq_true (fitsV (a.val - b.val)) with e | e
      · exact e
      · exact absurd (hx.1 e) h
    refine ⟨hf, ?_⟩
    unfold addV
    rw [if_pos hf, ← hs, wV_fits _ hf]
/-- What has come up of Sub's first region. -/
structure SubI (w : World) (z : Nat) (a b s : WV) (fh fl : Int) (L : Array Bool) (ac : Act) (wx : World) : Prop where
  ex : ∃ v6 v7 v8 v9 v10, ac = { tmps := #[.agg #[.int .i64 a.hi, .int .u64 a.lo], .agg #[.int .i64 b.hi, .int .u64 b.lo], .pointer (some ⟨z, 0, none⟩), .pointer (some ⟨z + 1, 0, none⟩), .pointer (some ⟨z + 1 + 1, 0, none⟩), .bool false, v6, v7, v8, v9, v10, undef, undef, undef, undef, undef, undef, undef, undef, undef, undef, undef, undef, undef, undef, undef, undef, undef, undef], defers := [] } ∧ (L.getD 0 false = true → v7 = .agg #[.int .i64 a.hi, .int .u64 a.lo]) ∧ (L.getD 1 false = true → v8 = .agg #[.int .i64 b.hi, .int .u64 b.lo]) ∧
      (L.getD 2 false = true → v9 = .agg #[.int .i64 fh, .int .u64 fl]) ∧ (L.getD 3 false = true → v10 = .agg #[.int .i64 s.hi, .int .u64 s.lo]) ∧ (L.getD 4 false = true → ∃ y, v6 = .pointer (some ⟨y, 0, none⟩) ∧ z + 1 + 1 < y ∧ At wx y (if L.getD 5 false = true then #[.int .i64 s.hi, .int .u64 s.lo] else #[.int .i64 0, .int .u64 0])) ∧
      (L.getD 5 false = true → L.getD 4 false = true) ∧ At wx z #[.int .i64 a.hi, .int .u64 a.lo] ∧ At wx (z + 1) #[.int .i64 b.hi, .int .u64 b.lo] ∧ At wx (z + 1 + 1) #[.int .i64 0, .int .u64 0] ∧ Chg [] w wx
set_option maxHeartbeats 1000000 in
theorem rsub_any (w : World) (a b : WV) (ha : a.ok) (hb : b.ok) : Calls Try.prog 24 #[.agg a.cells, .agg b.cells] w fun e w' => e = .returned (.tuple #[.agg (addV (a.val - b.val)).cells, .bool (fitsV (a.val - b.val))]) ∧ Chg [] w w' := by
  obtain ⟨A0, A1, A2, hX⟩ := start2 w a b
  have HF := fun w => rflip_any w b hb
  have HP := fun w => rplus_any w a (wV (-b.val)) ha (wV_ok _)
  rw [show wV (a.val + (wV (-b.val)).val) = wV (a.val - b.val) by
    obtain ⟨q, hq⟩ := wV_val (-b.val)
    rw [hq, show a.val + (-b.val + 340282366920938463463374607431768211456 * q) = a.val - b.val + 340282366920938463463374607431768211456 * q by omega, wV_mod]] at HP
  rw [wv_cells (wV (-b.val))] at *
  generalize (wV (-b.val)).hi = fh at *
  generalize (wV (-b.val)).lo = fl at *
  have c0 := A0.cell 0; have c1 := A0.cell 1; have d0 := A1.cell 0; have d1 := A1.cell 1
  obtain ⟨s, hs⟩ : ∃ s, wV (a.val - b.val) = s := ⟨_, rfl⟩
  obtain ⟨p1, p2⟩ := rsub_plain a b ha hb s hs
  rw [hs] at HP
  rw [wv_cells a, wv_cells b, wv_cells s] at *
  replace HP := Lib.hid HP
  replace HF := Lib.hid HF
  obtain ⟨res, hres⟩ : ∃ r, addV (a.val - b.val) = r := ⟨_, rfl⟩
  obtain ⟨fv, hfv⟩ : ∃ r, fitsV (a.val - b.val) = r := ⟨_, rfl⟩
  rw [hres, hfv] at p1 p2 ⊢
  have P1 := Lib.hid p1
  have P2 := Lib.hid p2
  clear p1 p2 hs hres hfv ha hb
  go_enter Try.func24, Try.ntmps24
  generalize hzw : w.heap.size = z at *
  go_wp2_with fail
  generalize hw0 : ((w.alloc (.cells #[.int .i64 a.hi, .int .u64 a.lo] 27)).alloc (.cells #[.int .i64 b.hi, .int .u64 b.lo] 27)).alloc (.cells #[.int .i64 0, .int .u64 0] 27) = w0 at *
  go_cut [6] (fun v wx => ∃ y, v = .pointer (some ⟨y, 0, none⟩) ∧ z + 1 + 1 < y ∧ At wx z #[.int .i64 a.hi, .int .u64 a.lo] ∧ At wx (z + 1) #[.int .i64 b.hi, .int .u64 b.lo] ∧ At wx (z + 1 + 1) #[.int .i64 0, .int .u64 0] ∧ At wx y #[.int .i64 s.hi, .int .u64 s.lo] ∧ Chg [] w wx)
  case first =>
    clear P1 P2
    have hy := A2.lt
    refine wp_region_inv (SubI w z a b s fh fl) (by kernel_rfl) (by kernel_rfl)
      ⟨undef, undef, undef, undef, undef, rfl, by simp, by simp, by simp, by simp, by simp, by simp, A0.drew, A1.drew, A2.drew, hX.drew⟩ ?_ ?_
    · clear A0 A1 A2 hX hy c0 c1 d0 d1
      intro i o ho L ac wx hs hl hall hI
      obtain ⟨v6, v7, v8, v9, v10, rfl, i0, i1, i2, i3, i4, i5, A0, A1, A2, hX⟩ := hI
      replace hs : L.size = 6 := hs
      rcases i with _ | _ | _ | _ | _ | _ | i
      · obtain rfl := Option.some.inj ho
        clear ho
        clear hall
        refine wpOp_inv (o := _) rfl rfl ?_
        have e1 : (L.setIfInBounds 0 true).getD 1 false = L.getD 1 false := getD_set_ne false (by decide)
        have e2 : (L.setIfInBounds 0 true).getD 2 false = L.getD 2 false := getD_set_ne false (by decide)
        have e3 : (L.setIfInBounds 0 true).getD 3 false = L.getD 3 false := getD_set_ne false (by decide)
        have e4 : (L.setIfInBounds 0 true).getD 4 false = L.getD 4 false := getD_set_ne false (by decide)
        have e5 : (L.setIfInBounds 0 true).getD 5 false = L.getD 5 false := getD_set_ne false (by decide)
        have e0 : (L.setIfInBounds 0 true).getD 0 false = true := by rw [getD_set_if L 0 0 (by omega), if_pos rfl]
        have c0 := A0.cell 0; have c1 := A0.cell 1
        go_simp
        exact ⟨v6, _, v8, v9, v10, rfl, fun _ => rfl, by rw [e1]; exact i1, by rw [e2]; exact i2, by rw [e3]; exact i3, by rw [e4, e5]; exact i4, by rw [e4, e5]; exact i5, A0, A1, A2, hX⟩
      · obtain rfl := Option.some.inj ho
        clear ho
        clear hall
        refine wpOp_inv (o := _) rfl rfl ?_
        have e0 : (L.setIfInBounds 1 true).getD 0 false = L.getD 0 false := getD_set_ne false (by decide)
        have e2 : (L.setIfInBounds 1 true).getD 2 false = L.getD 2 false := getD_set_ne false (by decide)
        have e3 : (L.setIfInBounds 1 true).getD 3 false = L.getD 3 false := getD_set_ne false (by decide)
        have e4 : (L.setIfInBounds 1 true).getD 4 false = L.getD 4 false := getD_set_ne false (by decide)
        have e5 : (L.setIfInBounds 1 true).getD 5 false = L.getD 5 false := getD_set_ne false (by decide)
        have e1 : (L.setIfInBounds 1 true).getD 1 false = true := by rw [getD_set_if L 1 1 (by omega), if_pos rfl]
        have c0 := A1.cell 0; have c1 := A1.cell 1
        go_simp
        exact ⟨v6, v7, _, v9, v10, rfl, by rw [e0]; exact i0, fun _ => rfl, by rw [e2]; exact i2, by rw [e3]; exact i3, by rw [e4, e5]; exact i4, by rw [e4, e5]; exact i5, A0, A1, A2, hX⟩
      · obtain rfl := Option.some.inj ho
        clear ho
        have l1 := hall ⟨1, .data⟩ (by simp) rfl
        clear hall
        refine wpOp_inv (o := _) rfl rfl ?_
        have e0 : (L.setIfInBounds 2 true).getD 0 false = L.getD 0 false := getD_set_ne false (by decide)
        have e1 : (L.setIfInBounds 2 true).getD 1 false = L.getD 1 false := getD_set_ne false (by decide)
        have e3 : (L.setIfInBounds 2 true).getD 3 false = L.getD 3 false := getD_set_ne false (by decide)
        have e4 : (L.setIfInBounds 2 true).getD 4 false = L.getD 4 false := getD_set_ne false (by decide)
        have e5 : (L.setIfInBounds 2 true).getD 5 false = L.getD 5 false := getD_set_ne false (by decide)
        have e2 : (L.setIfInBounds 2 true).getD 2 false = true := by rw [getD_set_if L 2 2 (by omega), if_pos rfl]
        obtain rfl := i1 l1
        go_simp
        go_at_call 32; refine (HF.out _).mono ?_; rintro e w' ⟨rfl, hX1⟩
        exact ⟨_, rfl, v6, v7, _, _, v10, rfl, by rw [e0]; exact i0, fun _ => rfl, fun _ => rfl, by rw [e3]; exact i3, by rw [e4, e5]; exact fun h => by obtain ⟨y, h1, h2, h3⟩ := i4 h; exact ⟨y, h1, h2, hX1.at h3 (by simp)⟩, by rw [e4, e5]; exact i5, hX1.at A0 (by simp), hX1.at A1 (by simp), hX1.at A2 (by simp), hX.trans hX1⟩
      · obtain rfl := Option.some.inj ho
        clear ho
        have l0 := hall ⟨0, .data⟩ (by simp) rfl
        have l2 := hall ⟨2, .data⟩ (by simp) rfl
        clear hall
        refine wpOp_inv (o := _) rfl rfl ?_
        have e0 : (L.setIfInBounds 3 true).getD 0 false = L.getD 0 false := getD_set_ne false (by decide)
        have e1 : (L.setIfInBounds 3 true).getD 1 false = L.getD 1 false := getD_set_ne false (by decide)
        have e2 : (L.setIfInBounds 3 true).getD 2 false = L.getD 2 false := getD_set_ne false (by decide)
        have e4 : (L.setIfInBounds 3 true).getD 4 false = L.getD 4 false := getD_set_ne false (by decide)
        have e5 : (L.setIfInBounds 3 true).getD 5 false = L.getD 5 false := getD_set_ne false (by decide)
        have e3 : (L.setIfInBounds 3 true).getD 3 false = true := by rw [getD_set_if L 3 3 (by omega), if_pos rfl]
        obtain rfl := i0 l0
        obtain rfl := i2 l2
        go_simp
        go_at_call 31; refine (HP.out _).mono ?_; rintro e w' ⟨rfl, hX1⟩
        exact ⟨_, rfl, v6, _, v8, _, _, rfl, fun _ => rfl, by rw [e1]; exact i1, fun _ => rfl, fun _ => rfl, by rw [e4, e5]; exact fun h => by obtain ⟨y, h1, h2, h3⟩ := i4 h; exact ⟨y, h1, h2, hX1.at h3 (by simp)⟩, by rw [e4, e5]; exact i5, hX1.at A0 (by simp), hX1.at A1 (by simp), hX1.at A2 (by simp), hX.trans hX1⟩
      · obtain rfl := Option.some.inj ho
        clear ho
        clear hall
        refine wpOp_inv (o := _) rfl rfl ?_
        have e0 : (L.setIfInBounds 4 true).getD 0 false = L.getD 0 false := getD_set_ne false (by decide)
        have e1 : (L.setIfInBounds 4 true).getD 1 false = L.getD 1 false := getD_set_ne false (by decide)
        have e2 : (L.setIfInBounds 4 true).getD 2 false = L.getD 2 false := getD_set_ne false (by decide)
        have e3 : (L.setIfInBounds 4 true).getD 3 false = L.getD 3 false := getD_set_ne false (by decide)
        have e5 : (L.setIfInBounds 4 true).getD 5 false = L.getD 5 false := getD_set_ne false (by decide)
        have e4 : (L.setIfInBounds 4 true).getD 4 false = true := by rw [getD_set_if L 4 4 (by omega), if_pos rfl]
        have l5 : L.getD 5 false = false := by rcases Bool.eq_false_or_eq_true (L.getD 5 false) with h | h; exact absurd (i5 h) (by rw [hl]; decide); exact h
        go_simp
        have hy := A2.lt
        exact ⟨_, v7, v8, v9, v10, rfl, by rw [e0]; exact i0, by rw [e1]; exact i1, by rw [e2]; exact i2, by rw [e3]; exact i3, fun _ => ⟨_, rfl, hy, by rw [e5, l5]; exact At.new wx _ _⟩, fun _ => e4, A0.alloc _, A1.alloc _, A2.alloc _, hX.alloc _⟩
      · obtain rfl := Option.some.inj ho
        clear ho
        have l4 := hall ⟨4, .data⟩ (by simp) rfl
        have l3 := hall ⟨3, .data⟩ (by simp) rfl
        clear hall
        refine wpOp_inv (o := _) rfl rfl ?_
        have e0 : (L.setIfInBounds 5 true).getD 0 false = L.getD 0 false := getD_set_ne false (by decide)
        have e1 : (L.setIfInBounds 5 true).getD 1 false = L.getD 1 false := getD_set_ne false (by decide)
        have e2 : (L.setIfInBounds 5 true).getD 2 false = L.getD 2 false := getD_set_ne false (by decide)
        have e3 : (L.setIfInBounds 5 true).getD 3 false = L.getD 3 false := getD_set_ne false (by decide)
        have e4 : (L.setIfInBounds 5 true).getD 4 false = L.getD 4 false := getD_set_ne false (by decide)
        have e5 : (L.setIfInBounds 5 true).getD 5 false = true := by rw [getD_set_if L 5 5 (by omega), if_pos rfl]
        obtain ⟨y, rfl, hyz, K⟩ := i4 l4
        obtain rfl := i3 l3
        rw [hl] at K
        have K : At wx y #[.int .i64 0, .int .u64 0] := K
        have k0 := K.cell 0; have k1 := K.cell 1; have k2 := K.frozen 0; have k3 := K.frozen 1
        have hyw := hX.size
        have hys := A2.lt
        go_simp
        have B0 := At.other (At.other A0 ⟨y, 0, none⟩ (.int .i64 s.hi) (by simp; omega)) ⟨y, 1, none⟩ (.int .u64 s.lo) (by simp; omega)
        have B1 := At.other (At.other A1 ⟨y, 0, none⟩ (.int .i64 s.hi) (by simp; omega)) ⟨y, 1, none⟩ (.int .u64 s.lo) (by simp; omega)
        have B2 := At.other (At.other A2 ⟨y, 0, none⟩ (.int .i64 s.hi) (by simp; omega)) ⟨y, 1, none⟩ (.int .u64 s.lo) (by simp; omega)
        exact ⟨_, v7, v8, v9, _, rfl, by rw [e0]; exact i0, by rw [e1]; exact i1, by rw [e2]; exact i2, fun _ => rfl, fun _ => ⟨y, rfl, hyz, by rw [e5]; exact K.set2 (.int .i64 s.hi) (.int .u64 s.lo)⟩, fun _ => by rw [e4]; exact l4, B0, B1, B2, hX.set2 (by omega) _ _⟩
      · exact absurd ho (by simp)
    · intro L ac wx hall hI
      obtain ⟨v6, v7, v8, v9, v10, rfl, i0, i1, i2, i3, i4, i5, B0, B1, B2, hX4⟩ := hI
      obtain ⟨y, rfl, hyz, BS⟩ := i4 (hall 4 (by decide))
      rw [if_pos (hall 5 (by decide))] at BS
      clear A0 A1 A2 hX hy c0 c1 d0 d1
      go_wp2_with fail
      go_meet
      exact ⟨_, rfl, hyz, B0, B1, B2, BS, hX4⟩
  obtain ⟨y, rfl, hyz, B0, B1, B2, BS, hX4⟩ := hcut
  clear c0 c1 d0 d1
  have a0 := B0.cell 0; have a1 := B0.cell 1; have b0 := B1.cell 0; have b1 := B1.cell 1; have s0 := BS.cell 0; have s1 := BS.cell 1
  have r0 := B2.cell 0; have r1 := B2.cell 1; have g0 := B2.frozen 0; have g1 := B2.frozen 1
  by_cases hc : ¬(a.hi < 0 ↔ b.hi < 0) ∧ ¬(s.hi < 0 ↔ a.hi < 0)
  · obtain ⟨rfl, rfl⟩ := P1.out hc
    rcases Bool.eq_false_or_eq_true (decide (a.hi < 0)) with e1 | e1 <;> rcases Bool.eq_false_or_eq_true (decide (b.hi < 0)) with e2 | e2 <;> rcases Bool.eq_false_or_eq_true (decide (s.hi < 0)) with e3 | e3
    all_goals
      have h1 := e1; have h2 := e2; have h3 := e3
      simp only [decide_eq_true_eq, decide_eq_false_iff_not] at h1 h2 h3
    all_goals first
      | (exfalso; omega)
      | (clear hc P1 P2
         go_wp2_with fail
         clear a0 a1 b0 b1 s0 s1 r0 r1 g0 g1
         have d := B2.set2 (.int .i64 0) (.int .u64 0)
         have d0 := d.cell 0; have d1 := d.cell 1
         exact bodyPost_ret (v := .tuple #[.agg #[.int .i64 0, .int .u64 0], .bool false]) (by simp [results, Try.results24, go_sem, d0, d1]) rfl ⟨rfl, hX4.set2 (by omega) _ _⟩)
  · obtain ⟨rfl, rfl⟩ := P2.out hc
    rcases Bool.eq_false_or_eq_true (decide (a.hi < 0)) with e1 | e1 <;> rcases Bool.eq_false_or_eq_true (decide (b.hi < 0)) with e2 | e2 <;> rcases Bool.eq_false_or_eq_true (decide (res.hi < 0)) with e3 | e3
    all_goals
      have h1 := e1; have h2 := e2; have h3 := e3
      simp only [decide_eq_true_eq, decide_eq_false_iff_not] at h1 h2 h3
    all_goals first
      | (exfalso; omega)
      | (clear hc P1 P2
         go_wp2_with fail
         clear a0 a1 b0 b1 s0 s1 r0 r1 g0 g1
         have d := B2.set2 (.int .i64 res.hi) (.int .u64 res.lo)
         have d0 := d.cell 0; have d1 := d.cell 1
         exact bodyPost_ret (v := .tuple #[.agg #[.int .i64 res.hi, .int .u64 res.lo], .bool true]) (by simp [results, Try.results24, go_sem, d0, d1]) rfl ⟨rfl, hX4.set2 (by omega) _ _⟩)
end Go.Proofs.Ytlhnnfofdkjapaa
