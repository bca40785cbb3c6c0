/- StTl, Wrm, Wrd, Fix, Fiy, Bin. -/
import Derived.Test.YtpfglmlpodjneaaGreatZ00
import Derived.StillTail
import Derived.Test.YtpfglmlpodjneaaGreatZ03
import Derived.Deep.LoopGhost
import Derived.Laws.OwnMore
import Derived.Test.YtpfglmlpodjneaaGreatZ05
set_option linter.unusedSimpArgs false
set_option linter.unusedVariables false
namespace Go.Proofs.YtpfglmlpodjneaaGreat
open Go

section
variable {P : Program} {ops : Array Oper} {C : Nat → World → Prop} {E : List Nat}

def anyST (P : Program) (ops : Array Oper) (C : Nat → World → Prop) (E : List Nat) (n : Nat) (Lq : Array Bool → Act → Prop) : Nat → Array Bool → Act → Prop
  | 0, L, a => Lq L a
  | f + 1, L, a => Region.ready .any ops L ≠ [] ∧ ∀ i ∈ Region.ready .any ops L, i < n ∧ sOp P ops C E i (anyST P ops C E n Lq f (L.setIfInBounds i true)) a

theorem wpAny_of_st {n g : Nat} {Lq : Array Bool → Act → Prop} {Q' : Exit → Act → World → Prop} (hL : ∀ L a w, Good ops L → C (stg E L) w → Lq L a → wpAny P .any ops Q' g L a w) :
    ∀ (f : Nat) (L : Array Bool) (a : Act) (w : World), Good ops L → C (stg E L) w → anyST P ops C E n Lq f L a → wpAny P .any ops Q' (f + g) L a w
  | 0, L, a, w, hG, hC, h => by rw [Nat.zero_add]; exact hL _ _ _ hG hC h
  | f + 1, L, a, w, hG, hC, h => by
    rw [show f + 1 + g = (f + g) + 1 by omega]
    exact ⟨fun h0 => absurd h0 h.1, fun i hi => wpOp_of_s hG hi hC (fun a' w' hc hk => wpAny_of_st hL f _ a' w' (hG.set hi) hc hk) (h.2 i hi).2⟩

theorem anyST_first {n i : Nat} {oi : Oper} {v : Value} {Lq : Array Bool → Act → Prop} (hi : ops[i]? = some oi) (hsel : ∀ (j : Nat) (o : Oper) cs b, ops[j]? = some o → o.op ≠ .select cs b)
    (hs : Region.sinkB .any ops n = true) (hc : Region.chainB .any ops n = true) (hn : n < ops.size) (hin : i < n)
    (hdone : ∀ L a, Lq L a → ∀ j ∈ Region.ready .any ops L, n ≤ j) :
    ∀ (f : Nat) (L : Array Bool) (a : Act), HeadInv .any ops n L →
      (∀ j oj, ops[j]? = some oj → j ≠ i → L.getD j true = false → (∀ e ∈ oj.after, Region.binds .any e = true → e.on ≠ i) → oi.apart ops oj = true) →
      i ∈ Region.ready .any ops L → Does P ops C E i oi v a → anyST P ops C E n Lq f (L.setIfInBounds i true) (a.put oi.dst v) → anyST P ops C E n Lq (f + 1) L a := by
  intro f
  induction f with
  | zero =>
    intro L a inv _ hr hd H
    have hun := (mem_ready.1 hr).1
    refine ⟨fun h => (by rw [h] at hr; cases hr), fun j hj => ?_⟩
    have hjn : j < n := by
      rcases Nat.lt_or_ge j n with h | h
      · exact h
      · exact absurd hj (tail_waits hs hc hn inv _ i rfl hin hun j h)
    refine ⟨hjn, ?_⟩
    by_cases hji : j = i
    · subst hji
      intro o ho
      rw [hi] at ho
      cases ho
      exact ⟨v, hd, H⟩
    · have := hdone _ _ H j (ready_mono hj hji)
      omega
  | succ f ih =>
    intro L a inv hfree hr hd H
    have hun := (mem_ready.1 hr).1
    refine ⟨fun h => (by rw [h] at hr; cases hr), fun j hj => ?_⟩
    have hjn : j < n := by
      rcases Nat.lt_or_ge j n with h | h
      · exact h
      · exact absurd hj (tail_waits hs hc hn inv _ i rfl hin hun j h)
    refine ⟨hjn, ?_⟩
    by_cases hji : j = i
    · subst hji
      intro o ho
      rw [hi] at ho
      cases ho
      exact ⟨v, hd, H⟩
    · intro oj hoj
      obtain ⟨u, hu, hK⟩ := (H.2 j (ready_mono hj hji)).2 oj hoj
      obtain ⟨hjun, oj', hoj', hall⟩ := mem_ready.1 hj
      rw [hoj] at hoj'
      cases hoj'
      have hnot : ∀ e ∈ oj.after, Region.binds .any e = true → e.on ≠ i := fun e he hb heq => by
        have h1 := hall e he hb
        rw [heq, getD_false_of_true hun] at h1
        cases h1
      obtain ⟨h1, h2, h3⟩ := Oper.apart_spec (hfree j oj hoj hji hjun hnot)
      refine ⟨u, (Does.of_put (fun cs b => hsel j oj cs b hoj) h1).1 hu, ih (L.setIfInBounds j true) _ (inv.set hj hjn) ?_ (ready_mono hr (Ne.symm hji)) ((Does.of_put (fun cs b => hsel i oi cs b hi) h3).2 hd) ?_⟩
      · intro k ok hk hki hun' hno
        refine hfree k ok hk hki ?_ hno
        by_cases hjk : j = k
        · subst hjk; exact hjun
        · rw [getD_set_ne true hjk] at hun'; exact hun'
      · rw [Array.setIfInBounds_comm _ _ hji, ← Act.put_comm a v u h2]
        exact hK

theorem anyST_lex {n g : Nat} {Lq : Act → Prop} (hsel : Region.noSelect ops = true) (hs : Region.sinkB .any ops n = true) (hc : Region.chainB .any ops n = true) (hn : n < ops.size) :
    ∀ (l : List Oper) (k : Nat) (L : Array Bool) (a : Act), (∀ j, j < l.length → l[j]? = ops[k + j]?) → k + l.length = n → HeadInv .any ops n L →
    Region.lexHead .any ops g l.length k L = true → lexS P ops C E Lq l k a →
    anyST P ops C E n (fun L' a' => (HeadInv .any ops n L' ∧ Region.seqB .any ops g n L' = true) ∧ Lq a') l.length L a
  | [], k, L, a, _, hk, inv, hB, h => by
    have : k = n := by simpa using hk
    subst this
    exact ⟨⟨inv, by simpa [Region.lexHead] using hB⟩, h⟩
  | o :: l, k, L, a, hl, hk, inv, hB, ⟨v, hd, hK⟩ => by
    have h0 : ops[k]? = some o := by simpa using (hl 0 (by simp)).symm
    simp only [List.length_cons, Region.lexHead, Bool.and_eq_true] at hB
    obtain ⟨⟨hr, hf⟩, hB'⟩ := hB
    have hkn : k < n := by simp only [List.length_cons] at hk; omega
    have hr' : k ∈ Region.ready .any ops L := by simpa using hr
    exact anyST_first h0 (Region.noSelect_spec hsel) hs hc hn hkn (fun L' a' hL => seqB_ready hL.1.2) l.length L a inv (Region.free_spec h0 hf) hr' hd
      (anyST_lex hsel hs hc hn l (k + 1) _ _ (fun j hj => by have := hl (j + 1) (by simp; omega); simpa [Nat.add_assoc, Nat.add_comm 1 j] using this) (by simp only [List.length_cons] at hk; omega) (inv.set hr' hkn) hB' hK)

theorem lexS_of_stage' {Q : Act → Prop} {M : Array Nat} (hc : certB ops M = true) (hE : ∀ e ∈ E, e < ops.size) (hn : E.Nodup) : ∀ (l : List Oper) (R : List (Nat × Nat × Bool)) (i : Nat) (a : Act), (∀ j, j < l.length → l[j]? = ops[i + j]?) →
    R.length = l.length → rowsB E M R i = true → wpStage P ops C Q (l.zip R) a → lexS P ops C E Q l i a
  | [], _, _, _, _, _, _, h => h
  | o :: l, [], _, _, _, hl, _, _ => by simp at hl
  | o :: l, (lo, hi, ef) :: R, i, a, hj, hl, hR, h => by
    have h0 : ops[i]? = some o := by simpa using (hj 0 (by simp)).symm
    simp only [rowsB, Bool.and_eq_true, decide_eq_true_eq, beq_iff_eq] at hR
    obtain ⟨⟨⟨h1, h2⟩, h3⟩, h4⟩ := hR
    have next : ∀ a', wpStage P ops C Q (l.zip R) a' → lexS P ops C E Q l (i + 1) a' := fun a' h' =>
      lexS_of_stage' hc hE hn l R (i + 1) a' (fun j hj' => by have := hj (j + 1) (by simp; omega); simpa [Nat.add_assoc, Nat.add_comm 1 j] using this) (by simpa using hl) h4 h'
    have key : ∀ L, Good ops L → i ∈ Region.ready .any ops L → lo ≤ stg E L ∧ stg E L ≤ hi ∧ stg E (L.setIfInBounds i true) = if ef then stg E L + 1 else stg E L := by
      intro L hG hi'
      obtain ⟨b1, b2⟩ := stg_bounds hc hE hG hi'
      have hsz : i < L.size := by rw [hG.size]; exact (Array.getElem?_eq_some_iff.1 h0).1
      refine ⟨by omega, by omega, ?_⟩
      rw [stg_set hn hsz (getD_false_of_true (mem_ready.1 hi').1), h3]
    simp only [List.zip_cons_cons, wpStage] at h
    by_cases hw : Region.wanted o (yielded ops a.tmps) = true
    · rw [if_pos hw] at h
      obtain ⟨v, hv, hK⟩ := h
      refine ⟨v, .inl ⟨hw, fun L w hG hi' hC => ?_⟩, next _ hK⟩
      obtain ⟨k1, k2, k3⟩ := key L hG hi'
      rw [k3]
      exact hv _ w k1 k2 hC
    · rw [if_neg hw] at h
      refine ⟨undef, .inr ⟨by simpa using hw, rfl, fun L w hG hi' hC => ?_⟩, next _ h.2⟩
      obtain ⟨k1, k2, k3⟩ := key L hG hi'
      rw [k3]
      cases ef
      · exact hC
      · exact h.1 rfl _ w k1 k2 hC

def stTlB (ops : Array Oper) (n : Nat) (E : List Nat) (R : List (Nat × Nat × Bool)) : Bool :=
  certB ops (Region.before ops) && (E.all fun e => decide (e < n)) && nodupB E && decide (R.length = n) && rowsB E (Region.before ops) R 0

/-- A region that draws its order: the first n operations in stages, the others, which come behind all of these and in their own order, by the walk. -/
theorem wp_region_sttl {id : Nat} {Q : Exit → Act → World → Prop} {a : Act} {w : World} {l : List Oper} (C : Nat → World → Prop) (n : Nat) (E : List Nat) (R : List (Nat × Nat × Bool)) (hm : P.follows .mixedOrders = true)
    (hB : Region.lexTailB .any l.toArray n = true) (hS : stTlB l.toArray n E R = true) (hC : C 0 w.drew)
    (h : wpStage P l.toArray C (fun a' => ∀ w', C E.length w' → wpList P l.toArray Q (l.drop n) a' w') ((l.take n).zip R) a) :
    (Code.region id l.toArray true).wp P Q a w := by
  simp only [Region.lexTailB, Bool.and_eq_true, decide_eq_true_eq] at hB
  simp only [stTlB, Bool.and_eq_true, decide_eq_true_eq] at hS
  obtain ⟨⟨⟨⟨hsel, hn⟩, hs⟩, hc⟩, hlex⟩ := hB
  obtain ⟨⟨⟨⟨s1, s2⟩, s3⟩, s4⟩, s5⟩ := hS
  have hn' : n < l.length := by simpa using hn
  have htl : (l.take n).length = n := by simp; omega
  have hdl : (l.drop n).length = l.toArray.size - n := by simp
  have hEn : ∀ e ∈ E, e < n := fun e he => by simpa using (List.all_eq_true.1 s2) e he
  have hE : ∀ e ∈ E, e < l.toArray.size := fun e he => by have := hEn e he; omega
  have hnd := nodupB_spec s3
  have inv0 : HeadInv .any l.toArray n (Array.replicate l.toArray.size false) :=
    ⟨by simp, fun j oj _ hl => (by rw [getD_replicate_false] at hl; cases hl), fun t _ ht => getD_in (by simpa using ht) (getD_replicate_false _ _)⟩
  have hG0 : Good l.toArray (Array.replicate l.toArray.size false) := ⟨by simp, fun j o hj hl => by rw [getD_replicate_false] at hl; cases hl⟩
  have h00 : stg E (Array.replicate l.toArray.size false) = 0 := by
    unfold stg
    rw [List.countP_eq_zero]
    intro e he
    rw [getD_replicate_false]
    decide
  have H := anyST_lex (C := C) (E := E) (P := P) (g := l.toArray.size - n) hsel hs hc hn (l.take n) 0 _ a (fun j hj => by
    have hj' : j < n := by rw [htl] at hj; exact hj
    simp [hj']) (by simpa using htl) inv0 (by rw [htl]; exact hlex) (lexS_of_stage' s1 hE hnd (l.take n) R 0 a (fun j hj => by
    have hj' : j < n := by rw [htl] at hj; exact hj
    simp [hj']) (by rw [htl]; exact s4) s5 h)
  refine wp_region_any hm ?_
  have := wpAny_of_st (Q' := Q) (C := C) (E := E) (g := l.toArray.size - n) (fun L a' w' hG hCL hL => by
    obtain ⟨⟨inv, hseq⟩, hq⟩ := hL
    have hall : ∀ i, i < n → L.getD i true = true := by
      intro i hi
      rcases Bool.eq_false_or_eq_true (L.getD i true) with e | e
      · exact e
      · exfalso
        have hr : n ∈ Region.ready .any l.toArray L := by
          rw [show l.toArray.size - n = (l.toArray.size - n - 1) + 1 by omega] at hseq
          simp only [Region.seqB, Bool.and_eq_true, decide_eq_true_eq] at hseq
          rw [hseq.1]
          simp
        exact tail_waits hs hc hn inv _ i rfl hi e n (Nat.le_refl _) hr
    have hst : stg E L = E.length := by
      unfold stg
      rw [List.countP_eq_length]
      intro e he
      have h1 := hall e (hEn e he)
      have h2 : e < L.size := by rw [inv.size]; exact hE e he
      simp [h2] at h1 ⊢
      exact h1
    have := wpAny_of_seq (md := .any) (Q' := Q) (l.drop n) n L a' w' (fun j => by simp [List.getElem?_drop]) (by rw [hdl]; exact hseq) (hq w' (hst ▸ hCL))
    rwa [hdl] at this) _ _ _ w.drew hG0 (by rw [h00]; exact hC) H
  rw [htl, show n + (l.toArray.size - n) = l.toArray.size by omega] at this
  exact this
end
end Go.Proofs.YtpfglmlpodjneaaGreat
namespace Go.Proofs.YtpfglmlpodjneaaGreat
open Go.RowKit

theorem At.other2 {w : World} {b c : Nat} {cs : Array Value} (h : At w b cs) (hne : b ≠ c) (p q : Value) : At ((w.setCell ⟨c, 0, none⟩ p).setCell ⟨c, 1, none⟩ q) b cs :=
  At.other (At.other h ⟨c, 0, none⟩ p hne) ⟨c, 1, none⟩ q hne
theorem wV_plus (u v : Int) : wV ((wV u).val + (wV v).val) = wV (u + v) := by
  obtain ⟨p, hp⟩ := wV_val u
  obtain ⟨q, hq⟩ := wV_val v
  rw [hp, hq, show u + 340282366920938463463374607431768211456 * p + (v + 340282366920938463463374607431768211456 * q) = u + v + 340282366920938463463374607431768211456 * (p + q) by omega, wV_mod]
theorem wV_neg (u : Int) : wV (-(wV u).val) = wV (-u) := by
  obtain ⟨p, hp⟩ := wV_val u
  rw [hp, show -(u + 340282366920938463463374607431768211456 * p) = -u + 340282366920938463463374607431768211456 * (-p) by omega, wV_mod]
theorem mul_bit1 (a n : Int) (k : Nat) (h : n / 2 ^ k % 2 = 1) : a * (n % 2 ^ (k + 1)) = a * (n % 2 ^ k) + a * 2 ^ k := by
  rw [mod_pow_succ, h, Int.one_mul, Int.mul_add]
theorem mul_bit0 (a n : Int) (k : Nat) (h : n / 2 ^ k % 2 = 0) : a * (n % 2 ^ (k + 1)) = a * (n % 2 ^ k) := by
  rw [mod_pow_succ, h, Int.zero_mul, Int.add_zero]
theorem mul_dbl (a : Int) (k : Nat) : a * 2 ^ (k + 1) = a * 2 ^ k + a * 2 ^ k := by
  rw [pow_succ', Int.mul_left_comm]
  omega
set_option maxRecDepth 100000 in
set_option maxHeartbeats 2000000 in
theorem rmul_any (w : World) (a b : Int) (ha0 : -9223372036854775808 ≤ a) (ha1 : a ≤ 9223372036854775807) (hb0 : -9223372036854775808 ≤ b) (hb1 : b ≤ 9223372036854775807) :
    Calls Tryz.prog 104 #[.int .i64 a, .int .i64 b] w fun e w' => e = .returned (.agg (ofV (a * b)).cells) ∧ Chg [] w w' := by
  have HO := fun w => rof_any w a ha0 ha1
  obtain ⟨L1, L2⟩ := imul_bd a b 9223372036854775808 (by omega) (by omega) (by omega) (by omega) (by omega)
  have hfit : fitsV (a * b) = true := by rw [fitsV_iff]; omega
  rw [← wV_fits _ hfit]
  rw [← wV_fits a (by rw [fitsV_iff]; omega), show wV a = wV (a * 2 ^ 0) by simp] at HO
  have hn0 : 0 ≤ IntKind.u64.wrap b ∧ IntKind.u64.wrap b ≤ 18446744073709551615 := Go.bounds_u64 (wf_wrap .u64 b)
  have hn2 : b < 0 → a * (IntKind.u64.wrap b % 2 ^ 64) + -(a * 2 ^ 64) = a * b := by
    intro h
    have u1 : IntKind.u64.wrap b = b % 18446744073709551616 := rfl
    have u2 : (2 : Int) ^ 64 = 18446744073709551616 := rfl
    rw [u1, u2, show b % 18446744073709551616 % 18446744073709551616 = b + 18446744073709551616 by omega, Int.mul_add]
    omega
  have hn3 : ¬b < 0 → a * (IntKind.u64.wrap b % 2 ^ 64) = a * b := by
    intro h
    have u1 : IntKind.u64.wrap b = b % 18446744073709551616 := rfl
    have u2 : (2 : Int) ^ 64 = 18446744073709551616 := rfl
    rw [u1, u2, show b % 18446744073709551616 % 18446744073709551616 = b by omega]
  have ho0 : (wV (a * (IntKind.u64.wrap b % 2 ^ 0))).cells = #[.int .i64 0, .int .u64 0] := by simp [wV, wv_cells, wrap64]
  generalize hn : IntKind.u64.wrap b = n at *
  have A0 := At.new w #[.int .i64 0, .int .u64 0] 147
  have hX := (Chg.refl [] w).alloc (.cells #[.int .i64 0, .int .u64 0] 147)
  have hw1 : (w.alloc (.cells #[.int .i64 0, .int .u64 0] 147)).heap.size = w.heap.size + 1 := by simp
  obtain ⟨x0, hx0⟩ : ∃ x, wV (a * 2 ^ 0) = x := ⟨_, rfl⟩
  rw [hx0, wv_cells x0] at HO
  have HX0 := Lib.hid (show (wV (a * 2 ^ 0)).cells = #[.int .i64 x0.hi, .int .u64 x0.lo] by rw [hx0, wv_cells])
  clear hx0
  replace HO := Lib.hid HO
  go_enter Tryz.func104, Tryz.ntmps104
  go_wp2_with fail
  refine (HO.out _).mono ?_; rintro e w1 ⟨rfl, hX1⟩
  have hyz := hX1.size
  rw [hw1] at hyz
  replace A0 := ((hX1.at A0 (by simp)).alloc (.cells #[.int .i64 x0.hi, .int .u64 x0.lo] 147)).alloc (.cells #[.int .i64 0, .int .u64 0] 147)
  have A1 := (At.new w1 #[.int .i64 x0.hi, .int .u64 x0.lo] 147).alloc (.cells #[.int .i64 0, .int .u64 0] 147)
  have A2 := At.new (w1.alloc (.cells #[.int .i64 x0.hi, .int .u64 x0.lo] 147)) #[.int .i64 0, .int .u64 0] 147
  rw [show (w1.alloc (.cells #[.int .i64 x0.hi, .int .u64 x0.lo] 147)).heap.size = w1.heap.size + 1 by simp] at A2
  replace hX := ((hX.trans hX1).alloc (.cells #[.int .i64 x0.hi, .int .u64 x0.lo] 147)).alloc (.cells #[.int .i64 0, .int .u64 0] 147)
  clear hX1 hw1
  generalize hz : w.heap.size = z at *
  generalize hy : w1.heap.size = y at *
  go_wp2_with fail
  try rw [hn]
  generalize (w1.alloc (.cells #[.int .i64 x0.hi, .int .u64 x0.lo] 147)).alloc (.cells #[.int .i64 0, .int .u64 0] 147) = w0 at *
  go_loopg [8] 64 (fun g i wr => ∃ k : Nat, g + k = 64 ∧ i = .int .i64 k ∧ At wr z #[.int .i64 0, .int .u64 0] ∧ At wr y (wV (a * 2 ^ k)).cells ∧ At wr (y + 1) (wV (a * (n % 2 ^ k))).cells ∧ Chg [] w wr)
  case atStart => exact ⟨0, by omega, rfl, A0, by rw [HX0.out]; exact A1, by rw [ho0]; exact A2, hX⟩
  case round =>
    clear A0 A1 A2 hX
    obtain ⟨k, hg, rfl, A0, A1, A2, hX⟩ := hrel
    by_cases hk : k < 64
    · have b1 := and_one _ (div_bd n k hn0.1 hn0.2).1 (div_bd n k hn0.1 hn0.2).2
      have H1 := fun w => rplus_any w _ _ (wV_ok (a * (n % 2 ^ k))) (wV_ok (a * 2 ^ k))
      have H2 := fun w => rplus_any w _ _ (wV_ok (a * 2 ^ k)) (wV_ok (a * 2 ^ k))
      rw [wV_plus] at H1
      rw [wV_plus, ← mul_dbl] at H2
      have hbit : n / 2 ^ k % 2 = 0 ∨ n / 2 ^ k % 2 = 1 := by omega
      have m1 := mul_bit1 a n k
      have m0 := mul_bit0 a n k
      rw [wv_cells (wV (a * 2 ^ k)), wv_cells (wV (a * (n % 2 ^ k)))] at *
      rw [wv_cells (wV (a * 2 ^ (k + 1)))] at H2
      obtain ⟨x', hx'⟩ : ∃ x, wV (a * 2 ^ (k + 1)) = x := ⟨_, rfl⟩
      have HX := Lib.hid (show (wV (a * 2 ^ (k + 1))).cells = #[.int .i64 x'.hi, .int .u64 x'.lo] by rw [hx', wv_cells])
      rw [hx'] at H2
      clear hx'
      replace H2 := Lib.hid H2
      rcases hbit with hbit | hbit
      · have HO := Lib.hid (show (wV (a * (n % 2 ^ (k + 1)))).cells = #[.int .i64 (wV (a * (n % 2 ^ k))).hi, .int .u64 (wV (a * (n % 2 ^ k))).lo] by rw [m0 hbit, wv_cells])
        rw [hbit] at b1
        clear m0 m1 hbit H1
        generalize wV (a * 2 ^ k) = x at *
        generalize wV (a * (n % 2 ^ k)) = o at *
        have c0 := A1.cell 0; have c1 := A1.cell 1
        go_wp2_with fail
        refine (H2.out _).mono ?_; rintro e w3 ⟨rfl, hX2⟩
        clear c0 c1
        replace A0 := hX2.at A0 (by simp)
        replace A1 := hX2.at A1 (by simp)
        replace A2 := hX2.at A2 (by simp)
        replace hX := hX.trans hX2
        clear hX2
        have c0 := A1.cell 0; have c1 := A1.cell 1; have f0 := A1.frozen 0; have f1 := A1.frozen 1
        have D0 := A0.other2 (c := y) (by omega) (.int .i64 x'.hi) (.int .u64 x'.lo)
        have D1 := A1.set2 (.int .i64 x'.hi) (.int .u64 x'.lo)
        have D2 := A2.other2 (c := y) (by omega) (.int .i64 x'.hi) (.int .u64 x'.lo)
        have hXd := hX.set2 (b := y) (by omega) (.int .i64 x'.hi) (.int .u64 x'.lo)
        go_wp2_with fail
        go_roundg (gk - 1)
        case rel => exact ⟨k + 1, by omega, by go_num, D0, by rw [HX.out]; exact D1, by rw [HO.out]; exact D2, hXd⟩
        case measure => omega
      · rw [← m1 hbit] at H1
        obtain ⟨o', ho'⟩ : ∃ x, wV (a * (n % 2 ^ (k + 1))) = x := ⟨_, rfl⟩
        have HO := Lib.hid (show (wV (a * (n % 2 ^ (k + 1)))).cells = #[.int .i64 o'.hi, .int .u64 o'.lo] by rw [ho', wv_cells])
        rw [wv_cells, ho'] at H1
        rw [hbit] at b1
        clear m0 m1 hbit ho'
        replace H1 := Lib.hid H1
        generalize wV (a * 2 ^ k) = x at *
        generalize wV (a * (n % 2 ^ k)) = o at *
        have c0 := A2.cell 0; have c1 := A2.cell 1; have d0 := A1.cell 0; have d1 := A1.cell 1
        go_wp2_with fail
        refine (H1.out _).mono ?_; rintro e w2 ⟨rfl, hX2⟩
        clear c0 c1 d0 d1
        replace A0 := hX2.at A0 (by simp)
        replace A1 := hX2.at A1 (by simp)
        replace A2 := hX2.at A2 (by simp)
        replace hX := hX.trans hX2
        clear hX2
        have c0 := A2.cell 0; have c1 := A2.cell 1; have f0 := A2.frozen 0; have f1 := A2.frozen 1
        have D0 := A0.other2 (c := y + 1) (by omega) (.int .i64 o'.hi) (.int .u64 o'.lo)
        have D1 := A1.other2 (c := y + 1) (by omega) (.int .i64 o'.hi) (.int .u64 o'.lo)
        have D2 := A2.set2 (.int .i64 o'.hi) (.int .u64 o'.lo)
        have hXd := hX.set2 (b := y + 1) (by omega) (.int .i64 o'.hi) (.int .u64 o'.lo)
        have d0 := D1.cell 0; have d1 := D1.cell 1
        clear A0 A1 A2 hX
        go_wp2_with fail
        refine (H2.out _).mono ?_; rintro e w3 ⟨rfl, hX2⟩
        clear c0 c1 d0 d1 f0 f1
        have A0 := hX2.at D0 (by simp)
        have A1 := hX2.at D1 (by simp)
        have A2 := hX2.at D2 (by simp)
        have hX := hXd.trans hX2
        clear hX2 D0 D1 D2 hXd
        have c0 := A1.cell 0; have c1 := A1.cell 1; have f0 := A1.frozen 0; have f1 := A1.frozen 1
        have D0 := A0.other2 (c := y) (by omega) (.int .i64 x'.hi) (.int .u64 x'.lo)
        have D1 := A1.set2 (.int .i64 x'.hi) (.int .u64 x'.lo)
        have D2 := A2.other2 (c := y) (by omega) (.int .i64 x'.hi) (.int .u64 x'.lo)
        have hXd := hX.set2 (b := y) (by omega) (.int .i64 x'.hi) (.int .u64 x'.lo)
        go_wp2_with fail
        go_roundg (gk - 1)
        case rel => exact ⟨k + 1, by omega, by go_num, D0, by rw [HX.out]; exact D1, by rw [HO.out]; exact D2, hXd⟩
        case measure => omega
    · obtain rfl : k = 64 := by omega
      by_cases hb : b < 0
      · have HF := fun w => rflip_any w _ (wV_ok (a * 2 ^ 64))
        have HP := fun w => rplus_any w _ _ (wV_ok (a * (n % 2 ^ 64))) (wV_ok (-(a * 2 ^ 64)))
        rw [wV_neg] at HF
        rw [wV_plus, hn2 hb] at HP
        generalize wV (-(a * 2 ^ 64)) = f at *
        generalize wV (a * 2 ^ 64) = x at *
        generalize wV (a * (n % 2 ^ 64)) = o at *
        obtain ⟨r, hr⟩ : ∃ r, wV (a * b) = r := ⟨_, rfl⟩
        rw [hr] at HP
        have HR := Lib.hid hr
        clear hr
        rw [wv_cells x, wv_cells o] at *
        rw [wv_cells f] at *
        rw [wv_cells r] at HP
        replace HF := Lib.hid HF
        replace HP := Lib.hid HP
        clear hn2 hn3
        go_wp2_with fail
        have Cd : CL w [(z, #[.int .i64 0, .int .u64 0]), (y, #[.int .i64 x.hi, .int .u64 x.lo]), (y + 1, #[.int .i64 o.hi, .int .u64 o.lo])] 0 wr.drew := by
          refine ⟨fun p hp => ?_, hX.drew⟩
          simp only [List.mem_cons, List.not_mem_nil, or_false] at hp
          rcases hp with rfl | rfl | rfl
          · exact A0.drew
          · exact A1.drew
          · exact A2.drew
        clear A0 A1 A2 hX
        refine wp_region_sttl (CL w [(z, #[.int .i64 0, .int .u64 0]), (y, #[.int .i64 x.hi, .int .u64 x.lo]), (y + 1, #[.int .i64 o.hi, .int .u64 o.lo])]) 3 [] [(0, 0, false), (0, 0, false), (0, 0, false)]
          (by kernel_rfl) (by kernel_rfl) (by kernel_rfl) (Cd) ?_
        simp only [List.take_succ_cons, List.take_zero, List.drop_succ_cons, List.drop_zero, List.zip_cons_cons, List.zip_nil_right]
        refine wpStage_yes (by go_simp) ?_
        intro K hK
        apply Exists.intro
        refine ⟨fun kk ww hk1 hk2 hC => ?_, ?_⟩
        · have c0 := (hC.get 2 rfl).cell 0; have c1 := (hC.get 2 rfl).cell 1
          go_simp
          with_reducible exact rfl
        go_simp
        refine hK _ ?_
        clear hK K
        refine wpStage_yes (by go_simp) ?_
        intro K hK
        apply Exists.intro
        refine ⟨fun kk ww hk1 hk2 hC => ?_, ?_⟩
        · have c0 := (hC.get 1 rfl).cell 0; have c1 := (hC.get 1 rfl).cell 1
          go_simp
          with_reducible exact rfl
        go_simp
        refine hK _ ?_
        clear hK K
        refine wpStage_yes (by go_simp) ?_
        intro K hK
        apply Exists.intro
        refine ⟨fun kk ww hk1 hk2 hC => ?_, ?_⟩
        · go_simp
          go_at_call 121; refine (HF.out _).mono ?_; rintro e w' ⟨rfl, hX⟩
          exact ⟨rfl, hC.step hX⟩
        go_simp
        refine hK _ ?_
        clear hK K
        refine wpStage_nil (fun ww hC => ?_)
        clear Cd
        go_wp2_with fail
        refine (HP.out _).mono ?_; rintro e w2 ⟨rfl, hX2⟩
        have hC2 := hC.step (j := 0) hX2
        have B0 := hC2.get 0 rfl
        have B1 := hC2.get 1 rfl
        have B2 := hC2.get 2 rfl
        have hX := hC2.x
        simp only at B0 B1 B2
        clear hC hC2 hX2
        have c0 := B2.cell 0; have c1 := B2.cell 1; have f0 := B2.frozen 0; have f1 := B2.frozen 1
        have A0 := B0.other2 (c := y + 1) (by omega) (.int .i64 r.hi) (.int .u64 r.lo)
        have A2 := B2.set2 (.int .i64 r.hi) (.int .u64 r.lo)
        replace hX := hX.set2 (b := y + 1) (by omega) (.int .i64 r.hi) (.int .u64 r.lo)
        clear B0 B1 B2
        have g0 := A2.cell 0; have g1 := A2.cell 1; have d0 := A0.cell 0; have d1 := A0.cell 1; have h0 := A0.frozen 0; have h1 := A0.frozen 1
        go_wp2_with fail
        have D0 := A0.set2 (.int .i64 r.hi) (.int .u64 r.lo)
        have hXd := hX.set2 (b := z) (by omega) (.int .i64 r.hi) (.int .u64 r.lo)
        clear c0 c1 f0 f1 g0 g1 d0 d1 h0 h1
        have d0 := D0.cell 0; have d1 := D0.cell 1
        exact bodyPost_ret (v := .agg #[.int .i64 r.hi, .int .u64 r.lo]) (by simp [results, Tryz.results104, go_sem, d0, d1]) rfl ⟨by rw [HR.out, wv_cells], hXd⟩
      · rw [hn3 (by omega)] at A2
        obtain ⟨r, hr⟩ : ∃ r, wV (a * b) = r := ⟨_, rfl⟩
        rw [hr] at A2
        have HR := Lib.hid hr
        clear hr
        generalize wV (a * 2 ^ 64) = x at *
        rw [wv_cells x, wv_cells r] at *
        clear hn2 hn3
        have c0 := A2.cell 0; have c1 := A2.cell 1; have d0 := A0.cell 0; have d1 := A0.cell 1; have f0 := A0.frozen 0; have f1 := A0.frozen 1
        go_wp2_with fail
        have D0 := A0.set2 (.int .i64 r.hi) (.int .u64 r.lo)
        have hXd := hX.set2 (b := z) (by omega) (.int .i64 r.hi) (.int .u64 r.lo)
        clear c0 c1 d0 d1 f0 f1
        have d0 := D0.cell 0; have d1 := D0.cell 1
        exact bodyPost_ret (v := .agg #[.int .i64 r.hi, .int .u64 r.lo]) (by simp [results, Tryz.results104, go_sem, d0, d1]) rfl ⟨by rw [HR.out, wv_cells], hXd⟩
end Go.Proofs.YtpfglmlpodjneaaGreat
namespace Go.Proofs.YtpfglmlpodjneaaGreat
open Go.RowKit

theorem IRow.stored {w : World} {base g n cap : Nat} {L : List Int} (h : IRow w base (.slice (some ⟨g, 0, none⟩) n cap) L) (hn : L.length = n) (j : Nat) (u : Int) : IRow (w.setCell ⟨g, j, none⟩ (.int .i64 u)) base (.slice (some ⟨g, 0, none⟩) n cap) (L.set j u) := by
  subst hn
  have := World.ownsRow.stored h j (.int .i64 u)
  unfold IRow
  rw [List.length_set, List.map_set]
  exact this.1
theorem IRow.frozen {w : World} {base g n cap : Nat} {L : List Int} (h : IRow w base (.slice (some ⟨g, 0, none⟩) n cap) L) (hn : L.length = n) (j : Nat) : w.frozen? ⟨g, j, none⟩ = false := by
  subst hn
  exact World.ownsRow.frozenAt h j
/-- The quotient's digits from k on. -/
def quoL (Q : Int) (k : Nat) : List Int := (List.range 128).map (fun j => if j < k then 0 else Q / 2 ^ j % 2)
theorem quoL_len (Q : Int) (k : Nat) : (quoL Q k).length = 128 := by simp [quoL]
theorem quoL_at (Q : Int) (k : Nat) (hk : k < 128) : (quoL Q (k + 1))[k]? = some 0 := by
  unfold quoL
  rw [List.getElem?_map, List.getElem?_range hk]
  simp
theorem quoL_zero (Q : Int) : quoL Q 0 = bitsL Q 128 := by simp [quoL, bitsL]
theorem quoL_top (Q : Int) : quoL Q 128 = List.replicate 128 0 := by
  unfold quoL
  apply List.ext_getElem (by simp)
  intro i h1 h2
  simp only [List.length_map, List.length_range] at h1
  rw [List.getElem_replicate, List.getElem_map, List.getElem_range, if_pos h1]
theorem quoL_keep (Q : Int) (k : Nat) (h : Q / 2 ^ k % 2 = 0) : quoL Q (k + 1) = quoL Q k := by
  unfold quoL
  apply List.map_congr_left
  intro j _
  by_cases h1 : j < k
  · rw [if_pos h1, if_pos (by omega)]
  · by_cases h2 : j = k
    · subst h2
      rw [if_pos (by omega), if_neg h1, h]
    · rw [if_neg (by omega), if_neg h1]
theorem quoL_set (Q : Int) (k : Nat) (h : Q / 2 ^ k % 2 = 1) : (quoL Q (k + 1)).set k 1 = quoL Q k := by
  unfold quoL
  apply List.ext_getElem (by simp)
  intro j h1 h2
  simp only [List.length_map, List.length_range, List.length_set] at h1 h2
  rw [List.getElem_set]
  by_cases h3 : k = j
  · subst h3
    simp [h]
  · rw [if_neg h3]
    simp only [List.getElem_map, List.getElem_range]
    by_cases h4 : j < k
    · rw [if_pos h4, if_pos (by omega)]
    · rw [if_neg h4, if_neg (by omega)]
/-- One digit of a long division. -/
theorem div_step (M d : Int) (k : Nat) (hd : 0 < d) :
    (d ≤ 2 * (M / 2 ^ (k + 1) % d) + M / 2 ^ k % 2 → M / 2 ^ k % d = 2 * (M / 2 ^ (k + 1) % d) + M / 2 ^ k % 2 - d ∧ M / d / 2 ^ k % 2 = 1) ∧
    (¬d ≤ 2 * (M / 2 ^ (k + 1) % d) + M / 2 ^ k % 2 → M / 2 ^ k % d = 2 * (M / 2 ^ (k + 1) % d) + M / 2 ^ k % 2 ∧ M / d / 2 ^ k % 2 = 0) := by
  have hp := pow_pos' k
  have e1 : M / 2 ^ (k + 1) = M / 2 ^ k / 2 := by rw [Int.ediv_ediv_of_nonneg (by omega), Int.pow_succ]
  have e2 : M / d / 2 ^ k = M / 2 ^ k / d := by rw [Int.ediv_ediv_of_nonneg (by omega), Int.ediv_ediv_of_nonneg (by omega), Int.mul_comm]
  rw [e1, e2]
  generalize M / 2 ^ k = B
  have h1 := Int.emod_add_mul_ediv (B / 2) d
  have h2 := Int.emod_nonneg (B / 2) (show d ≠ 0 by omega)
  have h3 := Int.emod_lt_of_pos (B / 2) hd
  have h4 : B = 2 * (B / 2) + B % 2 := by omega
  generalize B / 2 / d = q at *
  generalize B / 2 % d = r at *
  constructor
  · intro h
    have := (Int.ediv_emod_unique (a := B) (b := d) (r := 2 * r + B % 2 - d) (q := 2 * q + 1) hd).2 ⟨by rw [Int.mul_add, Int.mul_left_comm]; omega, by omega, by omega⟩
    rw [this.1, this.2]
    omega
  · intro h
    have := (Int.ediv_emod_unique (a := B) (b := d) (r := 2 * r + B % 2) (q := 2 * q) hd).2 ⟨by rw [Int.mul_left_comm]; omega, by omega, by omega⟩
    rw [this.1, this.2]
    omega
theorem bit_shift128 (x q : Int) (k : Nat) (hk : k < 128) : (x + 340282366920938463463374607431768211456 * q) / 2 ^ k % 2 = x / 2 ^ k % 2 := by
  have hp := pow_pos' k
  have e : (340282366920938463463374607431768211456 : Int) = 2 ^ k * (2 * 2 ^ (127 - k)) := by
    have e : (2 : Int) ^ k * (2 * 2 ^ (127 - k)) = 2 ^ (k + (1 + (127 - k))) := by
      rw [Int.pow_add, Int.pow_add]
      rfl
    rw [e, show k + (1 + (127 - k)) = 128 by omega]
    rfl
  rw [e, Int.mul_assoc, Int.add_mul_ediv_left _ _ (by omega), Int.mul_assoc]
  generalize 2 ^ (127 - k) * q = r
  omega
set_option maxRecDepth 100000 in
theorem make_ints (w : World) : ∃ w', (Instr.makeSlice 156 (.int .i64 128) (.int .i64 128)).run Tryz.prog w = .ok (.slice (some ⟨w.heap.size, 0, none⟩) 128 128) w' ∧ IRow w' w.heap.size (.slice (some ⟨w.heap.size, 0, none⟩) 128 128) (List.replicate 128 0) ∧ Chg [] w w' := by
  obtain ⟨i, hi, hz, hz1, hz2⟩ := info_parts info_int
  obtain ⟨w', h1, h2, h3⟩ := run_makeSlice_full (P := Tryz.prog) (w := w) w.heap.size 156 3 i (.int .i64 0) 1 und_intn hi hz hz1 .i64 .i64 128 (by decide) (by rw [hz2]; decide) (by decide) (Nat.le_refl _)
  refine ⟨w', h1, ?_, ⟨h3.os, h3.tape, h3.output, h3.size, fun k hk _ => h3.block k hk (by simp)⟩⟩
  have e : (madeCells (Value.int .i64 0).cells (128 * 1)).toList = (List.replicate 128 (0 : Int)).map (Value.int .i64) := by kernel_rfl
  rw [e] at h2
  unfold IRow
  rw [List.length_replicate]
  exact h2
theorem fits_val' (a : WV) (h : a.ok) : fitsV a.val = true := by
  rw [fitsV_iff]
  have := h.h0; have := h.h1; have := h.l0; have := h.l1
  unfold WV.val
  omega
theorem bits_wV (v : Int) : bitsL (wV v).val 128 = bitsL v 128 := by
  obtain ⟨q, hq⟩ := wV_val v
  unfold bitsL
  apply List.map_congr_left
  intro j hj
  rw [hq, bit_shift128 _ _ _ (by simpa using hj)]
/-- The quotient and the rest of a number below 0. -/
theorem div_neg (M d : Int) (hd : 0 < d) : (M % d = 0 → -M / d = -(M / d) ∧ -M % d = 0) ∧ (0 < M % d → -M / d = -(M / d) - 1 ∧ -M % d = d - M % d) := by
  have h1 := Int.emod_add_mul_ediv M d
  have h3 := Int.emod_lt_of_pos M hd
  generalize M / d = q at *
  generalize M % d = r at *
  constructor
  · intro h
    exact (Int.ediv_emod_unique hd).2 ⟨by rw [Int.mul_neg]; omega, by omega, by omega⟩
  · intro h
    exact (Int.ediv_emod_unique hd).2 ⟨by rw [Int.mul_sub, Int.mul_neg]; omega, by omega, by omega⟩

end Go.Proofs.YtpfglmlpodjneaaGreat
namespace Go.Proofs.YtpfglmlpodjneaaGreat
open Go.RowKit

theorem int64V_fits {v : Int} (h : fits64 v = true) : int64V v = v := if_pos h
theorem fits_of64 (v : Int) (h0 : -170141183460469231731687303715884105728 ≤ v) (h1 : v ≤ 170141183460469231731687303715884105727) : fitsV v = true := by rw [fitsV_iff]; exact ⟨h0, h1⟩
theorem told_any (w : World) (a : WV) (ha : a.ok) (ok : Bool) : Calls Tryz.prog 51 #[.agg a.cells, .bool ok] w fun e w' => e = .returned (.tuple #[.int .i64 (if ok then int64V a.val else 0), .bool (ok && fits64 a.val)]) ∧ Chg [] w w' := by
  have P1 := fun w => wint_any w a ha
  simp only [wv_cells] at *
  replace P1 := Lib.hid P1
  cases ok
  · have C := (CL.new w 0).push #[.int .i64 a.hi, .int .u64 a.lo] 95
    go_enter Tryz.func51, Tryz.ntmps51
    generalize hzW : w.heap.size = z at *
    go_wp2_with fail
    go_returns
    exact ⟨rfl, C.x⟩
  · have C := (CL.new w 0).push #[.int .i64 a.hi, .int .u64 a.lo] 95
    go_enter Tryz.func51, Tryz.ntmps51
    generalize hzW : w.heap.size = z at *
    have cc0 := C.cells 0 rfl
    go_wp2_with fail
    refine (P1.out _).mono ?_; rintro e w1 ⟨rfl, hX⟩
    clear cc0
    replace C := C.step (j := 0) hX
    clear hX
    go_wp2_with fail
    go_returns
    exact ⟨rfl, C.x⟩
/-- What is told of a number that has a place in 128 bits. -/
theorem told_of (w : World) (v : Int) (h : fitsV v = true) : Calls Tryz.prog 51 #[.agg (addV v).cells, .bool (fitsV v)] w fun e w' => e = .returned (.tuple #[.int .i64 (int64V v), .bool (fits64 v)]) ∧ Chg [] w w' := by
  have H := told_any w (addV v) (addV_ok v) (fitsV v)
  rw [addV_val v h, h] at H
  rw [h]
  exact H
theorem fadd_any (w : World) (a b : Int) (ha0 : -9223372036854775808 ≤ a) (ha1 : a ≤ 9223372036854775807) (hb0 : -9223372036854775808 ≤ b) (hb1 : b ≤ 9223372036854775807) : Calls Tryz.prog 36 #[.int .i64 a, .int .i64 b] w fun e w' => e = .returned (.tuple #[.int .i64 (int64V (a + b)), .bool (fits64 (a + b))]) ∧ Chg [] w w' := by
  have P1 := fun w => wof_any w a ha0 ha1
  have P2 := fun w => wof_any w b hb0 hb1
  have P3 := fun w => wadd_any w (ofV a) (ofV b) (ofV_ok a (by omega) (by omega)) (ofV_ok b (by omega) (by omega))
  rw [ofV_val', ofV_val'] at P3
  have P4 := fun w => told_of w (a + b) (fits_of64 _ (by omega) (by omega))
  generalize addV (a + b) = s at *
  generalize fitsV (a + b) = f at *
  generalize ofV a = x at *
  generalize ofV b = y at *
  simp only [wv_cells] at *
  replace P1 := Lib.hid P1
  replace P2 := Lib.hid P2
  replace P3 := Lib.hid P3
  replace P4 := Lib.hid P4
  have C := CL.new w 0
  go_enter Tryz.func36, Tryz.ntmps36
  go_wp2_with fail
  refine (P1.out _).mono ?_; rintro e w1 ⟨rfl, hX⟩
  replace C := C.step (j := 0) hX
  clear hX
  go_wp2_with fail
  refine (P2.out _).mono ?_; rintro e w2 ⟨rfl, hX⟩
  replace C := C.step (j := 0) hX
  clear hX
  go_wp2_with fail
  refine (P3.out _).mono ?_; rintro e w3 ⟨rfl, hX⟩
  replace C := C.step (j := 0) hX
  clear hX
  go_wp2_with fail
  refine (P4.out _).mono ?_; rintro e w4 ⟨rfl, hX⟩
  replace C := C.step (j := 0) hX
  clear hX
  go_wp2_with fail
  go_returns
  exact ⟨rfl, C.x⟩
theorem prod_bd (a b : Int) (ha0 : -9223372036854775808 ≤ a) (ha1 : a ≤ 9223372036854775807) (hb0 : -9223372036854775808 ≤ b) (hb1 : b ≤ 9223372036854775807) : -85070591730234615865843651857942052864 ≤ a * b ∧ a * b ≤ 85070591730234615865843651857942052864 := by
  have := imul_bd a b 9223372036854775808 (by omega) (by omega) (by omega) (by omega) (by omega)
  omega
def absV (a : Int) : Int := if a < 0 then -a else a
def moreB (v r c mode : Int) : Bool := (mode == 1 && decide (0 < r)) || (mode == 2 && (decide (c - r < r) || (r == c - r && decide (0 ≤ v))))
theorem fmore_any (w : World) (a : WV) (ha : a.ok) (r c mode : Int) (h0 : 0 ≤ r) (h1 : r < c) (h2 : c ≤ 9223372036854775807) : Calls Tryz.prog 50 #[.agg a.cells, .int .i64 r, .int .i64 c, .int .i64 mode] w fun e w' => e = .returned (.bool (moreB a.val r c mode)) ∧ Chg [] w w' := by
  have P1 := fun w => wsign_any w a ha
  have hs : (0 ≤ a.val ∧ 0 ≤ cmpI a.val 0) ∨ (¬0 ≤ a.val ∧ cmpI a.val 0 < 0) := by
    unfold cmpI
    by_cases h : a.val < 0
    · right; rw [if_pos h]; omega
    · left; rw [if_neg h]; split <;> omega
  have Hm := Lib.hid (show moreB a.val r c mode = ((mode == 1 && decide (0 < r)) || (mode == 2 && (decide (c - r < r) || (r == c - r && decide (0 ≤ a.val))))) from rfl)
  generalize moreB a.val r c mode = res at *
  generalize cmpI a.val 0 = sg at *
  generalize a.val = v at *
  simp only [wv_cells] at *
  replace P1 := Lib.hid P1
  have C := (CL.new w 0).push #[.int .i64 a.hi, .int .u64 a.lo] 95
  by_cases m1 : mode = 1
  · subst m1
    have e := Hm.out
    simp at e
    clear Hm hs
    replace e := Lib.hid e
    go_enter Tryz.func50, Tryz.ntmps50
    go_wp2_with fail
    go_returns
    exact ⟨ret_bool (by rw [e.out]), C.x⟩
  · by_cases m2 : mode = 2
    · subst m2
      have e := Hm.out
      simp at e
      clear Hm m1
      by_cases g1 : c - r < r
      · simp [g1] at e
        replace e := Lib.hid e
        clear hs
        go_enter Tryz.func50, Tryz.ntmps50
        go_wp2_with fail
        go_returns
        exact ⟨ret_bool (by rw [e.out]), C.x⟩
      · by_cases g2 : r = c - r
        · have g3 : (r == c - r) = true := by simpa using g2
          have e2 : res = decide (0 ≤ v) := by
            rw [e, decide_eq_false g1, Bool.false_or, g3, Bool.true_and]
          clear e g2
          replace e2 := Lib.hid e2
          go_enter Tryz.func50, Tryz.ntmps50
          generalize hzW : w.heap.size = z at *
          have cc0 := C.cells 0 rfl
          go_wp2_with fail
          refine (P1.out _).mono ?_; rintro e w1 ⟨rfl, hX⟩
          clear cc0
          replace C := C.step (j := 0) hX
          clear hX
          rcases hs with ⟨s1, s2⟩ | ⟨s1, s2⟩
          · go_wp2_with fail
            go_returns
            exact ⟨ret_bool (by rw [e2.out, decide_eq_true s1]), C.x⟩
          · go_wp2_with fail
            go_returns
            exact ⟨ret_bool (by rw [e2.out, Bool.eq_iff_iff]; simp; omega), C.x⟩
        · have g3 : (r == c - r) = false := by simpa using g2
          have e2 : res = false := by
            rw [e, decide_eq_false g1, Bool.false_or, g3, Bool.false_and]
          clear e g2 hs
          replace e2 := Lib.hid e2
          go_enter Tryz.func50, Tryz.ntmps50
          go_wp2_with fail
          go_returns
          exact ⟨ret_bool (by rw [e2.out]), C.x⟩
    · have e : res = false := by rw [Hm.out]; simp [m1, m2]
      clear Hm hs
      replace e := Lib.hid e
      go_enter Tryz.func50, Tryz.ntmps50
      go_wp2_with fail
      go_returns
      exact ⟨ret_bool (by rw [e.out]), C.x⟩
end Go.Proofs.YtpfglmlpodjneaaGreat
namespace Go.Proofs.YtpfglmlpodjneaaGreat
open Go.RowKit

theorem div_bd64 (p c : Int) (h0 : -85070591730234615865843651857942052864 ≤ p) (h1 : p ≤ 85070591730234615865843651857942052864) (hc : 0 < c) : -85070591730234615865843651857942052864 ≤ p / c ∧ p / c ≤ 85070591730234615865843651857942052864 := by
  have e := Int.emod_add_mul_ediv p c
  have r0 := Int.emod_nonneg p (show c ≠ 0 by omega)
  have r1 := Int.emod_lt_of_pos p hc
  by_cases hp : 0 ≤ p
  · have g0 := Int.ediv_nonneg hp (show 0 ≤ c by omega)
    have g1 := Int.ediv_le_self c hp
    omega
  · have g0 := Int.ediv_neg_of_neg_of_pos (show p < 0 by omega) hc
    refine ⟨?_, by omega⟩
    have g1 : p ≤ p / c := by
      apply Classical.byContradiction
      intro hn
      have g2 := Int.mul_le_mul_of_nonneg_left (show p / c ≤ p - 1 by omega) (show 0 ≤ c by omega)
      have g3 := Int.mul_le_mul_of_nonneg_right (show (1 : Int) ≤ c by omega) (show 0 ≤ -p by omega)
      rw [Int.mul_sub] at g2
      simp only [Int.mul_neg, Int.one_mul] at g3
      omega
    omega
set_option maxHeartbeats 2000000 in
theorem fmuldiv_in (w : World) (a b : Int) (ha0 : -9223372036854775808 ≤ a) (ha1 : a ≤ 9223372036854775807) (hb0 : -9223372036854775808 ≤ b) (hb1 : b ≤ 9223372036854775807) (c : Int) (hc0 : -9223372036854775808 ≤ c) (hc1 : c ≤ 9223372036854775807) (mode : Int) (hm0 : 0 ≤ mode) (hm1 : mode ≤ 2) :
    Calls Tryz.prog 34 #[.int .i64 a, .int .i64 b, .int .i64 c, .int .i64 mode] w fun e w' => e = .returned (.tuple #[.int .i64 (mdN a b c mode), .bool (mdB a b c mode)]) ∧ Chg [] w w' := by
  obtain ⟨hp0, hp1⟩ := prod_bd a b ha0 ha1 hb0 hb1
  have P1 := fun w => wmul_any w a b ha0 ha1 hb0 hb1
  have hok := ofV_ok (a * b) (by omega) (by omega)
  have P2 := fun w => wdiv_any w (ofV (a * b)) hok c hc0 hc1
  have hQ : 0 < c → (divQ (ofV (a * b)) c) = ofV (a * b / c) ∧ divR (ofV (a * b)) c = a * b % c := fun h => by
    unfold divQ divR
    rw [if_pos h, if_pos h, ofV_val']
    exact ⟨rfl, rfl⟩
  have hR : 0 < c → 0 ≤ a * b % c ∧ a * b % c < c := fun h => ⟨Int.emod_nonneg _ (by omega), Int.emod_lt_of_pos _ h⟩
  have hD : 0 < c → -85070591730234615865843651857942052864 ≤ a * b / c ∧ a * b / c ≤ 85070591730234615865843651857942052864 := fun h => div_bd64 _ c hp0 hp1 h
  have P3 : 0 < c → ∀ w, Calls Tryz.prog 50 #[.agg (ofV (a * b)).cells, .int .i64 (divR (ofV (a * b)) c), .int .i64 c, .int .i64 mode] w fun e w' => e = .returned (.bool (mdUp (a * b) c mode)) ∧ Chg [] w w' := fun h w => by
    have H := fmore_any w (ofV (a * b)) hok (a * b % c) c mode (hR h).1 (hR h).2 hc1
    rw [ofV_val'] at H
    rw [(hQ h).2]
    exact H
  have P4 : 0 < c → ∀ w, Calls Tryz.prog 54 #[.agg (divQ (ofV (a * b)) c).cells] w fun e w' => e = .returned (.tuple #[.int .i64 (int64V (a * b / c)), .bool (fits64 (a * b / c))]) ∧ Chg [] w w' := fun h w => by
    have H := wint_any w (ofV (a * b / c)) (ofV_ok _ (by have := hD h; omega) (by have := hD h; omega))
    rw [ofV_val'] at H
    rw [(hQ h).1]
    exact H
  have P5 := fun w => wof_any w 1 (by decide) (by decide)
  have P6 : 0 < c → ∀ w, Calls Tryz.prog 52 #[.agg (divQ (ofV (a * b)) c).cells, .agg (ofV 1).cells] w fun e w' => e = .returned (.tuple #[.agg (addV (a * b / c + 1)).cells, .bool (fitsV (a * b / c + 1))]) ∧ Chg [] w w' := fun h w => by
    have H := wadd_any w (ofV (a * b / c)) (ofV 1) (ofV_ok _ (by have := hD h; omega) (by have := hD h; omega)) (ofV_ok _ (by decide) (by decide))
    rw [ofV_val', ofV_val'] at H
    rw [(hQ h).1]
    exact H
  have P7 : 0 < c → ∀ w, Calls Tryz.prog 51 #[.agg (addV (a * b / c + 1)).cells, .bool (fitsV (a * b / c + 1))] w fun e w' => e = .returned (.tuple #[.int .i64 (int64V (a * b / c + 1)), .bool (fits64 (a * b / c + 1))]) ∧ Chg [] w w' := fun h w =>
    told_of w _ (fits_of64 _ (by have := hD h; omega) (by have := hD h; omega))
  have HN : decide (0 < c) = false → mdN a b c mode = 0 ∧ mdB a b c mode = false := fun h => by
    unfold mdN mdB mdOk
    rw [h]
    exact ⟨rfl, rfl⟩
  have HO : 0 < c → mdOk c mode = true := fun h => by unfold mdOk; simp; omega
  have H0 : decide (0 < c) = true → mdUp (a * b) c mode = false → mdN a b c mode = int64V (a * b / c) ∧ mdB a b c mode = fits64 (a * b / c) := fun h g => by
    unfold mdN mdB mdV
    rw [HO (by simpa using h), g]
    simp
  have H1 : decide (0 < c) = true → mdUp (a * b) c mode = true → mdN a b c mode = int64V (a * b / c + 1) ∧ mdB a b c mode = fits64 (a * b / c + 1) := fun h g => by
    unfold mdN mdB mdV
    rw [HO (by simpa using h), g]
    simp
  have HC : decide (0 < c) = true → 0 < c := fun h => by simpa using h
  clear HO hD hQ hok hp0 hp1 hR
  generalize mdN a b c mode = rn at *
  generalize mdB a b c mode = rb at *
  generalize mdUp (a * b) c mode = up at *
  generalize int64V (a * b / c + 1) = i1 at *
  generalize fits64 (a * b / c + 1) = f1 at *
  generalize int64V (a * b / c) = i0 at *
  generalize fits64 (a * b / c) = f0 at *
  generalize addV (a * b / c + 1) = s at *
  generalize fitsV (a * b / c + 1) = sf at *
  generalize divQ (ofV (a * b)) c = q at *
  generalize divR (ofV (a * b)) c = r at *
  generalize ofV (a * b) = m at *
  generalize ofV 1 = o at *
  simp only [wv_cells] at *
  by_cases hc : 0 < c
  · replace P3 := P3 hc
    replace P4 := P4 hc
    replace P6 := P6 hc
    replace P7 := P7 hc
    rw [decide_eq_true hc] at *
    replace P1 := Lib.hid P1
    replace P2 := Lib.hid P2
    replace P3 := Lib.hid P3
    replace P4 := Lib.hid P4
    replace P5 := Lib.hid P5
    replace P6 := Lib.hid P6
    replace P7 := Lib.hid P7
    replace H0 := Lib.hid H0
    replace H1 := Lib.hid H1
    clear HC HN
    have C := CL.new w 0
    go_enter Tryz.func34, Tryz.ntmps34
    go_wp2_with fail
    refine (P1.out _).mono ?_; rintro e w1 ⟨rfl, hX⟩
    replace C := (C.step (j := 0) hX).push #[.int .i64 m.hi, .int .u64 m.lo] 95
    clear hX
    generalize hz1 : w1.heap.size = z1 at *
    have cc0 := C.cells 0 rfl
    go_wp2_with fail
    refine (P2.out _).mono ?_; rintro e w2 ⟨rfl, hX⟩
    clear cc0
    replace C := (C.step (j := 0) hX).push #[.int .i64 q.hi, .int .u64 q.lo] 95
    clear hX
    generalize hz2 : w2.heap.size = z2 at *
    have cc0 := C.cells 0 rfl
    have cc1 := C.cells 1 rfl
    go_wp2_with fail
    refine (P3.out _).mono ?_; rintro e w3 ⟨rfl, hX⟩
    clear cc0 cc1
    replace C := C.step (j := 0) hX
    clear hX
    cases up
    · clear P5 P6 P7 H1
      have cc0 := C.cells 0 rfl
      have cc1 := C.cells 1 rfl
      go_wp2_with fail
      refine (P4.out _).mono ?_; rintro e w4 ⟨rfl, hX⟩
      clear cc0 cc1
      replace C := C.step (j := 0) hX
      clear hX
      go_wp2_with fail
      go_returns
      exact ⟨by rw [(H0.out (by simp) (by simp)).1, (H0.out (by simp) (by simp)).2] <;> rfl, C.x⟩
    · clear P4 H0
      have cc0 := C.cells 0 rfl
      have cc1 := C.cells 1 rfl
      go_wp2_with fail
      clear cc0 cc1
      have Cd := C.drew
      clear C
      refine wp_region_stage (CL w [(z2, #[.int .i64 q.hi, .int .u64 q.lo]), (z1, #[.int .i64 m.hi, .int .u64 m.lo])]) [] [(0, 0, false), (0, 0, false), (0, 0, false), (0, 0, false), (0, 0, false), (0, 0, false), (0, 0, false), (0, 0, false), (0, 0, false), (0, 0, false)]
        (by kernel_rfl) (by kernel_rfl) (by kernel_rfl) (Cd) ?_
      simp only [List.zip_cons_cons, List.zip_nil_right]
      refine wpStage_yes (by go_simp) ?_
      intro K hK
      apply Exists.intro
      refine ⟨fun kk ww hk1 hk2 hC => ?_, ?_⟩
      · have c0 := (hC.get 0 rfl).cell 0; have c1 := (hC.get 0 rfl).cell 1
        go_simp
        with_reducible exact rfl
      go_simp
      refine hK _ ?_
      clear hK K
      refine wpStage_yes (by go_simp) ?_
      intro K hK
      apply Exists.intro
      refine ⟨fun kk ww hk1 hk2 hC => ?_, ?_⟩
      · go_simp
        go_at_call 53; refine (P5.out _).mono ?_; rintro e w' ⟨rfl, hX⟩
        exact ⟨rfl, hC.step hX⟩
      go_simp
      refine hK _ ?_
      clear hK K
      refine wpStage_yes (by go_simp) ?_
      intro K hK
      apply Exists.intro
      refine ⟨fun kk ww hk1 hk2 hC => ?_, ?_⟩
      · go_simp
        go_at_call 52; refine (P6.out _).mono ?_; rintro e w' ⟨rfl, hX⟩
        exact ⟨rfl, hC.step hX⟩
      go_simp
      refine hK _ ?_
      clear hK K
      refine wpStage_yes (by go_simp) ?_
      intro K hK
      apply Exists.intro
      refine ⟨fun kk ww hk1 hk2 hC => ?_, ?_⟩
      · go_simp
        with_reducible exact rfl
      go_simp
      refine hK _ ?_
      clear hK K
      refine wpStage_yes (by go_simp) ?_
      intro K hK
      apply Exists.intro
      refine ⟨fun kk ww hk1 hk2 hC => ?_, ?_⟩
      · go_simp
        with_reducible exact rfl
      go_simp
      refine hK _ ?_
      clear hK K
      refine wpStage_yes (by go_simp) ?_
      intro K hK
      apply Exists.intro
      refine ⟨fun kk ww hk1 hk2 hC => ?_, ?_⟩
      · go_simp
        go_at_call 51; refine (P7.out _).mono ?_; rintro e w' ⟨rfl, hX⟩
        exact ⟨rfl, hC.step hX⟩
      go_simp
      refine hK _ ?_
      clear hK K
      refine wpStage_yes (by go_simp) ?_
      intro K hK
      apply Exists.intro
      refine ⟨fun kk ww hk1 hk2 hC => ?_, ?_⟩
      · go_simp
        with_reducible exact rfl
      go_simp
      refine hK _ ?_
      clear hK K
      refine wpStage_yes (by go_simp) ?_
      intro K hK
      apply Exists.intro
      refine ⟨fun kk ww hk1 hk2 hC => ?_, ?_⟩
      · go_simp
        with_reducible exact rfl
      go_simp
      refine hK _ ?_
      clear hK K
      refine wpStage_yes (by go_simp) ?_
      intro K hK
      apply Exists.intro
      refine ⟨fun kk ww hk1 hk2 hC => ?_, ?_⟩
      · go_simp
        with_reducible exact rfl
      go_simp
      refine hK _ ?_
      clear hK K
      refine wpStage_yes (by go_simp) ?_
      intro K hK
      apply Exists.intro
      refine ⟨fun kk ww hk1 hk2 hC => ?_, ?_⟩
      · go_simp
        with_reducible exact rfl
      go_simp
      refine hK _ ?_
      clear hK K
      refine wpStage_nil (fun ww hC => ?_)
      clear Cd
      have C := hC
      clear hC
      go_wp2_with fail
      go_returns
      exact ⟨by rw [(H1.out (by simp) (by simp)).1, (H1.out (by simp) (by simp)).2] <;> rfl, C.x⟩
  · rw [decide_eq_false hc] at *
    clear P3 P4 P5 P6 P7 HC H0 H1
    replace P1 := Lib.hid P1
    replace P2 := Lib.hid P2
    replace HN := Lib.hid HN
    have C := CL.new w 0
    go_enter Tryz.func34, Tryz.ntmps34
    go_wp2_with fail
    refine (P1.out _).mono ?_; rintro e w1 ⟨rfl, hX⟩
    replace C := (C.step (j := 0) hX).push #[.int .i64 m.hi, .int .u64 m.lo] 95
    clear hX
    generalize hz1 : w1.heap.size = z1 at *
    have cc0 := C.cells 0 rfl
    go_wp2_with fail
    refine (P2.out _).mono ?_; rintro e w2 ⟨rfl, hX⟩
    clear cc0
    replace C := (C.step (j := 0) hX).push #[.int .i64 q.hi, .int .u64 q.lo] 95
    clear hX
    generalize hz2 : w2.heap.size = z2 at *
    go_wp2_with fail
    go_returns
    exact ⟨by rw [(HN.out (by simp)).1, (HN.out (by simp)).2] <;> rfl, C.x⟩
theorem fmuldiv_any (w : World) (a b : Int) (ha0 : -9223372036854775808 ≤ a) (ha1 : a ≤ 9223372036854775807) (hb0 : -9223372036854775808 ≤ b) (hb1 : b ≤ 9223372036854775807) (c : Int) (hc0 : -9223372036854775808 ≤ c) (hc1 : c ≤ 9223372036854775807) (mode : Int) :
    Calls Tryz.prog 34 #[.int .i64 a, .int .i64 b, .int .i64 c, .int .i64 mode] w fun e w' => e = .returned (.tuple #[.int .i64 (mdN a b c mode), .bool (mdB a b c mode)]) ∧ Chg [] w w' := by
  by_cases h1 : mode < 0
  · have e : mdOk c mode = false := by unfold mdOk; simp; omega
    rw [show mdN a b c mode = 0 by unfold mdN; rw [e]; rfl, show mdB a b c mode = false by unfold mdB; rw [e]; rfl]
    clear e
    go_enter Tryz.func34, Tryz.ntmps34
    go_wp2_with fail
    go_returns
    exact ⟨rfl, Chg.refl _ _⟩
  · by_cases h2 : 2 < mode
    · have e : mdOk c mode = false := by unfold mdOk; simp; omega
      rw [show mdN a b c mode = 0 by unfold mdN; rw [e]; rfl, show mdB a b c mode = false by unfold mdB; rw [e]; rfl]
      clear e
      go_enter Tryz.func34, Tryz.ntmps34
      go_wp2_with fail
      go_returns
      exact ⟨rfl, Chg.refl _ _⟩
    · exact fmuldiv_in w a b ha0 ha1 hb0 hb1 c hc0 hc1 mode (by omega) (by omega)
/-- Whether a square root is told. -/
def rtB (a : WV) (ok : Bool) : Bool := ok && decide (0 ≤ a.hi) && decide (rootV a.val ≤ 9223372036854775807)
theorem froot_any (w : World) (a : WV) (ha : a.ok) (ok : Bool) : Calls Tryz.prog 55 #[.agg a.cells, .bool ok] w fun e w' => e = .returned (.tuple #[.int .i64 (if rtB a ok then rootV a.val else 0), .bool (rtB a ok)]) ∧ Chg [] w w' := by
  have P1 := fun w => wsqrt_any w a ha
  have hv : 0 ≤ a.hi → 0 ≤ a.val := fun h => by have := ha.l0; unfold WV.val; omega
  have HB := Lib.hid (show rtB a ok = (ok && decide (0 ≤ a.hi) && decide (rootV a.val ≤ 9223372036854775807)) from rfl)
  generalize rtB a ok = rb at *
  have C := (CL.new w 0).push #[.int .i64 a.hi, .int .u64 a.lo] 95
  simp only [wv_cells] at *
  replace P1 := Lib.hid P1
  have Hu := Lib.hid (rootV_unique a.val)
  cases ok
  · have e := HB.out
    simp at e
    subst e
    clear HB P1 Hu
    go_enter Tryz.func55, Tryz.ntmps55
    go_wp2_with fail
    go_returns
    exact ⟨rfl, C.x⟩
  · go_enter Tryz.func55, Tryz.ntmps55
    generalize hzW : w.heap.size = z at *
    have cc0 := C.cells 0 rfl
    go_wp2_with fail
    refine (P1.out _).mono ?_; rintro e w1 ⟨⟨hlt, rfl⟩ | ⟨hge, r0, rfl, hr1, hr2, hr3⟩, hX⟩
    · have e := HB.out
      rw [decide_eq_false (show ¬0 ≤ a.hi by omega)] at e
      simp at e
      subst e
      clear HB cc0 Hu
      go_wp2_with fail
      go_returns
      exact ⟨rfl, C.x.trans hX⟩
    · have hrv := Hu.out r0 (by omega) hr2 (by rw [show ((r0 : Int) + 1) = ((r0 + 1 : Nat) : Int) by omega]; exact hr3)
      have e := HB.out
      rw [decide_eq_true hge, ← hrv] at e
      obtain ⟨r, hr, hr0⟩ : ∃ r : Int, (r0 : Int) = r ∧ 0 ≤ r := ⟨_, rfl, by omega⟩
      rw [hr] at hr1 e hrv ⊢
      have HRV := Lib.hid hrv.symm
      clear hr hrv hr2 hr3 HB cc0 Hu
      by_cases hb : r ≤ 9223372036854775807
      · rw [decide_eq_true hb] at e
        simp at e
        subst e
        have k1 : wrap64 r = r := by unfold wrap64; omega
        have k2 : IntKind.i64.wrap r = r := by rw [IntKind.wrap_i64]; omega
        go_wp2_with fail
        go_returns
        exact ⟨by rw [HRV.out]; rfl, C.x.trans hX⟩
      · rw [decide_eq_false hb] at e
        simp at e
        subst e
        go_wp2_with fail
        go_returns
        exact ⟨rfl, C.x.trans hX⟩
theorem fsqrt_any (w : World) (n : Int) (h0 : -9223372036854775808 ≤ n) (h1 : n ≤ 9223372036854775807) : Calls Tryz.prog 35 #[.int .i64 n] w fun e w' => e = .returned (.tuple #[.int .i64 (if 0 ≤ n then rootV n else 0), .bool (decide (0 ≤ n))]) ∧ Chg [] w w' := by
  have P1 := fun w => wof_any w n h0 h1
  have P2 := fun w => froot_any w (ofV n) (ofV_ok n (by omega) (by omega)) true
  have e1 : rtB (ofV n) true = decide (0 ≤ n) := by
    unfold rtB
    have eh : 0 ≤ (ofV n).hi ↔ 0 ≤ n := by show 0 ≤ n / 18446744073709551616 ↔ 0 ≤ n; omega
    rw [ofV_val', Bool.true_and]
    by_cases hn : 0 ≤ n
    · obtain ⟨g0, g1, g2⟩ := rootV_spec n hn
      have : rootV n ≤ 9223372036854775807 := by
        apply Classical.byContradiction
        intro hh
        have := sq_le 9223372036854775808 (rootV n) (by omega) (by omega)
        omega
      rw [decide_eq_true this, decide_eq_true hn, decide_eq_true (eh.2 hn)]
      rfl
    · rw [decide_eq_false hn, decide_eq_false (fun h => hn (eh.1 h))]
      rfl
  rw [e1, ofV_val'] at P2
  simp only [decide_eq_true_eq] at P2
  generalize (if 0 ≤ n then rootV n else 0) = rv at *
  generalize decide (0 ≤ n) = rb at *
  generalize ofV n = o at *
  simp only [wv_cells] at *
  replace P1 := Lib.hid P1
  replace P2 := Lib.hid P2
  clear e1
  have C := CL.new w 0
  go_enter Tryz.func35, Tryz.ntmps35
  go_wp2_with fail
  refine (P1.out _).mono ?_; rintro e w1 ⟨rfl, hX⟩
  replace C := C.step (j := 0) hX
  clear hX
  go_wp2_with fail
  refine (P2.out _).mono ?_; rintro e w2 ⟨rfl, hX⟩
  replace C := C.step (j := 0) hX
  clear hX
  go_wp2_with fail
  go_returns
  exact ⟨rfl, C.x⟩
/-- Whether a square root of two squares' sum is told. -/
def hyB (s : Int) : Bool := fitsV s && decide (rootV s ≤ 9223372036854775807)
end Go.Proofs.YtpfglmlpodjneaaGreat
namespace Go.Proofs.YtpfglmlpodjneaaGreat
open Go.RowKit

set_option maxRecDepth 100000 in
set_option maxHeartbeats 4000000 in
theorem bsums_any (W : World) : Calls Tryz.prog 19 #[] W fun e w' => e = .returned (.bool true) ∧ Chg [] W w' := by
  go_enter Tryz.func19, Tryz.ntmps19
  go_wp2_with fail
  refine (tab_new W).mono ?_; rintro e w1 ⟨b, rfl, hA, hX, hb⟩
  have H16 := fun w => sum16_any w known9 (by decide)
  have H32 := fun w => sum32_any w known9 (by decide)
  rw [known16, show known9 = ⟨#[49, 50, 51, 52, 53, 54, 55, 56, 57]⟩ from rfl] at H16
  rw [known32, show known9 = ⟨#[49, 50, 51, 52, 53, 54, 55, 56, 57]⟩ from rfl] at H32
  go_wp2_with fail
  refine (H16 _).mono ?_; rintro e w2 ⟨rfl, hX2⟩
  replace hA := hX2.at hA (by simp)
  replace hX := hX.trans hX2
  clear hX2
  go_wp2_with fail
  refine (H32 _).mono ?_; rintro e w3 ⟨rfl, hX3⟩
  replace hA := hX3.at hA (by simp)
  replace hX := hX.trans hX3
  clear hX3
  go_wp2_with fail
  refine (tsum16_known w3 b tab0 hA tab0_ok (by kernel_rfl) (by kernel_rfl) (by kernel_rfl)).mono ?_; rintro e w4 ⟨rfl, cs2, hA4, hT4, k0, hX4⟩
  replace hX := hX.then hX4 (fun x hx hl => by simp at hx; omega)
  clear hX4 hA
  go_wp2_with fail
  refine (tsum32_known w4 b cs2 hA4 hT4 k0).mono ?_; rintro e w5 ⟨rfl, hX5⟩
  replace hX := hX.then hX5 (fun x hx hl => by simp at hx; omega)
  go_wp2
  go_returns
  exact ⟨rfl, hX⟩
theorem num_md : mdN 7 9 2 2 = 32 ∧ mdB 7 9 2 2 = true := ⟨by kernel_rfl, by kernel_rfl⟩
theorem num_rt : rootV 99 = 9 := by kernel_rfl
theorem num_add : fits64 (9223372036854775807 + 1) = false := by kernel_rfl
set_option maxRecDepth 100000 in
theorem bnums_any (W : World) : Calls Tryz.prog 20 #[] W fun e w' => e = .returned (.bool true) ∧ Chg [] W w' := by
  have H1 := fun w => fmuldiv_any w 7 9 (by omega) (by omega) (by omega) (by omega) 2 (by omega) (by omega) 2
  rw [num_md.1, num_md.2] at H1
  have H2 := fun w => fsqrt_any w 99 (by omega) (by omega)
  rw [if_pos (by decide), num_rt, show decide ((0 : Int) ≤ 99) = true from rfl] at H2
  have H3 := fun w => fadd_any w 9223372036854775807 1 (by omega) (by omega) (by omega) (by omega)
  rw [num_add] at H3
  generalize int64V (9223372036854775807 + 1) = q at *
  go_enter Tryz.func20, Tryz.ntmps20
  go_wp2_with fail
  refine (H1 _).mono ?_; rintro e w1 ⟨rfl, hX1⟩
  go_wp2_with fail
  refine (H2 _).mono ?_; rintro e w2 ⟨rfl, hX2⟩
  go_wp2_with fail
  refine (H3 _).mono ?_; rintro e w3 ⟨rfl, hX3⟩
  go_wp2
  go_returns
  exact ⟨rfl, hX1.trans (hX2.trans hX3)⟩
theorem bhealthy_any (w : World) (n : Int) : Calls Tryz.prog 12 #[.int .i64 n] w fun e w' => e = .returned (.bool (n == 0)) ∧ w = w' := by
  go_enter Tryz.func12, Tryz.ntmps12
  go_wp2
  go_returns
  exact ⟨rfl, rfl⟩
end Go.Proofs.YtpfglmlpodjneaaGreat
