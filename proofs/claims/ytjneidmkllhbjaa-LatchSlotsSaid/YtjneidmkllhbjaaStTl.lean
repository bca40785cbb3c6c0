/- Regions that draw their order, in stages, with a tail that comes in its own order behind all else: the tail is walked by the walk's own steps. -/
import Derived.Test.YtjneidmkllhbjaaStage
import Derived.StillTail
namespace Go.Proofs.Ytjneidmkllhbjaa
open Go

section
variable {P : Program} {ops : Array Oper} {C : Nat → World → Prop} {E : List Nat}

def anyST (P : Program) (ops : Array Oper) (C : Nat → World → Prop) (E : List Nat) (n : Nat) (Lq : Array Bool → Act → Prop) : Nat → Array Bool → Act → Prop
  | 0, L, a => Lq L a
  | f + 1, L, a => Region.ready .any ops L ≠ [] ∧ ∀ i ∈ Region.ready .any ops L, i < n ∧ sOp P ops C E i (anyST P ops C E n Lq f (L.setIfInBounds i true)) a

theorem wpAny_of_st {n g : Nat} {Lq : Array Bool → Act → Prop} {Q' : Exit → Act → World → Prop} (hL : ∀ L a w, Good ops L → C (stg E L) w → Lq L a → wpAny P .any ops Q' g L a w) :
    ∀ (f : Nat) (L : Array Bool) (a : Act) (w : World), Good ops L → C (stg E L) w → anyST P ops C E n Lq f L a → wpAny P .any ops Q' (f + g) L a w
  | 0, L, a, w, hG, hC, h => by rw [Nat.zero_add]; exact hL _ _ _ hG hC h
  | f + 1, L, a, w, hG, hC, h => by
    rw [show f + 1 + g = (f + g) + 1 by omega]
    exact ⟨fun h0 => absurd h0 h.1, fun i hi => wpOp_of_s hG hi hC (fun a' w' hc hk => wpAny_of_st hL f _ a' w' (hG.set hi) hc hk) (h.2 i hi).2⟩

theorem anyST_first {n i : Nat} {oi : Oper} {v : Value} {Lq : Array Bool → Act → Prop} (hi : ops[i]? = some oi) (hsel : ∀ (j : Nat) (o : Oper) cs b, ops[j]? = some o → o.op ≠ .select cs b)
    (hs : Region.sinkB .any ops n = true) (hc : Region.chainB .any ops n = true) (hn : n < ops.size) (hin : i < n)
    (hdone : ∀ L a, Lq L a → ∀ j ∈ Region.ready .any ops L, n ≤ j) :
    ∀ (f : Nat) (L : Array Bool) (a : Act), HeadInv .any ops n L →
      (∀ j oj, ops[j]? = some oj → j ≠ i → L.getD j true = false → (∀ e ∈ oj.after, Region.binds .any e = true → e.on ≠ i) → oi.apart ops oj = true) →
      i ∈ Region.ready .any ops L → Does P ops C E i oi v a → anyST P ops C E n Lq f (L.setIfInBounds i true) (a.put oi.dst v) → anyST P ops C E n Lq (f + 1) L a := by
  intro f
  induction f with
  | zero =>
    intro L a inv _ hr hd H
    have hun := (mem_ready.1 hr).1
    refine ⟨fun h => (by rw [h] at hr; cases hr), fun j hj => ?_⟩
    have hjn : j < n := by
      rcases Nat.lt_or_ge j n with h | h
      · exact h
      · exact absurd hj (tail_waits hs hc hn inv _ i rfl hin hun j h)
    refine ⟨hjn, ?_⟩
    by_cases hji : j = i
    · subst hji
      intro o ho
      rw [hi] at ho
      cases ho
      exact ⟨v, hd, H⟩
    · have := hdone _ _ H j (ready_mono hj hji)
      omega
  | succ f ih =>
    intro L a inv hfree hr hd H
    have hun := (mem_ready.1 hr).1
    refine ⟨fun h => (by rw [h] at hr; cases hr), fun j hj => ?_⟩
    have hjn : j < n := by
      rcases Nat.lt_or_ge j n with h | h
      · exact h
      · exact absurd hj (tail_waits hs hc hn inv _ i rfl hin hun j h)
    refine ⟨hjn, ?_⟩
    by_cases hji : j = i
    · subst hji
      intro o ho
      rw [hi] at ho
      cases ho
      exact ⟨v, hd, H⟩
    · intro oj hoj
      obtain ⟨u, hu, hK⟩ := (H.2 j (ready_mono hj hji)).2 oj hoj
      obtain ⟨hjun, oj', hoj', hall⟩ := mem_ready.1 hj
      rw [hoj] at hoj'
      cases hoj'
      have hnot : ∀ e ∈ oj.after, Region.binds .any e = true → e.on ≠ i := fun e he hb heq => by
        have h1 := hall e he hb
        rw [heq, getD_false_of_true hun] at h1
        cases h1
      obtain ⟨h1, h2, h3⟩ := Oper.apart_spec (hfree j oj hoj hji hjun hnot)
      refine ⟨u, (Does.of_put (fun cs b => hsel j oj cs b hoj) h1).1 hu, ih (L.setIfInBounds j true) _ (inv.set hj hjn) ?_ (ready_mono hr (Ne.symm hji)) ((Does.of_put (fun cs b => hsel i oi cs b hi) h3).2 hd) ?_⟩
      · intro k ok hk hki hun' hno
        refine hfree k ok hk hki ?_ hno
        by_cases hjk : j = k
        · subst hjk; exact hjun
        · rw [getD_set_ne true hjk] at hun'; exact hun'
      · rw [Array.setIfInBounds_comm _ _ hji, ← Act.put_comm a v u h2]
        exact hK

theorem anyST_lex {n g : Nat} {Lq : Act → Prop} (hsel : Region.noSelect ops = true) (hs : Region.sinkB .any ops n = true) (hc : Region.chainB .any ops n = true) (hn : n < ops.size) :
    ∀ (l : List Oper) (k : Nat) (L : Array Bool) (a : Act), (∀ j, j < l.length → l[j]? = ops[k + j]?) → k + l.length = n → HeadInv .any ops n L →
    Region.lexHead .any ops g l.length k L = true → lexS P ops C E Lq l k a →
    anyST P ops C E n (fun L' a' => (HeadInv .any ops n L' ∧ Region.seqB .any ops g n L' = true) ∧ Lq a') l.length L a
  | [], k, L, a, _, hk, inv, hB, h => by
    have : k = n := by simpa using hk
    subst this
    exact ⟨⟨inv, by simpa [Region.lexHead] using hB⟩, h⟩
  | o :: l, k, L, a, hl, hk, inv, hB, ⟨v, hd, hK⟩ => by
    have h0 : ops[k]? = some o := by simpa using (hl 0 (by simp)).symm
    simp only [List.length_cons, Region.lexHead, Bool.and_eq_true] at hB
    obtain ⟨⟨hr, hf⟩, hB'⟩ := hB
    have hkn : k < n := by simp only [List.length_cons] at hk; omega
    have hr' : k ∈ Region.ready .any ops L := by simpa using hr
    exact anyST_first h0 (Region.noSelect_spec hsel) hs hc hn hkn (fun L' a' hL => seqB_ready hL.1.2) l.length L a inv (Region.free_spec h0 hf) hr' hd
      (anyST_lex hsel hs hc hn l (k + 1) _ _ (fun j hj => by have := hl (j + 1) (by simp; omega); simpa [Nat.add_assoc, Nat.add_comm 1 j] using this) (by simp only [List.length_cons] at hk; omega) (inv.set hr' hkn) hB' hK)

theorem lexS_of_stage' {Q : Act → Prop} {M : Array Nat} (hc : certB ops M = true) (hE : ∀ e ∈ E, e < ops.size) (hn : E.Nodup) : ∀ (l : List Oper) (R : List (Nat × Nat × Bool)) (i : Nat) (a : Act), (∀ j, j < l.length → l[j]? = ops[i + j]?) →
    R.length = l.length → rowsB E M R i = true → wpStage P ops C Q (l.zip R) a → lexS P ops C E Q l i a
  | [], _, _, _, _, _, _, h => h
  | o :: l, [], _, _, _, hl, _, _ => by simp at hl
  | o :: l, (lo, hi, ef) :: R, i, a, hj, hl, hR, h => by
    have h0 : ops[i]? = some o := by simpa using (hj 0 (by simp)).symm
    simp only [rowsB, Bool.and_eq_true, decide_eq_true_eq, beq_iff_eq] at hR
    obtain ⟨⟨⟨h1, h2⟩, h3⟩, h4⟩ := hR
    have next : ∀ a', wpStage P ops C Q (l.zip R) a' → lexS P ops C E Q l (i + 1) a' := fun a' h' =>
      lexS_of_stage' hc hE hn l R (i + 1) a' (fun j hj' => by have := hj (j + 1) (by simp; omega); simpa [Nat.add_assoc, Nat.add_comm 1 j] using this) (by simpa using hl) h4 h'
    have key : ∀ L, Good ops L → i ∈ Region.ready .any ops L → lo ≤ stg E L ∧ stg E L ≤ hi ∧ stg E (L.setIfInBounds i true) = if ef then stg E L + 1 else stg E L := by
      intro L hG hi'
      obtain ⟨b1, b2⟩ := stg_bounds hc hE hG hi'
      have hsz : i < L.size := by rw [hG.size]; exact (Array.getElem?_eq_some_iff.1 h0).1
      refine ⟨by omega, by omega, ?_⟩
      rw [stg_set hn hsz (getD_false_of_true (mem_ready.1 hi').1), h3]
    simp only [List.zip_cons_cons, wpStage] at h
    by_cases hw : Region.wanted o (yielded ops a.tmps) = true
    · rw [if_pos hw] at h
      obtain ⟨v, hv, hK⟩ := h
      refine ⟨v, .inl ⟨hw, fun L w hG hi' hC => ?_⟩, next _ hK⟩
      obtain ⟨k1, k2, k3⟩ := key L hG hi'
      rw [k3]
      exact hv _ w k1 k2 hC
    · rw [if_neg hw] at h
      refine ⟨undef, .inr ⟨by simpa using hw, rfl, fun L w hG hi' hC => ?_⟩, next _ h.2⟩
      obtain ⟨k1, k2, k3⟩ := key L hG hi'
      rw [k3]
      cases ef
      · exact hC
      · exact h.1 rfl _ w k1 k2 hC

def stTlB (ops : Array Oper) (n : Nat) (E : List Nat) (R : List (Nat × Nat × Bool)) : Bool :=
  certB ops (Region.before ops) && (E.all fun e => decide (e < n)) && nodupB E && decide (R.length = n) && rowsB E (Region.before ops) R 0

/-- A region that draws its order: the first n operations in stages, the others, which come behind all of these and in their own order, by the walk. -/
theorem wp_region_sttl {id : Nat} {Q : Exit → Act → World → Prop} {a : Act} {w : World} {l : List Oper} (C : Nat → World → Prop) (n : Nat) (E : List Nat) (R : List (Nat × Nat × Bool)) (hm : P.follows .mixedOrders = true)
    (hB : Region.lexTailB .any l.toArray n = true) (hS : stTlB l.toArray n E R = true) (hC : C 0 w.drew)
    (h : wpStage P l.toArray C (fun a' => ∀ w', C E.length w' → wpList P l.toArray Q (l.drop n) a' w') ((l.take n).zip R) a) :
    (Code.region id l.toArray true).wp P Q a w := by
  simp only [Region.lexTailB, Bool.and_eq_true, decide_eq_true_eq] at hB
  simp only [stTlB, Bool.and_eq_true, decide_eq_true_eq] at hS
  obtain ⟨⟨⟨⟨hsel, hn⟩, hs⟩, hc⟩, hlex⟩ := hB
  obtain ⟨⟨⟨⟨s1, s2⟩, s3⟩, s4⟩, s5⟩ := hS
  have hn' : n < l.length := by simpa using hn
  have htl : (l.take n).length = n := by simp; omega
  have hdl : (l.drop n).length = l.toArray.size - n := by simp
  have hEn : ∀ e ∈ E, e < n := fun e he => by simpa using (List.all_eq_true.1 s2) e he
  have hE : ∀ e ∈ E, e < l.toArray.size := fun e he => by have := hEn e he; omega
  have hnd := nodupB_spec s3
  have inv0 : HeadInv .any l.toArray n (Array.replicate l.toArray.size false) :=
    ⟨by simp, fun j oj _ hl => (by rw [getD_replicate_false] at hl; cases hl), fun t _ ht => getD_in (by simpa using ht) (getD_replicate_false _ _)⟩
  have hG0 : Good l.toArray (Array.replicate l.toArray.size false) := ⟨by simp, fun j o hj hl => by rw [getD_replicate_false] at hl; cases hl⟩
  have h00 : stg E (Array.replicate l.toArray.size false) = 0 := by
    unfold stg
    rw [List.countP_eq_zero]
    intro e he
    rw [getD_replicate_false]
    decide
  have H := anyST_lex (C := C) (E := E) (P := P) (g := l.toArray.size - n) hsel hs hc hn (l.take n) 0 _ a (fun j hj => by
    have hj' : j < n := by rw [htl] at hj; exact hj
    simp [hj']) (by simpa using htl) inv0 (by rw [htl]; exact hlex) (lexS_of_stage' s1 hE hnd (l.take n) R 0 a (fun j hj => by
    have hj' : j < n := by rw [htl] at hj; exact hj
    simp [hj']) (by rw [htl]; exact s4) s5 h)
  refine wp_region_any hm ?_
  have := wpAny_of_st (Q' := Q) (C := C) (E := E) (g := l.toArray.size - n) (fun L a' w' hG hCL hL => by
    obtain ⟨⟨inv, hseq⟩, hq⟩ := hL
    have hall : ∀ i, i < n → L.getD i true = true := by
      intro i hi
      rcases Bool.eq_false_or_eq_true (L.getD i true) with e | e
      · exact e
      · exfalso
        have hr : n ∈ Region.ready .any l.toArray L := by
          rw [show l.toArray.size - n = (l.toArray.size - n - 1) + 1 by omega] at hseq
          simp only [Region.seqB, Bool.and_eq_true, decide_eq_true_eq] at hseq
          rw [hseq.1]
          simp
        exact tail_waits hs hc hn inv _ i rfl hi e n (Nat.le_refl _) hr
    have hst : stg E L = E.length := by
      unfold stg
      rw [List.countP_eq_length]
      intro e he
      have h1 := hall e (hEn e he)
      have h2 : e < L.size := by rw [inv.size]; exact hE e he
      simp [h2] at h1 ⊢
      exact h1
    have := wpAny_of_seq (md := .any) (Q' := Q) (l.drop n) n L a' w' (fun j => by simp [List.getElem?_drop]) (by rw [hdl]; exact hseq) (hq w' (hst ▸ hCL))
    rwa [hdl] at this) _ _ _ w.drew hG0 (by rw [h00]; exact hC) H
  rw [htl, show n + (l.toArray.size - n) = l.toArray.size by omega] at this
  exact this
end
end Go.Proofs.Ytjneidmkllhbjaa
