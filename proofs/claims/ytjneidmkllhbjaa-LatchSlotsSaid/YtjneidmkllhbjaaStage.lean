/- Regions that draw their order, walked once in stages: some operations (calls, stores) carry the world from one stage to the next; every other one yields one value at every stage at which it may come up. -/
import Derived.Deep.Quiet
import Derived.Deep.QuietTactic
import Derived.BigQuiet
namespace Go.Proofs.Ytjneidmkllhbjaa
open Go

section
variable {P : Program} {ops : Array Oper} {C : Nat → World → Prop} {E : List Nat}

/-- How many of the stage's operations have come up. -/
def stg (E : List Nat) (L : Array Bool) : Nat := E.countP fun e => L.getD e false
/-- What has come up is closed under 'comes before'. -/
structure Good (ops : Array Oper) (L : Array Bool) : Prop where
  size : L.size = ops.size
  down : ∀ j o, ops[j]? = some o → L.getD j false = true → ∀ e ∈ o.after, Region.binds .any e = true → L.getD e.on false = true

def stUpon (P : Program) (C : Nat → World → Prop) (k : Nat) (v : Value) : Result Next → Prop
  | .ok (.value u) w => u = v ∧ C k w
  | .ok .skip w => v = undef ∧ C k w
  | .ok (.enter f args) w => Calls P f args w fun e w' => e = .returned v ∧ C k w'
  | _ => False

/-- Operation i yields v, whenever it may come up, and carries the world from its stage to the next one. -/
def Does (P : Program) (ops : Array Oper) (C : Nat → World → Prop) (E : List Nat) (i : Nat) (o : Oper) (v : Value) (a : Act) : Prop :=
  (Region.wanted o (yielded ops a.tmps) = true ∧ ∀ L w, Good ops L → i ∈ Region.ready .any ops L → C (stg E L) w → stUpon P C (stg E (L.setIfInBounds i true)) v ((execOp a.eval o).run P w)) ∨
  (Region.wanted o (yielded ops a.tmps) = false ∧ v = undef ∧ ∀ L w, Good ops L → i ∈ Region.ready .any ops L → C (stg E L) w → C (stg E (L.setIfInBounds i true)) w)

theorem Does.of_put {i : Nat} {o x : Oper} {v u : Value} {a : Act} (hs : ∀ cs b, o.op ≠ .select cs b) (h : ∀ d, x.dst = some d → d ∉ o.looksAt ops) :
    Does P ops C E i o v (a.put x.dst u) ↔ Does P ops C E i o v a := by
  unfold Does
  rw [execOp_put o hs a x.dst u h, wanted_put o a x.dst u h]

def sOp (P : Program) (ops : Array Oper) (C : Nat → World → Prop) (E : List Nat) (i : Nat) (K : Act → Prop) (a : Act) : Prop :=
  ∀ o, ops[i]? = some o → ∃ v, Does P ops C E i o v a ∧ K (a.put o.dst v)

def anyS (P : Program) (ops : Array Oper) (C : Nat → World → Prop) (E : List Nat) (Q : Act → Prop) : Nat → Array Bool → Act → Prop
  | 0, L, a => Region.ready .any ops L = [] ∧ Q a
  | n + 1, L, a => (Region.ready .any ops L = [] → Q a) ∧ ∀ i ∈ Region.ready .any ops L, sOp P ops C E i (anyS P ops C E Q n (L.setIfInBounds i true)) a

theorem getD_false_of_true {L : Array Bool} {j : Nat} (h : L.getD j true = false) : L.getD j false = false := by
  rcases Nat.lt_or_ge j L.size with h' | h'
  · simpa [h'] using h
  · simp [Array.getElem?_eq_none h']

theorem Good.set {L : Array Bool} (hG : Good ops L) {i : Nat} (hi : i ∈ Region.ready .any ops L) : Good ops (L.setIfInBounds i true) := by
  obtain ⟨_, o, ho, hall⟩ := mem_ready.1 hi
  refine ⟨by simp [hG.size], fun j oj hj hl e he hb => ?_⟩
  by_cases hji : j = i
  · subst hji
    rw [ho] at hj
    cases hj
    exact getD_set_true (hall e he hb)
  · rw [getD_set_ne false (Ne.symm hji)] at hl
    exact getD_set_true (hG.down j oj hj hl e he hb)

theorem wpOp_of_s {i : Nat} {L : Array Bool} {a : Act} {w : World} {K : Act → Prop} {K' : Act → World → Prop} {Q' : Exit → Act → World → Prop} (hG : Good ops L) (hi : i ∈ Region.ready .any ops L)
    (hC : C (stg E L) w) (h : ∀ a' w', C (stg E (L.setIfInBounds i true)) w' → K a' → K' a' w') (hh : sOp P ops C E i K a) : wpOp P ops Q' i K' a w := by
  obtain ⟨_, o, ho, _⟩ := mem_ready.1 hi
  obtain ⟨v, hd, hk⟩ := hh o ho
  unfold wpOp
  simp only [ho]
  rcases hd with ⟨hw, hd⟩ | ⟨hw, rfl, hd⟩
  · rw [if_pos hw]
    refine .inl ?_
    have h3 := hd L w hG hi hC
    unfold Oper.wp
    generalize (execOp a.eval o).run P w = r at *
    cases r with
    | ok n w' =>
      cases n <;> simp only [stUpon] at h3 <;> simp only [Oper.upon]
      case value u =>
        rw [h3.1]
        exact h _ _ h3.2 hk
      case skip =>
        rw [← h3.1]
        exact h _ _ h3.2 hk
      case enter f args => exact h3.mono fun e w'' ⟨he, hc⟩ => by subst he; exact h _ _ hc hk
    | halt x w' => simp only [stUpon] at h3
  · rw [if_neg (by simp [hw])]
    exact h _ _ (hd L w hG hi hC) hk

theorem wpAny_of_s {Q : Act → Prop} {Q' : Exit → Act → World → Prop} (hQ : ∀ a w L, Good ops L → Region.ready .any ops L = [] → C (stg E L) w → Q a → Q' .normal a w) :
    ∀ (n : Nat) (L : Array Bool) (a : Act) (w : World), Good ops L → C (stg E L) w → anyS P ops C E Q n L a → wpAny P .any ops Q' n L a w
  | 0, L, a, w, hG, hC, h => ⟨h.1, hQ a w L hG h.1 hC h.2⟩
  | n + 1, L, a, w, hG, hC, h => ⟨fun h0 => hQ a w L hG h0 hC (h.1 h0), fun i hi => wpOp_of_s hG hi hC (fun a' w' hc hk => wpAny_of_s hQ n _ a' w' (hG.set hi) hc hk) (h.2 i hi)⟩

theorem anyS_first {Q : Act → Prop} {i : Nat} {oi : Oper} {v : Value} (hi : ops[i]? = some oi) (hsel : ∀ (j : Nat) (o : Oper) cs b, ops[j]? = some o → o.op ≠ .select cs b) :
    ∀ (n : Nat) (L : Array Bool) (a : Act),
      (∀ j oj, ops[j]? = some oj → j ≠ i → L.getD j true = false → (∀ e ∈ oj.after, Region.binds .any e = true → e.on ≠ i) → oi.apart ops oj = true) →
      i ∈ Region.ready .any ops L → Does P ops C E i oi v a → anyS P ops C E Q n (L.setIfInBounds i true) (a.put oi.dst v) → anyS P ops C E Q (n + 1) L a := by
  intro n
  induction n with
  | zero =>
    intro L a _ hr hd H
    refine ⟨fun h0 => (by rw [h0] at hr; cases hr), fun j hj => ?_⟩
    by_cases hji : j = i
    · subst hji
      intro o ho
      rw [hi] at ho
      cases ho
      exact ⟨v, hd, H⟩
    · have := ready_mono hj hji
      rw [H.1] at this
      cases this
  | succ n ih =>
    intro L a hfree hr hd H
    refine ⟨fun h0 => (by rw [h0] at hr; cases hr), fun j hj => ?_⟩
    by_cases hji : j = i
    · subst hji
      intro o ho
      rw [hi] at ho
      cases ho
      exact ⟨v, hd, H⟩
    · intro oj hoj
      obtain ⟨u, hu, hK⟩ := H.2 j (ready_mono hj hji) oj hoj
      obtain ⟨hjun, oj', hoj', hall⟩ := mem_ready.1 hj
      rw [hoj] at hoj'
      cases hoj'
      have hnot : ∀ e ∈ oj.after, Region.binds .any e = true → e.on ≠ i := fun e he hb heq => by
        have h1 := hall e he hb
        rw [heq, getD_false_of_true (mem_ready.1 hr).1] at h1
        cases h1
      obtain ⟨h1, h2, h3⟩ := Oper.apart_spec (hfree j oj hoj hji hjun hnot)
      refine ⟨u, (Does.of_put (fun cs b => hsel j oj cs b hoj) h1).1 hu, ih (L.setIfInBounds j true) _ ?_ (ready_mono hr (Ne.symm hji)) ((Does.of_put (fun cs b => hsel i oi cs b hi) h3).2 hd) ?_⟩
      · intro k ok hk hki hun hno
        refine hfree k ok hk hki ?_ hno
        by_cases hjk : j = k
        · subst hjk; exact hjun
        · rw [getD_set_ne true hjk] at hun; exact hun
      · rw [Array.setIfInBounds_comm _ _ hji, ← Act.put_comm a v u h2]
        exact hK

def lexS (P : Program) (ops : Array Oper) (C : Nat → World → Prop) (E : List Nat) (Q : Act → Prop) : List Oper → Nat → Act → Prop
  | [], _, a => Q a
  | o :: rest, i, a => ∃ v, Does P ops C E i o v a ∧ lexS P ops C E Q rest (i + 1) (a.put o.dst v)

theorem anyS_lex {Q : Act → Prop} (hs : Region.noSelect ops = true) : ∀ (l : List Oper) (k : Nat) (L : Array Bool) (a : Act), (∀ j, l[j]? = ops[k + j]?) →
    Region.lexFrom .any ops l.length k L = true → lexS P ops C E Q l k a → anyS P ops C E Q l.length L a
  | [], _, _, _, _, hB, h => ⟨by simpa [Region.lexFrom] using hB, h⟩
  | o :: l, k, L, a, hl, hB, ⟨v, hd, hK⟩ => by
    have h0 : ops[k]? = some o := by simpa using (hl 0).symm
    simp only [List.length_cons, Region.lexFrom, Bool.and_eq_true] at hB
    obtain ⟨⟨hr, hf⟩, hB'⟩ := hB
    exact anyS_first h0 (Region.noSelect_spec hs) l.length L a (Region.free_spec h0 hf) (by simpa using hr) hd
      (anyS_lex hs l (k + 1) _ _ (fun j => by have := hl (j + 1); simpa [Nat.add_assoc, Nat.add_comm 1 j] using this) hB' hK)

/-! ### The stages at which an operation may come up -/
def certB (ops : Array Oper) (M : Array Nat) : Bool :=
  (List.range ops.size).all fun j => match ops[j]? with
    | some o => (o.after.all fun e => !Region.binds .any e || decide (e.on < j)) && (List.range ops.size).all fun i => !(M.getD j 0).testBit i || o.after.any fun e => Region.binds .any e && (e.on == i || (M.getD e.on 0).testBit i)
    | none => true
def loOf (E : List Nat) (M : Array Nat) (i : Nat) : Nat := E.countP fun e => (M.getD i 0).testBit e
def hiOf (E : List Nat) (M : Array Nat) (i : Nat) : Nat := E.countP fun e => e != i && !(M.getD e 0).testBit i
def rowsB (E : List Nat) (M : Array Nat) : List (Nat × Nat × Bool) → Nat → Bool
  | [], _ => true
  | (lo, hi, ef) :: r, i => decide (lo ≤ loOf E M i) && decide (hiOf E M i ≤ hi) && (ef == E.contains i) && rowsB E M r (i + 1)
def nodupB : List Nat → Bool
  | [] => true
  | e :: r => !r.contains e && nodupB r
def stB (ops : Array Oper) (E : List Nat) (R : List (Nat × Nat × Bool)) : Bool :=
  certB ops (Region.before ops) && (E.all fun e => decide (e < ops.size)) && nodupB E && decide (R.length = ops.size) && rowsB E (Region.before ops) R 0

theorem certB_at {M : Array Nat} (h : certB ops M = true) {j : Nat} {o : Oper} (hj : ops[j]? = some o) :
    (∀ e ∈ o.after, Region.binds .any e = true → e.on < j) ∧ ∀ i, i < ops.size → (M.getD j 0).testBit i = true → ∃ e ∈ o.after, Region.binds .any e = true ∧ (e.on = i ∨ (M.getD e.on 0).testBit i = true) := by
  have hlt : j < ops.size := (Array.getElem?_eq_some_iff.1 hj).1
  have h1 := (List.all_eq_true.1 h) j (by simpa using hlt)
  simp only [hj, Bool.and_eq_true] at h1
  refine ⟨fun e he hb => ?_, fun i hi hbit => ?_⟩
  · have := Array.all_eq_true_iff_forall_mem.1 h1.1 e he
    simpa [hb] using this
  · have := (List.all_eq_true.1 h1.2) i (by simpa using hi)
    simp only [hbit, Bool.not_true, Bool.false_or] at this
    obtain ⟨e, he, hb⟩ := Array.any_eq_true'.1 this
    simp only [Bool.and_eq_true, Bool.or_eq_true, beq_iff_eq] at hb
    exact ⟨e, he, hb.1, hb.2⟩

theorem anc_listed {M : Array Nat} (h : certB ops M = true) {L : Array Bool} (hG : Good ops L) : ∀ (n j : Nat) (o : Oper), j ≤ n → ops[j]? = some o →
    (∀ e ∈ o.after, Region.binds .any e = true → L.getD e.on false = true) → ∀ i, i < ops.size → (M.getD j 0).testBit i = true → L.getD i false = true := by
  intro n
  induction n with
  | zero =>
    intro j o hj ho hall i hi hbit
    obtain ⟨e, he, hb, hc⟩ := (certB_at h ho).2 i hi hbit
    have := (certB_at h ho).1 e he hb
    omega
  | succ n ih =>
    intro j o hj ho hall i hi hbit
    obtain ⟨e, he, hb, hc⟩ := (certB_at h ho).2 i hi hbit
    have hlt := (certB_at h ho).1 e he hb
    have hl := hall e he hb
    rcases hc with rfl | hc
    · exact hl
    · have hsz : e.on < ops.size := by have := (Array.getElem?_eq_some_iff.1 ho).1; omega
      exact ih e.on ops[e.on] (by omega) (Array.getElem?_eq_getElem hsz) (hG.down e.on _ (Array.getElem?_eq_getElem hsz) hl) i hi hc

theorem all_listed {M : Array Nat} (h : certB ops M = true) {L : Array Bool} (hG : Good ops L) (hr : Region.ready .any ops L = []) : ∀ (n j : Nat), j ≤ n → j < ops.size → L.getD j false = true := by
  intro n
  induction n with
  | zero =>
    intro j hj hlt
    obtain rfl : j = 0 := by omega
    apply Classical.byContradiction
    intro hn
    have : (0 : Nat) ∈ Region.ready .any ops L := mem_ready.2 ⟨by have := hG.size; simp [show 0 < L.size by omega] at hn ⊢; exact hn, ops[0], Array.getElem?_eq_getElem hlt,
      fun e he hb => by have := (certB_at h (Array.getElem?_eq_getElem hlt)).1 e he hb; omega⟩
    rw [hr] at this
    cases this
  | succ n ih =>
    intro j hj hlt
    apply Classical.byContradiction
    intro hn
    have : j ∈ Region.ready .any ops L := mem_ready.2 ⟨by have := hG.size; simp [show j < L.size by omega] at hn ⊢; exact hn, ops[j], Array.getElem?_eq_getElem hlt,
      fun e he hb => by have := (certB_at h (Array.getElem?_eq_getElem hlt)).1 e he hb; exact ih e.on (by omega) (by omega)⟩
    rw [hr] at this
    cases this

theorem nodupB_spec : ∀ {E : List Nat}, nodupB E = true → E.Nodup
  | [], _ => List.nodup_nil
  | e :: r, h => by
    simp only [nodupB, Bool.and_eq_true, Bool.not_eq_true', List.contains_eq_mem] at h
    exact List.nodup_cons.2 ⟨by simpa using h.1, nodupB_spec h.2⟩

theorem stg_set (hn : E.Nodup) {L : Array Bool} {i : Nat} (hi : i < L.size) (hl : L.getD i false = false) : stg E (L.setIfInBounds i true) = if E.contains i then stg E L + 1 else stg E L := by
  unfold stg
  induction E with
  | nil => rfl
  | cons e r ih =>
    obtain ⟨h1, h2⟩ := List.nodup_cons.1 hn
    rw [List.countP_cons, List.countP_cons, ih h2]
    by_cases he : e = i
    · subst he
      simp [hl, hi]
      exact h1
    · rw [getD_set_ne false (Ne.symm he)]
      have hne : (i == e) = false := by simpa using Ne.symm he
      have hc : (e :: r).contains i = r.contains i := by simp [Ne.symm he]
      rw [hc]
      split <;> omega

theorem stg_bounds {M : Array Nat} (h : certB ops M = true) (hE : ∀ e ∈ E, e < ops.size) {L : Array Bool} (hG : Good ops L) {i : Nat} (hi : i ∈ Region.ready .any ops L) : loOf E M i ≤ stg E L ∧ stg E L ≤ hiOf E M i := by
  obtain ⟨hun, o, ho, hall⟩ := mem_ready.1 hi
  have hun' := getD_false_of_true hun
  have hisz := (Array.getElem?_eq_some_iff.1 ho).1
  constructor
  · refine List.countP_mono_left fun e he hbit => ?_
    exact anc_listed h hG i i o (Nat.le_refl _) ho hall e (hE e he) hbit
  · refine List.countP_mono_left fun e he hl => ?_
    have hsz := hE e he
    by_cases hei : e = i
    · subst hei
      rw [hun'] at hl
      cases hl
    · simp only [bne_iff_ne, ne_eq, hei, not_false_eq_true, Bool.and_eq_true, true_and, Bool.not_eq_true']
      apply Bool.eq_false_iff.2
      intro hbit
      have := anc_listed h hG e e ops[e] (Nat.le_refl _) (Array.getElem?_eq_getElem hsz) (hG.down e _ (Array.getElem?_eq_getElem hsz) hl) i hisz hbit
      rw [hun'] at this
      cases this

/-! ### The walk -/
def wpStage (P : Program) (ops : Array Oper) (C : Nat → World → Prop) (Q : Act → Prop) : List (Oper × Nat × Nat × Bool) → Act → Prop
  | [], a => Q a
  | (o, lo, hi, ef) :: rest, a =>
    if Region.wanted o (yielded ops a.tmps) then ∃ v, (∀ k w, lo ≤ k → k ≤ hi → C k w → stUpon P C (if ef then k + 1 else k) v ((execOp a.eval o).run P w)) ∧ wpStage P ops C Q rest (a.put o.dst v)
    else (ef = true → ∀ k w, lo ≤ k → k ≤ hi → C k w → C (k + 1) w) ∧ wpStage P ops C Q rest (a.put o.dst undef)

theorem lexS_of_stage {Q : Act → Prop} {M : Array Nat} (hc : certB ops M = true) (hE : ∀ e ∈ E, e < ops.size) (hn : E.Nodup) : ∀ (l : List Oper) (R : List (Nat × Nat × Bool)) (i : Nat) (a : Act), (∀ j, l[j]? = ops[i + j]?) →
    R.length = l.length → rowsB E M R i = true → wpStage P ops C Q (l.zip R) a → lexS P ops C E Q l i a
  | [], _, _, _, _, _, _, h => h
  | o :: l, [], _, _, _, hl, _, _ => by simp at hl
  | o :: l, (lo, hi, ef) :: R, i, a, hj, hl, hR, h => by
    have h0 : ops[i]? = some o := by simpa using (hj 0).symm
    simp only [rowsB, Bool.and_eq_true, decide_eq_true_eq, beq_iff_eq] at hR
    obtain ⟨⟨⟨h1, h2⟩, h3⟩, h4⟩ := hR
    have next : ∀ a', wpStage P ops C Q (l.zip R) a' → lexS P ops C E Q l (i + 1) a' := fun a' h' =>
      lexS_of_stage hc hE hn l R (i + 1) a' (fun j => by have := hj (j + 1); simpa [Nat.add_assoc, Nat.add_comm 1 j] using this) (by simpa using hl) h4 h'
    have key : ∀ L, Good ops L → i ∈ Region.ready .any ops L → lo ≤ stg E L ∧ stg E L ≤ hi ∧ stg E (L.setIfInBounds i true) = if ef then stg E L + 1 else stg E L := by
      intro L hG hi'
      obtain ⟨b1, b2⟩ := stg_bounds hc hE hG hi'
      have hsz : i < L.size := by rw [hG.size]; exact (Array.getElem?_eq_some_iff.1 h0).1
      refine ⟨by omega, by omega, ?_⟩
      rw [stg_set hn hsz (getD_false_of_true (mem_ready.1 hi').1), h3]
    simp only [List.zip_cons_cons, wpStage] at h
    by_cases hw : Region.wanted o (yielded ops a.tmps) = true
    · rw [if_pos hw] at h
      obtain ⟨v, hv, hK⟩ := h
      refine ⟨v, .inl ⟨hw, fun L w hG hi' hC => ?_⟩, next _ hK⟩
      obtain ⟨k1, k2, k3⟩ := key L hG hi'
      rw [k3]
      exact hv _ w k1 k2 hC
    · rw [if_neg hw] at h
      refine ⟨undef, .inr ⟨by simpa using hw, rfl, fun L w hG hi' hC => ?_⟩, next _ h.2⟩
      obtain ⟨k1, k2, k3⟩ := key L hG hi'
      rw [k3]
      cases ef
      · exact hC
      · exact h.1 rfl _ w k1 k2 hC

/-- A region that draws its order, in stages: E: the operations that carry the world on, in their order; R: of each operation the first and the last stage at which it may come up, and whether it carries the world on. -/
theorem wp_region_stage {id : Nat} {Q : Exit → Act → World → Prop} {a : Act} {w : World} {l : List Oper} (C : Nat → World → Prop) (E : List Nat) (R : List (Nat × Nat × Bool)) (hm : P.follows .mixedOrders = true)
    (hB : Region.lexB .any l.toArray = true) (hS : stB l.toArray E R = true) (hC : C 0 w.drew) (h : wpStage P l.toArray C (fun a' => ∀ w', C E.length w' → Q .normal a' w') (l.zip R) a) :
    (Code.region id l.toArray true).wp P Q a w := by
  simp only [Region.lexB, Bool.and_eq_true] at hB
  simp only [stB, Bool.and_eq_true, decide_eq_true_eq] at hS
  obtain ⟨⟨⟨⟨s1, s2⟩, s3⟩, s4⟩, s5⟩ := hS
  have hE : ∀ e ∈ E, e < l.toArray.size := fun e he => by simpa using (List.all_eq_true.1 s2) e he
  have hn := nodupB_spec s3
  have hG0 : Good l.toArray (Array.replicate l.toArray.size false) := ⟨by simp, fun j o hj hl => by
    have := (Array.getElem?_eq_some_iff.1 hj).1
    simp only [List.size_toArray] at this
    simp [this] at hl⟩
  have h00 : stg E (Array.replicate l.toArray.size false) = 0 := by
    unfold stg
    rw [List.countP_eq_zero]
    intro e he
    have := hE e he
    simp only [List.size_toArray] at this
    simp [this]
  refine wp_region_any hm (wpAny_of_s (C := C) (E := E) (Q := fun a' => ∀ w', C E.length w' → Q .normal a' w') (fun a w' L hG hr hc h => h w' ?_) _ _ _ _ hG0 (by rw [h00]; exact hC) ?_)
  · have : stg E L = E.length := by
      unfold stg
      rw [List.countP_eq_length]
      intro e he
      exact all_listed s1 hG hr e e (Nat.le_refl _) (hE e he)
    rw [← this]
    exact hc
  · have := anyS_lex (C := C) (E := E) hB.1 l 0 (Array.replicate l.toArray.size false) a (by simp) (by simpa using hB.2) (lexS_of_stage s1 hE hn l R 0 a (by simp) (by simpa using s4) s5 h)
    simpa using this

attribute [go_sem] stUpon
/-- One operation at a time, what follows behind a variable: it is carried out. -/
theorem wpStage_yes {Q : Act → Prop} {a : Act} {o : Oper} {lo hi : Nat} {ef : Bool} {rest : List (Oper × Nat × Nat × Bool)} (hw : Region.wanted o (yielded ops a.tmps) = true)
    (h : ∀ K : Act → Prop, (∀ a, wpStage P ops C Q rest a → K a) → ∃ v, (∀ k w, lo ≤ k → k ≤ hi → C k w → stUpon P C (if ef then k + 1 else k) v ((execOp a.eval o).run P w)) ∧ K (a.put o.dst v)) : wpStage P ops C Q ((o, lo, hi, ef) :: rest) a := by
  unfold wpStage
  rw [if_pos hw]
  exact h _ (fun _ h => h)
/-- .. it is passed by (what guards it says no). -/
theorem wpStage_no {Q : Act → Prop} {a : Act} {o : Oper} {lo hi : Nat} {rest : List (Oper × Nat × Nat × Bool)} (hw : Region.wanted o (yielded ops a.tmps) = false)
    (h : ∀ K : Act → Prop, (∀ a, wpStage P ops C Q rest a → K a) → K (a.put o.dst undef)) : wpStage P ops C Q ((o, lo, hi, false) :: rest) a := by
  unfold wpStage
  rw [if_neg (by simp [hw])]
  exact ⟨(fun e => by cases e), h _ (fun _ h => h)⟩
theorem wpStage_nil {Q : Act → Prop} {a : Act} (h : Q a) : wpStage P ops C Q [] a := h
end
end Go.Proofs.Ytjneidmkllhbjaa
