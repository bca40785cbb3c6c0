/- Ey. -/
import Derived.Test.YtpfglmlpodjneaaGreatZ03
set_option linter.unusedSimpArgs false
set_option linter.unusedVariables false
namespace Go.Proofs.YtpfglmlpodjneaaGreat.Ey
open Go

abbrev ExV := (Tmp → Value) → Value → World → Prop
abbrev ExEnv := List (Option Tmp × List Tmp × ExV)
def exVal (b : Act) : Option Tmp → Value
  | some d => b.eval (.tmp d)
  | none => undef
def exSeen (a : Act) (lk : List Tmp) (s : Tmp) : Value := if lk.contains s then a.eval (.tmp s) else undef
def exGet : ExEnv → Tmp → Option (List Tmp × ExV)
  | [], _ => none
  | (some d, lk, V) :: r, s => if d == s then some (lk, V) else exGet r s
  | (none, _, _) :: r, s => exGet r s
def exAll (b : Act) (w : World) : ExEnv → Prop
  | [] => True
  | (d, lk, V) :: r => V (exSeen b lk) (exVal b d) w ∧ exAll b w r
def exSlot (a : Act) (s : Nat) : Value := a.tmps.toList.getD s undef
theorem exSlot_eq (a : Act) (s : Nat) : exSlot a s = a.eval (.tmp s) := by
  simp [exSlot, Act.eval, List.getD_eq_getElem?_getD]
def exPuts : List Oper → List Value → Act → Act
  | o :: l, v :: vs, a => exPuts l vs (a.put o.dst v)
  | _, _, a => a
def exDsts (l : List Oper) : List Tmp := l.filterMap (·.dst)
def lks (late : List Tmp) (o : Oper) (ops : Array Oper) : List Tmp := (o.looksAt ops).filter fun s => !late.contains s
def lts (late : List Tmp) (o : Oper) (ops : Array Oper) : List Tmp := (o.looksAt ops).filter fun s => late.contains s
def exEnv (late : List Tmp) (ops : Array Oper) : List Oper → List ExV → ExEnv → ExEnv
  | o :: l, V :: Vs, env => exEnv late ops l Vs ((o.dst, lks late o ops, V) :: env)
  | _, _, env => env

section
variable {late : List Tmp} {P : Program} {ops : Array Oper} {a0 : Act} {C : Nat → World → Prop} {Rel : Nat → World → World → Prop}

def ExStep (P : Program) (ops : Array Oper) (a0 : Act) (ds : List Tmp) (C : Nat → World → Prop) (Rel : Nat → World → World → Prop) (env : ExEnv) (o : Oper) (lk lt : List Tmp) (lo hi : Nat) (ef : Bool) (V : ExV) : Prop :=
  ∀ (wx : World) (b : Act) (k : Nat), lo ≤ k → k ≤ hi → C k wx → (∀ s, (!ds.contains s || lt.contains s) = true → b.eval (.tmp s) = a0.eval (.tmp s)) →
    (∀ s lk' V', lk.contains s = true → exGet env s = some (lk', V') → V' (exSeen b lk') (b.eval (.tmp s)) wx) →
    if Region.wanted o (yielded ops b.tmps) = true then invUpon P (fun v w' => V (exSeen b lk) (if o.dst.isSome then v else undef) w' ∧ C (if ef then k + 1 else k) w' ∧ Rel k wx w') ((execOp b.eval o).run P wx)
    else V (exSeen b lk) undef wx ∧ C (if ef then k + 1 else k) wx ∧ Rel k wx wx

def ExTree (late : List Tmp) (P : Program) (ops : Array Oper) (a0 : Act) (ds : List Tmp) (C : Nat → World → Prop) (Rel : Nat → World → World → Prop) (Q : ExEnv → Prop) : List (Oper × Nat × Nat × Bool) → ExEnv → Prop
  | [], env => Q env
  | (o, lo, hi, ef) :: rest, env => ∃ V : ExV, (∀ k, (if ef then lo + 1 else lo) ≤ k → ∀ g v w w', V g v w → Rel k w w' → V g v w') ∧ ExStep P ops a0 ds C Rel env o (lks late o ops) (lts late o ops) lo hi ef V ∧
      ExTree late P ops a0 ds C Rel Q rest ((o.dst, lks late o ops, V) :: env)

def exDepB (late : List Tmp) (l : List Oper) (M : Array Nat) (n : Nat) : Bool :=
  (List.range l.length).all fun i => match l[i]? with
    | none => true
    | some o => match o.dst with
      | none => true
      | some d => decide (d < n) && (List.range l.length).all fun j => match l[j]? with
        | none => true
        | some o' => (j == i || o'.dst != some d) && (!(o'.looksAt l.toArray).contains d || (j != i && (if late.contains d then (M.getD i 0).testBit j else (M.getD j 0).testBit i)))

theorem exDepB_raw {late : List Tmp} {l : List Oper} {M : Array Nat} {n : Nat} (h : exDepB late l M n = true) {i : Nat} {o : Oper} {d : Tmp} (hi : l[i]? = some o) (hd : o.dst = some d) :
    d < n ∧ ∀ j o', l[j]? = some o' → (j = i ∨ o'.dst ≠ some d) ∧ (d ∈ o'.looksAt l.toArray → j ≠ i ∧ (if late.contains d then (M.getD i 0).testBit j else (M.getD j 0).testBit i) = true) := by
  have hlt : i < l.length := (List.getElem?_eq_some_iff.1 hi).1
  have h1 := (List.all_eq_true.1 h) i (by simpa using hlt)
  simp only [hi, hd, Bool.and_eq_true, decide_eq_true_eq] at h1
  refine ⟨h1.1, fun j o' hj => ?_⟩
  have hlj : j < l.length := (List.getElem?_eq_some_iff.1 hj).1
  have h2 := (List.all_eq_true.1 h1.2) j (by simpa using hlj)
  simp only [hj, Bool.and_eq_true, Bool.or_eq_true, beq_iff_eq, bne_iff_ne, ne_eq, Bool.not_eq_true', List.contains_eq_mem, decide_eq_false_iff_not] at h2
  refine ⟨h2.1, fun hm => ?_⟩
  have h3 := h2.2.resolve_left (fun hn => hn hm)
  exact ⟨h3.1, by simpa using h3.2⟩
theorem exDepB_spec {late : List Tmp} {l : List Oper} {M : Array Nat} {n : Nat} (h : exDepB late l M n = true) {i : Nat} {o : Oper} {d : Tmp} (hi : l[i]? = some o) (hd : o.dst = some d) :
    d < n ∧ ∀ j o', l[j]? = some o' → (j = i ∨ o'.dst ≠ some d) ∧ (d ∈ lks late o' l.toArray → j ≠ i ∧ (M.getD j 0).testBit i = true) := by
  obtain ⟨h1, h2⟩ := exDepB_raw h hi hd
  refine ⟨h1, fun j o' hj => ⟨(h2 j o' hj).1, fun hm => ?_⟩⟩
  unfold lks at hm
  rw [List.mem_filter] at hm
  have h3 := (h2 j o' hj).2 hm.1
  rw [if_neg (by simpa using hm.2)] at h3
  exact h3
theorem exDepB_late {late : List Tmp} {l : List Oper} {M : Array Nat} {n : Nat} (h : exDepB late l M n = true) {i : Nat} {o : Oper} {d : Tmp} (hi : l[i]? = some o) (hd : o.dst = some d) :
    ∀ j o', l[j]? = some o' → (d ∈ lts late o' l.toArray → j ≠ i ∧ (M.getD i 0).testBit j = true) := by
  obtain ⟨h1, h2⟩ := exDepB_raw h hi hd
  refine fun j o' hj hm => ?_
  unfold lts at hm
  rw [List.mem_filter] at hm
  have h3 := (h2 j o' hj).2 hm.1
  rw [if_pos (by simpa using hm.2)] at h3
  exact h3

theorem exGet_env : ∀ (l : List Oper) (Vs : List ExV) (env : ExEnv) (s : Tmp) (lk : List Tmp) (V : ExV), exGet (exEnv late ops l Vs env) s = some (lk, V) →
    exGet env s = some (lk, V) ∨ ∃ (i : Nat) (o : Oper), l[i]? = some o ∧ Vs[i]? = some V ∧ o.dst = some s ∧ lk = lks late o ops
  | [], _, env, s, lk, V, h => .inl (by simpa [exEnv] using h)
  | o :: l, [], env, s, lk, V, h => .inl (by simpa [exEnv] using h)
  | o :: l, V0 :: Vs, env, s, lk, V, h => by
    rcases exGet_env l Vs _ s lk V h with h1 | ⟨i, o', h1, h2, h3, h4⟩
    · cases hd : o.dst with
      | none => simp only [hd, exGet] at h1; exact .inl h1
      | some d =>
        simp only [hd, exGet] at h1
        by_cases hds : d = s
        · subst hds
          simp only [beq_self_eq_true, if_true, Option.some.injEq, Prod.mk.injEq] at h1
          exact .inr ⟨0, o, by simp, by simp [h1.2], hd, h1.1.symm⟩
        · rw [if_neg (by simpa using hds)] at h1
          exact .inl h1
    · exact .inr ⟨i + 1, o', by simpa using h1, by simpa using h2, h3, h4⟩

theorem ExTree.open {ds : List Tmp} {Q : ExEnv → Prop} : ∀ (l : List Oper) (R : List (Nat × Nat × Bool)) (env : ExEnv), R.length = l.length → ExTree late P ops a0 ds C Rel Q (l.zip R) env →
    ∃ Vs : List ExV, Vs.length = l.length ∧ Q (exEnv late ops l Vs env) ∧ ∀ (i : Nat) (o : Oper) (lo hi : Nat) (ef : Bool) (V : ExV), l[i]? = some o → R[i]? = some (lo, hi, ef) → Vs[i]? = some V →
      (∀ k, (if ef then lo + 1 else lo) ≤ k → ∀ g v w w', V g v w → Rel k w w' → V g v w') ∧ ExStep P ops a0 ds C Rel (exEnv late ops (l.take i) (Vs.take i) env) o (lks late o ops) (lts late o ops) lo hi ef V
  | [], R, env, hl, h => ⟨[], rfl, by simpa [ExTree, exEnv] using h, fun i o lo hi ef V h => by simp at h⟩
  | o :: l, [], _, hl, _ => by simp at hl
  | o :: l, (lo, hi, ef) :: R, env, hl, h => by
    simp only [List.zip_cons_cons, ExTree] at h
    obtain ⟨V, hs, hst, hr⟩ := h
    obtain ⟨Vs, h1, h2, h3⟩ := ExTree.open l R _ (by simpa using hl) hr
    refine ⟨V :: Vs, by simp [h1], h2, fun i o' lo' hi' ef' V' hi1 hi2 hi3 => ?_⟩
    cases i with
    | zero =>
      simp only [List.getElem?_cons_zero, Option.some.injEq, Prod.mk.injEq] at hi1 hi2 hi3
      obtain ⟨rfl, rfl, rfl⟩ := hi2
      subst hi1 hi3
      exact ⟨hs, by simpa [exEnv] using hst⟩
    | succ i =>
      simp only [List.getElem?_cons_succ] at hi1 hi2 hi3
      exact h3 i o' lo' hi' ef' V' hi1 hi2 hi3

structure ExI (late : List Tmp) (l : List Oper) (a0 : Act) (C : Nat → World → Prop) (E : List Nat) (R : List (Nat × Nat × Bool)) (Vs : List ExV) (L : Array Bool) (ac : Act) (wx : World) : Prop where
  good : Good l.toArray L
  defers : ac.defers = a0.defers
  size : ac.tmps.size = a0.tmps.size
  out : ∀ s, (∀ (j : Nat) (oj : Oper), l[j]? = some oj → oj.dst = some s → L.getD j false = false) → ac.tmps[s]? = a0.tmps[s]?
  val : ∀ i o V, l[i]? = some o → Vs[i]? = some V → L.getD i false = true → V (exSeen ac (lks late o l.toArray)) (exVal ac o.dst) wx
  c : C (stg E L) wx
  st : ∀ (i lo hi : Nat) (ef : Bool), R[i]? = some (lo, hi, ef) → L.getD i false = true → (if ef then lo + 1 else lo) ≤ stg E L

theorem exPuts_get (ac : Act) : ∀ (l : List Oper) (a : Act), ac.tmps.size = a.tmps.size → ∀ s : Nat, s < a.tmps.size →
    (exPuts l (l.map fun o => match o.dst with | some d => ac.eval (.tmp d) | none => undef) a).tmps[s]? = if (exDsts l).contains s then some (ac.eval (.tmp s)) else a.tmps[s]?
  | [], a, _, s, _ => by simp [exPuts, exDsts]
  | o :: l, a, hs, s, hlt => by
    simp only [List.map_cons, exPuts]
    rw [exPuts_get ac l _ (by cases o.dst <;> simp [Act.put, hs]) s (by cases o.dst <;> simpa [Act.put] using hlt)]
    cases hd : o.dst with
    | none => simp [exDsts, hd, Act.put]
    | some d =>
      by_cases hds : d = s
      · subst hds
        simp [exDsts, hd, Act.put, hlt]
      · simp [exDsts, hd, Act.put, Array.getElem?_setIfInBounds_ne hds, Ne.symm hds]
theorem exPuts_size (l : List Oper) : ∀ (vs : List Value) (a : Act), (exPuts l vs a).tmps.size = a.tmps.size ∧ (exPuts l vs a).defers = a.defers := by
  induction l with
  | nil => intro vs a; simp [exPuts]
  | cons o l ih =>
    intro vs a
    cases vs with
    | nil => simp [exPuts]
    | cons v vs =>
      simp only [exPuts]
      obtain ⟨h1, h2⟩ := ih vs (a.put o.dst v)
      rw [h1, h2]
      cases o.dst <;> simp [Act.put]

theorem exSeen_put {ac : Act} {lk : List Tmp} {x : Option Tmp} {v : Value} (h : ∀ d, x = some d → d ∉ lk) : exSeen (ac.put x v) lk = exSeen ac lk := by
  funext s
  unfold exSeen
  by_cases hs : lk.contains s
  · rw [if_pos hs, if_pos hs]
    exact Act.eval_put (fun d hd hx => by cases hx; exact h _ hd (by simpa using hs))
  · rw [if_neg hs, if_neg hs]

theorem exPut_eval {ac : Act} {d : Tmp} {v : Value} (h : d < ac.tmps.size) : (ac.put (some d) v).eval (.tmp d) = v := by
  simp [Act.put, Act.eval, h]

theorem exAll_of (b : Act) (w : World) : ∀ (l : List Oper) (Vs : List ExV) (env : ExEnv), exAll b w env →
    (∀ (i : Nat) (o : Oper) (V : ExV), l[i]? = some o → Vs[i]? = some V → V (exSeen b (lks late o ops)) (exVal b o.dst) w) → exAll b w (exEnv late ops l Vs env)
  | [], _, env, h, _ => by simpa [exEnv] using h
  | o :: l, [], env, h, _ => by simpa [exEnv] using h
  | o :: l, V :: Vs, env, h, hv => by
    exact exAll_of b w l Vs _ ⟨hv 0 o V (by simp) (by simp), h⟩ (fun i o' V' h1 h3 => hv (i + 1) o' V' (by simpa using h1) (by simpa using h3))

set_option maxHeartbeats 1000000 in
/-- A region that draws its order. E, R: as in 'wp_region_stage'; Rel: what each operation does to the world, at most. -/
theorem wp_region_ex {id : Nat} {Q : Exit → Act → World → Prop} {a : Act} {w : World} {l : List Oper} (C : Nat → World → Prop) (Rel : Nat → World → World → Prop) (E : List Nat) (R : List (Nat × Nat × Bool)) (ds : List Tmp) (late : List Tmp) (hm : P.follows .mixedOrders = true)
    (hds : exDsts l = ds) (hS : stB l.toArray E R = true) (hD : exDepB late l (Region.before l.toArray) a.tmps.size = true) (hC : C 0 w.drew)
    (h : ExTree late P l.toArray a ds C Rel (fun env => ∀ us w', us.length = l.length → C E.length w' → exAll (exPuts l us a) w' env → Q .normal (exPuts l us a) w') (l.zip R) []) :
    (Code.region id l.toArray true).wp P Q a w := by
  subst hds
  simp only [stB, Bool.and_eq_true, decide_eq_true_eq] at hS
  obtain ⟨⟨⟨⟨s1, s2⟩, s3⟩, s4⟩, s5⟩ := hS
  have hE : ∀ e ∈ E, e < l.toArray.size := fun e he => by simpa using (List.all_eq_true.1 s2) e he
  have hn := nodupB_spec s3
  obtain ⟨Vs, hVl, hQ, hV⟩ := ExTree.open l R [] (by simpa using s4) h
  clear h
  have h00 : stg E (Array.replicate l.length false) = 0 := by
    unfold stg
    rw [List.countP_eq_zero]
    intro e he
    have := hE e he
    simp only [List.size_toArray] at this
    simp [this]
  have hG0 : Good l.toArray (Array.replicate l.length false) := ⟨by simp, fun j o hj hl => by
    have := (Array.getElem?_eq_some_iff.1 hj).1
    simp only [List.size_toArray] at this
    simp [this] at hl⟩
  have hrows : ∀ (R : List (Nat × Nat × Bool)) (i0 i : Nat) (lo hi : Nat) (ef : Bool), rowsB E (Region.before l.toArray) R i0 = true → R[i]? = some (lo, hi, ef) →
      lo ≤ loOf E (Region.before l.toArray) (i0 + i) ∧ hiOf E (Region.before l.toArray) (i0 + i) ≤ hi ∧ ef = E.contains (i0 + i) := by
    intro R
    induction R with
    | nil => intro i0 i lo hi ef _ h; simp at h
    | cons r R ih =>
      intro i0 i lo hi ef hr hi'
      obtain ⟨lo', hi'', ef'⟩ := r
      simp only [rowsB, Bool.and_eq_true, decide_eq_true_eq, beq_iff_eq] at hr
      cases i with
      | zero =>
        simp only [List.getElem?_cons_zero, Option.some.injEq, Prod.mk.injEq] at hi'
        obtain ⟨rfl, rfl, rfl⟩ := hi'
        exact ⟨hr.1.1.1, hr.1.1.2, hr.1.2⟩
      | succ i =>
        have := ih (i0 + 1) i lo hi ef hr.2 (by simpa using hi')
        rwa [show i0 + 1 + i = i0 + (i + 1) by omega] at this
  have step : ∀ (i : Nat) (o : Oper), l[i]? = some o → ∀ (L : Array Bool) (ac : Act) (wx : World), i ∈ Region.ready .any l.toArray L → ExI late l a C E R Vs L ac wx →
      wpOp P l.toArray Q i (fun a' w' => ExI late l a C E R Vs (L.setIfInBounds i true) a' w') ac wx := by
    intro i o ho L ac wx hr hI
    have hoa : l.toArray[i]? = some o := by simpa using ho
    obtain ⟨hun, o', ho', hall⟩ := mem_ready.1 hr
    rw [hoa] at ho'
    cases ho'
    have hil : i < l.length := (List.getElem?_eq_some_iff.1 ho).1
    have hunf := getD_false_of_true hun
    obtain ⟨r, hri⟩ : ∃ r, R[i]? = some r := ⟨R[i]'(by rw [s4]; simpa using hil), List.getElem?_eq_getElem _⟩
    obtain ⟨lo, hi, ef⟩ := r
    obtain ⟨V, hvi⟩ : ∃ V, Vs[i]? = some V := ⟨Vs[i]'(by omega), List.getElem?_eq_getElem _⟩
    obtain ⟨hst, hstep⟩ := hV i o lo hi ef V ho hri hvi
    obtain ⟨b1, b2⟩ := stg_bounds s1 hE hI.good hr
    obtain ⟨q1, q2, q3⟩ := hrows R 0 i lo hi ef s5 hri
    rw [Nat.zero_add] at q1 q2 q3
    have hsz : i < L.size := by rw [hI.good.size]; simpa using hil
    have hk : stg E (L.setIfInBounds i true) = if ef then stg E L + 1 else stg E L := by rw [stg_set hn hsz hunf, q3]
    have hdep : ∀ j oj d, l[j]? = some oj → oj.dst = some d → d ∈ lks late o l.toArray → L.getD j false = true := by
      intro j oj d hj hd hm
      have hjl : j < l.length := (List.getElem?_eq_some_iff.1 hj).1
      have := ((exDepB_spec hD hj hd).2 i o ho).2 hm
      exact anc_listed s1 hI.good i i o (Nat.le_refl _) hoa hall j (by simpa using hjl) this.2
    have key := hstep wx ac (stg E L) (by omega) (by omega) hI.c
      (fun s hs => by
        have := hI.out s (fun j oj hj hd => by
          rcases Bool.or_eq_true _ _ ▸ hs with hs | hs
          · have hm : s ∈ exDsts l := List.mem_filterMap.2 ⟨oj, List.mem_of_getElem? hj, hd⟩
            simp [hm] at hs
          · have hjl : j < l.length := (List.getElem?_eq_some_iff.1 hj).1
            cases hl : L.getD j false with
            | false => rfl
            | true =>
              have h3 := (exDepB_late hD hj hd i o ho (by simpa using hs)).2
              have hl2 := anc_listed s1 hI.good j j oj (Nat.le_refl _) (by simpa using hj) (hI.good.down j oj (by simpa using hj) hl) i (by simpa using hil) h3
              rw [hunf] at hl2
              cases hl2)
        simp only [Act.eval, Array.getD_eq_getD_getElem?, this])
      (fun s lk' V' hs hg => by
        rcases exGet_env _ _ _ _ _ _ hg with h1 | ⟨j, oj, h1, h2, h3, h4⟩
        · simp [exGet] at h1
        · have hji : j < i := by
            have h5 := (List.getElem?_eq_some_iff.1 h1).1
            simp only [List.length_take] at h5
            omega
          rw [List.getElem?_take, if_pos hji] at h1 h2
          subst h4
          have hvv := hI.val j oj V' h1 h2 (hdep j oj s h1 h3 (by simpa using hs))
          rw [h3] at hvv
          exact hvv)
    rw [← hk] at key
    have fin : ∀ v w', (o.dst = none → v = undef) → V (exSeen ac (lks late o l.toArray)) v w' → C (stg E (L.setIfInBounds i true)) w' → Rel (stg E L) wx w' → ExI late l a C E R Vs (L.setIfInBounds i true) (ac.put o.dst v) w' := by
      intro v w' hnv hv hc hrel
      refine ⟨hI.good.set hr, ?_, ?_, ?_, ?_, hc, ?_⟩
      · rw [← hI.defers]; cases o.dst <;> rfl
      · rw [← hI.size]; cases o.dst <;> simp [Act.put]
      · intro s hs
        rw [← hI.out s (fun j oj hj hdj => by
          by_cases hji : j = i
          · subst hji; exact hunf
          · have := hs j oj hj hdj
            rwa [getD_set_ne false (Ne.symm hji)] at this)]
        cases hd : o.dst with
        | none => rfl
        | some d =>
          have hne : d ≠ s := by
            rintro rfl
            have := hs i o ho hd
            rw [getD_set_if L i i hsz, if_pos rfl] at this
            cases this
          simp [Act.put, Array.getElem?_setIfInBounds_ne hne]
      · intro j oj V' hj hvj hl
        by_cases hji : j = i
        · subst hji
          rw [ho] at hj; cases hj
          rw [hvi] at hvj; cases hvj
          cases hd : o.dst with
          | none =>
            rw [hd] at hnv
            rw [hnv rfl] at hv
            simpa [Act.put, exVal] using hv
          | some d =>
            have sp := exDepB_spec hD ho hd
            simp only [exVal]
            rw [exSeen_put (fun d' hd' => by cases hd'; exact fun hm => (((sp.2 j o ho).2 hm).1 rfl)), exPut_eval (by rw [hI.size]; exact sp.1)]
            exact hv
        · rw [getD_set_ne false (Ne.symm hji)] at hl
          have hjl : j < l.length := (List.getElem?_eq_some_iff.1 hj).1
          have hvs : exVal (ac.put o.dst v) oj.dst = exVal ac oj.dst := by
            cases hd : oj.dst with
            | none => rfl
            | some d =>
              simp only [exVal]
              rw [Act.eval_put]
              intro d' hd' he
              cases he
              exact (((exDepB_spec hD ho hd').2 j oj hj).1.resolve_left hji) hd
          rw [hvs, exSeen_put]
          · obtain ⟨rj, hrj⟩ : ∃ r, R[j]? = some r := ⟨R[j]'(by rw [s4]; simpa using hjl), List.getElem?_eq_getElem _⟩
            obtain ⟨loj, hij, efj⟩ := rj
            exact (hV j oj _ _ _ V' hj hrj hvj).1 _ (hI.st j loj hij efj hrj hl) _ _ _ _ (hI.val j oj V' hj hvj hl) hrel
          · intro d' hd' hm
            have := ((exDepB_spec hD ho hd').2 j oj hj).2 hm
            have hl2 := anc_listed s1 hI.good j j oj (Nat.le_refl _) (by simpa using hj) (hI.good.down j oj (by simpa using hj) hl) i (by simpa using hil) this.2
            rw [hunf] at hl2
            cases hl2
      · intro j loj hij efj hrj hl
        rw [hk]
        by_cases hji : j = i
        · subst hji
          rw [hri] at hrj
          obtain ⟨rfl, rfl, rfl⟩ : lo = loj ∧ hi = hij ∧ ef = efj := by simpa using hrj
          split <;> omega
        · rw [getD_set_ne false (Ne.symm hji)] at hl
          exact Nat.le_trans (hI.st j loj hij efj hrj hl) (by split <;> omega)
    have fin0 : ∀ v w', V (exSeen ac (lks late o l.toArray)) (if o.dst.isSome then v else undef) w' → C (stg E (L.setIfInBounds i true)) w' → Rel (stg E L) wx w' → ExI late l a C E R Vs (L.setIfInBounds i true) (ac.put o.dst v) w' := by
      intro v w' q1 q2 q3
      have := fin (if o.dst.isSome then v else undef) w' (fun hn => by rw [hn]; rfl) q1 q2 q3
      cases hd : o.dst with
      | none => rw [hd] at this; simpa [Act.put] using this
      | some d => rw [hd] at this; simpa using this
    unfold wpOp
    simp only [hoa]
    by_cases hw : Region.wanted o (yielded l.toArray ac.tmps) = true
    · rw [if_pos hw] at key ⊢
      refine .inl ?_
      unfold Oper.wp
      generalize (execOp ac.eval o).run P wx = r at *
      cases r with
      | ok n w' =>
        cases n <;> simp only [invUpon] at key <;> simp only [Oper.upon]
        case value u => exact fin0 _ _ key.1 key.2.1 key.2.2
        case skip => exact fin0 _ _ key.1 key.2.1 key.2.2
        case enter f args => exact key.mono fun e w'' ⟨v, he, hk1, hk2, hk3⟩ => by subst he; exact fin0 _ _ hk1 hk2 hk3
      | halt x w' => simp only [invUpon] at key
    · rw [if_neg hw] at key ⊢
      exact fin _ _ (fun _ => rfl) key.1 key.2.1 key.2.2
  refine wp_region_any hm (wpAny_of_inv (I := ExI late l a C E R Vs) (fun L ac wx i hG hi h => ?_) (fun L ac wx hG hr hI => ?_) _ _ _ _ (by unfold unl; exact Nat.le_trans (Array.countP_le_size) (by simp)) (by simpa using hG0) ?_)
  · obtain ⟨_, o, ho, _⟩ := mem_ready.1 hi
    exact step i o (by simpa using ho) L ac wx hi h
  · have hall : ∀ j, j < l.length → L.getD j false = true := fun j hj => all_listed s1 hG hr j j (Nat.le_refl _) (by simpa using hj)
    have hput : exPuts l (l.map fun o => match o.dst with | some d => ac.eval (.tmp d) | none => undef) a = ac := by
      obtain ⟨z1, z2⟩ := exPuts_size l (l.map fun o => match o.dst with | some d => ac.eval (.tmp d) | none => undef) a
      have ht : (exPuts l (l.map fun o => match o.dst with | some d => ac.eval (.tmp d) | none => undef) a).tmps = ac.tmps := by
        apply Array.ext_getElem?
        intro s
        by_cases hs : s < a.tmps.size
        · rw [exPuts_get ac l a hI.size s hs]
          by_cases hm : (exDsts l).contains s = true
          · rw [if_pos hm]
            have : s < ac.tmps.size := by rw [hI.size]; exact hs
            simp [Act.eval, this]
          · rw [if_neg hm, hI.out s (fun j oj hj hd => absurd (List.mem_filterMap.2 ⟨oj, List.mem_of_getElem? hj, hd⟩ : s ∈ exDsts l) (fun hx => hm (List.contains_iff_mem.2 hx)))]
        · rw [Array.getElem?_eq_none (by omega), Array.getElem?_eq_none (by rw [hI.size]; omega)]
      cases ac with
      | mk t d =>
        cases hx : exPuts l (l.map fun o => match o.dst with | some d' => (Act.mk t d).eval (.tmp d') | none => undef) a with
        | mk t' d' =>
          rw [hx] at ht z2
          simp only at ht z2
          have hdf := hI.defers
          simp only at hdf
          rw [ht, z2, ← hdf]
    rw [← hput]
    refine hQ _ wx (by simp) ?_ ?_
    · have : stg E L = E.length := by
        unfold stg
        rw [List.countP_eq_length]
        intro e he
        exact hall e (by simpa using hE e he)
      rw [← this]
      exact hI.c
    · rw [hput]
      exact exAll_of ac wx l Vs [] trivial (fun i o V h1 h3 => hI.val i o V h1 h3 (hall i (List.getElem?_eq_some_iff.1 h1).1))
  · exact ⟨by simpa using hG0, rfl, rfl, fun _ _ => rfl, fun i o V h1 _ hl => by
      have := (List.getElem?_eq_some_iff.1 h1).1
      simp [this] at hl, by simpa [h00] using hC, fun i lo hi ef h1 hl => by
      have h2 := (List.getElem?_eq_some_iff.1 h1).1
      rw [s4] at h2
      simp only [List.size_toArray] at h2
      simp [h2] at hl⟩

theorem wanted_guard {o : Oper} {g : Nat} {want : Bool} {d : Tmp} {x : Bool} (b : Act) (hg : o.guard = some (g, want)) (hd : (ops[g]?).bind (·.dst) = some d) (he : b.eval (.tmp d) = .bool x) : Region.wanted o (yielded ops b.tmps) = (x == want) := by
  have ht : b.tmps[d]? = some (.bool x) := by
    simp only [Act.eval, Array.getD_eq_getD_getElem?] at he
    cases hh : b.tmps[d]? with
    | none => rw [hh] at he; simp [undef] at he
    | some v => rw [hh] at he; simpa using he
  have hy : yielded ops b.tmps g = some x := by
    unfold yielded
    rw [hd]
    simp [ht]
  unfold Region.wanted
  rw [hg]
  simp [hy]

/-- What is known at an operation: the world and the slots that it looks at. -/
def ExAt (a0 : Act) (ds : List Tmp) (C : Nat → World → Prop) (env : ExEnv) (lo hi : Nat) (lk lt : List Tmp) (F : World → Act → Nat → Prop) : Prop :=
  ∀ (wx : World) (b : Act) (k : Nat), lo ≤ k → k ≤ hi → C k wx → (∀ s, (!ds.contains s || lt.contains s) = true → b.eval (.tmp s) = exSlot a0 s) →
    (∀ s lk' V', lk.contains s = true → exGet env s = some (lk', V') → V' (exSeen b lk') (b.eval (.tmp s)) wx) → F wx b k

/-- An operation with a value that is known (x). -/
theorem ex_det {ds : List Tmp} {Q : ExEnv → Prop} {o : Oper} {lo hi : Nat} {ef : Bool} {rest : List (Oper × Nat × Nat × Bool)} {env : ExEnv} (d : Tmp) (lk lt : List Tmp) (hd : o.dst = some d) (hlk : lks late o ops = lk) (hlt : lts late o ops = lt)
    (hw : ExAt a0 ds C env lo hi lk lt fun _ b _ => Region.wanted o (yielded ops b.tmps) = true)
    (h : ∃ x, (ExAt a0 ds C env lo hi lk lt fun wx b k => ∀ K : Value → World → Prop, (∀ w', C (if ef then k + 1 else k) w' → Rel k wx w' → K x w') → invUpon P K ((execOp b.eval o).run P wx)) ∧
      ExTree late P ops a0 ds C Rel Q rest ((some d, lk, fun _ v _ => v = x) :: env)) :
    ExTree late P ops a0 ds C Rel Q ((o, lo, hi, ef) :: rest) env := by
  obtain ⟨x, h1, h2⟩ := h
  refine ⟨fun _ v _ => v = x, fun _ _ _ _ _ _ hv _ => hv, fun wx b k k1 k2 hc hb hdp => ?_, by rw [hd]; simpa [hlk] using h2⟩
  rw [hlk] at hdp
  rw [hlt] at hb
  rw [if_pos (hw wx b k k1 k2 hc (fun s hs => (hb s hs).trans (exSlot_eq a0 s).symm) hdp)]
  exact h1 wx b k k1 k2 hc (fun s hs => (hb s hs).trans (exSlot_eq a0 s).symm) hdp _ (fun w' q1 q2 => ⟨by rw [hd]; rfl, q1, q2⟩)
/-- .. that is passed by. -/
theorem ex_pass {ds : List Tmp} {Q : ExEnv → Prop} {o : Oper} {lo hi : Nat} {rest : List (Oper × Nat × Nat × Bool)} {env : ExEnv} (d : Tmp) (lk lt : List Tmp) (hd : o.dst = some d) (hlk : lks late o ops = lk) (hlt : lts late o ops = lt) (hr : ∀ k w, Rel k w w)
    (hw : ExAt a0 ds C env lo hi lk lt fun _ b _ => Region.wanted o (yielded ops b.tmps) = false)
    (h2 : ExTree late P ops a0 ds C Rel Q rest ((some d, lk, fun _ v _ => v = undef) :: env)) :
    ExTree late P ops a0 ds C Rel Q ((o, lo, hi, false) :: rest) env := by
  refine ⟨fun _ v _ => v = undef, fun _ _ _ _ _ _ hv _ => hv, fun wx b k k1 k2 hc hb hdp => ?_, by rw [hd]; simpa [hlk] using h2⟩
  rw [hlk] at hdp
  rw [hlt] at hb
  rw [if_neg (by rw [hw wx b k k1 k2 hc (fun s hs => (hb s hs).trans (exSlot_eq a0 s).symm) hdp]; decide)]
  exact ⟨rfl, hc, hr _ _⟩
/-- .. whose value is told by V alone. -/
theorem ex_any {ds : List Tmp} {Q : ExEnv → Prop} {o : Oper} {lo hi : Nat} {ef : Bool} {rest : List (Oper × Nat × Nat × Bool)} {env : ExEnv} (V : ExV) (d : Tmp) (lk lt : List Tmp) (hd : o.dst = some d) (hlk : lks late o ops = lk) (hlt : lts late o ops = lt)
    (hw : ExAt a0 ds C env lo hi lk lt fun _ b _ => Region.wanted o (yielded ops b.tmps) = true)
    (hs : ∀ k, (if ef then lo + 1 else lo) ≤ k → ∀ g v w w', V g v w → Rel k w w' → V g v w')
    (h1 : ExAt a0 ds C env lo hi lk lt fun wx b k => ∀ K : Value → World → Prop, (∀ v w', V (exSeen b lk) v w' → C (if ef then k + 1 else k) w' → Rel k wx w' → K v w') → invUpon P K ((execOp b.eval o).run P wx))
    (h2 : ExTree late P ops a0 ds C Rel Q rest ((some d, lk, V) :: env)) :
    ExTree late P ops a0 ds C Rel Q ((o, lo, hi, ef) :: rest) env := by
  refine ⟨V, hs, fun wx b k k1 k2 hc hb hdp => ?_, by rw [hd]; simpa [hlk] using h2⟩
  rw [hlk] at hdp
  rw [hlt] at hb
  rw [if_pos (hw wx b k k1 k2 hc (fun s hs => (hb s hs).trans (exSlot_eq a0 s).symm) hdp), hlk]
  exact h1 wx b k k1 k2 hc (fun s hs => (hb s hs).trans (exSlot_eq a0 s).symm) hdp _ (fun v w' q0 q1 q2 => ⟨by rw [hd]; exact q0, q1, q2⟩)
/-- .. that yields no value (a store); V: what it leaves. -/
theorem ex_unit {ds : List Tmp} {Q : ExEnv → Prop} {o : Oper} {lo hi : Nat} {ef : Bool} {rest : List (Oper × Nat × Nat × Bool)} {env : ExEnv} (V : (Tmp → Value) → World → Prop) (lk lt : List Tmp) (hd : o.dst = none) (hlk : lks late o ops = lk) (hlt : lts late o ops = lt)
    (hw : ExAt a0 ds C env lo hi lk lt fun _ b _ => Region.wanted o (yielded ops b.tmps) = true)
    (hs : ∀ k, (if ef then lo + 1 else lo) ≤ k → ∀ g w w', V g w → Rel k w w' → V g w')
    (h1 : ExAt a0 ds C env lo hi lk lt fun wx b k => ∀ K : World → Prop, (∀ w', V (exSeen b lk) w' → C (if ef then k + 1 else k) w' → Rel k wx w' → K w') → invUpon P (fun _ w' => K w') ((execOp b.eval o).run P wx))
    (h2 : ExTree late P ops a0 ds C Rel Q rest ((none, lk, fun g _ w => V g w) :: env)) :
    ExTree late P ops a0 ds C Rel Q ((o, lo, hi, ef) :: rest) env := by
  refine ⟨fun g _ w => V g w, fun k hk g _ w w' hv hr => hs k hk g w w' hv hr, fun wx b k k1 k2 hc hb hdp => ?_, by rw [hd]; simpa [hlk] using h2⟩
  rw [hlk] at hdp
  rw [hlt] at hb
  rw [if_pos (hw wx b k k1 k2 hc (fun s hs => (hb s hs).trans (exSlot_eq a0 s).symm) hdp), hlk]
  exact h1 wx b k k1 k2 hc (fun s hs => (hb s hs).trans (exSlot_eq a0 s).symm) hdp _ (fun w' q0 q1 q2 => ⟨q0, q1, q2⟩)
theorem ex_end {ds : List Tmp} {Q : ExEnv → Prop} {env : ExEnv} (h : Q env) : ExTree late P ops a0 ds C Rel Q [] env := h
end
end Go.Proofs.YtpfglmlpodjneaaGreat.Ey
