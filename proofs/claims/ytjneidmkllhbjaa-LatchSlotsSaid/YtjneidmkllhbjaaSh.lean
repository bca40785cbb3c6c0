/- Shapes of a law's arguments: from the form's own reading of an argument to a value of a plain Lean type, for every type made of integers, bools, strings, structs, arrays and slices. -/
import Derived.Deep.Slices
import Derived.ProofKit
import Derived.OpenShut
import Derived.Carry
namespace Go.Proofs.Ytjneidmkllhbjaa
open Go.ChangeShapes Go.WideShapes Go.RowKit Go.Deep

inductive Sh where
  | int (k : IntKind)
  | bool
  | str
  | unit
  | prod (a b : Sh)
  | slice (e : Sh)

def Sh.T : Sh → Type
  | .int _ => Int
  | .bool => Bool
  | .str => ByteArray
  | .unit => Unit
  | .prod a b => a.T × b.T
  | .slice e => List e.T

def Sh.sz : Sh → Nat
  | .int _ => 1
  | .bool => 1
  | .str => 1
  | .unit => 0
  | .prod a b => a.sz + b.sz
  | .slice _ => 1

/-- The cells 'cs' read as the value 'v', in the world w. -/
def Sh.rep (w : World) : (s : Sh) → s.T → List Value → Prop
  | .int k, n, cs => cs = [.int k n] ∧ (Lit.int k n).wf = true
  | .bool, b, cs => cs = [.bool b]
  | .str, s, cs => cs = [.string s] ∧ s.size ≤ maxLen
  | .unit, _, cs => cs = []
  | .prod a b, v, cs => ∃ c1 c2, cs = c1 ++ c2 ∧ c1.length = a.sz ∧ a.rep w v.1 c1 ∧ b.rep w v.2 c2
  | .slice e, l, cs => (l = [] ∧ ∃ a cap, cs = [.slice a 0 cap] ∧ (a = none → cap = 0)) ∨
      ∃ (b off cap : Nat), cs = [.slice (some ⟨b, off, none⟩) l.length cap] ∧ 0 < l.length ∧ l.length ≤ cap ∧ cap ≤ maxLen ∧ b < w.heap.size ∧
        ∀ i (h : i < List.length (α := e.T) l), ∃ cs' : List Value, cs'.length = e.sz ∧ (∀ j, j < e.sz → w.cell? ⟨b, off + i * e.sz + j, none⟩ = cs'[j]?) ∧ e.rep w (List.get (α := e.T) l ⟨i, h⟩) cs'

def hasFields (r : TypeId → Sh → Bool) (P : Program) : List Field → Nat → Sh → Bool
  | [], _, .unit => true
  | f :: fs, o, .prod a b => f.offset == o && P.cellsOf f.type == a.sz && r f.type a && hasFields r P fs (o + a.sz) b
  | _, _, _ => false

def hasElems (r : Sh → Bool) (c : Nat) : Nat → Sh → Bool
  | 0, .unit => true
  | n + 1, .prod a b => r a && c == a.sz && hasElems r c n b
  | _, _ => false

def hasSh (P : Program) : Nat → TypeId → Sh → Bool
  | 0, _, _ => false
  | f + 1, t, s =>
    match P.underlying t, s with
    | some (.int k), .int k' => decide (k = k')
    | some .bool, .bool => true
    | some .string, .str => true
    | some (.slice e), .slice s' => hasSh P f e s' && P.cellsOf e == s'.sz && decide (0 < s'.sz)
    | some (.struct fs), s => P.cellsOf t == s.sz && hasFields (hasSh P f) P fs.toList 0 s
    | some (.array n e), s => P.cellsOf t == s.sz && hasElems (hasSh P f e) (P.cellsOf e) n s
    | _, _ => false

section
variable {H : Type} {enc : TypeId × Value → H} {P : Program} {w : World} {held : Bool}

theorem open_fields {m fuel : Nat} (ih : ∀ t s cs x, hasSh P m t s = true → DataW.trod enc P w 0 (fun _ => true) held fuel t cs = some x → ∃ v : s.T, s.rep w v cs ∧ cs.length = s.sz) :
    ∀ (fs : List Field) (o : Nat) (s : Sh) (cs : List Value), hasFields (hasSh P m) P fs o s = true → cs.length = o + s.sz →
      (∀ f ∈ fs, ∃ y, DataW.trod enc P w 0 (fun _ => true) held fuel f.type ((cs.drop f.offset).take (P.cellsOf f.type)) = some y) → ∃ v : s.T, s.rep w v (cs.drop o) := by
  intro fs
  induction fs with
  | nil =>
    intro o s cs h hl _
    cases s <;> simp [hasFields] at h
    refine ⟨(), ?_⟩
    show cs.drop o = []
    rw [List.drop_eq_nil_iff]; simp [Sh.sz] at hl; omega
  | cons f fs ihf =>
    intro o s cs h hl hall
    cases s <;> simp [hasFields] at h
    rename_i a b
    obtain ⟨⟨⟨h1, h2⟩, h3⟩, h4⟩ := h
    simp only [Sh.sz] at hl
    obtain ⟨y, hy⟩ := hall f (by simp)
    obtain ⟨va, hva, hla⟩ := ih _ _ _ _ h3 hy
    obtain ⟨vb, hvb⟩ := ihf (o + a.sz) b cs h4 (by omega) (fun g hg => hall g (by simp [hg]))
    refine ⟨(va, vb), (cs.drop o).take a.sz, cs.drop (o + a.sz), ?_, ?_, ?_, hvb⟩
    · rw [← List.drop_drop, List.take_append_drop]
    · simp; omega
    · rw [h1, h2] at hva; exact hva

theorem open_elems {m fuel : Nat} {e : TypeId} (ih : ∀ t s cs x, hasSh P m t s = true → DataW.trod enc P w 0 (fun _ => true) held fuel t cs = some x → ∃ v : s.T, s.rep w v cs ∧ cs.length = s.sz) :
    ∀ (n i0 : Nat) (s : Sh) (cs : List Value), hasElems (hasSh P m e) (P.cellsOf e) n s = true → cs.length = i0 * P.cellsOf e + s.sz →
      (∀ i, i0 ≤ i → i < i0 + n → ∃ y, DataW.trod enc P w 0 (fun _ => true) held fuel e ((cs.drop (i * P.cellsOf e)).take (P.cellsOf e)) = some y) → ∃ v : s.T, s.rep w v (cs.drop (i0 * P.cellsOf e)) := by
  intro n
  induction n with
  | zero =>
    intro i0 s cs h hl _
    cases s <;> simp [hasElems] at h
    refine ⟨(), ?_⟩
    show cs.drop _ = []
    rw [List.drop_eq_nil_iff]; simp [Sh.sz] at hl; omega
  | succ n ihn =>
    intro i0 s cs h hl hall
    cases s <;> simp [hasElems] at h
    rename_i a b
    obtain ⟨⟨h3, h2⟩, h4⟩ := h
    simp only [Sh.sz] at hl
    obtain ⟨y, hy⟩ := hall i0 (Nat.le_refl _) (by omega)
    obtain ⟨va, hva, hla⟩ := ih _ _ _ _ h3 hy
    obtain ⟨vb, hvb⟩ := ihn (i0 + 1) b cs h4 (by rw [Nat.succ_mul]; omega) (fun i h1 h2 => hall i (by omega) (by omega))
    refine ⟨(va, vb), (cs.drop (i0 * P.cellsOf e)).take a.sz, cs.drop ((i0 + 1) * P.cellsOf e), ?_, ?_, ?_, hvb⟩
    · rw [Nat.succ_mul, h2, ← List.drop_drop, List.take_append_drop]
    · simp; omega
    · rw [h2] at hva; rw [h2]; exact hva

theorem open_rep : ∀ (m fuel : Nat) (t : TypeId) (s : Sh) (cs : List Value) (x : DataW H × List MemPlace), hasSh P m t s = true →
    DataW.trod enc P w 0 (fun _ => true) held fuel t cs = some x → ∃ v : s.T, s.rep w v cs ∧ cs.length = s.sz := by
  intro m
  induction m with
  | zero => intro fuel t s cs x h; simp [hasSh] at h
  | succ m ih =>
    intro fuel t s cs x h hx
    unfold hasSh at h
    split at h
    · rename_i k k' hu
      obtain rfl := of_decide_eq_true h
      obtain ⟨n, rfl, _, hw⟩ := DataW.trod_int hu hx
      exact ⟨n, ⟨rfl, hw⟩, rfl⟩
    · rename_i hu
      obtain ⟨b, rfl, _⟩ := DataW.trod_bool hu hx
      exact ⟨b, rfl, rfl⟩
    · rename_i hu
      obtain ⟨b, rfl, _, hs⟩ := DataW.trod_string hu hx
      exact ⟨b, ⟨rfl, hs⟩, rfl⟩
    · rename_i e s' hu
      simp only [Bool.and_eq_true, beq_iff_eq, decide_eq_true_eq] at h
      obtain ⟨⟨h1, h2⟩, h3⟩ := h
      rcases open_slice hu hx with ⟨rfl, _⟩ | ⟨a, len, cap, m', n, D, Pl, rfl, _, hl, hm, hm', _, hel⟩
      · exact ⟨[], Or.inl ⟨rfl, none, 0, rfl, fun _ => rfl⟩, rfl⟩
      · simp only [if_true] at hm'
        subst hm'
        by_cases hz : len = 0
        · subst hz
          exact ⟨[], Or.inl ⟨rfl, some a, m', rfl, fun h => by cases h⟩, rfl⟩
        · have key : ∀ i, i < len → ∃ v : s'.T, ∃ cs' : List Value, cs'.length = s'.sz ∧ (∀ j, j < s'.sz → w.cell? ((a.add (i * s'.sz)).add j) = cs'[j]?) ∧ s'.rep w v cs' := by
            intro i hi
            obtain ⟨cs', hc, ht⟩ := hel i (by omega)
            obtain ⟨v, hv, hvl⟩ := ih _ _ _ _ _ h1 ht
            obtain ⟨_, _, hcell⟩ := World.cells?_some hc
            rw [h2] at hcell
            exact ⟨v, cs', hvl, hcell, hv⟩
          have hsp : a.spot = none ∧ a.block < w.heap.size := by
            obtain ⟨v, cs', hcl, hc, _⟩ := key 0 (by omega)
            have h0 := hc 0 h3
            rw [List.getElem?_eq_getElem (by omega)] at h0
            simp only [Nat.zero_mul, Addr.add] at h0
            refine ⟨by simpa using World.cell?_spot h0, ?_⟩
            unfold World.cell? at h0
            rcases Nat.lt_or_ge a.block w.heap.size with hh | hh
            · exact hh
            · simp [Array.getElem?_eq_none hh] at h0
          obtain ⟨b, off, spot⟩ := a
          obtain ⟨rfl, hb⟩ := hsp
          refine ⟨(List.range len).pmap (fun i hi => Classical.choose (key i hi)) (fun i hi => List.mem_range.1 hi), Or.inr ⟨b, off, m', by simp, by simp; omega, by simpa using hl, hm, hb, ?_⟩, rfl⟩
          intro i hi
          simp only [List.length_pmap, List.length_range] at hi
          obtain ⟨cs', hcl, hc, hr⟩ := Classical.choose_spec (key i hi)
          refine ⟨cs', hcl, fun j hj => ?_, ?_⟩
          · rw [← hc j hj]
            congr 1
            simp only [Addr.add]
            by_cases h1 : i * s'.sz = 0 <;> by_cases h2 : j = 0 <;> simp [h1, h2]
          · simpa using hr
    · rename_i fs hu
      simp only [Bool.and_eq_true, beq_iff_eq] at h
      obtain ⟨xs, n, rfl, _, hl, hxl, hall⟩ := DataW.trod_struct hu hx
      obtain ⟨v, hv⟩ := open_fields (fun t s cs x => ih n t s cs x) fs.toList 0 _ cs h.2 (by omega) (fun f hf => by
        obtain ⟨i, hi, rfl⟩ := List.getElem_of_mem hf
        have hi' : i < fs.size := by simpa using hi
        refine ⟨xs[i]'(by omega), ?_⟩
        have := hall i fs[i] (by simp [hi'])
        rw [List.getElem?_eq_getElem (by omega)] at this
        simpa using this)
      exact ⟨v, by simpa using hv, by omega⟩
    · rename_i k e hu
      simp only [Bool.and_eq_true, beq_iff_eq] at h
      obtain ⟨xs, n, rfl, _, hl, hxl, hall⟩ := DataW.trod_array hu hx
      obtain ⟨v, hv⟩ := open_elems (e := e) (fun t s cs x => ih n t s cs x) k 0 _ cs h.2 (by omega) (fun i _ hi => by
        refine ⟨xs[i]'(by omega), ?_⟩
        have := hall i (by omega)
        rw [List.getElem?_eq_getElem (by omega)] at this
        simpa using this)
      exact ⟨v, by simpa using hv, by omega⟩
    · simp at h
end

/-- A struct or an array by value is an aggregate. -/
theorem okWide_agg {P : Program} {w : World} {r : Reach} {base : Nat} {t : TypeId} {v : Value} (ht : (∃ fs, P.underlying t = some (.struct fs)) ∨ (∃ n e, P.underlying t = some (.array n e)))
    (h : Value.okWide P w r base t v) : ∃ cs, v = .agg cs := by
  rcases ht with ⟨fs, ht⟩ | ⟨n, e, ht⟩ <;> (simp only [Value.okWide, ht] at h; obtain ⟨cs, rfl, _⟩ := h; exact ⟨cs, rfl⟩)
end Go.Proofs.Ytjneidmkllhbjaa
