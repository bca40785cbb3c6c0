/- Regions that draw their order, by an invariant over what has come up: each operation is walked once, whatever its values depend on. -/
import Derived.Test.YtjneidmkllhbjaaStage
namespace Go.Proofs.Ytjneidmkllhbjaa
open Go

section
variable {P : Program} {ops : Array Oper}

def unl (L : Array Bool) : Nat := L.countP (fun b => !b)
theorem unl_set {L : Array Bool} {i : Nat} (h : L.getD i true = false) : unl (L.setIfInBounds i true) + 1 = unl L := by
  have hi : i < L.size := by
    rcases Nat.lt_or_ge i L.size with h' | h'
    · exact h'
    · simp [Array.getElem?_eq_none h'] at h
  have hv : L[i] = false := by simpa [hi] using h
  unfold unl
  rw [Array.setIfInBounds_def, dif_pos hi, Array.countP_set]
  have hpos : 0 < L.countP (fun b => !b) := Array.countP_pos_iff.2 ⟨L[i], Array.getElem_mem hi, by simp [hv]⟩
  simp [hv]
  omega
theorem wpAny_of_inv {I : Array Bool → Act → World → Prop} {Q' : Exit → Act → World → Prop}
    (hstep : ∀ (L : Array Bool) (a : Act) (w : World) (i : Nat), Good ops L → i ∈ Region.ready .any ops L → I L a w → wpOp P ops Q' i (fun a' w' => I (L.setIfInBounds i true) a' w') a w)
    (hend : ∀ (L : Array Bool) (a : Act) (w : World), Good ops L → Region.ready .any ops L = [] → I L a w → Q' .normal a w) :
    ∀ (n : Nat) (L : Array Bool) (a : Act) (w : World), unl L ≤ n → Good ops L → I L a w → wpAny P .any ops Q' n L a w
  | 0, L, a, w, hn, hG, h => by
    have h0 : Region.ready .any ops L = [] := by
      apply List.eq_nil_iff_forall_not_mem.2
      intro i hi
      have := unl_set (mem_ready.1 hi).1
      omega
    exact ⟨h0, hend L a w hG h0 h⟩
  | n + 1, L, a, w, hn, hG, h => ⟨fun h0 => hend L a w hG h0 h, fun i hi => wpOp_mono (fun a' w' h' => wpAny_of_inv hstep hend n _ a' w' (by have := unl_set (mem_ready.1 hi).1; omega) (hG.set hi) h') (hstep L a w i hG hi h)⟩

/-- A region that draws its order, by an invariant. -/
theorem wp_region_inv {id : Nat} {Q : Exit → Act → World → Prop} {a : Act} {w : World} {l : List Oper} (I : Array Bool → Act → World → Prop) (hm : P.follows .mixedOrders = true)
    (hc : certB l.toArray (Region.before l.toArray) = true) (h0 : I (Array.replicate l.length false) a w.drew)
    (hstep : ∀ (i : Nat) (o : Oper), l[i]? = some o → ∀ (L : Array Bool) (a : Act) (w : World), L.size = l.length → L.getD i false = false → (∀ e ∈ o.after, Region.binds .any e = true → L.getD e.on false = true) → I L a w →
      wpOp P l.toArray Q i (fun a' w' => I (L.setIfInBounds i true) a' w') a w)
    (hend : ∀ (L : Array Bool) (a : Act) (w : World), (∀ i, i < l.length → L.getD i false = true) → I L a w → Q .normal a w) : (Code.region id l.toArray true).wp P Q a w := by
  have hG0 : Good l.toArray (Array.replicate l.toArray.size false) := ⟨by simp, fun j o hj hl => by
    have := (Array.getElem?_eq_some_iff.1 hj).1
    simp only [List.size_toArray] at this
    simp [this] at hl⟩
  refine wp_region_any hm (wpAny_of_inv (I := I) (fun L a w i hG hi h => ?_) (fun L a w hG hr h => hend L a w (fun i hi => all_listed hc hG hr i i (Nat.le_refl _) (by simpa using hi)) h) _ _ _ _ (by unfold unl; exact Nat.le_trans (Array.countP_le_size) (by simp)) hG0 (by simpa using h0))
  obtain ⟨hun, o, ho, hall⟩ := mem_ready.1 hi
  exact hstep i o (by simpa using ho) L a w (by simpa using hG.size) (getD_false_of_true hun) hall h

def invUpon (P : Program) (K : Value → World → Prop) : Result Next → Prop
  | .ok (.value u) w => K u w
  | .ok .skip w => K undef w
  | .ok (.enter f args) w => Calls P f args w fun e w' => ∃ v, e = .returned v ∧ K v w'
  | _ => False
attribute [go_sem] invUpon
theorem wpOp_inv {i : Nat} {o : Oper} {a : Act} {w : World} {K : Act → World → Prop} {Q : Exit → Act → World → Prop} (hi : ops[i]? = some o) (hw : Region.wanted o (yielded ops a.tmps) = true)
    (h : invUpon P (fun v w' => K (a.put o.dst v) w') ((execOp a.eval o).run P w)) : wpOp P ops Q i K a w := by
  unfold wpOp
  simp only [hi]
  rw [if_pos hw]
  refine .inl ?_
  unfold Oper.wp
  generalize (execOp a.eval o).run P w = r at *
  cases r with
  | ok n w' =>
    cases n <;> simp only [invUpon] at h <;> simp only [Oper.upon]
    case value u => exact h
    case skip => exact h
    case enter f args => exact h.mono fun e w'' ⟨v, he, hk⟩ => by subst he; exact hk
  | halt x w' => simp only [invUpon] at h
theorem wpOp_pass {i : Nat} {o : Oper} {a : Act} {w : World} {K : Act → World → Prop} {Q : Exit → Act → World → Prop} (hi : ops[i]? = some o) (hw : Region.wanted o (yielded ops a.tmps) = false)
    (h : K (a.put o.dst undef) w) : wpOp P ops Q i K a w := by
  unfold wpOp
  simp only [hi]
  rw [if_neg (by simp [hw])]
  exact h
theorem getD_set_if (L : Array Bool) (i j : Nat) (hi : i < L.size) : (L.setIfInBounds i true).getD j false = if i = j then true else L.getD j false := by
  by_cases h : i = j
  · subst h
    simp [hi]
  · rw [if_neg h, getD_set_ne false h]
end
end Go.Proofs.Ytjneidmkllhbjaa
