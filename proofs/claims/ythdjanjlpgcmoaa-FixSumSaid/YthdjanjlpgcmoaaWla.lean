/- Numbers that come in as arguments; orders and sums, plain. -/
import Derived.Test.YthdjanjlpgcmoaaWak
import Derived.Test.YthdjanjlpgcmoaaSh
import Derived.Laws.Closers25
import Derived.Deep.DeepCutAuto
namespace Go.Proofs.Ythdjanjlpgcmoaa
open Go.RowKit

abbrev shWV : Sh := .prod (.int .i64) (.prod (.int .u64) .unit)
def toWV (x : shWV.T) : WV := ⟨x.1, x.2.1⟩
theorem wv_of {W : World} {x : shWV.T} {c : Array Value} (h : shWV.rep W x c.toList) : c = (toWV x).cells ∧ (toWV x).ok := by
  obtain ⟨a1, b1, e1, _, ⟨rfl, h1⟩, a2, b2, rfl, _, ⟨rfl, h2⟩, rfl⟩ := h
  refine ⟨?_, ⟨(bounds_i64 h1).1, (bounds_i64 h1).2, (bounds_u64 h2).1, (bounds_u64 h2).2⟩⟩
  apply Array.toList_inj.1
  rw [e1]
  rfl
theorem if_if {α : Type} {p q : Prop} [Decidable p] [Decidable q] {A B : α} : (if p then if q then A else B else B) = if p ∧ q then A else B := by
  by_cases p <;> by_cases q <;> simp [*]
theorem val_inj {a b : WV} (ha : a.ok) (hb : b.ok) (h : a.val = b.val) : a = b := by
  rw [← ofV_val a ha, ← ofV_val b hb, h]
theorem cmp_cases (a b : WV) : (a.val < b.val ∧ cmpV a b = -1 ∧ cmpV b a = 1) ∨ (a.val = b.val ∧ cmpV a b = 0 ∧ cmpV b a = 0) ∨ (b.val < a.val ∧ cmpV a b = 1 ∧ cmpV b a = -1) := by
  unfold cmpV cmpI
  rcases Int.lt_trichotomy a.val b.val with h | h | h
  · left; refine ⟨h, by rw [if_pos h], by rw [if_neg (by omega), if_pos h]⟩
  · right; left; refine ⟨h, by rw [if_neg (by omega), if_neg (by omega)], by rw [if_neg (by omega), if_neg (by omega)]⟩
  · right; right; refine ⟨h, by rw [if_neg (by omega), if_pos h], by rw [if_pos h]⟩
theorem addV_ok (v : Int) : (addV v).ok := by
  unfold addV
  split
  · rename_i h
    have := (fitsV_iff v).1 h
    exact ofV_ok v this.1 this.2
  · exact zero_ok
theorem addV_val (v : Int) (h : fitsV v = true) : (addV v).val = v := by
  unfold addV
  rw [if_pos h, ofV_val']
theorem CL.cells {W : World} {L : List (Nat × Array Value)} {k : Nat} {w : World} (h : CL W L k w) (i : Nat) {z : Nat} {cs : Array Value} (hp : L[i]? = some (z, cs)) : w.cell? ⟨z, 0, none⟩ = cs[0]? ∧ w.cell? ⟨z, 1, none⟩ = cs[1]? :=
  ⟨(h.get i hp).cell 0, (h.get i hp).cell 1⟩
end Go.Proofs.Ythdjanjlpgcmoaa
