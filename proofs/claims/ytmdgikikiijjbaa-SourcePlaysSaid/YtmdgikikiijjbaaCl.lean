/- What memory keeps on a way that writes nothing else (where the seat has no wide.Div). -/
import Derived.Test.YtmdgikikiijjbaaWmu
import Derived.Deep.DeepCutAuto
namespace Go.Proofs.Ytmdgikikiijjbaa
open Go.RowKit

/-- What memory keeps on a way that writes nothing else. -/
structure CL (W : World) (L : List (Nat × Array Value)) (k : Nat) (w : World) : Prop where
  A : ∀ p ∈ L, At w p.1 p.2
  x : Chg [] W w
theorem CL.step {W : World} {L : List (Nat × Array Value)} {k j : Nat} {w w' : World} (h : CL W L k w) (hX : Chg [] w w') : CL W L j w' := ⟨fun p hp => hX.at (h.A p hp) (by simp), h.x.trans hX⟩
theorem CL.drew {W : World} {L : List (Nat × Array Value)} {k : Nat} {w : World} (h : CL W L k w) : CL W L k w.drew := ⟨fun p hp => (h.A p hp).drew, h.x.drew⟩
theorem CL.get {W : World} {L : List (Nat × Array Value)} {k : Nat} {w : World} (h : CL W L k w) (i : Nat) {p : Nat × Array Value} (hp : L[i]? = some p) : At w p.1 p.2 := h.A p (List.mem_of_getElem? hp)
theorem CL.push {W : World} {L : List (Nat × Array Value)} {k : Nat} {w : World} (h : CL W L k w) (cs : Array Value) (T : TypeId) : CL W ((w.heap.size, cs) :: L) k (w.alloc (.cells cs T)) := by
  refine ⟨fun p hp => ?_, h.x.alloc _⟩
  rcases List.mem_cons.1 hp with rfl | hp
  · exact At.new w cs T
  · exact (h.A p hp).alloc _
theorem CL.new (W : World) (k : Nat) : CL W [] k W := ⟨fun _ h => absurd h (by simp), Chg.refl _ _⟩
theorem ofV_ok (n : Int) (h0 : -170141183460469231731687303715884105728 ≤ n) (h1 : n ≤ 170141183460469231731687303715884105727) : (ofV n).ok := by
  unfold ofV
  exact ⟨by simp only; omega, by simp only; omega, by simp only; omega, by simp only; omega⟩
theorem ofV_val' (n : Int) : (ofV n).val = n := by
  unfold ofV WV.val
  simp only
  omega
theorem val_inj {a b : WV} (ha : a.ok) (hb : b.ok) (h : a.val = b.val) : a = b := by
  rw [← ofV_val a ha, ← ofV_val b hb, h]
theorem addV_ok (v : Int) : (addV v).ok := by
  unfold addV
  split
  · rename_i h
    have := (fitsV_iff v).1 h
    exact ofV_ok v this.1 this.2
  · exact zero_ok
theorem addV_val (v : Int) (h : fitsV v = true) : (addV v).val = v := by
  unfold addV
  rw [if_pos h, ofV_val']
theorem CL.cells {W : World} {L : List (Nat × Array Value)} {k : Nat} {w : World} (h : CL W L k w) (i : Nat) {z : Nat} {cs : Array Value} (hp : L[i]? = some (z, cs)) : w.cell? ⟨z, 0, none⟩ = cs[0]? ∧ w.cell? ⟨z, 1, none⟩ = cs[1]? :=
  ⟨(h.get i hp).cell 0, (h.get i hp).cell 1⟩
theorem CL.alloc0 {W : World} {L : List (Nat × Array Value)} {k j : Nat} {w : World} (h : CL W L k w) (o : Obj) : CL W L j (w.alloc o) := ⟨fun p hp => (h.A p hp).alloc _, h.x.alloc _⟩
theorem CL.cons {W : World} {L : List (Nat × Array Value)} {k y : Nat} {w : World} {c : Array Value} (h : CL W L k w) (hb : At w y c) : CL W ((y, c) :: L) k w := by
  refine ⟨fun p hp => ?_, h.x⟩
  rcases List.mem_cons.1 hp with rfl | hp
  · exact hb
  · exact h.A p hp
end Go.Proofs.Ytmdgikikiijjbaa
