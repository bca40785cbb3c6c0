/- Memory keeps these blocks, and nothing else changed: one fact for all boxes. -/
import Derived.Test.YtjneidmkllhbjaaHeap
import Derived.Test.YtjneidmkllhbjaaStage
import Derived.Deep.DeepCutAuto
namespace Go.Proofs.Ytjneidmkllhbjaa
open Go.RowKit

structure CL (W : World) (L : List (Nat × Array Value)) (k : Nat) (w : World) : Prop where
  A : ∀ p ∈ L, At w p.1 p.2
  x : Chg [] W w
theorem CL.step {W : World} {L : List (Nat × Array Value)} {k j : Nat} {w w' : World} (h : CL W L k w) (hX : Chg [] w w') : CL W L j w' := ⟨fun p hp => hX.at (h.A p hp) (by simp), h.x.trans hX⟩
theorem CL.drew {W : World} {L : List (Nat × Array Value)} {k : Nat} {w : World} (h : CL W L k w) : CL W L k w.drew := ⟨fun p hp => (h.A p hp).drew, h.x.drew⟩
theorem CL.get {W : World} {L : List (Nat × Array Value)} {k : Nat} {w : World} (h : CL W L k w) (i : Nat) {p : Nat × Array Value} (hp : L[i]? = some p) : At w p.1 p.2 := h.A p (List.mem_of_getElem? hp)
theorem CL.push {W : World} {L : List (Nat × Array Value)} {k : Nat} {w : World} (h : CL W L k w) (cs : Array Value) (T : TypeId) : CL W ((w.heap.size, cs) :: L) k (w.alloc (.cells cs T)) := by
  refine ⟨fun p hp => ?_, h.x.alloc _⟩
  rcases List.mem_cons.1 hp with rfl | hp
  · exact At.new w cs T
  · exact (h.A p hp).alloc _
theorem CL.new (W : World) (k : Nat) : CL W [] k W := ⟨fun _ h => absurd h (by simp), Chg.refl _ _⟩
theorem CL.cells {W : World} {L : List (Nat × Array Value)} {k : Nat} {w : World} (h : CL W L k w) (i : Nat) {z : Nat} {cs : Array Value} (hp : L[i]? = some (z, cs)) : w.cell? ⟨z, 0, none⟩ = cs[0]? ∧ w.cell? ⟨z, 1, none⟩ = cs[1]? :=
  ⟨(h.get i hp).cell 0, (h.get i hp).cell 1⟩
theorem CL.alloc0 {W : World} {L : List (Nat × Array Value)} {k j : Nat} {w : World} (h : CL W L k w) (o : Obj) : CL W L j (w.alloc o) := ⟨fun p hp => (h.A p hp).alloc _, h.x.alloc _⟩
theorem CL.cons {W : World} {L : List (Nat × Array Value)} {k y : Nat} {w : World} {c : Array Value} (h : CL W L k w) (hb : At w y c) : CL W ((y, c) :: L) k w := by
  refine ⟨fun p hp => ?_, h.x⟩
  rcases List.mem_cons.1 hp with rfl | hp
  · exact hb
  · exact h.A p hp
theorem CL.at_y {W : World} {L : List (Nat × Array Value)} {k j y zb : Nat} {w w' : World} (h : CL W L k w) (hX : Chg [y] w w') (hy : zb ≤ y) (hbs : ∀ p ∈ L, p.1 < zb) (hbW : W.heap.size ≤ zb) : CL W L j w' :=
  ⟨fun p hp => hX.at (h.A p hp) (by have := hbs p hp; simp; omega), h.x.then hX (fun x hx hl => by simp at hx; omega)⟩
end Go.Proofs.Ytjneidmkllhbjaa
