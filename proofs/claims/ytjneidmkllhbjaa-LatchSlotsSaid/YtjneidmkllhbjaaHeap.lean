/- Blocks of memory as a whole, and what a call changes: the words in which contracts of functions over objects in memory are stated. -/
import Derived.WalkKit
import Derived.Below
import Derived.Lib.Hide
import Derived.Deep.Draws
import Derived.Deep.QuietTactic
import Derived.BigQuiet
namespace Go.Proofs.Ytjneidmkllhbjaa
open Go.RowKit

/-- Block b holds just these cells, and may be written. -/
def At (w : World) (b : Nat) (cs : Array Value) : Prop := ∃ T, w.heap[b]? = some (.cells cs T (0, 0))

theorem At.lt {w : World} {b : Nat} {cs : Array Value} (h : At w b cs) : b < w.heap.size := by
  obtain ⟨T, h⟩ := h
  rcases Nat.lt_or_ge b w.heap.size with hh | hh
  · exact hh
  · simp [Array.getElem?_eq_none hh] at h
theorem At.cell {w : World} {b : Nat} {cs : Array Value} (h : At w b cs) (o : Nat) : w.cell? ⟨b, o, none⟩ = cs[o]? := by
  obtain ⟨T, h⟩ := h
  simp [World.cell?, h]
theorem At.frozen {w : World} {b : Nat} {cs : Array Value} (h : At w b cs) (o : Nat) : w.frozen? ⟨b, o, none⟩ = false := by
  obtain ⟨T, h⟩ := h
  simp [World.frozen?, h]
theorem At.drew {w : World} {b : Nat} {cs : Array Value} (h : At w b cs) : At w.drew b cs := h
theorem At.drewN {w : World} {b : Nat} {cs : Array Value} (h : At w b cs) (n : Nat) : At (w.drewN n) b cs := h
theorem At.alloc {w : World} {b : Nat} {cs : Array Value} (h : At w b cs) (o : Obj) : At (w.alloc o) b cs := by
  have hl := h.lt
  obtain ⟨T, h⟩ := h
  exact ⟨T, by rw [Below.heap_alloc _ _ _ hl]; exact h⟩
theorem At.new (w : World) (cs : Array Value) (T : TypeId) : At (w.alloc (.cells cs T)) w.heap.size cs := ⟨T, (MapKept.heap_alloc w _).1⟩
theorem At.new' (w : World) (cs cs' : Array Value) (T : TypeId) (h : cs = cs') : At (w.alloc (.cells cs T)) w.heap.size cs' := h ▸ At.new w cs T
theorem At.set {w : World} {b : Nat} {cs cs' : Array Value} (h : At w b cs) (o : Nat) (v : Value) (hc : cs.setIfInBounds o v = cs') : At (w.setCell ⟨b, o, none⟩ v) b cs' := by
  obtain ⟨T, h⟩ := h
  refine ⟨T, ?_⟩
  simp [World.setCell, Array.getElem?_modify, h, hc]
theorem At.other {w : World} {b : Nat} {cs : Array Value} (h : At w b cs) (a : Addr) (v : Value) (hne : b ≠ a.block) : At (w.setCell a v) b cs := by
  obtain ⟨T, h⟩ := h
  exact ⟨T, by rw [Below.heap_setCell _ _ _ _ hne]; exact h⟩

/-- Of the blocks that were there those not in S are as they were; new ones may have come. -/
structure Chg (S : List Nat) (w w' : World) : Prop where
  os : w'.os = w.os
  tape : w'.tape = w.tape
  output : w'.output = w.output
  size : w.heap.size ≤ w'.heap.size
  block : ∀ k, k < w.heap.size → k ∉ S → w'.heap[k]? = w.heap[k]?

theorem Chg.refl (S : List Nat) (w : World) : Chg S w w := ⟨rfl, rfl, rfl, Nat.le_refl _, fun _ _ _ => rfl⟩
theorem Chg.trans {S : List Nat} {a b c : World} (h : Chg S a b) (k : Chg S b c) : Chg S a c :=
  ⟨k.os.trans h.os, k.tape.trans h.tape, k.output.trans h.output, Nat.le_trans h.size k.size, fun i hi hs => (k.block i (Nat.lt_of_lt_of_le hi h.size) hs).trans (h.block i hi hs)⟩
theorem Chg.mono {S S' : List Nat} {w w' : World} (h : Chg S w w') (hs : ∀ b ∈ S, b < w.heap.size → b ∈ S') : Chg S' w w' :=
  ⟨h.os, h.tape, h.output, h.size, fun k hk hn => h.block k hk (fun hm => hn (hs k hm hk))⟩
/-- Two steps, of which the second may change, too, what the first has made. -/
theorem Chg.then {S S' : List Nat} {a b c : World} (h : Chg S a b) (k : Chg S' b c) (hs : ∀ x ∈ S', x < a.heap.size → x ∈ S) : Chg S a c :=
  ⟨k.os.trans h.os, k.tape.trans h.tape, k.output.trans h.output, Nat.le_trans h.size k.size,
    fun i hi hn => (k.block i (Nat.lt_of_lt_of_le hi h.size) (fun hm => hn (hs i hm hi))).trans (h.block i hi hn)⟩
theorem Chg.drew {S : List Nat} {a w : World} (h : Chg S a w) : Chg S a w.drew := ⟨h.os, h.tape, h.output, h.size, h.block⟩
theorem Chg.drewN {S : List Nat} {a w : World} (h : Chg S a w) (n : Nat) : Chg S a (w.drewN n) := ⟨h.os, h.tape, h.output, h.size, h.block⟩
theorem Chg.alloc {S : List Nat} {a w : World} (h : Chg S a w) (o : Obj) : Chg S a (w.alloc o) :=
  h.trans ⟨rfl, rfl, rfl, by simp, fun k hk _ => Below.heap_alloc _ _ _ hk⟩
theorem Chg.setCell {S : List Nat} {a w : World} (h : Chg S a w) {p : Addr} (hp : p.block ∈ S ∨ a.heap.size ≤ p.block) (u : Value) : Chg S a (w.setCell p u) := by
  refine ⟨h.os, h.tape, h.output, by simpa [World.setCell] using h.size, fun k hk hn => ?_⟩
  rw [Below.heap_setCell _ _ _ _ (by rintro rfl; rcases hp with hp | hp; exact hn hp; omega)]
  exact h.block k hk hn
theorem Chg.at {S : List Nat} {w w' : World} (h : Chg S w w') {b : Nat} {cs : Array Value} (hb : At w b cs) (hn : b ∉ S) : At w' b cs := by
  have hl := hb.lt
  obtain ⟨T, hb⟩ := hb
  exact ⟨T, (h.block b hl hn).trans hb⟩
theorem Chg.cell {S : List Nat} {w w' : World} (h : Chg S w w') {a : Addr} {v : Value} (hc : w.cell? a = some v) (hn : a.block ∉ S) : w'.cell? a = some v := by
  have hl : a.block < w.heap.size := by
    unfold World.cell? at hc
    rcases Nat.lt_or_ge a.block w.heap.size with hh | hh
    · exact hh
    · simp [Array.getElem?_eq_none hh] at hc
  rw [World.cell?_of_block (w := w) (h.block a.block hl hn)]; exact hc
theorem Chg.below {S : List Nat} {B : Nat} {w0 w w' : World} (hb : Below B w0 w) (h : Chg S w w') (hB : B ≤ w.heap.size) (hs : ∀ b ∈ S, B ≤ b) : Below B w0 w' :=
  hb.trans ⟨h.os, h.tape, h.output, h.size, fun k hk => h.block k (by omega) (fun hm => by have := hs k hm; omega)⟩
theorem Chg.of_below {B : Nat} {w w' : World} (hb : Below B w w') (hB : w.heap.size ≤ B) (S : List Nat) : Chg S w w' :=
  ⟨hb.os, hb.tape, hb.output, hb.size, fun k hk _ => hb.block k (by omega)⟩
theorem Chg.to_below {w w' : World} (h : Chg [] w w') : Below w.heap.size w w' := ⟨h.os, h.tape, h.output, h.size, fun k hk => h.block k hk (by simp)⟩
theorem Chg.to_below' {S : List Nat} {B : Nat} {w w' : World} (h : Chg S w w') (hB : B ≤ w.heap.size) (hs : ∀ b ∈ S, B ≤ b) : Below B w w' := Chg.below (Below.refl _ _) h hB hs

/-- A callee that leaves the world alone, met inside a region that draws its order. -/
theorem quiet_same {P : Program} {f : FuncId} {args : Array Value} {w : World} {n : Nat} {v : Value}
    (h : Calls P f args (w.drewN n) fun e w' => e = .returned v ∧ w.drewN n = w') : Calls P f args (w.drewN n) fun e w'' => e = .returned v ∧ ∃ m, w'' = w.drewN m :=
  h.mono fun _ _ ⟨he, hm⟩ => ⟨he, n, hm.symm⟩

theorem _root_.Go.RowKit.Below.drewN {B : Nat} {a w : World} (h : Below B a w) (n : Nat) : Below B a (w.drewN n) := ⟨h.os, h.tape, h.output, h.size, h.block⟩
/-- The walk stops at a return ('go_wp2_with (with_reducible refine hold_post ?_)', then 'refine Lib.hid ?_'): elsewise it tries to read results that lie in memory, for long. -/
theorem hold_post {P : Program} {F : Func} {Q : Ending → World → Prop} {e : Exit} {a : Act} {w : World} (h : Hid (bodyPost P F Q e a w)) : bodyPost P F Q e a w := h.out
theorem ret_int {k : IntKind} {a b : Int} (h : a = b) : Ending.returned (.int k a) = .returned (.int k b) := by rw [h]
theorem ret_bool {a b : Bool} (h : a = b) : Ending.returned (.bool a) = .returned (.bool b) := by rw [h]
end Go.Proofs.Ytjneidmkllhbjaa
