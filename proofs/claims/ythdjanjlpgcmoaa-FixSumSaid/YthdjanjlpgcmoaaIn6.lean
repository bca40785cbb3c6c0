/- Slices of numbers of 64 bits that a function builds itself: append. -/
import Derived.Test.YthdjanjlpgcmoaaRows
import Derived.Test.YthdjanjlpgcmoaaHeap
import Derived.OwnWalk
import Derived.Laws.BytesArg
import Derived.Lib.SmallJoins
namespace Go.Proofs.Ythdjanjlpgcmoaa
open Go.RowKit

theorem und_ints : Try.prog.underlying 35 = some (.slice 2) := by kernel_rfl
theorem info_i64 : (Try.prog.info? 2).map (fun i => (i.zero, i.size, i.bytes)) = some (some (.int .i64 0), 1, 8) := by kernel_rfl

/-- The value v is a slice of the call's own, of the numbers L; it lies at 'base' or behind. -/
def JRow (w : World) (base : Nat) (v : Value) (L : List Int) : Prop := w.ownsRow base 2 1 v L.length (L.map (Value.int .i64))

theorem JRow.keep {S : List Nat} {w w' : World} {base : Nat} {v : Value} {L : List Int} (h : JRow w base v L) (hX : Chg S w w') (hS : ∀ b ∈ S, b < base) : JRow w' base v L := by
  refine ⟨h.1, ?_⟩
  rcases h.2 with hn | ⟨g, cap, cur, rfl, hb, hgg, rest⟩
  · exact .inl hn
  · refine .inr ⟨g, cap, cur, rfl, hb, ?_, rest⟩
    rw [hX.block g (Array.getElem?_eq_some_iff.1 hgg).1 (fun hm => by have := hS g hm; omega)]
    exact hgg
theorem JRow.alloc {w : World} {base : Nat} {v : Value} {L : List Int} (h : JRow w base v L) (o : Obj) : JRow (w.alloc o) base v L := World.ownsRow.alloc h o
theorem JRow.lit (w : World) (base : Nat) (L : List Int) (cs : Array Value) (n : Nat) (hc : cs = (L.map (Value.int .i64)).toArray) (hn : L.length = n) (hb : base ≤ w.heap.size) (hm : n ≤ 1000000) :
    JRow (w.alloc (.cells cs 2)) base (.slice (some ⟨w.heap.size, 0, none⟩) n n) L := by
  subst hc hn
  have := World.ownsRow_lit (base := base) (e := 2) (size := 1) w (L.map (Value.int .i64)).toArray L.length hb (by unfold maxLen; omega) (by simp)
  simpa [JRow] using this
/-- What an append leaves of the others. -/
theorem JRow.grown {S : List Nat} {a w w' : World} {base : Nat} {v : Value} {L : List Int} (h : JRow w base v L) (hX : Chg S a w) (g : w.grownBy w' v.ownBlock) (hb : a.heap.size ≤ base) : Chg S a w' :=
  ⟨g.os.trans hX.os, g.tape.trans hX.tape, g.output.trans hX.output, Nat.le_trans hX.size g.size,
    fun k hk hn => (g.block k (Nat.lt_of_lt_of_le hk hX.size) (fun e => by have := (World.ownsRow.lt h k e.symm).1; omega)).trans (hX.block k hk hn)⟩
theorem JRow.far {w w' : World} {base : Nat} {v : Value} {L : List Int} (h : JRow w base v L) (g : w.grownBy w' v.ownBlock) {b : Nat} {cs : Array Value} (hA : At w b cs) (hb : b < base) : At w' b cs := by
  have hl := hA.lt
  obtain ⟨T, hA⟩ := hA
  exact ⟨T, (g.block b hl (fun e => by have := (World.ownsRow.lt h b e.symm).1; omega)).trans hA⟩

theorem wpList_appJ {ops : Array Oper} {rest : List Oper} {o : Oper} {a : Act} {Q : Exit → Act → World → Prop} {w : World} (hgd : o.guard = none) (s x : Operand)
    (ho : o.op = .call { callee := .builtin .append, args := #[s, x], argTypes := #[35, 35] })
    {base : Nat} {v : Value} {L : List Int} (hs : a.eval s = v) (hr : JRow w base v L) {bx m c : Nat} {M : List Int} (hx : a.eval x = .slice (some ⟨bx, 0, none⟩) m c)
    {cs : Array Value} (hA : At w bx cs) (hcs : cs = (M.map (Value.int .i64)).toArray) (hm : M.length = m) (h63 : L.length + m ≤ 1000000) (hb : base ≤ w.heap.size)
    (h : ∀ v' w', JRow w' base v' (L ++ M) → w.grownBy w' v.ownBlock → wpList Try.prog ops Q rest (a.put o.dst v') w') : wpList Try.prog ops Q (o :: rest) a w := by
  obtain ⟨i, hi, hz, hz1, hz2⟩ := info_parts info_i64
  subst hcs hm
  refine wpList_append_own w hgd s x 35 ho base 2 i (.int .i64 0) 1 8 und_ints hi hz hz1 hz2 rfl (by decide) v L.length (L.map (Value.int .i64)) hs hr ⟨bx, 0, none⟩ M.length c (M.map (Value.int .i64)) hx (by simp) ?_ ?_ (by unfold maxLen; omega) (by omega) hb ?_
  · intro j u hu
    have hadd : (⟨bx, 0, none⟩ : Addr).add j = ⟨bx, j, none⟩ := by unfold Addr.add; split <;> simp_all
    rw [hadd, hA.cell j]
    simpa using hu
  · intro u hu
    simp only [List.mem_map] at hu
    obtain ⟨n, _, rfl⟩ := hu
    rfl
  · intro v' w' h1 h2 _
    refine h v' w' ?_ h2
    unfold JRow
    rw [List.length_append, List.map_append]
    exact h1

theorem JRow.form {w : World} {base : Nat} {v : Value} {L : List Int} (h : JRow w base v L) (hn : 0 < L.length) : ∃ g cap, v = .slice (some ⟨g, 0, none⟩) L.length cap := Joins.ownsRow_form h hn
theorem JRow.cell {w : World} {base g n cap : Nat} {L : List Int} (h : JRow w base (.slice (some ⟨g, 0, none⟩) n cap) L) (hn : L.length = n) (j : Nat) (v : Int) (hj : L[j]? = some v) : w.cell? ⟨g, j, none⟩ = some (.int .i64 v) := by
  subst hn
  have hl : j < L.length := by
    rcases Nat.lt_or_ge j L.length with h1 | h1
    · exact h1
    · simp [List.getElem?_eq_none h1] at hj
  rw [World.ownsRow.cellAt h j (by omega)]
  simp [hj]
theorem JRow.nil (w : World) (base : Nat) : JRow w base (.slice none 0 0) [] := World.ownsRow_nil w base 2 1
theorem JRow.drewN {w : World} {base : Nat} {v : Value} {L : List Int} (h : JRow w base v L) (n : Nat) : JRow (w.drewN n) base v L := h
end Go.Proofs.Ythdjanjlpgcmoaa
