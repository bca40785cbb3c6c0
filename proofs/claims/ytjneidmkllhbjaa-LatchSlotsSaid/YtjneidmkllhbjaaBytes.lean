/- Slices of bytes that a function builds itself: append, and the string that they make. -/
import Derived.Test.YtjneidmkllhbjaaRows
import Derived.Test.YtjneidmkllhbjaaHeap
import Derived.OwnWalk
import Derived.Laws.BytesArg
import Derived.Lib.SmallJoins
namespace Go.Proofs.Ytjneidmkllhbjaa
open Go.RowKit

theorem und_bytes : Try.prog.underlying 52 = some (.slice 5) := by kernel_rfl
theorem und_u8 : Try.prog.underlying 5 = some (.int .u8) := by kernel_rfl
theorem und_str : Try.prog.underlying 9 = some .string := by kernel_rfl
theorem info_u8 : (Try.prog.info? 5).map (fun i => (i.zero, i.size, i.bytes)) = some (some (.int .u8 0), 1, 1) := by kernel_rfl

/-- The value v is a slice of the call's own, of the bytes L; it lies at 'base' or behind. -/
def BRow (w : World) (base : Nat) (v : Value) (L : List Int) : Prop := w.ownsRow base 5 1 v L.length (L.map (Value.int .u8))

theorem BRow.keep {S : List Nat} {w w' : World} {base : Nat} {v : Value} {L : List Int} (h : BRow w base v L) (hX : Chg S w w') (hS : ∀ b ∈ S, b < base) : BRow w' base v L := by
  refine ⟨h.1, ?_⟩
  rcases h.2 with hn | ⟨g, cap, cur, rfl, hb, hgg, rest⟩
  · exact .inl hn
  · refine .inr ⟨g, cap, cur, rfl, hb, ?_, rest⟩
    rw [hX.block g (Array.getElem?_eq_some_iff.1 hgg).1 (fun hm => by have := hS g hm; omega)]
    exact hgg
theorem BRow.alloc {w : World} {base : Nat} {v : Value} {L : List Int} (h : BRow w base v L) (o : Obj) : BRow (w.alloc o) base v L := World.ownsRow.alloc h o
theorem BRow.lit (w : World) (base : Nat) (L : List Int) (cs : Array Value) (n : Nat) (hc : cs = (L.map (Value.int .u8)).toArray) (hn : L.length = n) (hb : base ≤ w.heap.size) (hm : n ≤ 1000000) :
    BRow (w.alloc (.cells cs 5)) base (.slice (some ⟨w.heap.size, 0, none⟩) n n) L := by
  subst hc hn
  have := World.ownsRow_lit (base := base) (e := 5) (size := 1) w (L.map (Value.int .u8)).toArray L.length hb (by unfold maxLen; omega) (by simp)
  simpa [BRow] using this
/-- What an append leaves of the others. -/
theorem BRow.grown {S : List Nat} {a w w' : World} {base : Nat} {v : Value} {L : List Int} (h : BRow w base v L) (hX : Chg S a w) (g : w.grownBy w' v.ownBlock) (hb : a.heap.size ≤ base) : Chg S a w' :=
  ⟨g.os.trans hX.os, g.tape.trans hX.tape, g.output.trans hX.output, Nat.le_trans hX.size g.size,
    fun k hk hn => (g.block k (Nat.lt_of_lt_of_le hk hX.size) (fun e => by have := (World.ownsRow.lt h k e.symm).1; omega)).trans (hX.block k hk hn)⟩
theorem BRow.far {w w' : World} {base : Nat} {v : Value} {L : List Int} (h : BRow w base v L) (g : w.grownBy w' v.ownBlock) {b : Nat} {cs : Array Value} (hA : At w b cs) (hb : b < base) : At w' b cs := by
  have hl := hA.lt
  obtain ⟨T, hA⟩ := hA
  exact ⟨T, (g.block b hl (fun e => by have := (World.ownsRow.lt h b e.symm).1; omega)).trans hA⟩

theorem wpList_app {ops : Array Oper} {rest : List Oper} {o : Oper} {a : Act} {Q : Exit → Act → World → Prop} {w : World} (hgd : o.guard = none) (s x : Operand)
    (ho : o.op = .call { callee := .builtin .append, args := #[s, x], argTypes := #[52, 52] })
    {base : Nat} {v : Value} {L : List Int} (hs : a.eval s = v) (hr : BRow w base v L) {bx m c : Nat} {M : List Int} (hx : a.eval x = .slice (some ⟨bx, 0, none⟩) m c)
    {cs : Array Value} (hA : At w bx cs) (hcs : cs = (M.map (Value.int .u8)).toArray) (hm : M.length = m) (h63 : L.length + m ≤ 1000000) (hb : base ≤ w.heap.size)
    (h : ∀ v' w', BRow w' base v' (L ++ M) → w.grownBy w' v.ownBlock → wpList Try.prog ops Q rest (a.put o.dst v') w') : wpList Try.prog ops Q (o :: rest) a w := by
  obtain ⟨i, hi, hz, hz1, hz2⟩ := info_parts info_u8
  subst hcs hm
  refine wpList_append_own w hgd s x 52 ho base 5 i (.int .u8 0) 1 1 und_bytes hi hz hz1 hz2 rfl (by decide) v L.length (L.map (Value.int .u8)) hs hr ⟨bx, 0, none⟩ M.length c (M.map (Value.int .u8)) hx (by simp) ?_ ?_ (by unfold maxLen; omega) (by omega) hb ?_
  · intro j u hu
    have hadd : (⟨bx, 0, none⟩ : Addr).add j = ⟨bx, j, none⟩ := by unfold Addr.add; split <;> simp_all
    rw [hadd, hA.cell j]
    simpa using hu
  · intro u hu
    simp only [List.mem_map] at hu
    obtain ⟨n, _, rfl⟩ := hu
    rfl
  · intro v' w' h1 h2 _
    refine h v' w' ?_ h2
    unfold BRow
    rw [List.length_append, List.map_append]
    exact h1

theorem BRow.form {w : World} {base : Nat} {v : Value} {L : List Int} (h : BRow w base v L) (hn : 0 < L.length) : ∃ g cap, v = .slice (some ⟨g, 0, none⟩) L.length cap := Joins.ownsRow_form h hn
/-- The string of its bytes. -/
theorem BRow.string {w : World} {base g cap : Nat} {L : List Int} (h : BRow w base (.slice (some ⟨g, 0, none⟩) L.length cap) L) :
    (convert 52 9 (.slice (some ⟨g, 0, none⟩) L.length cap)).run Try.prog w = .ok (.string (strOfNums L)) w := by
  refine run_convert_bytes_arg w 52 5 und_bytes und_u8 g 0 L.length cap L rfl (fun i hi => ?_) 9 und_str
  have := World.ownsRow.cellAt h i (by omega)
  rw [Nat.zero_add, this]
  simp [List.getD, hi]
/-- A block that begins with a number of another kind is not the row's. -/
theorem BRow.other {w w' : World} {base : Nat} {v : Value} {L : List Int} (h : BRow w base v L) (g : w.grownBy w' v.ownBlock) (h0 : 0 < L.length) {b : Nat} {cs : Array Value} (hA : At w b cs) {n : Int} (hc : cs[0]? = some (.int .i64 n)) : At w' b cs := by
  have hne : some b ≠ v.ownBlock := fun e => by
    have h1 := World.ownsRow.cells h e.symm 0 (.int .u8 (L[0])) (by simp [h0])
    have hadd : (⟨b, 0, none⟩ : Addr).add 0 = ⟨b, 0, none⟩ := by unfold Addr.add; split <;> simp_all
    rw [hadd, hA.cell 0, hc] at h1
    simp at h1
  have hl := hA.lt
  obtain ⟨T, hA⟩ := hA
  exact ⟨T, (g.block b hl hne).trans hA⟩
/-- What it looks like, and the string that it makes. -/
theorem BRow.out {w : World} {base : Nat} {v : Value} {L : List Int} (h : BRow w base v L) {k : Nat} (hk : L.length = k) (h0 : 0 < k) :
    ∃ g cap, v = .slice (some ⟨g, 0, none⟩) k cap ∧ (convert 52 9 (.slice (some ⟨g, 0, none⟩) k cap)).run Try.prog w = .ok (.string (strOfNums L)) w := by
  subst hk
  obtain ⟨g, cap, rfl⟩ := h.form h0
  exact ⟨g, cap, rfl, h.string⟩
end Go.Proofs.Ytjneidmkllhbjaa
