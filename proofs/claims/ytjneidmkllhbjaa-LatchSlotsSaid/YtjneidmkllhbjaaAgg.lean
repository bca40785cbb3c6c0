/- Structs by value, out of and into blocks, as a whole; a new block that a region that draws its order makes and fills. -/
import Derived.Test.YtjneidmkllhbjaaCl0
import Derived.Deep.MidRow
import Derived.IntWalk
import Derived.Test.YtjneidmkllhbjaaProg
namespace Go.Proofs.Ytjneidmkllhbjaa
open Go.RowKit

def isRowB (P : Program) (T : TypeId) (n : Nat) : Bool := (match P.underlying T with | some d => d.isRow | none => false) && ((P.info? T).map (·.size) == some n)
theorem isRowB_spec {P : Program} {T : TypeId} {n : Nat} (h : isRowB P T n = true) : (∃ d, P.underlying T = some d ∧ d.isRow = true) ∧ (P.info? T).map (·.size) = some n := by
  unfold isRowB at h
  simp only [Bool.and_eq_true, beq_iff_eq] at h
  refine ⟨?_, h.2⟩
  cases hu : P.underlying T with
  | none => rw [hu] at h; simp at h
  | some d => rw [hu] at h; exact ⟨d, rfl, h.1⟩

theorem At.load {w : World} {b : Nat} {cs : Array Value} (h : At w b cs) (T : TypeId) (hT : isRowB Try.prog T cs.size = true) : (Instr.loadAt T (.pointer (some ⟨b, 0, none⟩))).run Try.prog w = .ok (.agg cs) w := by
  obtain ⟨⟨d, h1, h2⟩, h3⟩ := isRowB_spec hT
  have := run_loadAt_mid (P := Try.prog) w b 0 T cs.toList d (fun j v hv => by rw [Nat.zero_add, h.cell j]; simpa using hv) h1 h2 (by simpa using h3)
  simpa using this
theorem At.loadVar {w : World} {b : Nat} {cs : Array Value} (h : At w b cs) (T : TypeId) (hT : isRowB Try.prog T cs.size = true) : (Go.loadVar T ⟨b, 0, none⟩).run Try.prog w = .ok (.agg cs) w := by
  obtain ⟨⟨d, h1, h2⟩, h3⟩ := isRowB_spec hT
  have := run_loadVar_mid (P := Try.prog) w b 0 T cs.toList d (fun j v hv => by rw [Nat.zero_add, h.cell j]; simpa using hv) h1 h2 (by simpa using h3)
  simpa using this
theorem run_asAddr (w : World) (a : Addr) : (asAddr (.pointer (some a))).run Try.prog w = .ok a w := rfl
/-- Results that lie in memory. -/
theorem res_c {fn : Func} {p : Tmp} {T : TypeId} (hr : fn.results = #[.cell p T]) {tmps : Array Value} {w : World} {b : Nat} {cs : Array Value} (h : At w b cs) (hT : isRowB Try.prog T cs.size = true) (hp : tmps.getD p undef = .pointer (some ⟨b, 0, none⟩)) :
    (results fn tmps).run Try.prog w = .ok (.agg cs) w := by
  have hl := h.loadVar T hT
  simp only [results, hr]
  simp [Sem.run_bind, Result.andThen, -Array.getD_eq_getD_getElem?, hp, run_asAddr, hl]
theorem res_ct {fn : Func} {p u : Tmp} {T : TypeId} (hr : fn.results = #[.cell p T, .tmp u]) {tmps : Array Value} {w : World} {b : Nat} {cs : Array Value} (h : At w b cs) (hT : isRowB Try.prog T cs.size = true) (hp : tmps.getD p undef = .pointer (some ⟨b, 0, none⟩)) :
    (results fn tmps).run Try.prog w = .ok (.tuple #[.agg cs, tmps.getD u undef]) w := by
  have hl := h.loadVar T hT
  simp only [results, hr]
  simp [Sem.run_bind, Result.andThen, -Array.getD_eq_getD_getElem?, hp, run_asAddr, hl]
theorem res_tc {fn : Func} {p u : Tmp} {T : TypeId} (hr : fn.results = #[.tmp u, .cell p T]) {tmps : Array Value} {w : World} {b : Nat} {cs : Array Value} (h : At w b cs) (hT : isRowB Try.prog T cs.size = true) (hp : tmps.getD p undef = .pointer (some ⟨b, 0, none⟩)) :
    (results fn tmps).run Try.prog w = .ok (.tuple #[tmps.getD u undef, .agg cs]) w := by
  have hl := h.loadVar T hT
  simp only [results, hr]
  simp [Sem.run_bind, Result.andThen, -Array.getD_eq_getD_getElem?, hp, run_asAddr, hl]
/-- A struct within another one. -/
theorem At.loadMid {w : World} {b : Nat} {cs : Array Value} (h : At w b cs) (T : TypeId) (o n : Nat) (hT : isRowB Try.prog T n = true) (hn : o + n ≤ cs.size) : (Instr.loadAt T (.pointer (some ⟨b, o, none⟩))).run Try.prog w = .ok (.agg (cs.extract o (o + n))) w := by
  obtain ⟨⟨d, h1, h2⟩, h3⟩ := isRowB_spec hT
  have := run_loadAt_mid (P := Try.prog) w b o T (cs.extract o (o + n)).toList d (fun j v hv => by
    rw [h.cell (o + j)]
    have hj : j < n := by
      have := (List.getElem?_eq_some_iff.1 hv).1
      simp at this; omega
    simp only [Array.getElem?_toList, Array.getElem?_extract] at hv
    rw [← hv, if_pos (by omega)]) h1 h2 (by rw [h3]; simp; omega)
  rw [Array.toArray_toList] at this
  exact this
theorem At.store {w : World} {b : Nat} {cs : Array Value} (h : At w b cs) (T : TypeId) (vs : Array Value) (hs : vs.size = cs.size) (hT : isRowB Try.prog T vs.size = true) (h1 : vs.all (·.oneCell') = true) :
    (Instr.storeAt T (.pointer (some ⟨b, 0, none⟩)) (.agg vs)).run Try.prog w = .ok () (w.setCells b 0 vs.toList) :=
  run_storeAt_mid (P := Try.prog) w b 0 T vs (fun j hj => ⟨by rw [Nat.zero_add, h.cell j]; simp; omega, h.frozen _⟩) (isRowB_spec hT).2 h1
theorem heap_setCells (b : Nat) : ∀ (vs : List Value) (o : Nat) (w : World), (w.setCells b o vs).heap.size = w.heap.size ∧ ∀ k, k ≠ b → (w.setCells b o vs).heap[k]? = w.heap[k]?
  | [], _, _ => ⟨rfl, fun _ _ => rfl⟩
  | v :: r, o, w => by
    obtain ⟨h1, h2⟩ := heap_setCells b r (o + 1) (w.setCell ⟨b, o, none⟩ v)
    refine ⟨by rw [World.setCells, h1]; simp [World.setCell], fun k hk => ?_⟩
    rw [World.setCells, h2 k hk, Below.heap_setCell _ _ _ _ hk]
theorem setCells_rest (b : Nat) : ∀ (vs : List Value) (o : Nat) (w : World), (w.setCells b o vs).os = w.os ∧ (w.setCells b o vs).tape = w.tape ∧ (w.setCells b o vs).output = w.output
  | [], _, _ => ⟨rfl, rfl, rfl⟩
  | v :: r, o, w => by
    obtain ⟨h1, h2, h3⟩ := setCells_rest b r (o + 1) (w.setCell ⟨b, o, none⟩ v)
    exact ⟨h1, h2, h3⟩
theorem Chg.cells {S : List Nat} {a w : World} (h : Chg S a w) {b : Nat} (hp : b ∈ S ∨ a.heap.size ≤ b) (o : Nat) (vs : List Value) : Chg S a (w.setCells b o vs) := by
  obtain ⟨z, hz⟩ := heap_setCells b vs o w
  obtain ⟨r1, r2, r3⟩ := setCells_rest b vs o w
  refine ⟨r1.trans h.os, r2.trans h.tape, r3.trans h.output, by rw [z]; exact h.size, fun k hk hn => ?_⟩
  rw [hz k (by rintro rfl; rcases hp with hp | hp; exact hn hp; omega)]
  exact h.block k hk hn
theorem At.put {w : World} {b : Nat} {cs : Array Value} (h : At w b cs) (o : Nat) (vs : List Value) {cs' : Array Value} (hc : vs.length + o ≤ cs.size) (hcs : cs' = (cs.toList.take o ++ vs ++ cs.toList.drop (o + vs.length)).toArray) : At (w.setCells b o vs) b cs' := by
  subst hcs
  induction vs generalizing o w cs with
  | nil => simpa [World.setCells] using h
  | cons v r ih =>
    have hl : o < cs.size := by simp only [List.length_cons] at hc; omega
    have h1 := h.set o v rfl
    have h2 := ih (w := w.setCell ⟨b, o, none⟩ v) (cs := cs.setIfInBounds o v) h1 (o + 1) (by simp only [Array.size_setIfInBounds, List.length_cons] at hc ⊢; omega)
    rw [World.setCells]
    have e : (cs.setIfInBounds o v).toList.take (o + 1) ++ r ++ (cs.setIfInBounds o v).toList.drop (o + 1 + r.length) = cs.toList.take o ++ v :: r ++ cs.toList.drop (o + (v :: r).length) := by
      rw [Array.toList_setIfInBounds, List.drop_set_of_lt (by omega), List.take_set, List.take_add_one]
      simp only [List.length_cons]
      rw [show o + 1 + r.length = o + (r.length + 1) by omega]
      congr 1
      rw [List.set_append_right _ _ (by simp; omega)]
      have hz : o - (List.take o cs.toList).length = 0 := by simp only [List.length_take, Array.length_toList]; omega
      rw [hz]
      have hg : cs.toList[o]? = some cs.toList[o] := List.getElem?_eq_getElem (by simpa using hl)
      rw [hg]
      simp
    rw [e] at h2
    exact h2
theorem At.stored {w : World} {b : Nat} {cs : Array Value} (h : At w b cs) (vs : Array Value) (hs : vs.size = cs.size) : At (w.setCells b 0 vs.toList) b vs :=
  h.put 0 vs.toList (by simp; omega) (by rw [List.drop_eq_nil_of_le (by simp; omega)]; simp)
theorem At.keepCells {w : World} {b : Nat} {cs : Array Value} (h : At w b cs) {b' : Nat} (hne : b ≠ b') (o : Nat) (vs : List Value) : At (w.setCells b' o vs) b cs := by
  obtain ⟨T, h⟩ := h
  exact ⟨T, by rw [(heap_setCells b' vs o w).2 b hne]; exact h⟩

theorem At.store_ {w : World} {b : Nat} {cs : Array Value} (h : At w b cs) (T : TypeId) (vs : Array Value) (hs : vs.size = cs.size) (hT : isRowB Try.prog T vs.size = true) (h1 : vs.all (·.oneCell') = true) :
    ∃ w', (Instr.storeAt T (.pointer (some ⟨b, 0, none⟩)) (.agg vs)).run Try.prog w = .ok () w' ∧ At w' b vs ∧ Chg [b] w w' :=
  ⟨_, h.store T vs hs hT h1, h.stored vs hs, (Chg.refl _ _).cells (.inl (by simp)) _ _⟩
/-- A struct stored, or loaded, as a whole, in a plain region's list. -/
theorem wpList_put {ops : Array Oper} {rest : List Oper} {op : Oper} {a : Act} {w : World} {Q : Exit → Act → World → Prop} (hgd : op.guard = none) {T : TypeId} {x y : Operand} (ho : op.op = .store T x y) {b : Nat} {cs vs : Array Value}
    (hx : a.eval x = .pointer (some ⟨b, 0, none⟩)) (hy : a.eval y = .agg vs) (h : At w b cs) (hs : vs.size = cs.size) (hT : isRowB Try.prog T vs.size = true) (h1 : vs.all (·.oneCell') = true)
    (K : ∀ w', At w' b vs → Chg [b] w w' → wpList Try.prog ops Q rest (a.put op.dst undef) w') : wpList Try.prog ops Q (op :: rest) a w :=
  wpList_store_mid hgd T x y ho b 0 vs hx hy (fun j hj => ⟨by rw [Nat.zero_add, h.cell j]; simp; omega, h.frozen _⟩) (isRowB_spec hT).2 h1 (K _ (h.stored vs hs) ((Chg.refl _ _).cells (.inl (by simp)) _ _))
theorem wpList_get {ops : Array Oper} {rest : List Oper} {op : Oper} {a : Act} {w : World} {Q : Exit → Act → World → Prop} (hgd : op.guard = none) {T : TypeId} {x : Operand} (ho : op.op = .load T x) {b : Nat} {cs : Array Value}
    (hx : a.eval x = .pointer (some ⟨b, 0, none⟩)) (h : At w b cs) (hT : isRowB Try.prog T cs.size = true)
    (K : wpList Try.prog ops Q rest (a.put op.dst (.agg cs)) w) : wpList Try.prog ops Q (op :: rest) a w := by
  obtain ⟨⟨d, h1, h2⟩, h3⟩ := isRowB_spec hT
  exact wpList_load_mid hgd T x ho b 0 hx cs.toList d (fun j v hv => by rw [Nat.zero_add, h.cell j]; simpa using hv) h1 h2 (by simpa using h3) (by simpa using K)
theorem wpList_bld {ops : Array Oper} {rest : List Oper} {op : Oper} {a : Act} {w : World} {Q : Exit → Act → World → Prop} (hgd : op.guard = none) {T : TypeId} {ps : Array (Nat × Operand)} (ho : op.op = .build T ps) (cells : Array Value)
    (hb : Try.prog.built T (ps.map fun p => (p.1, a.eval p.2)).toList = some cells) (K : wpList Try.prog ops Q rest (a.put op.dst (.agg cells)) w) : wpList Try.prog ops Q (op :: rest) a w :=
  wpList_plain hgd fun K' hK => by
    unfold Oper.wp execOp
    simp only [ho, Sem.run_bind, run_build w T _ cells hb, Result.andThen_ok, Sem.run_pure, Oper.upon]
    exact hK _ _ K
/-- A new block made and filled. -/
theorem CL.fill {W : World} {L : List (Nat × Array Value)} {k : Nat} {w w' : World} {o : Obj} {cs : Array Value} (h : CL W L k w) (hX : Chg [w.heap.size] (w.alloc o) w') (ha : At w' w.heap.size cs) : CL W ((w.heap.size, cs) :: L) 0 w' := by
  refine ⟨fun p hp => ?_, (h.x.alloc o).then hX (fun x hx hl => by simp at hx; have := h.x.size; omega)⟩
  rcases List.mem_cons.1 hp with rfl | hp
  · exact ha
  · exact hX.at ((h.A p hp).alloc o) (by have := (h.A p hp).lt; simp; omega)
/-- As CL, with a base above all the blocks. -/
structure CB (W : World) (L : List (Nat × Array Value)) (zb : Nat) (w : World) : Prop where
  c : CL W L 0 w
  sz : zb ≤ w.heap.size
  bs : ∀ p ∈ L, p.1 < zb
  bW : W.heap.size ≤ zb
theorem CL.cb {W : World} {L : List (Nat × Array Value)} {k : Nat} {w : World} (h : CL W L k w) : CB W L w.heap.size w := ⟨⟨h.A, h.x⟩, Nat.le_refl _, fun p hp => (h.A p hp).lt, h.x.size⟩
theorem CB.x {W : World} {L : List (Nat × Array Value)} {zb : Nat} {w : World} (h : CB W L zb w) : Chg [] W w := h.c.x
theorem CB.step {W : World} {L : List (Nat × Array Value)} {zb : Nat} {w w' : World} (h : CB W L zb w) (hX : Chg [] w w') : CB W L zb w' := ⟨h.c.step hX, Nat.le_trans h.sz hX.size, h.bs, h.bW⟩
theorem CB.drew {W : World} {L : List (Nat × Array Value)} {zb : Nat} {w : World} (h : CB W L zb w) : CB W L zb w.drew := h.step ((Chg.refl [] w).drew)
theorem CB.get {W : World} {L : List (Nat × Array Value)} {zb : Nat} {w : World} (h : CB W L zb w) (i : Nat) {p : Nat × Array Value} (hp : L[i]? = some p) : At w p.1 p.2 := h.c.get i hp
theorem CB.alloc0 {W : World} {L : List (Nat × Array Value)} {zb : Nat} {w : World} (h : CB W L zb w) (o : Obj) : CB W L zb (w.alloc o) := h.step ((Chg.refl [] w).alloc o)
theorem CB.at_y {W : World} {L : List (Nat × Array Value)} {zb y : Nat} {w w' : World} (h : CB W L zb w) (hX : Chg [y] w w') (hy : zb ≤ y) : CB W L zb w' := ⟨h.c.at_y hX hy h.bs h.bW, Nat.le_trans h.sz hX.size, h.bs, h.bW⟩
theorem CB.cons {W : World} {L : List (Nat × Array Value)} {zb y : Nat} {w : World} {c : Array Value} (h : CB W L zb w) (hb : At w y c) : CL W ((y, c) :: L) 0 w := h.c.cons hb
/-- A new block, at first Z, then CS. -/
def AY (base : Nat) (Z CS : Array Value) (v : Value) (w : World) : Prop := ∃ y, v = .pointer (some ⟨y, 0, none⟩) ∧ base ≤ y ∧ (At w y Z ∨ At w y CS)
def SY (base : Nat) (CS : Array Value) (v : Value) (w : World) : Prop := ∃ y, v = .pointer (some ⟨y, 0, none⟩) ∧ base ≤ y ∧ At w y CS
def RY (base : Nat) (CS : Array Value) (w w' : World) : Prop := Chg [] w w' ∨ ∃ y, base ≤ y ∧ At w' y CS ∧ Chg [y] w w'
theorem RY.refl (base : Nat) (CS : Array Value) (w : World) : RY base CS w w := .inl (Chg.refl _ _)
theorem RY.keep {base : Nat} {CS : Array Value} {w w' : World} (h : RY base CS w w') {y : Nat} {cs : Array Value} (ha : At w y cs) : At w' y cs ∨ At w' y CS := by
  rcases h with h | ⟨y', _, h2, h3⟩
  · exact .inl (h.at ha (by simp))
  · by_cases hy : y = y'
    · subst hy; exact .inr h2
    · exact .inl (h3.at ha (by simpa using hy))
theorem AY.step {base : Nat} {Z CS : Array Value} {v : Value} {w w' : World} (h : AY base Z CS v w) (hr : RY base CS w w') : AY base Z CS v w' := by
  obtain ⟨y, h1, h2, h3⟩ := h
  refine ⟨y, h1, h2, ?_⟩
  rcases h3 with h3 | h3
  · exact hr.keep h3
  · exact .inr ((hr.keep h3).elim id id)
theorem SY.step {base : Nat} {CS : Array Value} {v : Value} {w w' : World} (h : SY base CS v w) (hr : RY base CS w w') : SY base CS v w' := by
  obtain ⟨y, h1, h2, h3⟩ := h
  exact ⟨y, h1, h2, (hr.keep h3).elim id id⟩
/-- The store into it. -/
theorem AY.store {base : Nat} {Z CS : Array Value} {v : Value} {w : World} (h : AY base Z CS v w) (T : TypeId) (hs : CS.size = Z.size) (hT : isRowB Try.prog T CS.size = true) (h1 : CS.all (·.oneCell') = true) :
    ∃ y w', v = .pointer (some ⟨y, 0, none⟩) ∧ (Instr.storeAt T v (.agg CS)).run Try.prog w = .ok () w' ∧ base ≤ y ∧ At w' y CS ∧ Chg [y] w w' := by
  obtain ⟨y, rfl, hy, ha⟩ := h
  rcases ha with ha | ha
  · exact ⟨y, _, rfl, ha.store T CS hs hT h1, hy, ha.stored CS hs, (Chg.refl _ _).cells (.inl (by simp)) _ _⟩
  · exact ⟨y, _, rfl, ha.store T CS rfl hT h1, hy, ha.stored CS rfl, (Chg.refl _ _).cells (.inl (by simp)) _ _⟩
end Go.Proofs.Ytjneidmkllhbjaa
