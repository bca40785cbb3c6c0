/- Agg, Onc, Ex, Bytes. -/
import Derived.Test.YtpfglmlpodjneaaGreatZ03
import Derived.Deep.MidRow
import Derived.IntWalk
import Derived.Test.YtpfglmlpodjneaaGreatProg
import Derived.Tactics2
import Derived.Defers
import Derived.Laws.Pointers
import Derived.Laws.LoneSync
import Derived.RegionTactic
import Derived.RegionCalls
import Derived.Test.YtpfglmlpodjneaaGreatRows
import Derived.Test.YtpfglmlpodjneaaGreatZ00
import Derived.OwnWalk
import Derived.Laws.BytesArg
import Derived.Lib.SmallJoins
set_option linter.unusedSimpArgs false
set_option linter.unusedVariables false
namespace Go.Proofs.YtpfglmlpodjneaaGreat
open Go.RowKit

def isRowB (P : Program) (T : TypeId) (n : Nat) : Bool := (match P.underlying T with | some d => d.isRow | none => false) && ((P.info? T).map (·.size) == some n)
theorem isRowB_spec {P : Program} {T : TypeId} {n : Nat} (h : isRowB P T n = true) : (∃ d, P.underlying T = some d ∧ d.isRow = true) ∧ (P.info? T).map (·.size) = some n := by
  unfold isRowB at h
  simp only [Bool.and_eq_true, beq_iff_eq] at h
  refine ⟨?_, h.2⟩
  cases hu : P.underlying T with
  | none => rw [hu] at h; simp at h
  | some d => rw [hu] at h; exact ⟨d, rfl, h.1⟩

theorem At.load {w : World} {b : Nat} {cs : Array Value} (h : At w b cs) (T : TypeId) (hT : isRowB Tryz.prog T cs.size = true) : (Instr.loadAt T (.pointer (some ⟨b, 0, none⟩))).run Tryz.prog w = .ok (.agg cs) w := by
  obtain ⟨⟨d, h1, h2⟩, h3⟩ := isRowB_spec hT
  have := run_loadAt_mid (P := Tryz.prog) w b 0 T cs.toList d (fun j v hv => by rw [Nat.zero_add, h.cell j]; simpa using hv) h1 h2 (by simpa using h3)
  simpa using this
theorem At.loadVar {w : World} {b : Nat} {cs : Array Value} (h : At w b cs) (T : TypeId) (hT : isRowB Tryz.prog T cs.size = true) : (Go.loadVar T ⟨b, 0, none⟩).run Tryz.prog w = .ok (.agg cs) w := by
  obtain ⟨⟨d, h1, h2⟩, h3⟩ := isRowB_spec hT
  have := run_loadVar_mid (P := Tryz.prog) w b 0 T cs.toList d (fun j v hv => by rw [Nat.zero_add, h.cell j]; simpa using hv) h1 h2 (by simpa using h3)
  simpa using this
theorem run_asAddr (w : World) (a : Addr) : (asAddr (.pointer (some a))).run Tryz.prog w = .ok a w := rfl
/-- Results that lie in memory. -/
theorem res_c {fn : Func} {p : Tmp} {T : TypeId} (hr : fn.results = #[.cell p T]) {tmps : Array Value} {w : World} {b : Nat} {cs : Array Value} (h : At w b cs) (hT : isRowB Tryz.prog T cs.size = true) (hp : tmps.getD p undef = .pointer (some ⟨b, 0, none⟩)) :
    (results fn tmps).run Tryz.prog w = .ok (.agg cs) w := by
  have hl := h.loadVar T hT
  simp only [results, hr]
  simp [Sem.run_bind, Result.andThen, -Array.getD_eq_getD_getElem?, hp, run_asAddr, hl]
theorem res_ct {fn : Func} {p u : Tmp} {T : TypeId} (hr : fn.results = #[.cell p T, .tmp u]) {tmps : Array Value} {w : World} {b : Nat} {cs : Array Value} (h : At w b cs) (hT : isRowB Tryz.prog T cs.size = true) (hp : tmps.getD p undef = .pointer (some ⟨b, 0, none⟩)) :
    (results fn tmps).run Tryz.prog w = .ok (.tuple #[.agg cs, tmps.getD u undef]) w := by
  have hl := h.loadVar T hT
  simp only [results, hr]
  simp [Sem.run_bind, Result.andThen, -Array.getD_eq_getD_getElem?, hp, run_asAddr, hl]
theorem res_tc {fn : Func} {p u : Tmp} {T : TypeId} (hr : fn.results = #[.tmp u, .cell p T]) {tmps : Array Value} {w : World} {b : Nat} {cs : Array Value} (h : At w b cs) (hT : isRowB Tryz.prog T cs.size = true) (hp : tmps.getD p undef = .pointer (some ⟨b, 0, none⟩)) :
    (results fn tmps).run Tryz.prog w = .ok (.tuple #[tmps.getD u undef, .agg cs]) w := by
  have hl := h.loadVar T hT
  simp only [results, hr]
  simp [Sem.run_bind, Result.andThen, -Array.getD_eq_getD_getElem?, hp, run_asAddr, hl]
/-- A struct within another one. -/
theorem At.loadMid {w : World} {b : Nat} {cs : Array Value} (h : At w b cs) (T : TypeId) (o n : Nat) (hT : isRowB Tryz.prog T n = true) (hn : o + n ≤ cs.size) : (Instr.loadAt T (.pointer (some ⟨b, o, none⟩))).run Tryz.prog w = .ok (.agg (cs.extract o (o + n))) w := by
  obtain ⟨⟨d, h1, h2⟩, h3⟩ := isRowB_spec hT
  have := run_loadAt_mid (P := Tryz.prog) w b o T (cs.extract o (o + n)).toList d (fun j v hv => by
    rw [h.cell (o + j)]
    have hj : j < n := by
      have := (List.getElem?_eq_some_iff.1 hv).1
      simp at this; omega
    simp only [Array.getElem?_toList, Array.getElem?_extract] at hv
    rw [← hv, if_pos (by omega)]) h1 h2 (by rw [h3]; simp; omega)
  rw [Array.toArray_toList] at this
  exact this
theorem At.store {w : World} {b : Nat} {cs : Array Value} (h : At w b cs) (T : TypeId) (vs : Array Value) (hs : vs.size = cs.size) (hT : isRowB Tryz.prog T vs.size = true) (h1 : vs.all (·.oneCell') = true) :
    (Instr.storeAt T (.pointer (some ⟨b, 0, none⟩)) (.agg vs)).run Tryz.prog w = .ok () (w.setCells b 0 vs.toList) :=
  run_storeAt_mid (P := Tryz.prog) w b 0 T vs (fun j hj => ⟨by rw [Nat.zero_add, h.cell j]; simp; omega, h.frozen _⟩) (isRowB_spec hT).2 h1
theorem heap_setCells (b : Nat) : ∀ (vs : List Value) (o : Nat) (w : World), (w.setCells b o vs).heap.size = w.heap.size ∧ ∀ k, k ≠ b → (w.setCells b o vs).heap[k]? = w.heap[k]?
  | [], _, _ => ⟨rfl, fun _ _ => rfl⟩
  | v :: r, o, w => by
    obtain ⟨h1, h2⟩ := heap_setCells b r (o + 1) (w.setCell ⟨b, o, none⟩ v)
    refine ⟨by rw [World.setCells, h1]; simp [World.setCell], fun k hk => ?_⟩
    rw [World.setCells, h2 k hk, Below.heap_setCell _ _ _ _ hk]
theorem setCells_rest (b : Nat) : ∀ (vs : List Value) (o : Nat) (w : World), (w.setCells b o vs).os = w.os ∧ (w.setCells b o vs).tape = w.tape ∧ (w.setCells b o vs).output = w.output
  | [], _, _ => ⟨rfl, rfl, rfl⟩
  | v :: r, o, w => by
    obtain ⟨h1, h2, h3⟩ := setCells_rest b r (o + 1) (w.setCell ⟨b, o, none⟩ v)
    exact ⟨h1, h2, h3⟩
theorem Chg.cells {S : List Nat} {a w : World} (h : Chg S a w) {b : Nat} (hp : b ∈ S ∨ a.heap.size ≤ b) (o : Nat) (vs : List Value) : Chg S a (w.setCells b o vs) := by
  obtain ⟨z, hz⟩ := heap_setCells b vs o w
  obtain ⟨r1, r2, r3⟩ := setCells_rest b vs o w
  refine ⟨r1.trans h.os, r2.trans h.tape, r3.trans h.output, by rw [z]; exact h.size, fun k hk hn => ?_⟩
  rw [hz k (by rintro rfl; rcases hp with hp | hp; exact hn hp; omega)]
  exact h.block k hk hn
theorem At.put {w : World} {b : Nat} {cs : Array Value} (h : At w b cs) (o : Nat) (vs : List Value) {cs' : Array Value} (hc : vs.length + o ≤ cs.size) (hcs : cs' = (cs.toList.take o ++ vs ++ cs.toList.drop (o + vs.length)).toArray) : At (w.setCells b o vs) b cs' := by
  subst hcs
  induction vs generalizing o w cs with
  | nil => simpa [World.setCells] using h
  | cons v r ih =>
    have hl : o < cs.size := by simp only [List.length_cons] at hc; omega
    have h1 := h.set o v rfl
    have h2 := ih (w := w.setCell ⟨b, o, none⟩ v) (cs := cs.setIfInBounds o v) h1 (o + 1) (by simp only [Array.size_setIfInBounds, List.length_cons] at hc ⊢; omega)
    rw [World.setCells]
    have e : (cs.setIfInBounds o v).toList.take (o + 1) ++ r ++ (cs.setIfInBounds o v).toList.drop (o + 1 + r.length) = cs.toList.take o ++ v :: r ++ cs.toList.drop (o + (v :: r).length) := by
      rw [Array.toList_setIfInBounds, List.drop_set_of_lt (by omega), List.take_set, List.take_add_one]
      simp only [List.length_cons]
      rw [show o + 1 + r.length = o + (r.length + 1) by omega]
      congr 1
      rw [List.set_append_right _ _ (by simp; omega)]
      have hz : o - (List.take o cs.toList).length = 0 := by simp only [List.length_take, Array.length_toList]; omega
      rw [hz]
      have hg : cs.toList[o]? = some cs.toList[o] := List.getElem?_eq_getElem (by simpa using hl)
      rw [hg]
      simp
    rw [e] at h2
    exact h2
theorem At.stored {w : World} {b : Nat} {cs : Array Value} (h : At w b cs) (vs : Array Value) (hs : vs.size = cs.size) : At (w.setCells b 0 vs.toList) b vs :=
  h.put 0 vs.toList (by simp; omega) (by rw [List.drop_eq_nil_of_le (by simp; omega)]; simp)
theorem At.keepCells {w : World} {b : Nat} {cs : Array Value} (h : At w b cs) {b' : Nat} (hne : b ≠ b') (o : Nat) (vs : List Value) : At (w.setCells b' o vs) b cs := by
  obtain ⟨T, h⟩ := h
  exact ⟨T, by rw [(heap_setCells b' vs o w).2 b hne]; exact h⟩

theorem At.store_ {w : World} {b : Nat} {cs : Array Value} (h : At w b cs) (T : TypeId) (vs : Array Value) (hs : vs.size = cs.size) (hT : isRowB Tryz.prog T vs.size = true) (h1 : vs.all (·.oneCell') = true) :
    ∃ w', (Instr.storeAt T (.pointer (some ⟨b, 0, none⟩)) (.agg vs)).run Tryz.prog w = .ok () w' ∧ At w' b vs ∧ Chg [b] w w' :=
  ⟨_, h.store T vs hs hT h1, h.stored vs hs, (Chg.refl _ _).cells (.inl (by simp)) _ _⟩
/-- A struct stored, or loaded, as a whole, in a plain region's list. -/
theorem wpList_put {ops : Array Oper} {rest : List Oper} {op : Oper} {a : Act} {w : World} {Q : Exit → Act → World → Prop} (hgd : op.guard = none) {T : TypeId} {x y : Operand} (ho : op.op = .store T x y) {b : Nat} {cs vs : Array Value}
    (hx : a.eval x = .pointer (some ⟨b, 0, none⟩)) (hy : a.eval y = .agg vs) (h : At w b cs) (hs : vs.size = cs.size) (hT : isRowB Tryz.prog T vs.size = true) (h1 : vs.all (·.oneCell') = true)
    (K : ∀ w', At w' b vs → Chg [b] w w' → wpList Tryz.prog ops Q rest (a.put op.dst undef) w') : wpList Tryz.prog ops Q (op :: rest) a w :=
  wpList_store_mid hgd T x y ho b 0 vs hx hy (fun j hj => ⟨by rw [Nat.zero_add, h.cell j]; simp; omega, h.frozen _⟩) (isRowB_spec hT).2 h1 (K _ (h.stored vs hs) ((Chg.refl _ _).cells (.inl (by simp)) _ _))
theorem wpList_get {ops : Array Oper} {rest : List Oper} {op : Oper} {a : Act} {w : World} {Q : Exit → Act → World → Prop} (hgd : op.guard = none) {T : TypeId} {x : Operand} (ho : op.op = .load T x) {b : Nat} {cs : Array Value}
    (hx : a.eval x = .pointer (some ⟨b, 0, none⟩)) (h : At w b cs) (hT : isRowB Tryz.prog T cs.size = true)
    (K : wpList Tryz.prog ops Q rest (a.put op.dst (.agg cs)) w) : wpList Tryz.prog ops Q (op :: rest) a w := by
  obtain ⟨⟨d, h1, h2⟩, h3⟩ := isRowB_spec hT
  exact wpList_load_mid hgd T x ho b 0 hx cs.toList d (fun j v hv => by rw [Nat.zero_add, h.cell j]; simpa using hv) h1 h2 (by simpa using h3) (by simpa using K)
theorem wpList_bld {ops : Array Oper} {rest : List Oper} {op : Oper} {a : Act} {w : World} {Q : Exit → Act → World → Prop} (hgd : op.guard = none) {T : TypeId} {ps : Array (Nat × Operand)} (ho : op.op = .build T ps) (cells : Array Value)
    (hb : Tryz.prog.built T (ps.map fun p => (p.1, a.eval p.2)).toList = some cells) (K : wpList Tryz.prog ops Q rest (a.put op.dst (.agg cells)) w) : wpList Tryz.prog ops Q (op :: rest) a w :=
  wpList_plain hgd fun K' hK => by
    unfold Oper.wp execOp
    simp only [ho, Sem.run_bind, run_build w T _ cells hb, Result.andThen_ok, Sem.run_pure, Oper.upon]
    exact hK _ _ K
/-- A new block made and filled. -/
theorem CL.fill {W : World} {L : List (Nat × Array Value)} {k : Nat} {w w' : World} {o : Obj} {cs : Array Value} (h : CL W L k w) (hX : Chg [w.heap.size] (w.alloc o) w') (ha : At w' w.heap.size cs) : CL W ((w.heap.size, cs) :: L) 0 w' := by
  refine ⟨fun p hp => ?_, (h.x.alloc o).then hX (fun x hx hl => by simp at hx; have := h.x.size; omega)⟩
  rcases List.mem_cons.1 hp with rfl | hp
  · exact ha
  · exact hX.at ((h.A p hp).alloc o) (by have := (h.A p hp).lt; simp; omega)
/-- As CL, with a base above all the blocks. -/
structure CB (W : World) (L : List (Nat × Array Value)) (zb : Nat) (w : World) : Prop where
  c : CL W L 0 w
  sz : zb ≤ w.heap.size
  bs : ∀ p ∈ L, p.1 < zb
  bW : W.heap.size ≤ zb
theorem CL.cb {W : World} {L : List (Nat × Array Value)} {k : Nat} {w : World} (h : CL W L k w) : CB W L w.heap.size w := ⟨⟨h.A, h.x⟩, Nat.le_refl _, fun p hp => (h.A p hp).lt, h.x.size⟩
theorem CB.x {W : World} {L : List (Nat × Array Value)} {zb : Nat} {w : World} (h : CB W L zb w) : Chg [] W w := h.c.x
theorem CB.step {W : World} {L : List (Nat × Array Value)} {zb : Nat} {w w' : World} (h : CB W L zb w) (hX : Chg [] w w') : CB W L zb w' := ⟨h.c.step hX, Nat.le_trans h.sz hX.size, h.bs, h.bW⟩
theorem CB.drew {W : World} {L : List (Nat × Array Value)} {zb : Nat} {w : World} (h : CB W L zb w) : CB W L zb w.drew := h.step ((Chg.refl [] w).drew)
theorem CB.get {W : World} {L : List (Nat × Array Value)} {zb : Nat} {w : World} (h : CB W L zb w) (i : Nat) {p : Nat × Array Value} (hp : L[i]? = some p) : At w p.1 p.2 := h.c.get i hp
theorem CB.alloc0 {W : World} {L : List (Nat × Array Value)} {zb : Nat} {w : World} (h : CB W L zb w) (o : Obj) : CB W L zb (w.alloc o) := h.step ((Chg.refl [] w).alloc o)
theorem CB.at_y {W : World} {L : List (Nat × Array Value)} {zb y : Nat} {w w' : World} (h : CB W L zb w) (hX : Chg [y] w w') (hy : zb ≤ y) : CB W L zb w' := ⟨h.c.at_y hX hy h.bs h.bW, Nat.le_trans h.sz hX.size, h.bs, h.bW⟩
theorem CB.cons {W : World} {L : List (Nat × Array Value)} {zb y : Nat} {w : World} {c : Array Value} (h : CB W L zb w) (hb : At w y c) : CL W ((y, c) :: L) 0 w := h.c.cons hb
/-- A new block, at first Z, then CS. -/
def AY (base : Nat) (Z CS : Array Value) (v : Value) (w : World) : Prop := ∃ y, v = .pointer (some ⟨y, 0, none⟩) ∧ base ≤ y ∧ (At w y Z ∨ At w y CS)
def SY (base : Nat) (CS : Array Value) (v : Value) (w : World) : Prop := ∃ y, v = .pointer (some ⟨y, 0, none⟩) ∧ base ≤ y ∧ At w y CS
def RY (base : Nat) (CS : Array Value) (w w' : World) : Prop := Chg [] w w' ∨ ∃ y, base ≤ y ∧ At w' y CS ∧ Chg [y] w w'
theorem RY.refl (base : Nat) (CS : Array Value) (w : World) : RY base CS w w := .inl (Chg.refl _ _)
theorem RY.keep {base : Nat} {CS : Array Value} {w w' : World} (h : RY base CS w w') {y : Nat} {cs : Array Value} (ha : At w y cs) : At w' y cs ∨ At w' y CS := by
  rcases h with h | ⟨y', _, h2, h3⟩
  · exact .inl (h.at ha (by simp))
  · by_cases hy : y = y'
    · subst hy; exact .inr h2
    · exact .inl (h3.at ha (by simpa using hy))
theorem AY.step {base : Nat} {Z CS : Array Value} {v : Value} {w w' : World} (h : AY base Z CS v w) (hr : RY base CS w w') : AY base Z CS v w' := by
  obtain ⟨y, h1, h2, h3⟩ := h
  refine ⟨y, h1, h2, ?_⟩
  rcases h3 with h3 | h3
  · exact hr.keep h3
  · exact .inr ((hr.keep h3).elim id id)
theorem SY.step {base : Nat} {CS : Array Value} {v : Value} {w w' : World} (h : SY base CS v w) (hr : RY base CS w w') : SY base CS v w' := by
  obtain ⟨y, h1, h2, h3⟩ := h
  exact ⟨y, h1, h2, (hr.keep h3).elim id id⟩
/-- The store into it. -/
theorem AY.store {base : Nat} {Z CS : Array Value} {v : Value} {w : World} (h : AY base Z CS v w) (T : TypeId) (hs : CS.size = Z.size) (hT : isRowB Tryz.prog T CS.size = true) (h1 : CS.all (·.oneCell') = true) :
    ∃ y w', v = .pointer (some ⟨y, 0, none⟩) ∧ (Instr.storeAt T v (.agg CS)).run Tryz.prog w = .ok () w' ∧ base ≤ y ∧ At w' y CS ∧ Chg [y] w w' := by
  obtain ⟨y, rfl, hy, ha⟩ := h
  rcases ha with ha | ha
  · exact ⟨y, _, rfl, ha.store T CS hs hT h1, hy, ha.stored CS hs, (Chg.refl _ _).cells (.inl (by simp)) _ _⟩
  · exact ⟨y, _, rfl, ha.store T CS rfl hT h1, hy, ha.stored CS rfl, (Chg.refl _ _).cells (.inl (by simp)) _ _⟩
end Go.Proofs.YtpfglmlpodjneaaGreat
namespace Go.Proofs.YtpfglmlpodjneaaGreat
open Go.RowKit

theorem race_disable (w : World) : (callFunc 105 #[]).run Tryz.prog w = .ok (.value (.tuple #[])) w := run_call_mark0 Tryz.func105 (by kernel_rfl) (by kernel_rfl) (by kernel_rfl) .disable (by kernel_rfl) w
theorem race_enable (w : World) : (callFunc 107 #[]).run Tryz.prog w = .ok (.value (.tuple #[])) w := run_call_mark0 Tryz.func107 (by kernel_rfl) (by kernel_rfl) (by kernel_rfl) .enable (by kernel_rfl) w
theorem race_acquire (a : Addr) (w : World) : (callFunc 108 #[.pointer (some a)]).run Tryz.prog w = .ok (.value (.tuple #[])) w := run_call_marked Tryz.func108 (by kernel_rfl) (by kernel_rfl) (by kernel_rfl) .acquire (by kernel_rfl) a w
theorem race_release (a : Addr) (w : World) : (callFunc 110 #[.pointer (some a)]).run Tryz.prog w = .ok (.value (.tuple #[])) w := run_call_marked Tryz.func110 (by kernel_rfl) (by kernel_rfl) (by kernel_rfl) .releaseMerge (by kernel_rfl) a w

theorem store_deferred (a : Addr) (x : Value) (u : FrameMode) (w : World) (hc : w.cell? a = some x) (hz : w.frozen? a = false) :
    CallsD Tryz.prog 84 #[.pointer (some a), .bool true] u w fun e u' w' => u' = u ∧ (e = .returned (.tuple #[]) ∧ w' = w.drew.setCell a (.int .u32 1)) := by
  have hc' : w.drew.cell? a = some x := by go_simp
  have hz' : w.drew.frozen? a = false := by go_simp
  have hst := run_call_store (P := Tryz.prog) Tryz.func94 (by kernel_rfl) (by kernel_rfl) (by kernel_rfl) (by kernel_rfl) (k := .u32) (y := 1) hc' hz'
  go_enter_d Tryz.func84, Tryz.ntmps84
  go_wp2
  go_region_calls
  all_goals (go_end0; exact ⟨rfl, rfl⟩)
set_option maxRecDepth 100000 in
theorem unlock_deferred (a : Addr) (u : FrameMode) (w : World) (hc : w.cell? a = some (.int .i32 1)) (hz : w.frozen? a = false) :
    CallsD Tryz.prog 83 #[.pointer (some a)] u w fun e u' w' => u' = u ∧ (e = .returned (.tuple #[]) ∧ w' = w.setCell a (.int .i32 0)) := by
  have hd := race_disable
  have he := race_enable
  have hr := race_release
  have hadd := run_call_add (P := Tryz.prog) Tryz.func111 (by kernel_rfl) (by kernel_rfl) (by kernel_rfl) .i32 (by kernel_rfl) (y := -1) (s := 0) hc hz (by simp [go_sem]; rfl)
  have hcv := run_convert_to_unsafe (P := Tryz.prog) (src := 149) (dst := 153) Tryz.underlying149 Tryz.underlying153 (by kernel_rfl) hc
  go_enter_d Tryz.func83, Tryz.ntmps83
  go_wp2
  go_end0
  all_goals first | (go_wp2; go_end0; exact ⟨rfl, rfl⟩) | exact ⟨rfl, rfl⟩
set_option maxRecDepth 100000 in
theorem lock_free (a : Addr) (w : World) (hc : w.cell? a = some (.int .i32 0)) (hz : w.frozen? a = false) :
    Calls Tryz.prog 82 #[.pointer (some a)] w fun e w' => e = .returned (.tuple #[]) ∧ w' = w.setCell a (.int .i32 1) := by
  have hd := race_disable
  have he := race_enable
  have ha := race_acquire
  have hcas := run_call_cas_hit (P := Tryz.prog) Tryz.func106 (by kernel_rfl) (by kernel_rfl) (by kernel_rfl) .i32 (by kernel_rfl) (y := 1) hc hz
  have hc' : (w.setCell a (.int .i32 1)).cell? a = some (.int .i32 1) := World.cell?_setCell_same w a _ hc
  have hcv := run_convert_to_unsafe (P := Tryz.prog) (src := 149) (dst := 153) Tryz.underlying149 Tryz.underlying153 (by kernel_rfl) hc'
  go_enter Tryz.func82, Tryz.ntmps82
  go_wp2
  first | go_end0 | (simp only [Exit.inBlock, Exit.then]; refine bodyPost_ret (results_none rfl _ _ _) rfl ?_) | refine bodyPost_ret (results_none rfl _ _ _) rfl ?_
  all_goals first | (go_wp2; go_end0; exact ⟨rfl, rfl⟩) | exact ⟨rfl, rfl⟩

theorem bool_load (w : World) (a : Addr) (d : Int) (x : Bool) (hx : (d != 0) = x) (hc : w.cell? a = some (.int .u32 d)) : Calls Tryz.prog 61 #[.pointer (some a)] w fun e w' => e = .returned (.bool x) ∧ w = w' := by
  have hl := run_call_load (P := Tryz.prog) Tryz.func81 (by kernel_rfl) (by kernel_rfl) (by kernel_rfl) .u32 (by kernel_rfl) hc
  go_enter Tryz.func61, Tryz.ntmps61
  go_wp2
  go_ret
  exact ⟨rfl, rfl⟩
set_option maxRecDepth 100000 in
/-- Do, not yet done, the lock free: the function is called once. -/
theorem once_slow (w : World) (b : Nat) (cs : Array Value) (fargs : Array Value) (R : Array Value → Prop) (hA : At w b cs) (h0 : cs[0]? = some (.int .u32 0)) (h1 : cs[1]? = some (.int .i32 0))
    (HF : ∀ w1, At w1 b (cs.setIfInBounds 1 (.int .i32 1)) → Calls Tryz.prog 47 fargs w1 fun e w2 => e = .returned (.tuple #[]) ∧ ∃ cs2, At w2 b cs2 ∧ R cs2 ∧ cs2[0]? = some (.int .u32 0) ∧ cs2[1]? = some (.int .i32 1) ∧ Chg [b] w1 w2) :
    Calls Tryz.prog 62 #[.pointer (some ⟨b, 0, none⟩), .func (.func 47) fargs #[]] w fun e w' => e = .returned (.tuple #[]) ∧ ∃ cs2, R cs2 ∧ At w' b ((cs2.setIfInBounds 0 (.int .u32 1)).setIfInBounds 1 (.int .i32 0)) ∧ Chg [b] w w' := by
  have c0 := (hA.cell 0).trans h0
  have c1 := (hA.cell 1).trans h1
  have f1 := hA.frozen 1
  have hA1 := hA.set 1 (.int .i32 1) rfl
  have hX1 : Chg [b] w (w.setCell ⟨b, 1, none⟩ (.int .i32 1)) := (Chg.refl _ _).setCell (.inl (by simp)) _
  have d0 : (w.setCell ⟨b, 1, none⟩ (.int .i32 1)).cell? ⟨b, 0, none⟩ = some (.int .u32 0) := (World.cell?_setCell_other _ _ _ _ (by simp)).trans c0
  have hnot : ∀ (x : Bool) (w : World), (Op.unary .not (.bool x)).run Tryz.prog w = .ok (.bool (!x)) w := fun _ _ => rfl
  have HF1 := HF _ hA1
  clear HF
  go_enter_defers Tryz.func62, Tryz.ntmps62
  go_wp2_with (go_at_call 82; refine (lock_free ⟨b, 1, none⟩ _ c1 f1).mono ?_; rintro e w' ⟨rfl, rfl⟩)
  generalize w.setCell ⟨b, 1, none⟩ (.int .i32 1) = w1 at *
  refine (bool_load w1 _ 0 false rfl d0).mono ?_; rintro e w' ⟨rfl, rfl⟩
  clear d0 c0 c1 f1
  go_wp2_with fail
  refine HF1.mono ?_; rintro e w2 ⟨rfl, cs2, hA2, hR, k0, k1, hX2⟩
  have d0 := (hA2.cell 0).trans k0
  have f0 := hA2.frozen 0
  have hX3 : Chg [b] w w2 := hX1.trans hX2
  clear hX1 hX2 hA1 HF1
  go_wp2
  refine leaves_cons (f := 84) (args := #[.pointer (some ⟨b, 0, none⟩), .bool true]) (by simp) (by simp [go_sem]) ?_
  refine (store_deferred ⟨b, 0, none⟩ (.int .u32 0) .returning _ d0 f0).mono ?_
  rintro e u' w'' ⟨rfl, rfl, rfl⟩
  have hA3 := hA2.drew.set 0 (.int .u32 1) rfl
  have hX4 : Chg [b] w (w2.drew.setCell ⟨b, 0, none⟩ (.int .u32 1)) := hX3.drew.setCell (.inl (by simp)) _
  have d1 : (w2.drew.setCell ⟨b, 0, none⟩ (.int .u32 1)).cell? ⟨b, 1, none⟩ = some (.int .i32 1) := (hA3.cell 1).trans (by simpa using k1)
  refine leaves_cons (f := 83) (args := #[.pointer (some ⟨b, 1, none⟩)]) (by simp [settle]) (by simp [go_sem]) ?_
  refine (unlock_deferred ⟨b, 1, none⟩ _ _ d1 (hA3.frozen 1)).mono ?_
  rintro e u' w'' ⟨rfl, rfl, rfl⟩
  have hA4 := hA3.set 1 (.int .i32 0) rfl
  have hX5 := hX4.setCell (p := ⟨b, 1, none⟩) (.inl (by simp)) (.int .i32 0)
  simp [Leaves, settle, results, Tryz.results62]
  exact ⟨cs2, hR, hA4, hX5⟩
set_option maxRecDepth 100000 in
theorem once_do (w : World) (b : Nat) (cs : Array Value) (fargs : Array Value) (R : Array Value → Prop) (hA : At w b cs) (h0 : cs[0]? = some (.int .u32 0)) (h1 : cs[1]? = some (.int .i32 0))
    (HF : ∀ w1, At w1 b (cs.setIfInBounds 1 (.int .i32 1)) → Calls Tryz.prog 47 fargs w1 fun e w2 => e = .returned (.tuple #[]) ∧ ∃ cs2, At w2 b cs2 ∧ R cs2 ∧ cs2[0]? = some (.int .u32 0) ∧ cs2[1]? = some (.int .i32 1) ∧ Chg [b] w1 w2) :
    Calls Tryz.prog 46 #[.pointer (some ⟨b, 0, none⟩), .func (.func 47) fargs #[]] w fun e w' => e = .returned (.tuple #[]) ∧ ∃ cs2, R cs2 ∧ At w' b ((cs2.setIfInBounds 0 (.int .u32 1)).setIfInBounds 1 (.int .i32 0)) ∧ Chg [b] w w' := by
  have c0 := (hA.cell 0).trans h0
  have HS := once_slow w b cs fargs R hA h0 h1 HF
  have hnot : ∀ (x : Bool) (w : World), (Op.unary .not (.bool x)).run Tryz.prog w = .ok (.bool (!x)) w := fun _ _ => rfl
  clear HF hA h0 h1
  go_enter Tryz.func46, Tryz.ntmps46
  go_wp2_with fail
  refine (bool_load w _ 0 false rfl c0).mono ?_; rintro e w' ⟨rfl, rfl⟩
  go_wp2_with fail
  refine HS.mono ?_; rintro e w2 ⟨rfl, cs2, hR, hA2, hX⟩
  go_wp2
  go_end0
  exact ⟨rfl, cs2, hR, hA2, hX⟩
theorem once_done (w : World) (b : Nat) (d : Int) (hd : d ≠ 0) (fv : Value) (c0 : w.cell? ⟨b, 0, none⟩ = some (.int .u32 d)) :
    Calls Tryz.prog 46 #[.pointer (some ⟨b, 0, none⟩), fv] w fun e w' => e = .returned (.tuple #[]) ∧ w = w' := by
  have hnot : ∀ (x : Bool) (w : World), (Op.unary .not (.bool x)).run Tryz.prog w = .ok (.bool (!x)) w := fun _ _ => rfl
  go_enter Tryz.func46, Tryz.ntmps46
  go_wp2_with fail
  refine (bool_load w _ d true (by simp [hd]) c0).mono ?_; rintro e w' ⟨rfl, rfl⟩
  go_wp2
  go_end0
  exact ⟨rfl, rfl⟩
end Go.Proofs.YtpfglmlpodjneaaGreat
namespace Go.Proofs.YtpfglmlpodjneaaGreat
open Go

abbrev ExV := (Tmp → Value) → Value → World → Prop
abbrev ExEnv := List (Option Tmp × List Tmp × ExV)
def exVal (b : Act) : Option Tmp → Value
  | some d => b.eval (.tmp d)
  | none => undef
def exSeen (a : Act) (lk : List Tmp) (s : Tmp) : Value := if lk.contains s then a.eval (.tmp s) else undef
def exGet : ExEnv → Tmp → Option (List Tmp × ExV)
  | [], _ => none
  | (some d, lk, V) :: r, s => if d == s then some (lk, V) else exGet r s
  | (none, _, _) :: r, s => exGet r s
def exAll (b : Act) (w : World) : ExEnv → Prop
  | [] => True
  | (d, lk, V) :: r => V (exSeen b lk) (exVal b d) w ∧ exAll b w r
def exSlot (a : Act) (s : Nat) : Value := a.tmps.toList.getD s undef
theorem exSlot_eq (a : Act) (s : Nat) : exSlot a s = a.eval (.tmp s) := by
  simp [exSlot, Act.eval, List.getD_eq_getElem?_getD]
def exPuts : List Oper → List Value → Act → Act
  | o :: l, v :: vs, a => exPuts l vs (a.put o.dst v)
  | _, _, a => a
def exDsts (l : List Oper) : List Tmp := l.filterMap (·.dst)
def exEnv (ops : Array Oper) : List Oper → List ExV → ExEnv → ExEnv
  | o :: l, V :: Vs, env => exEnv ops l Vs ((o.dst, o.looksAt ops, V) :: env)
  | _, _, env => env

section
variable {P : Program} {ops : Array Oper} {a0 : Act} {C : Nat → World → Prop} {Rel : Nat → World → World → Prop}

def ExStep (P : Program) (ops : Array Oper) (a0 : Act) (ds : List Tmp) (C : Nat → World → Prop) (Rel : Nat → World → World → Prop) (env : ExEnv) (o : Oper) (lk : List Tmp) (lo hi : Nat) (ef : Bool) (V : ExV) : Prop :=
  ∀ (wx : World) (b : Act) (k : Nat), lo ≤ k → k ≤ hi → C k wx → (∀ s, ds.contains s = false → b.eval (.tmp s) = a0.eval (.tmp s)) →
    (∀ s lk' V', lk.contains s = true → exGet env s = some (lk', V') → V' (exSeen b lk') (b.eval (.tmp s)) wx) →
    if Region.wanted o (yielded ops b.tmps) = true then invUpon P (fun v w' => V (exSeen b lk) (if o.dst.isSome then v else undef) w' ∧ C (if ef then k + 1 else k) w' ∧ Rel k wx w') ((execOp b.eval o).run P wx)
    else V (exSeen b lk) undef wx ∧ C (if ef then k + 1 else k) wx ∧ Rel k wx wx

def ExTree (P : Program) (ops : Array Oper) (a0 : Act) (ds : List Tmp) (C : Nat → World → Prop) (Rel : Nat → World → World → Prop) (Q : ExEnv → Prop) : List (Oper × Nat × Nat × Bool) → ExEnv → Prop
  | [], env => Q env
  | (o, lo, hi, ef) :: rest, env => ∃ V : ExV, (∀ k, (if ef then lo + 1 else lo) ≤ k → ∀ g v w w', V g v w → Rel k w w' → V g v w') ∧ ExStep P ops a0 ds C Rel env o (o.looksAt ops) lo hi ef V ∧
      ExTree P ops a0 ds C Rel Q rest ((o.dst, o.looksAt ops, V) :: env)

def exDepB (l : List Oper) (M : Array Nat) (n : Nat) : Bool :=
  (List.range l.length).all fun i => match l[i]? with
    | none => true
    | some o => match o.dst with
      | none => true
      | some d => decide (d < n) && (List.range l.length).all fun j => match l[j]? with
        | none => true
        | some o' => (j == i || o'.dst != some d) && (!(o'.looksAt l.toArray).contains d || (j != i && (M.getD j 0).testBit i))

theorem exDepB_spec {l : List Oper} {M : Array Nat} {n : Nat} (h : exDepB l M n = true) {i : Nat} {o : Oper} {d : Tmp} (hi : l[i]? = some o) (hd : o.dst = some d) :
    d < n ∧ ∀ j o', l[j]? = some o' → (j = i ∨ o'.dst ≠ some d) ∧ (d ∈ o'.looksAt l.toArray → j ≠ i ∧ (M.getD j 0).testBit i = true) := by
  have hlt : i < l.length := (List.getElem?_eq_some_iff.1 hi).1
  have h1 := (List.all_eq_true.1 h) i (by simpa using hlt)
  simp only [hi, hd, Bool.and_eq_true, decide_eq_true_eq] at h1
  refine ⟨h1.1, fun j o' hj => ?_⟩
  have hlj : j < l.length := (List.getElem?_eq_some_iff.1 hj).1
  have h2 := (List.all_eq_true.1 h1.2) j (by simpa using hlj)
  simp only [hj, Bool.and_eq_true, Bool.or_eq_true, beq_iff_eq, bne_iff_ne, ne_eq, Bool.not_eq_true', List.contains_eq_mem, decide_eq_false_iff_not] at h2
  exact ⟨h2.1, fun hm => (h2.2.resolve_left (fun hn => hn hm))⟩

theorem exGet_env : ∀ (l : List Oper) (Vs : List ExV) (env : ExEnv) (s : Tmp) (lk : List Tmp) (V : ExV), exGet (exEnv ops l Vs env) s = some (lk, V) →
    exGet env s = some (lk, V) ∨ ∃ (i : Nat) (o : Oper), l[i]? = some o ∧ Vs[i]? = some V ∧ o.dst = some s ∧ lk = o.looksAt ops
  | [], _, env, s, lk, V, h => .inl (by simpa [exEnv] using h)
  | o :: l, [], env, s, lk, V, h => .inl (by simpa [exEnv] using h)
  | o :: l, V0 :: Vs, env, s, lk, V, h => by
    rcases exGet_env l Vs _ s lk V h with h1 | ⟨i, o', h1, h2, h3, h4⟩
    · cases hd : o.dst with
      | none => simp only [hd, exGet] at h1; exact .inl h1
      | some d =>
        simp only [hd, exGet] at h1
        by_cases hds : d = s
        · subst hds
          simp only [beq_self_eq_true, if_true, Option.some.injEq, Prod.mk.injEq] at h1
          exact .inr ⟨0, o, by simp, by simp [h1.2], hd, h1.1.symm⟩
        · rw [if_neg (by simpa using hds)] at h1
          exact .inl h1
    · exact .inr ⟨i + 1, o', by simpa using h1, by simpa using h2, h3, h4⟩

theorem ExTree.open {ds : List Tmp} {Q : ExEnv → Prop} : ∀ (l : List Oper) (R : List (Nat × Nat × Bool)) (env : ExEnv), R.length = l.length → ExTree P ops a0 ds C Rel Q (l.zip R) env →
    ∃ Vs : List ExV, Vs.length = l.length ∧ Q (exEnv ops l Vs env) ∧ ∀ (i : Nat) (o : Oper) (lo hi : Nat) (ef : Bool) (V : ExV), l[i]? = some o → R[i]? = some (lo, hi, ef) → Vs[i]? = some V →
      (∀ k, (if ef then lo + 1 else lo) ≤ k → ∀ g v w w', V g v w → Rel k w w' → V g v w') ∧ ExStep P ops a0 ds C Rel (exEnv ops (l.take i) (Vs.take i) env) o (o.looksAt ops) lo hi ef V
  | [], R, env, hl, h => ⟨[], rfl, by simpa [ExTree, exEnv] using h, fun i o lo hi ef V h => by simp at h⟩
  | o :: l, [], _, hl, _ => by simp at hl
  | o :: l, (lo, hi, ef) :: R, env, hl, h => by
    simp only [List.zip_cons_cons, ExTree] at h
    obtain ⟨V, hs, hst, hr⟩ := h
    obtain ⟨Vs, h1, h2, h3⟩ := ExTree.open l R _ (by simpa using hl) hr
    refine ⟨V :: Vs, by simp [h1], h2, fun i o' lo' hi' ef' V' hi1 hi2 hi3 => ?_⟩
    cases i with
    | zero =>
      simp only [List.getElem?_cons_zero, Option.some.injEq, Prod.mk.injEq] at hi1 hi2 hi3
      obtain ⟨rfl, rfl, rfl⟩ := hi2
      subst hi1 hi3
      exact ⟨hs, by simpa [exEnv] using hst⟩
    | succ i =>
      simp only [List.getElem?_cons_succ] at hi1 hi2 hi3
      exact h3 i o' lo' hi' ef' V' hi1 hi2 hi3

structure ExI (l : List Oper) (a0 : Act) (C : Nat → World → Prop) (E : List Nat) (R : List (Nat × Nat × Bool)) (Vs : List ExV) (L : Array Bool) (ac : Act) (wx : World) : Prop where
  good : Good l.toArray L
  defers : ac.defers = a0.defers
  size : ac.tmps.size = a0.tmps.size
  out : ∀ s, (exDsts l).contains s = false → ac.tmps[s]? = a0.tmps[s]?
  val : ∀ i o V, l[i]? = some o → Vs[i]? = some V → L.getD i false = true → V (exSeen ac (o.looksAt l.toArray)) (exVal ac o.dst) wx
  c : C (stg E L) wx
  st : ∀ (i lo hi : Nat) (ef : Bool), R[i]? = some (lo, hi, ef) → L.getD i false = true → (if ef then lo + 1 else lo) ≤ stg E L

theorem exPuts_get (ac : Act) : ∀ (l : List Oper) (a : Act), ac.tmps.size = a.tmps.size → ∀ s : Nat, s < a.tmps.size →
    (exPuts l (l.map fun o => match o.dst with | some d => ac.eval (.tmp d) | none => undef) a).tmps[s]? = if (exDsts l).contains s then some (ac.eval (.tmp s)) else a.tmps[s]?
  | [], a, _, s, _ => by simp [exPuts, exDsts]
  | o :: l, a, hs, s, hlt => by
    simp only [List.map_cons, exPuts]
    rw [exPuts_get ac l _ (by cases o.dst <;> simp [Act.put, hs]) s (by cases o.dst <;> simpa [Act.put] using hlt)]
    cases hd : o.dst with
    | none => simp [exDsts, hd, Act.put]
    | some d =>
      by_cases hds : d = s
      · subst hds
        simp [exDsts, hd, Act.put, hlt]
      · simp [exDsts, hd, Act.put, Array.getElem?_setIfInBounds_ne hds, Ne.symm hds]
theorem exPuts_size (l : List Oper) : ∀ (vs : List Value) (a : Act), (exPuts l vs a).tmps.size = a.tmps.size ∧ (exPuts l vs a).defers = a.defers := by
  induction l with
  | nil => intro vs a; simp [exPuts]
  | cons o l ih =>
    intro vs a
    cases vs with
    | nil => simp [exPuts]
    | cons v vs =>
      simp only [exPuts]
      obtain ⟨h1, h2⟩ := ih vs (a.put o.dst v)
      rw [h1, h2]
      cases o.dst <;> simp [Act.put]

theorem exSeen_put {ac : Act} {lk : List Tmp} {x : Option Tmp} {v : Value} (h : ∀ d, x = some d → d ∉ lk) : exSeen (ac.put x v) lk = exSeen ac lk := by
  funext s
  unfold exSeen
  by_cases hs : lk.contains s
  · rw [if_pos hs, if_pos hs]
    exact Act.eval_put (fun d hd hx => by cases hx; exact h _ hd (by simpa using hs))
  · rw [if_neg hs, if_neg hs]

theorem exPut_eval {ac : Act} {d : Tmp} {v : Value} (h : d < ac.tmps.size) : (ac.put (some d) v).eval (.tmp d) = v := by
  simp [Act.put, Act.eval, h]

theorem exAll_of (b : Act) (w : World) : ∀ (l : List Oper) (Vs : List ExV) (env : ExEnv), exAll b w env →
    (∀ (i : Nat) (o : Oper) (V : ExV), l[i]? = some o → Vs[i]? = some V → V (exSeen b (o.looksAt ops)) (exVal b o.dst) w) → exAll b w (exEnv ops l Vs env)
  | [], _, env, h, _ => by simpa [exEnv] using h
  | o :: l, [], env, h, _ => by simpa [exEnv] using h
  | o :: l, V :: Vs, env, h, hv => by
    exact exAll_of b w l Vs _ ⟨hv 0 o V (by simp) (by simp), h⟩ (fun i o' V' h1 h3 => hv (i + 1) o' V' (by simpa using h1) (by simpa using h3))

set_option maxHeartbeats 1000000 in
/-- A region that draws its order. E, R: as in 'wp_region_stage'; Rel: what each operation does to the world, at most. -/
theorem wp_region_ex {id : Nat} {Q : Exit → Act → World → Prop} {a : Act} {w : World} {l : List Oper} (C : Nat → World → Prop) (Rel : Nat → World → World → Prop) (E : List Nat) (R : List (Nat × Nat × Bool)) (ds : List Tmp) (hm : P.follows .mixedOrders = true)
    (hds : exDsts l = ds) (hS : stB l.toArray E R = true) (hD : exDepB l (Region.before l.toArray) a.tmps.size = true) (hC : C 0 w.drew)
    (h : ExTree P l.toArray a ds C Rel (fun env => ∀ us w', us.length = l.length → C E.length w' → exAll (exPuts l us a) w' env → Q .normal (exPuts l us a) w') (l.zip R) []) :
    (Code.region id l.toArray true).wp P Q a w := by
  subst hds
  simp only [stB, Bool.and_eq_true, decide_eq_true_eq] at hS
  obtain ⟨⟨⟨⟨s1, s2⟩, s3⟩, s4⟩, s5⟩ := hS
  have hE : ∀ e ∈ E, e < l.toArray.size := fun e he => by simpa using (List.all_eq_true.1 s2) e he
  have hn := nodupB_spec s3
  obtain ⟨Vs, hVl, hQ, hV⟩ := ExTree.open l R [] (by simpa using s4) h
  clear h
  have h00 : stg E (Array.replicate l.length false) = 0 := by
    unfold stg
    rw [List.countP_eq_zero]
    intro e he
    have := hE e he
    simp only [List.size_toArray] at this
    simp [this]
  have hG0 : Good l.toArray (Array.replicate l.length false) := ⟨by simp, fun j o hj hl => by
    have := (Array.getElem?_eq_some_iff.1 hj).1
    simp only [List.size_toArray] at this
    simp [this] at hl⟩
  have hrows : ∀ (R : List (Nat × Nat × Bool)) (i0 i : Nat) (lo hi : Nat) (ef : Bool), rowsB E (Region.before l.toArray) R i0 = true → R[i]? = some (lo, hi, ef) →
      lo ≤ loOf E (Region.before l.toArray) (i0 + i) ∧ hiOf E (Region.before l.toArray) (i0 + i) ≤ hi ∧ ef = E.contains (i0 + i) := by
    intro R
    induction R with
    | nil => intro i0 i lo hi ef _ h; simp at h
    | cons r R ih =>
      intro i0 i lo hi ef hr hi'
      obtain ⟨lo', hi'', ef'⟩ := r
      simp only [rowsB, Bool.and_eq_true, decide_eq_true_eq, beq_iff_eq] at hr
      cases i with
      | zero =>
        simp only [List.getElem?_cons_zero, Option.some.injEq, Prod.mk.injEq] at hi'
        obtain ⟨rfl, rfl, rfl⟩ := hi'
        exact ⟨hr.1.1.1, hr.1.1.2, hr.1.2⟩
      | succ i =>
        have := ih (i0 + 1) i lo hi ef hr.2 (by simpa using hi')
        rwa [show i0 + 1 + i = i0 + (i + 1) by omega] at this
  have step : ∀ (i : Nat) (o : Oper), l[i]? = some o → ∀ (L : Array Bool) (ac : Act) (wx : World), i ∈ Region.ready .any l.toArray L → ExI l a C E R Vs L ac wx →
      wpOp P l.toArray Q i (fun a' w' => ExI l a C E R Vs (L.setIfInBounds i true) a' w') ac wx := by
    intro i o ho L ac wx hr hI
    have hoa : l.toArray[i]? = some o := by simpa using ho
    obtain ⟨hun, o', ho', hall⟩ := mem_ready.1 hr
    rw [hoa] at ho'
    cases ho'
    have hil : i < l.length := (List.getElem?_eq_some_iff.1 ho).1
    have hunf := getD_false_of_true hun
    obtain ⟨r, hri⟩ : ∃ r, R[i]? = some r := ⟨R[i]'(by rw [s4]; simpa using hil), List.getElem?_eq_getElem _⟩
    obtain ⟨lo, hi, ef⟩ := r
    obtain ⟨V, hvi⟩ : ∃ V, Vs[i]? = some V := ⟨Vs[i]'(by omega), List.getElem?_eq_getElem _⟩
    obtain ⟨hst, hstep⟩ := hV i o lo hi ef V ho hri hvi
    obtain ⟨b1, b2⟩ := stg_bounds s1 hE hI.good hr
    obtain ⟨q1, q2, q3⟩ := hrows R 0 i lo hi ef s5 hri
    rw [Nat.zero_add] at q1 q2 q3
    have hsz : i < L.size := by rw [hI.good.size]; simpa using hil
    have hk : stg E (L.setIfInBounds i true) = if ef then stg E L + 1 else stg E L := by rw [stg_set hn hsz hunf, q3]
    have hdep : ∀ j oj d, l[j]? = some oj → oj.dst = some d → d ∈ o.looksAt l.toArray → L.getD j false = true := by
      intro j oj d hj hd hm
      have hjl : j < l.length := (List.getElem?_eq_some_iff.1 hj).1
      have := ((exDepB_spec hD hj hd).2 i o ho).2 hm
      exact anc_listed s1 hI.good i i o (Nat.le_refl _) hoa hall j (by simpa using hjl) this.2
    have key := hstep wx ac (stg E L) (by omega) (by omega) hI.c
      (fun s hs => by have := hI.out s hs; simp only [Act.eval, Array.getD_eq_getD_getElem?, this])
      (fun s lk' V' hs hg => by
        rcases exGet_env _ _ _ _ _ _ hg with h1 | ⟨j, oj, h1, h2, h3, h4⟩
        · simp [exGet] at h1
        · have hji : j < i := by
            have h5 := (List.getElem?_eq_some_iff.1 h1).1
            simp only [List.length_take] at h5
            omega
          rw [List.getElem?_take, if_pos hji] at h1 h2
          subst h4
          have hvv := hI.val j oj V' h1 h2 (hdep j oj s h1 h3 (by simpa using hs))
          rw [h3] at hvv
          exact hvv)
    rw [← hk] at key
    have fin : ∀ v w', (o.dst = none → v = undef) → V (exSeen ac (o.looksAt l.toArray)) v w' → C (stg E (L.setIfInBounds i true)) w' → Rel (stg E L) wx w' → ExI l a C E R Vs (L.setIfInBounds i true) (ac.put o.dst v) w' := by
      intro v w' hnv hv hc hrel
      refine ⟨hI.good.set hr, ?_, ?_, ?_, ?_, hc, ?_⟩
      · rw [← hI.defers]; cases o.dst <;> rfl
      · rw [← hI.size]; cases o.dst <;> simp [Act.put]
      · intro s hs
        rw [← hI.out s hs]
        cases hd : o.dst with
        | none => rfl
        | some d =>
          have hne : d ≠ s := by
            rintro rfl
            have : d ∈ exDsts l := List.mem_filterMap.2 ⟨o, List.mem_of_getElem? ho, hd⟩
            simp [this] at hs
          simp [Act.put, Array.getElem?_setIfInBounds_ne hne]
      · intro j oj V' hj hvj hl
        by_cases hji : j = i
        · subst hji
          rw [ho] at hj; cases hj
          rw [hvi] at hvj; cases hvj
          cases hd : o.dst with
          | none =>
            rw [hd] at hnv
            rw [hnv rfl] at hv
            simpa [Act.put, exVal] using hv
          | some d =>
            have sp := exDepB_spec hD ho hd
            simp only [exVal]
            rw [exSeen_put (fun d' hd' => by cases hd'; exact fun hm => (((sp.2 j o ho).2 hm).1 rfl)), exPut_eval (by rw [hI.size]; exact sp.1)]
            exact hv
        · rw [getD_set_ne false (Ne.symm hji)] at hl
          have hjl : j < l.length := (List.getElem?_eq_some_iff.1 hj).1
          have hvs : exVal (ac.put o.dst v) oj.dst = exVal ac oj.dst := by
            cases hd : oj.dst with
            | none => rfl
            | some d =>
              simp only [exVal]
              rw [Act.eval_put]
              intro d' hd' he
              cases he
              exact (((exDepB_spec hD ho hd').2 j oj hj).1.resolve_left hji) hd
          rw [hvs, exSeen_put]
          · obtain ⟨rj, hrj⟩ : ∃ r, R[j]? = some r := ⟨R[j]'(by rw [s4]; simpa using hjl), List.getElem?_eq_getElem _⟩
            obtain ⟨loj, hij, efj⟩ := rj
            exact (hV j oj _ _ _ V' hj hrj hvj).1 _ (hI.st j loj hij efj hrj hl) _ _ _ _ (hI.val j oj V' hj hvj hl) hrel
          · intro d' hd' hm
            have := ((exDepB_spec hD ho hd').2 j oj hj).2 hm
            have hl2 := anc_listed s1 hI.good j j oj (Nat.le_refl _) (by simpa using hj) (hI.good.down j oj (by simpa using hj) hl) i (by simpa using hil) this.2
            rw [hunf] at hl2
            cases hl2
      · intro j loj hij efj hrj hl
        rw [hk]
        by_cases hji : j = i
        · subst hji
          rw [hri] at hrj
          obtain ⟨rfl, rfl, rfl⟩ : lo = loj ∧ hi = hij ∧ ef = efj := by simpa using hrj
          split <;> omega
        · rw [getD_set_ne false (Ne.symm hji)] at hl
          exact Nat.le_trans (hI.st j loj hij efj hrj hl) (by split <;> omega)
    have fin0 : ∀ v w', V (exSeen ac (o.looksAt l.toArray)) (if o.dst.isSome then v else undef) w' → C (stg E (L.setIfInBounds i true)) w' → Rel (stg E L) wx w' → ExI l a C E R Vs (L.setIfInBounds i true) (ac.put o.dst v) w' := by
      intro v w' q1 q2 q3
      have := fin (if o.dst.isSome then v else undef) w' (fun hn => by rw [hn]; rfl) q1 q2 q3
      cases hd : o.dst with
      | none => rw [hd] at this; simpa [Act.put] using this
      | some d => rw [hd] at this; simpa using this
    unfold wpOp
    simp only [hoa]
    by_cases hw : Region.wanted o (yielded l.toArray ac.tmps) = true
    · rw [if_pos hw] at key ⊢
      refine .inl ?_
      unfold Oper.wp
      generalize (execOp ac.eval o).run P wx = r at *
      cases r with
      | ok n w' =>
        cases n <;> simp only [invUpon] at key <;> simp only [Oper.upon]
        case value u => exact fin0 _ _ key.1 key.2.1 key.2.2
        case skip => exact fin0 _ _ key.1 key.2.1 key.2.2
        case enter f args => exact key.mono fun e w'' ⟨v, he, hk1, hk2, hk3⟩ => by subst he; exact fin0 _ _ hk1 hk2 hk3
      | halt x w' => simp only [invUpon] at key
    · rw [if_neg hw] at key ⊢
      exact fin _ _ (fun _ => rfl) key.1 key.2.1 key.2.2
  refine wp_region_any hm (wpAny_of_inv (I := ExI l a C E R Vs) (fun L ac wx i hG hi h => ?_) (fun L ac wx hG hr hI => ?_) _ _ _ _ (by unfold unl; exact Nat.le_trans (Array.countP_le_size) (by simp)) (by simpa using hG0) ?_)
  · obtain ⟨_, o, ho, _⟩ := mem_ready.1 hi
    exact step i o (by simpa using ho) L ac wx hi h
  · have hall : ∀ j, j < l.length → L.getD j false = true := fun j hj => all_listed s1 hG hr j j (Nat.le_refl _) (by simpa using hj)
    have hput : exPuts l (l.map fun o => match o.dst with | some d => ac.eval (.tmp d) | none => undef) a = ac := by
      obtain ⟨z1, z2⟩ := exPuts_size l (l.map fun o => match o.dst with | some d => ac.eval (.tmp d) | none => undef) a
      have ht : (exPuts l (l.map fun o => match o.dst with | some d => ac.eval (.tmp d) | none => undef) a).tmps = ac.tmps := by
        apply Array.ext_getElem?
        intro s
        by_cases hs : s < a.tmps.size
        · rw [exPuts_get ac l a hI.size s hs]
          by_cases hm : (exDsts l).contains s = true
          · rw [if_pos hm]
            have : s < ac.tmps.size := by rw [hI.size]; exact hs
            simp [Act.eval, this]
          · rw [if_neg hm, hI.out s (by simpa using hm)]
        · rw [Array.getElem?_eq_none (by omega), Array.getElem?_eq_none (by rw [hI.size]; omega)]
      cases ac with
      | mk t d =>
        cases hx : exPuts l (l.map fun o => match o.dst with | some d' => (Act.mk t d).eval (.tmp d') | none => undef) a with
        | mk t' d' =>
          rw [hx] at ht z2
          simp only at ht z2
          have hdf := hI.defers
          simp only at hdf
          rw [ht, z2, ← hdf]
    rw [← hput]
    refine hQ _ wx (by simp) ?_ ?_
    · have : stg E L = E.length := by
        unfold stg
        rw [List.countP_eq_length]
        intro e he
        exact hall e (by simpa using hE e he)
      rw [← this]
      exact hI.c
    · rw [hput]
      exact exAll_of ac wx l Vs [] trivial (fun i o V h1 h3 => hI.val i o V h1 h3 (hall i (List.getElem?_eq_some_iff.1 h1).1))
  · exact ⟨by simpa using hG0, rfl, rfl, fun _ _ => rfl, fun i o V h1 _ hl => by
      have := (List.getElem?_eq_some_iff.1 h1).1
      simp [this] at hl, by simpa [h00] using hC, fun i lo hi ef h1 hl => by
      have h2 := (List.getElem?_eq_some_iff.1 h1).1
      rw [s4] at h2
      simp only [List.size_toArray] at h2
      simp [h2] at hl⟩

theorem wanted_guard {o : Oper} {g : Nat} {want : Bool} {d : Tmp} {x : Bool} (b : Act) (hg : o.guard = some (g, want)) (hd : (ops[g]?).bind (·.dst) = some d) (he : b.eval (.tmp d) = .bool x) : Region.wanted o (yielded ops b.tmps) = (x == want) := by
  have ht : b.tmps[d]? = some (.bool x) := by
    simp only [Act.eval, Array.getD_eq_getD_getElem?] at he
    cases hh : b.tmps[d]? with
    | none => rw [hh] at he; simp [undef] at he
    | some v => rw [hh] at he; simpa using he
  have hy : yielded ops b.tmps g = some x := by
    unfold yielded
    rw [hd]
    simp [ht]
  unfold Region.wanted
  rw [hg]
  simp [hy]

/-- What is known at an operation: the world and the slots that it looks at. -/
def ExAt (a0 : Act) (ds : List Tmp) (C : Nat → World → Prop) (env : ExEnv) (lo hi : Nat) (lk : List Tmp) (F : World → Act → Nat → Prop) : Prop :=
  ∀ (wx : World) (b : Act) (k : Nat), lo ≤ k → k ≤ hi → C k wx → (∀ s, ds.contains s = false → b.eval (.tmp s) = exSlot a0 s) →
    (∀ s lk' V', lk.contains s = true → exGet env s = some (lk', V') → V' (exSeen b lk') (b.eval (.tmp s)) wx) → F wx b k

/-- An operation with a value that is known (x). -/
theorem ex_det {ds : List Tmp} {Q : ExEnv → Prop} {o : Oper} {lo hi : Nat} {ef : Bool} {rest : List (Oper × Nat × Nat × Bool)} {env : ExEnv} (d : Tmp) (lk : List Tmp) (hd : o.dst = some d) (hlk : o.looksAt ops = lk)
    (hw : ExAt a0 ds C env lo hi lk fun _ b _ => Region.wanted o (yielded ops b.tmps) = true)
    (h : ∃ x, (ExAt a0 ds C env lo hi lk fun wx b k => ∀ K : Value → World → Prop, (∀ w', C (if ef then k + 1 else k) w' → Rel k wx w' → K x w') → invUpon P K ((execOp b.eval o).run P wx)) ∧
      ExTree P ops a0 ds C Rel Q rest ((some d, lk, fun _ v _ => v = x) :: env)) :
    ExTree P ops a0 ds C Rel Q ((o, lo, hi, ef) :: rest) env := by
  obtain ⟨x, h1, h2⟩ := h
  refine ⟨fun _ v _ => v = x, fun _ _ _ _ _ _ hv _ => hv, fun wx b k k1 k2 hc hb hdp => ?_, by rw [hd]; simpa [hlk] using h2⟩
  rw [hlk] at hdp
  rw [if_pos (hw wx b k k1 k2 hc (fun s hs => (hb s hs).trans (exSlot_eq a0 s).symm) hdp)]
  exact h1 wx b k k1 k2 hc (fun s hs => (hb s hs).trans (exSlot_eq a0 s).symm) hdp _ (fun w' q1 q2 => ⟨by rw [hd]; rfl, q1, q2⟩)
/-- .. that is passed by. -/
theorem ex_pass {ds : List Tmp} {Q : ExEnv → Prop} {o : Oper} {lo hi : Nat} {rest : List (Oper × Nat × Nat × Bool)} {env : ExEnv} (d : Tmp) (lk : List Tmp) (hd : o.dst = some d) (hlk : o.looksAt ops = lk) (hr : ∀ k w, Rel k w w)
    (hw : ExAt a0 ds C env lo hi lk fun _ b _ => Region.wanted o (yielded ops b.tmps) = false)
    (h2 : ExTree P ops a0 ds C Rel Q rest ((some d, lk, fun _ v _ => v = undef) :: env)) :
    ExTree P ops a0 ds C Rel Q ((o, lo, hi, false) :: rest) env := by
  refine ⟨fun _ v _ => v = undef, fun _ _ _ _ _ _ hv _ => hv, fun wx b k k1 k2 hc hb hdp => ?_, by rw [hd]; simpa [hlk] using h2⟩
  rw [hlk] at hdp
  rw [if_neg (by rw [hw wx b k k1 k2 hc (fun s hs => (hb s hs).trans (exSlot_eq a0 s).symm) hdp]; decide)]
  exact ⟨rfl, hc, hr _ _⟩
/-- .. whose value is told by V alone. -/
theorem ex_any {ds : List Tmp} {Q : ExEnv → Prop} {o : Oper} {lo hi : Nat} {ef : Bool} {rest : List (Oper × Nat × Nat × Bool)} {env : ExEnv} (V : ExV) (d : Tmp) (lk : List Tmp) (hd : o.dst = some d) (hlk : o.looksAt ops = lk)
    (hw : ExAt a0 ds C env lo hi lk fun _ b _ => Region.wanted o (yielded ops b.tmps) = true)
    (hs : ∀ k, (if ef then lo + 1 else lo) ≤ k → ∀ g v w w', V g v w → Rel k w w' → V g v w')
    (h1 : ExAt a0 ds C env lo hi lk fun wx b k => ∀ K : Value → World → Prop, (∀ v w', V (exSeen b lk) v w' → C (if ef then k + 1 else k) w' → Rel k wx w' → K v w') → invUpon P K ((execOp b.eval o).run P wx))
    (h2 : ExTree P ops a0 ds C Rel Q rest ((some d, lk, V) :: env)) :
    ExTree P ops a0 ds C Rel Q ((o, lo, hi, ef) :: rest) env := by
  refine ⟨V, hs, fun wx b k k1 k2 hc hb hdp => ?_, by rw [hd]; simpa [hlk] using h2⟩
  rw [hlk] at hdp
  rw [if_pos (hw wx b k k1 k2 hc (fun s hs => (hb s hs).trans (exSlot_eq a0 s).symm) hdp), hlk]
  exact h1 wx b k k1 k2 hc (fun s hs => (hb s hs).trans (exSlot_eq a0 s).symm) hdp _ (fun v w' q0 q1 q2 => ⟨by rw [hd]; exact q0, q1, q2⟩)
/-- .. that yields no value (a store); V: what it leaves. -/
theorem ex_unit {ds : List Tmp} {Q : ExEnv → Prop} {o : Oper} {lo hi : Nat} {ef : Bool} {rest : List (Oper × Nat × Nat × Bool)} {env : ExEnv} (V : (Tmp → Value) → World → Prop) (lk : List Tmp) (hd : o.dst = none) (hlk : o.looksAt ops = lk)
    (hw : ExAt a0 ds C env lo hi lk fun _ b _ => Region.wanted o (yielded ops b.tmps) = true)
    (hs : ∀ k, (if ef then lo + 1 else lo) ≤ k → ∀ g w w', V g w → Rel k w w' → V g w')
    (h1 : ExAt a0 ds C env lo hi lk fun wx b k => ∀ K : World → Prop, (∀ w', V (exSeen b lk) w' → C (if ef then k + 1 else k) w' → Rel k wx w' → K w') → invUpon P (fun _ w' => K w') ((execOp b.eval o).run P wx))
    (h2 : ExTree P ops a0 ds C Rel Q rest ((none, lk, fun g _ w => V g w) :: env)) :
    ExTree P ops a0 ds C Rel Q ((o, lo, hi, ef) :: rest) env := by
  refine ⟨fun g _ w => V g w, fun k hk g _ w w' hv hr => hs k hk g w w' hv hr, fun wx b k k1 k2 hc hb hdp => ?_, by rw [hd]; simpa [hlk] using h2⟩
  rw [hlk] at hdp
  rw [if_pos (hw wx b k k1 k2 hc (fun s hs => (hb s hs).trans (exSlot_eq a0 s).symm) hdp), hlk]
  exact h1 wx b k k1 k2 hc (fun s hs => (hb s hs).trans (exSlot_eq a0 s).symm) hdp _ (fun w' q0 q1 q2 => ⟨q0, q1, q2⟩)
theorem ex_end {ds : List Tmp} {Q : ExEnv → Prop} {env : ExEnv} (h : Q env) : ExTree P ops a0 ds C Rel Q [] env := h
end
end Go.Proofs.YtpfglmlpodjneaaGreat
namespace Go.Proofs.YtpfglmlpodjneaaGreat
open Go.RowKit

theorem und_bytes : Tryz.prog.underlying 37 = some (.slice 5) := by kernel_rfl
theorem und_u8 : Tryz.prog.underlying 5 = some (.int .u8) := by kernel_rfl
theorem und_str : Tryz.prog.underlying 9 = some .string := by kernel_rfl
theorem info_u8 : (Tryz.prog.info? 5).map (fun i => (i.zero, i.size, i.bytes)) = some (some (.int .u8 0), 1, 1) := by kernel_rfl

/-- The value v is a slice of the call's own, of the bytes L; it lies at 'base' or behind. -/
def BRow (w : World) (base : Nat) (v : Value) (L : List Int) : Prop := w.ownsRow base 5 1 v L.length (L.map (Value.int .u8))

theorem BRow.keep {S : List Nat} {w w' : World} {base : Nat} {v : Value} {L : List Int} (h : BRow w base v L) (hX : Chg S w w') (hS : ∀ b ∈ S, b < base) : BRow w' base v L := by
  refine ⟨h.1, ?_⟩
  rcases h.2 with hn | ⟨g, cap, cur, rfl, hb, hgg, rest⟩
  · exact .inl hn
  · refine .inr ⟨g, cap, cur, rfl, hb, ?_, rest⟩
    rw [hX.block g (Array.getElem?_eq_some_iff.1 hgg).1 (fun hm => by have := hS g hm; omega)]
    exact hgg
theorem BRow.alloc {w : World} {base : Nat} {v : Value} {L : List Int} (h : BRow w base v L) (o : Obj) : BRow (w.alloc o) base v L := World.ownsRow.alloc h o
theorem BRow.lit (w : World) (base : Nat) (L : List Int) (cs : Array Value) (n : Nat) (hc : cs = (L.map (Value.int .u8)).toArray) (hn : L.length = n) (hb : base ≤ w.heap.size) (hm : n ≤ 1000000) :
    BRow (w.alloc (.cells cs 5)) base (.slice (some ⟨w.heap.size, 0, none⟩) n n) L := by
  subst hc hn
  have := World.ownsRow_lit (base := base) (e := 5) (size := 1) w (L.map (Value.int .u8)).toArray L.length hb (by unfold maxLen; omega) (by simp)
  simpa [BRow] using this
/-- What an append leaves of the others. -/
theorem BRow.grown {S : List Nat} {a w w' : World} {base : Nat} {v : Value} {L : List Int} (h : BRow w base v L) (hX : Chg S a w) (g : w.grownBy w' v.ownBlock) (hb : a.heap.size ≤ base) : Chg S a w' :=
  ⟨g.os.trans hX.os, g.tape.trans hX.tape, g.output.trans hX.output, Nat.le_trans hX.size g.size,
    fun k hk hn => (g.block k (Nat.lt_of_lt_of_le hk hX.size) (fun e => by have := (World.ownsRow.lt h k e.symm).1; omega)).trans (hX.block k hk hn)⟩
theorem BRow.far {w w' : World} {base : Nat} {v : Value} {L : List Int} (h : BRow w base v L) (g : w.grownBy w' v.ownBlock) {b : Nat} {cs : Array Value} (hA : At w b cs) (hb : b < base) : At w' b cs := by
  have hl := hA.lt
  obtain ⟨T, hA⟩ := hA
  exact ⟨T, (g.block b hl (fun e => by have := (World.ownsRow.lt h b e.symm).1; omega)).trans hA⟩

theorem wpList_app {ops : Array Oper} {rest : List Oper} {o : Oper} {a : Act} {Q : Exit → Act → World → Prop} {w : World} (hgd : o.guard = none) (s x : Operand)
    (ho : o.op = .call { callee := .builtin .append, args := #[s, x], argTypes := #[37, 37] })
    {base : Nat} {v : Value} {L : List Int} (hs : a.eval s = v) (hr : BRow w base v L) {bx m c : Nat} {M : List Int} (hx : a.eval x = .slice (some ⟨bx, 0, none⟩) m c)
    {cs : Array Value} (hA : At w bx cs) (hcs : cs = (M.map (Value.int .u8)).toArray) (hm : M.length = m) (h63 : L.length + m ≤ 1000000) (hb : base ≤ w.heap.size)
    (h : ∀ v' w', BRow w' base v' (L ++ M) → w.grownBy w' v.ownBlock → wpList Tryz.prog ops Q rest (a.put o.dst v') w') : wpList Tryz.prog ops Q (o :: rest) a w := by
  obtain ⟨i, hi, hz, hz1, hz2⟩ := info_parts info_u8
  subst hcs hm
  refine wpList_append_own w hgd s x 37 ho base 5 i (.int .u8 0) 1 1 und_bytes hi hz hz1 hz2 rfl (by decide) v L.length (L.map (Value.int .u8)) hs hr ⟨bx, 0, none⟩ M.length c (M.map (Value.int .u8)) hx (by simp) ?_ ?_ (by unfold maxLen; omega) (by omega) hb ?_
  · intro j u hu
    have hadd : (⟨bx, 0, none⟩ : Addr).add j = ⟨bx, j, none⟩ := by unfold Addr.add; split <;> simp_all
    rw [hadd, hA.cell j]
    simpa using hu
  · intro u hu
    simp only [List.mem_map] at hu
    obtain ⟨n, _, rfl⟩ := hu
    rfl
  · intro v' w' h1 h2 _
    refine h v' w' ?_ h2
    unfold BRow
    rw [List.length_append, List.map_append]
    exact h1

theorem BRow.form {w : World} {base : Nat} {v : Value} {L : List Int} (h : BRow w base v L) (hn : 0 < L.length) : ∃ g cap, v = .slice (some ⟨g, 0, none⟩) L.length cap := Joins.ownsRow_form h hn
/-- The string of its bytes. -/
theorem BRow.string {w : World} {base g cap : Nat} {L : List Int} (h : BRow w base (.slice (some ⟨g, 0, none⟩) L.length cap) L) :
    (convert 37 9 (.slice (some ⟨g, 0, none⟩) L.length cap)).run Tryz.prog w = .ok (.string (strOfNums L)) w := by
  refine run_convert_bytes_arg w 37 5 und_bytes und_u8 g 0 L.length cap L rfl (fun i hi => ?_) 9 und_str
  have := World.ownsRow.cellAt h i (by omega)
  rw [Nat.zero_add, this]
  simp [List.getD, hi]
/-- A block that begins with a number of another kind is not the row's. -/
theorem BRow.other {w w' : World} {base : Nat} {v : Value} {L : List Int} (h : BRow w base v L) (g : w.grownBy w' v.ownBlock) (h0 : 0 < L.length) {b : Nat} {cs : Array Value} (hA : At w b cs) {n : Int} (hc : cs[0]? = some (.int .i64 n)) : At w' b cs := by
  have hne : some b ≠ v.ownBlock := fun e => by
    have h1 := World.ownsRow.cells h e.symm 0 (.int .u8 (L[0])) (by simp [h0])
    have hadd : (⟨b, 0, none⟩ : Addr).add 0 = ⟨b, 0, none⟩ := by unfold Addr.add; split <;> simp_all
    rw [hadd, hA.cell 0, hc] at h1
    simp at h1
  have hl := hA.lt
  obtain ⟨T, hA⟩ := hA
  exact ⟨T, (g.block b hl hne).trans hA⟩
/-- What it looks like, and the string that it makes. -/
theorem BRow.out {w : World} {base : Nat} {v : Value} {L : List Int} (h : BRow w base v L) {k : Nat} (hk : L.length = k) (h0 : 0 < k) :
    ∃ g cap, v = .slice (some ⟨g, 0, none⟩) k cap ∧ (convert 37 9 (.slice (some ⟨g, 0, none⟩) k cap)).run Tryz.prog w = .ok (.string (strOfNums L)) w := by
  subst hk
  obtain ⟨g, cap, rfl⟩ := h.form h0
  exact ⟨g, cap, rfl, h.string⟩
end Go.Proofs.YtpfglmlpodjneaaGreat
