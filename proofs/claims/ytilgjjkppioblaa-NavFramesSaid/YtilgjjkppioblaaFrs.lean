/- Package frame: the stream: rows of frames, New, drop, Left, Dropped. -/
import Derived.Test.YtilgjjkppioblaaFrr
import Derived.Test.YtilgjjkppioblaaCount
namespace Go.Proofs.Ytilgjjkppioblaa
open Go.RowKit

/-! ### What is scanned, in plain words -/
def scan (s : ByteArray) : List FV × ByteArray × Nat :=
  if h : s.size = 0 then ([], s, 0)
  else if (fread s).e = 5 then ([], s, 0)
  else if (fread s).e = 0 then
    let q := scan (s.extract (6 + lenF s) s.size)
    (frmF s :: q.1, q.2.1, q.2.2)
  else
    let q := scan (s.extract 1 s.size)
    (q.1, q.2.1, q.2.2 + 1)
termination_by s.size
decreasing_by all_goals (simp; omega)

theorem scan_none {s : ByteArray} (h : s.size = 0) : scan s = ([], s, 0) := by rw [scan, dif_pos h]
theorem scan_short {s : ByteArray} (h : (fread s).e = 5) : scan s = ([], s, 0) := by
  by_cases hz : s.size = 0
  · exact scan_none hz
  · rw [scan, dif_neg hz, if_pos h]
theorem scan_frame {s : ByteArray} (hz : s.size ≠ 0) (h : (fread s).e = 0) : scan s = (frmF s :: (scan (s.extract (6 + lenF s) s.size)).1, (scan (s.extract (6 + lenF s) s.size)).2.1, (scan (s.extract (6 + lenF s) s.size)).2.2) := by
  rw [scan, dif_neg hz, if_neg (by rw [h]; decide), if_pos h]
theorem scan_drop {s : ByteArray} (hz : s.size ≠ 0) (h : (fread s).e ≠ 5) (h0 : (fread s).e ≠ 0) : scan s = ((scan (s.extract 1 s.size)).1, (scan (s.extract 1 s.size)).2.1, (scan (s.extract 1 s.size)).2.2 + 1) := by
  rw [scan, dif_neg hz, if_neg h, if_neg h0]
/-- What can be read: four kinds. -/
theorem fread_kinds (s : ByteArray) : (fread s).e = 3 ∧ (fread s).f = FV.none ∧ (fread s).n = 0 ∨ (fread s).e = 5 ∧ (fread s).f = FV.none ∧ (fread s).n = 0 ∨ (fread s).e = 4 ∧ (fread s).f = FV.none ∧ (fread s).n = 0 ∨
    (fread s).e = 0 ∧ (fread s).f = frmF s ∧ (fread s).n = 6 + lenF s := by
  unfold fread
  split
  · simp
  · split
    · simp
    · split <;> simp
theorem fread_five {s : ByteArray} (h : (fread s).e = 5) : badF s = false ∧ shortF s = true := by
  unfold fread at h
  split at h
  · cases h
  · rename_i hb
    split at h
    · rename_i hs
      exact ⟨by simpa using hb, hs⟩
    · split at h <;> cases h
theorem fread_zero {s : ByteArray} (h : (fread s).e = 0) : badF s = false ∧ shortF s = false ∧ sumF s = true := by
  unfold fread at h
  split at h
  · cases h
  · rename_i hb
    split at h
    · cases h
    · rename_i hs
      split at h
      · rename_i hq
        exact ⟨by simpa using hb, by simpa using hs, hq⟩
      · cases h
theorem fread_len {s : ByteArray} (h : (fread s).e = 0) : 6 + lenF s ≤ s.size ∧ lenF s ≤ 64 := by
  obtain ⟨hb, hs, -⟩ := fread_zero h
  have h1 : ¬(s.size < 4 ∨ (s.size : Int) < 6 + by_ s 3) := fun h => by rw [(short_iff s).2 h] at hs; cases hs
  have hl := lenF_eq s
  have hn := bad_no hb
  omega
/-- What waits is short. -/
theorem short_size {s : ByteArray} (h : (fread s).e = 5) : s.size < 70 := by
  obtain ⟨hb, hs⟩ := fread_five h
  have h1 := (short_iff s).1 hs
  have hn := bad_no hb
  omega
theorem scan_wait (n : Nat) : ∀ s : ByteArray, s.size ≤ n → (scan s).2.1.size = 0 ∨ (fread (scan s).2.1).e = 5 := by
  induction n with
  | zero => intro s h; rw [scan_none (by omega)]; exact Or.inl (by show s.size = 0; omega)
  | succ n ih =>
    intro s h
    by_cases hz : s.size = 0
    · rw [scan_none hz]; exact Or.inl hz
    by_cases h5 : (fread s).e = 5
    · rw [scan_short h5]; exact Or.inr h5
    by_cases h0 : (fread s).e = 0
    · rw [scan_frame hz h0]; exact ih _ (by simp; omega)
    · rw [scan_drop hz h5 h0]; exact ih _ (by simp; omega)

/-! ### Rows of frames -/
def fcells (L : List FV) : List Value := L.flatMap fun f => [.int .i64 f.k, .string f.p]
theorem fcells_len (L : List FV) : (fcells L).length = L.length * 2 := by
  induction L with
  | nil => rfl
  | cons f l ih =>
    show (_ :: _ :: fcells l).length = _
    simp only [List.length_cons, ih]
    omega
theorem fcells_app (L M : List FV) : fcells (L ++ M) = fcells L ++ fcells M := List.flatMap_append
/-- The value v is a slice of the call's own, of these frames; e is the frames' type. -/
def FRow (w : World) (base : Nat) (e : TypeId) (v : Value) (L : List FV) : Prop := w.ownsRow base e 2 v L.length (fcells L)
theorem FRow.keep {S : List Nat} {w w' : World} {base : Nat} {e : TypeId} {v : Value} {L : List FV} (h : FRow w base e v L) (hX : Chg S w w') (hS : ∀ b ∈ S, b < base) : FRow w' base e v L := by
  refine ⟨h.1, ?_⟩
  rcases h.2 with hn | ⟨g, cap, cur, rfl, hb, hgg, rest⟩
  · exact .inl hn
  · refine .inr ⟨g, cap, cur, rfl, hb, ?_, rest⟩
    rw [hX.block g (Array.getElem?_eq_some_iff.1 hgg).1 (fun hm => by have := hS g hm; omega)]
    exact hgg
theorem FRow.alloc {w : World} {base : Nat} {e : TypeId} {v : Value} {L : List FV} (h : FRow w base e v L) (o : Obj) : FRow (w.alloc o) base e v L := World.ownsRow.alloc h o
theorem FRow.set {w : World} {base : Nat} {e : TypeId} {v : Value} {L : List FV} (h : FRow w base e v L) {a : Addr} (ha : a.block < base) (u : Value) : FRow (w.setCell a u) base e v L :=
  h.keep (S := [a.block]) ((Chg.refl _ _).setCell (by simp) u) (by simpa using ha)
theorem FRow.mono {w : World} {base base' : Nat} {e : TypeId} {v : Value} {L : List FV} (h : FRow w base e v L) (hb : base' ≤ base) : FRow w base' e v L := Joins.ownsRow_le h hb
theorem FRow.grown {S : List Nat} {a w w' : World} {base : Nat} {e : TypeId} {v : Value} {L : List FV} (h : FRow w base e v L) (hX : Chg S a w) (g : w.grownBy w' v.ownBlock) (hb : a.heap.size ≤ base) : Chg S a w' :=
  ⟨g.os.trans hX.os, g.tape.trans hX.tape, g.output.trans hX.output, Nat.le_trans hX.size g.size,
    fun k hk hn => (g.block k (Nat.lt_of_lt_of_le hk hX.size) (fun e => by have := (World.ownsRow.lt h k e.symm).1; omega)).trans (hX.block k hk hn)⟩
theorem FRow.far {w w' : World} {base : Nat} {e : TypeId} {v : Value} {L : List FV} (h : FRow w base e v L) (g : w.grownBy w' v.ownBlock) {b : Nat} {cs : Array Value} (hA : At w b cs) (hb : b < base) : At w' b cs := by
  have hl := hA.lt
  obtain ⟨T, hA⟩ := hA
  exact ⟨T, (g.block b hl (fun e => by have := (World.ownsRow.lt h b e.symm).1; omega)).trans hA⟩
theorem FRow.nil (w : World) (base : Nat) (e : TypeId) : FRow w base e (.slice none 0 0) [] := World.ownsRow_nil w base e 2
theorem und_fr : Try.prog.underlying 43 = some (.slice 38) := by kernel_rfl
theorem info_fr : (Try.prog.info? 38).map (fun i => (i.zero, i.size, i.bytes)) = some (some (.agg #[.int .i64 0, .string ByteArray.empty]), 2, 24) := by kernel_rfl
theorem wpList_fapp {ops : Array Oper} {rest : List Oper} {o : Oper} {a : Act} {Q : Exit → Act → World → Prop} {w : World} (hgd : o.guard = none) (s x : Operand) {t e : TypeId}
    (ht : Try.prog.underlying t = some (.slice e)) (hinfo : (Try.prog.info? e).map (fun i => (i.zero, i.size, i.bytes)) = some (some (.agg #[.int .i64 0, .string ByteArray.empty]), 2, 24))
    (ho : o.op = .call { callee := .builtin .append, args := #[s, x], argTypes := #[t, t] })
    {base : Nat} {v : Value} {L : List FV} (hs : a.eval s = v) (hr : FRow w base e v L) {bx c : Nat} {f : FV} (hx : a.eval x = .slice (some ⟨bx, 0, none⟩) 1 c)
    (hA : At w bx f.cells) (h63 : L.length ≤ 1000000) (hb : base ≤ w.heap.size)
    (h : ∀ v' w', FRow w' base e v' (L ++ [f]) → w.grownBy w' v.ownBlock → wpList Try.prog ops Q rest (a.put o.dst v') w') : wpList Try.prog ops Q (o :: rest) a w := by
  obtain ⟨i, hi, hz, hz1, hz2⟩ := info_parts hinfo
  refine wpList_append_own w hgd s x t ho base e i (.agg #[.int .i64 0, .string ByteArray.empty]) 2 24 ht hi hz hz1 hz2 rfl (by decide) v L.length (fcells L) hs hr ⟨bx, 0, none⟩ 1 c (fcells [f]) hx rfl ?_ ?_ (by unfold maxLen; omega) (by omega) hb ?_
  · intro j u hu
    have hadd : (⟨bx, 0, none⟩ : Addr).add j = ⟨bx, j, none⟩ := by unfold Addr.add; split <;> simp_all
    rw [hadd, hA.cell j]
    simpa [fcells, FV.cells] using hu
  · intro u hu
    simp only [fcells, List.flatMap_cons, List.flatMap_nil, List.append_nil, List.mem_cons, List.not_mem_nil, or_false] at hu
    rcases hu with rfl | rfl <;> rfl
  · intro v' w' h1 h2 _
    refine h v' w' ?_ h2
    unfold FRow
    rw [List.length_append, fcells_app]
    exact h1

/-! ### A stream -/
/-- At x stands a stream: these bytes wait, so many were dropped (counter c). -/
structure Strm (w : World) (x c : Nat) (s : ByteArray) (d : Int) : Prop where
  at_ : At w x #[.string s, .pointer (some ⟨c, 0, none⟩)]
  ctr : Ctr w c d 1000000
  ne : x ≠ c
theorem Strm.keep {S : List Nat} {w w' : World} {x c : Nat} {s : ByteArray} {d : Int} (h : Strm w x c s d) (hX : Chg S w w') (hx : x ∉ S) (hc : c ∉ S) : Strm w' x c s d :=
  ⟨hX.at h.at_ hx, h.ctr.keep hX hc, h.ne⟩

theorem Strm.alloc {w : World} {x c : Nat} {s : ByteArray} {d : Int} (h : Strm w x c s d) (o : Obj) : Strm (w.alloc o) x c s d := ⟨h.at_.alloc o, Ctr.alloc h.ctr o, h.ne⟩
theorem fnew_any (w : World) : Calls Try.prog 19 #[] w fun e w' =>
    ∃ x c, e = .returned (.pointer (some ⟨x, 0, none⟩)) ∧ w.heap.size ≤ x ∧ w.heap.size ≤ c ∧ Strm w' x c ByteArray.empty 0 ∧ Chg [] w w' := by
  go_enter Try.func19, Try.ntmps19
  go_wp2_with fail
  refine (cNew _ _).mono ?_; rintro e w1 ⟨c, rfl, hc, hC, hX⟩
  rw [show cSet 1000000 1000000 = 1000000 from rfl] at hC
  go_wp2
  go_returns
  have hl := hC.lt
  exact ⟨_, c, rfl, hX.size, hc, ⟨At.new' w1 _ _ _ rfl, hC.alloc _, by omega⟩, hX.alloc _⟩

theorem fdrop_any (w : World) (x c : Nat) (s : ByteArray) (d : Int) (n : Nat) (h : Strm w x c s d) (hd : 0 ≤ d) (hd1 : d ≤ 1000000) (hn : n ≤ s.size) (_hs : s.size ≤ 1000000000) :
    Calls Try.prog 29 #[.pointer (some ⟨x, 0, none⟩), .int .i64 n] w fun e w' => e = .returned (.tuple #[]) ∧ Strm w' x c (s.extract n s.size) (cAdd d 1000000 n) ∧ Chg [x, c] w w' := by
  have c0 := h.at_.cell 0
  have f0 := h.at_.frozen 0
  have S := fun w => slice_from w s (i := (n : Int)) rfl hn
  have hB := h.at_.set 0 (.string (s.extract n s.size)) rfl
  have hD := At.other h.ctr ⟨x, 0, none⟩ (.string (s.extract n s.size)) (Ne.symm h.ne)
  have e1 := hB.cell 1
  have hne := h.ne
  go_enter Try.func29, Try.ntmps29
  go_wp2_with fail
  refine (cAdd_any _ c d 1000000 n hD hd hd1 (by omega)).mono ?_; rintro e w' ⟨rfl, hC, hX⟩
  go_wp2
  go_returns
  refine ⟨rfl, ⟨hX.at hB (by simpa using hne), hC, hne⟩, ?_⟩
  exact ((Chg.refl [x, c] w).setCell (p := ⟨x, 0, none⟩) (by simp) _).trans (hX.mono (by simp))
theorem ffeed_nil (w : World) (s : ByteArray) : Calls Try.prog 20 #[.pointer none, .string s] w fun e w' => e = .returned (.slice none 0 0) ∧ w = w' := by
  go_enter Try.func20, Try.ntmps20
  go_wp2
  go_returns
  exact ⟨rfl, rfl⟩
end Go.Proofs.Ytilgjjkppioblaa
