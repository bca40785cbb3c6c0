/- Heap, Inn, Bv, Wid, Stage. -/
import Derived.WalkKit
import Derived.Below
import Derived.Lib.Hide
import Derived.Deep.Draws
import Derived.Deep.QuietTactic
import Derived.BigQuiet
import Derived.Test.YtpfglmlpodjneaaGreatRows
import Derived.OwnWalk
import Derived.Laws.BytesArg
import Derived.Lib.SmallJoins
import Derived.Laws.Externs
import Derived.Handy
import Derived.RegionTactic
import Derived.BigRegion
import Derived.Deep.Quiet
set_option linter.unusedSimpArgs false
set_option linter.unusedVariables false
namespace Go.Proofs.YtpfglmlpodjneaaGreat
open Go.RowKit

/-- Block b holds just these cells, and may be written. -/
def At (w : World) (b : Nat) (cs : Array Value) : Prop := ∃ T, w.heap[b]? = some (.cells cs T (0, 0))

theorem At.lt {w : World} {b : Nat} {cs : Array Value} (h : At w b cs) : b < w.heap.size := by
  obtain ⟨T, h⟩ := h
  rcases Nat.lt_or_ge b w.heap.size with hh | hh
  · exact hh
  · simp [Array.getElem?_eq_none hh] at h
theorem At.cell {w : World} {b : Nat} {cs : Array Value} (h : At w b cs) (o : Nat) : w.cell? ⟨b, o, none⟩ = cs[o]? := by
  obtain ⟨T, h⟩ := h
  simp [World.cell?, h]
theorem At.frozen {w : World} {b : Nat} {cs : Array Value} (h : At w b cs) (o : Nat) : w.frozen? ⟨b, o, none⟩ = false := by
  obtain ⟨T, h⟩ := h
  simp [World.frozen?, h]
theorem At.drew {w : World} {b : Nat} {cs : Array Value} (h : At w b cs) : At w.drew b cs := h
theorem At.drewN {w : World} {b : Nat} {cs : Array Value} (h : At w b cs) (n : Nat) : At (w.drewN n) b cs := h
theorem At.alloc {w : World} {b : Nat} {cs : Array Value} (h : At w b cs) (o : Obj) : At (w.alloc o) b cs := by
  have hl := h.lt
  obtain ⟨T, h⟩ := h
  exact ⟨T, by rw [Below.heap_alloc _ _ _ hl]; exact h⟩
theorem At.new (w : World) (cs : Array Value) (T : TypeId) : At (w.alloc (.cells cs T)) w.heap.size cs := ⟨T, (MapKept.heap_alloc w _).1⟩
theorem At.new' (w : World) (cs cs' : Array Value) (T : TypeId) (h : cs = cs') : At (w.alloc (.cells cs T)) w.heap.size cs' := h ▸ At.new w cs T
theorem At.set {w : World} {b : Nat} {cs cs' : Array Value} (h : At w b cs) (o : Nat) (v : Value) (hc : cs.setIfInBounds o v = cs') : At (w.setCell ⟨b, o, none⟩ v) b cs' := by
  obtain ⟨T, h⟩ := h
  refine ⟨T, ?_⟩
  simp [World.setCell, Array.getElem?_modify, h, hc]
theorem At.other {w : World} {b : Nat} {cs : Array Value} (h : At w b cs) (a : Addr) (v : Value) (hne : b ≠ a.block) : At (w.setCell a v) b cs := by
  obtain ⟨T, h⟩ := h
  exact ⟨T, by rw [Below.heap_setCell _ _ _ _ hne]; exact h⟩

/-- Of the blocks that were there those not in S are as they were; new ones may have come. -/
structure Chg (S : List Nat) (w w' : World) : Prop where
  os : w'.os = w.os
  tape : w'.tape = w.tape
  output : w'.output = w.output
  size : w.heap.size ≤ w'.heap.size
  block : ∀ k, k < w.heap.size → k ∉ S → w'.heap[k]? = w.heap[k]?

theorem Chg.refl (S : List Nat) (w : World) : Chg S w w := ⟨rfl, rfl, rfl, Nat.le_refl _, fun _ _ _ => rfl⟩
theorem Chg.trans {S : List Nat} {a b c : World} (h : Chg S a b) (k : Chg S b c) : Chg S a c :=
  ⟨k.os.trans h.os, k.tape.trans h.tape, k.output.trans h.output, Nat.le_trans h.size k.size, fun i hi hs => (k.block i (Nat.lt_of_lt_of_le hi h.size) hs).trans (h.block i hi hs)⟩
theorem Chg.mono {S S' : List Nat} {w w' : World} (h : Chg S w w') (hs : ∀ b ∈ S, b < w.heap.size → b ∈ S') : Chg S' w w' :=
  ⟨h.os, h.tape, h.output, h.size, fun k hk hn => h.block k hk (fun hm => hn (hs k hm hk))⟩
/-- Two steps, of which the second may change, too, what the first has made. -/
theorem Chg.then {S S' : List Nat} {a b c : World} (h : Chg S a b) (k : Chg S' b c) (hs : ∀ x ∈ S', x < a.heap.size → x ∈ S) : Chg S a c :=
  ⟨k.os.trans h.os, k.tape.trans h.tape, k.output.trans h.output, Nat.le_trans h.size k.size,
    fun i hi hn => (k.block i (Nat.lt_of_lt_of_le hi h.size) (fun hm => hn (hs i hm hi))).trans (h.block i hi hn)⟩
theorem Chg.drew {S : List Nat} {a w : World} (h : Chg S a w) : Chg S a w.drew := ⟨h.os, h.tape, h.output, h.size, h.block⟩
theorem Chg.drewN {S : List Nat} {a w : World} (h : Chg S a w) (n : Nat) : Chg S a (w.drewN n) := ⟨h.os, h.tape, h.output, h.size, h.block⟩
theorem Chg.alloc {S : List Nat} {a w : World} (h : Chg S a w) (o : Obj) : Chg S a (w.alloc o) :=
  h.trans ⟨rfl, rfl, rfl, by simp, fun k hk _ => Below.heap_alloc _ _ _ hk⟩
theorem Chg.setCell {S : List Nat} {a w : World} (h : Chg S a w) {p : Addr} (hp : p.block ∈ S ∨ a.heap.size ≤ p.block) (u : Value) : Chg S a (w.setCell p u) := by
  refine ⟨h.os, h.tape, h.output, by simpa [World.setCell] using h.size, fun k hk hn => ?_⟩
  rw [Below.heap_setCell _ _ _ _ (by rintro rfl; rcases hp with hp | hp; exact hn hp; omega)]
  exact h.block k hk hn
theorem Chg.at {S : List Nat} {w w' : World} (h : Chg S w w') {b : Nat} {cs : Array Value} (hb : At w b cs) (hn : b ∉ S) : At w' b cs := by
  have hl := hb.lt
  obtain ⟨T, hb⟩ := hb
  exact ⟨T, (h.block b hl hn).trans hb⟩
theorem Chg.cell {S : List Nat} {w w' : World} (h : Chg S w w') {a : Addr} {v : Value} (hc : w.cell? a = some v) (hn : a.block ∉ S) : w'.cell? a = some v := by
  have hl : a.block < w.heap.size := by
    unfold World.cell? at hc
    rcases Nat.lt_or_ge a.block w.heap.size with hh | hh
    · exact hh
    · simp [Array.getElem?_eq_none hh] at hc
  rw [World.cell?_of_block (w := w) (h.block a.block hl hn)]; exact hc
theorem Chg.below {S : List Nat} {B : Nat} {w0 w w' : World} (hb : Below B w0 w) (h : Chg S w w') (hB : B ≤ w.heap.size) (hs : ∀ b ∈ S, B ≤ b) : Below B w0 w' :=
  hb.trans ⟨h.os, h.tape, h.output, h.size, fun k hk => h.block k (by omega) (fun hm => by have := hs k hm; omega)⟩
theorem Chg.of_below {B : Nat} {w w' : World} (hb : Below B w w') (hB : w.heap.size ≤ B) (S : List Nat) : Chg S w w' :=
  ⟨hb.os, hb.tape, hb.output, hb.size, fun k hk _ => hb.block k (by omega)⟩
theorem Chg.to_below {w w' : World} (h : Chg [] w w') : Below w.heap.size w w' := ⟨h.os, h.tape, h.output, h.size, fun k hk => h.block k hk (by simp)⟩
theorem Chg.to_below' {S : List Nat} {B : Nat} {w w' : World} (h : Chg S w w') (hB : B ≤ w.heap.size) (hs : ∀ b ∈ S, B ≤ b) : Below B w w' := Chg.below (Below.refl _ _) h hB hs

/-- A callee that leaves the world alone, met inside a region that draws its order. -/
theorem quiet_same {P : Program} {f : FuncId} {args : Array Value} {w : World} {n : Nat} {v : Value}
    (h : Calls P f args (w.drewN n) fun e w' => e = .returned v ∧ w.drewN n = w') : Calls P f args (w.drewN n) fun e w'' => e = .returned v ∧ ∃ m, w'' = w.drewN m :=
  h.mono fun _ _ ⟨he, hm⟩ => ⟨he, n, hm.symm⟩

theorem _root_.Go.RowKit.Below.drewN {B : Nat} {a w : World} (h : Below B a w) (n : Nat) : Below B a (w.drewN n) := ⟨h.os, h.tape, h.output, h.size, h.block⟩
/-- The walk stops at a return ('go_wp2_with (with_reducible refine hold_post ?_)', then 'refine Lib.hid ?_'): elsewise it tries to read results that lie in memory, for long. -/
theorem hold_post {P : Program} {F : Func} {Q : Ending → World → Prop} {e : Exit} {a : Act} {w : World} (h : Hid (bodyPost P F Q e a w)) : bodyPost P F Q e a w := h.out
theorem ret_int {k : IntKind} {a b : Int} (h : a = b) : Ending.returned (.int k a) = .returned (.int k b) := by rw [h]
theorem ret_bool {a b : Bool} (h : a = b) : Ending.returned (.bool a) = .returned (.bool b) := by rw [h]
end Go.Proofs.YtpfglmlpodjneaaGreat
namespace Go.Proofs.YtpfglmlpodjneaaGreat
open Go.RowKit

theorem und_intn : Tryz.prog.underlying 156 = some (.slice 3) := by kernel_rfl
theorem info_int : (Tryz.prog.info? 3).map (fun i => (i.zero, i.size, i.bytes)) = some (some (.int .i64 0), 1, 8) := by kernel_rfl

/-- The value v is a slice of the call's own, of the numbers L; it lies at 'base' or behind. -/
def IRow (w : World) (base : Nat) (v : Value) (L : List Int) : Prop := w.ownsRow base 3 1 v L.length (L.map (Value.int .i64))

theorem IRow.keep {S : List Nat} {w w' : World} {base : Nat} {v : Value} {L : List Int} (h : IRow w base v L) (hX : Chg S w w') (hS : ∀ b ∈ S, b < base) : IRow w' base v L := by
  refine ⟨h.1, ?_⟩
  rcases h.2 with hn | ⟨g, cap, cur, rfl, hb, hgg, rest⟩
  · exact .inl hn
  · refine .inr ⟨g, cap, cur, rfl, hb, ?_, rest⟩
    rw [hX.block g (Array.getElem?_eq_some_iff.1 hgg).1 (fun hm => by have := hS g hm; omega)]
    exact hgg
theorem IRow.alloc {w : World} {base : Nat} {v : Value} {L : List Int} (h : IRow w base v L) (o : Obj) : IRow (w.alloc o) base v L := World.ownsRow.alloc h o
theorem IRow.lit (w : World) (base : Nat) (L : List Int) (cs : Array Value) (n : Nat) (hc : cs = (L.map (Value.int .i64)).toArray) (hn : L.length = n) (hb : base ≤ w.heap.size) (hm : n ≤ 1000000) :
    IRow (w.alloc (.cells cs 3)) base (.slice (some ⟨w.heap.size, 0, none⟩) n n) L := by
  subst hc hn
  have := World.ownsRow_lit (base := base) (e := 3) (size := 1) w (L.map (Value.int .i64)).toArray L.length hb (by unfold maxLen; omega) (by simp)
  simpa [IRow] using this
/-- What an append leaves of the others. -/
theorem IRow.grown {S : List Nat} {a w w' : World} {base : Nat} {v : Value} {L : List Int} (h : IRow w base v L) (hX : Chg S a w) (g : w.grownBy w' v.ownBlock) (hb : a.heap.size ≤ base) : Chg S a w' :=
  ⟨g.os.trans hX.os, g.tape.trans hX.tape, g.output.trans hX.output, Nat.le_trans hX.size g.size,
    fun k hk hn => (g.block k (Nat.lt_of_lt_of_le hk hX.size) (fun e => by have := (World.ownsRow.lt h k e.symm).1; omega)).trans (hX.block k hk hn)⟩
theorem IRow.far {w w' : World} {base : Nat} {v : Value} {L : List Int} (h : IRow w base v L) (g : w.grownBy w' v.ownBlock) {b : Nat} {cs : Array Value} (hA : At w b cs) (hb : b < base) : At w' b cs := by
  have hl := hA.lt
  obtain ⟨T, hA⟩ := hA
  exact ⟨T, (g.block b hl (fun e => by have := (World.ownsRow.lt h b e.symm).1; omega)).trans hA⟩

theorem wpList_appI {ops : Array Oper} {rest : List Oper} {o : Oper} {a : Act} {Q : Exit → Act → World → Prop} {w : World} (hgd : o.guard = none) (s x : Operand)
    (ho : o.op = .call { callee := .builtin .append, args := #[s, x], argTypes := #[156, 156] })
    {base : Nat} {v : Value} {L : List Int} (hs : a.eval s = v) (hr : IRow w base v L) {bx m c : Nat} {M : List Int} (hx : a.eval x = .slice (some ⟨bx, 0, none⟩) m c)
    {cs : Array Value} (hA : At w bx cs) (hcs : cs = (M.map (Value.int .i64)).toArray) (hm : M.length = m) (h63 : L.length + m ≤ 1000000) (hb : base ≤ w.heap.size)
    (h : ∀ v' w', IRow w' base v' (L ++ M) → w.grownBy w' v.ownBlock → wpList Tryz.prog ops Q rest (a.put o.dst v') w') : wpList Tryz.prog ops Q (o :: rest) a w := by
  obtain ⟨i, hi, hz, hz1, hz2⟩ := info_parts info_int
  subst hcs hm
  refine wpList_append_own w hgd s x 156 ho base 3 i (.int .i64 0) 1 8 und_intn hi hz hz1 hz2 rfl (by decide) v L.length (L.map (Value.int .i64)) hs hr ⟨bx, 0, none⟩ M.length c (M.map (Value.int .i64)) hx (by simp) ?_ ?_ (by unfold maxLen; omega) (by omega) hb ?_
  · intro j u hu
    have hadd : (⟨bx, 0, none⟩ : Addr).add j = ⟨bx, j, none⟩ := by unfold Addr.add; split <;> simp_all
    rw [hadd, hA.cell j]
    simpa using hu
  · intro u hu
    simp only [List.mem_map] at hu
    obtain ⟨n, _, rfl⟩ := hu
    rfl
  · intro v' w' h1 h2 _
    refine h v' w' ?_ h2
    unfold IRow
    rw [List.length_append, List.map_append]
    exact h1

theorem IRow.form {w : World} {base : Nat} {v : Value} {L : List Int} (h : IRow w base v L) (hn : 0 < L.length) : ∃ g cap, v = .slice (some ⟨g, 0, none⟩) L.length cap := Joins.ownsRow_form h hn
theorem IRow.cell {w : World} {base g n cap : Nat} {L : List Int} (h : IRow w base (.slice (some ⟨g, 0, none⟩) n cap) L) (hn : L.length = n) (j : Nat) (v : Int) (hj : L[j]? = some v) : w.cell? ⟨g, j, none⟩ = some (.int .i64 v) := by
  subst hn
  have hl : j < L.length := by
    rcases Nat.lt_or_ge j L.length with h1 | h1
    · exact h1
    · simp [List.getElem?_eq_none h1] at hj
  rw [World.ownsRow.cellAt h j (by omega)]
  simp [hj]
theorem IRow.nil (w : World) (base : Nat) : IRow w base (.slice none 0 0) [] := World.ownsRow_nil w base 3 1
theorem IRow.drewN {w : World} {base : Nat} {v : Value} {L : List Int} (h : IRow w base v L) (n : Nat) : IRow (w.drewN n) base v L := h
end Go.Proofs.YtpfglmlpodjneaaGreat
namespace Go.Proofs.YtpfglmlpodjneaaGreat
open Go.RowKit

def bv (a : Int) : BitVec 64 := BitVec.ofInt 64 a
theorem u64_nat (v : BitVec 64) : IntKind.u64.wrap (v.toNat : Int) = v.toNat := by
  have := v.isLt
  simp [IntKind.wrap, IntKind.bits, IntKind.signed]
  omega
theorem and_u (a b : Int) : bits .and .u64 a b = ((bv a &&& bv b).toNat : Int) := u64_nat (bv a &&& bv b)
theorem or_u (a b : Int) : bits .or .u64 a b = ((bv a ||| bv b).toNat : Int) := u64_nat (bv a ||| bv b)
theorem xor_u (a b : Int) : bits .xor .u64 a b = ((bv a ^^^ bv b).toNat : Int) := u64_nat (bv a ^^^ bv b)
theorem andNot_u (a b : Int) : bits .andNot .u64 a b = ((bv a &&& ~~~ bv b).toNat : Int) := u64_nat (bv a &&& ~~~ bv b)
theorem bv_nat (v : BitVec 64) : bv (v.toNat : Int) = v := by
  unfold bv
  rw [BitVec.ofInt_natCast, BitVec.ofNat_toNat]
  simp
theorem bv_toNat (a : Int) (h0 : 0 ≤ a) (h1 : a ≤ 18446744073709551615) : ((bv a).toNat : Int) = a := by
  obtain ⟨m, rfl⟩ : ∃ m : Nat, a = (m : Int) := ⟨a.toNat, by omega⟩
  unfold bv
  rw [BitVec.ofInt_natCast, BitVec.toNat_ofNat, Nat.mod_eq_of_lt (by omega)]
theorem bv_msb (a : Int) (h0 : 0 ≤ a) (h1 : a ≤ 18446744073709551615) : (bv a).msb = decide (9223372036854775808 ≤ a) := by
  have e := bv_toNat a h0 h1
  rw [BitVec.msb_eq_decide, Bool.eq_iff_iff]
  simp
  omega
theorem top_u (v : BitVec 64) : (v.toNat : Int) / 9223372036854775808 = if v.msb then 1 else 0 := by
  have := v.isLt
  rw [BitVec.msb_eq_decide]
  by_cases h : 2 ^ 63 ≤ v.toNat
  · rw [if_pos (by simpa using h)]; omega
  · rw [if_neg (by simpa using h)]; omega
/-- bits.Add64's carry. -/
theorem carry64 (x y c : Int) (hx0 : 0 ≤ x) (hx1 : x ≤ 18446744073709551615) (hy0 : 0 ≤ y) (hy1 : y ≤ 18446744073709551615) (hc : c = 0 ∨ c = 1) :
    bits .or .u64 (bits .and .u64 x y) (bits .andNot .u64 (bits .or .u64 x y) ((x + y + c) % 18446744073709551616)) / 9223372036854775808 = (x + y + c) / 18446744073709551616 := by
  rw [or_u, and_u, andNot_u, or_u, bv_nat, bv_nat, bv_nat, top_u]
  rw [BitVec.msb_or, BitVec.msb_and, BitVec.msb_and, BitVec.msb_or, BitVec.msb_not, bv_msb x hx0 hx1, bv_msb y hy0 hy1, bv_msb _ (by omega) (by omega)]
  by_cases h1 : 9223372036854775808 ≤ x <;> by_cases h2 : 9223372036854775808 ≤ y <;> by_cases h3 : 9223372036854775808 ≤ (x + y + c) % 18446744073709551616 <;> simp [h1, h2, h3] <;> omega
/-- bits.Sub64's borrow. -/
theorem borrow64 (x y c : Int) (nx nxy : Int) (hx0 : 0 ≤ x) (hx1 : x ≤ 18446744073709551615) (hy0 : 0 ≤ y) (hy1 : y ≤ 18446744073709551615) (hc : c = 0 ∨ c = 1)
    (hnx : bv nx = ~~~ bv x) (hnxy : bv nxy = ~~~ (bv x ^^^ bv y)) :
    bits .or .u64 (bits .and .u64 nx y) (bits .and .u64 nxy ((x - y - c) % 18446744073709551616)) / 9223372036854775808 = -((x - y - c) / 18446744073709551616) := by
  rw [or_u, and_u, and_u, bv_nat, bv_nat, top_u, hnx, hnxy]
  rw [BitVec.msb_or, BitVec.msb_and, BitVec.msb_and, BitVec.msb_not, BitVec.msb_not, BitVec.msb_xor, bv_msb x hx0 hx1, bv_msb y hy0 hy1, bv_msb _ (by omega) (by omega)]
  by_cases h1 : 9223372036854775808 ≤ x <;> by_cases h2 : 9223372036854775808 ≤ y <;> by_cases h3 : 9223372036854775808 ≤ (x - y - c) % 18446744073709551616 <;> simp [h1, h2, h3] <;> omega

/-! ### Signed words -/
theorem i64_nat (v : BitVec 64) : IntKind.i64.wrap (v.toNat : Int) = v.toInt := by
  have := v.isLt
  rw [BitVec.toInt_eq_toNat_cond]
  simp [IntKind.wrap, IntKind.bits, IntKind.signed]
  split <;> omega
theorem and_i (a b : Int) : bits .and .i64 a b = (bv a &&& bv b).toInt := i64_nat (bv a &&& bv b)
theorem xor_i (a b : Int) : bits .xor .i64 a b = (bv a ^^^ bv b).toInt := i64_nat (bv a ^^^ bv b)
theorem bv_int (v : BitVec 64) : bv v.toInt = v := by
  unfold bv
  exact BitVec.ofInt_toInt
theorem bv_toInt (a : Int) (h0 : -9223372036854775808 ≤ a) (h1 : a ≤ 9223372036854775807) : (bv a).toInt = a := by
  unfold bv
  rw [BitVec.toInt_ofInt]
  exact Int.bmod_eq_of_le (by omega) (by omega)
theorem bv_msbi (a : Int) (h0 : -9223372036854775808 ≤ a) (h1 : a ≤ 9223372036854775807) : (bv a).msb = decide (a < 0) := by
  rw [BitVec.msb_eq_toInt, bv_toInt a h0 h1]
/-- Whether a sum's sign is another one than both numbers' (wide.Add). -/
theorem over_add (a b s : Int) (ha0 : -9223372036854775808 ≤ a) (ha1 : a ≤ 9223372036854775807) (hb0 : -9223372036854775808 ≤ b) (hb1 : b ≤ 9223372036854775807) (hs0 : -9223372036854775808 ≤ s) (hs1 : s ≤ 9223372036854775807) :
    bits .and .i64 (bits .xor .i64 a s) (bits .xor .i64 b s) < 0 ↔ (a < 0 ∧ b < 0 ∧ 0 ≤ s) ∨ (0 ≤ a ∧ 0 ≤ b ∧ s < 0) := by
  rw [and_i, xor_i, xor_i, bv_int, bv_int]
  have e := BitVec.msb_eq_toInt (x := (bv a ^^^ bv s) &&& (bv b ^^^ bv s))
  rw [BitVec.msb_and, BitVec.msb_xor, BitVec.msb_xor, bv_msbi a ha0 ha1, bv_msbi b hb0 hb1, bv_msbi s hs0 hs1] at e
  constructor
  · intro h
    rw [decide_eq_true h] at e
    by_cases h1 : a < 0 <;> by_cases h2 : b < 0 <;> by_cases h3 : s < 0 <;> simp [h1, h2, h3] at e <;> omega
  · intro h
    apply of_decide_eq_true
    rw [← e]
    by_cases h1 : a < 0 <;> by_cases h2 : b < 0 <;> by_cases h3 : s < 0 <;> simp [h1, h2, h3] <;> omega
/-- .. and a difference's (wide.Sub). -/
theorem over_sub (a b s : Int) (ha0 : -9223372036854775808 ≤ a) (ha1 : a ≤ 9223372036854775807) (hb0 : -9223372036854775808 ≤ b) (hb1 : b ≤ 9223372036854775807) (hs0 : -9223372036854775808 ≤ s) (hs1 : s ≤ 9223372036854775807) :
    bits .and .i64 (bits .xor .i64 a b) (bits .xor .i64 a s) < 0 ↔ (a < 0 ∧ 0 ≤ b ∧ 0 ≤ s) ∨ (0 ≤ a ∧ b < 0 ∧ s < 0) := by
  rw [and_i, xor_i, xor_i, bv_int, bv_int]
  have e := BitVec.msb_eq_toInt (x := (bv a ^^^ bv b) &&& (bv a ^^^ bv s))
  rw [BitVec.msb_and, BitVec.msb_xor, BitVec.msb_xor, bv_msbi a ha0 ha1, bv_msbi b hb0 hb1, bv_msbi s hs0 hs1] at e
  constructor
  · intro h
    rw [decide_eq_true h] at e
    by_cases h1 : a < 0 <;> by_cases h2 : b < 0 <;> by_cases h3 : s < 0 <;> simp [h1, h2, h3] at e <;> omega
  · intro h
    apply of_decide_eq_true
    rw [← e]
    by_cases h1 : a < 0 <;> by_cases h2 : b < 0 <;> by_cases h3 : s < 0 <;> simp [h1, h2, h3] <;> omega

/-! ### A product of two words -/
theorem mul_bd (x y : Int) (hx0 : 0 ≤ x) (hx1 : x ≤ 4294967295) (hy0 : 0 ≤ y) (hy1 : y ≤ 4294967295) : 0 ≤ x * y ∧ x * y ≤ 18446744065119617025 :=
  ⟨Int.mul_nonneg hx0 hy0, Int.le_trans (Int.mul_le_mul hx1 hy1 hy0 (by omega)) (by decide)⟩
theorem mul_parts (x0 x1 y0 y1 : Int) : (x1 * 4294967296 + x0) * (y1 * 4294967296 + y0) = x1 * y1 * 18446744073709551616 + (x1 * y0 + x0 * y1) * 4294967296 + x0 * y0 := by
  grind
theorem mul64_hi (x0 x1 y0 y1 : Int) (hx0 : 0 ≤ x0) (hx0' : x0 ≤ 4294967295) (hx1 : 0 ≤ x1) (hx1' : x1 ≤ 4294967295) (hy0 : 0 ≤ y0) (hy0' : y0 ≤ 4294967295) (hy1 : 0 ≤ y1) (hy1' : y1 ≤ 4294967295) :
    x1 * y1 + (x1 * y0 + x0 * y0 / 4294967296) / 4294967296 + ((x1 * y0 + x0 * y0 / 4294967296) % 4294967296 + x0 * y1) / 4294967296 = (x1 * 4294967296 + x0) * (y1 * 4294967296 + y0) / 18446744073709551616 := by
  rw [mul_parts]
  have b1 := mul_bd x0 y0 hx0 hx0' hy0 hy0'
  have b2 := mul_bd x1 y0 hx1 hx1' hy0 hy0'
  have b3 := mul_bd x0 y1 hx0 hx0' hy1 hy1'
  have b4 := mul_bd x1 y1 hx1 hx1' hy1 hy1'
  generalize x0 * y0 = P at *
  generalize x1 * y0 = Q at *
  generalize x0 * y1 = R at *
  generalize x1 * y1 = T at *
  omega
end Go.Proofs.YtpfglmlpodjneaaGreat
namespace Go.Proofs.YtpfglmlpodjneaaGreat
open Go.RowKit

structure WV where (hi lo : Int)
def WV.cells (a : WV) : Array Value := #[.int .i64 a.hi, .int .u64 a.lo]
structure WV.ok (a : WV) : Prop where
  h0 : -9223372036854775808 ≤ a.hi
  h1 : a.hi ≤ 9223372036854775807
  l0 : 0 ≤ a.lo
  l1 : a.lo ≤ 18446744073709551615
def WV.val (a : WV) : Int := a.hi * 18446744073709551616 + a.lo
def ofV (v : Int) : WV := ⟨v / 18446744073709551616, v % 18446744073709551616⟩
theorem ofV_val (a : WV) (h : a.ok) : ofV a.val = a := by
  obtain ⟨hi, lo⟩ := a
  have h0 : 0 ≤ lo := h.l0
  have h1 : lo ≤ 18446744073709551615 := h.l1
  unfold ofV WV.val
  congr 1 <;> simp only <;> omega
/-- Whether it has a place in 128 bits. -/
def fitsV (v : Int) : Bool := decide (-170141183460469231731687303715884105728 ≤ v) && decide (v ≤ 170141183460469231731687303715884105727)
theorem fitsV_iff (v : Int) : fitsV v = true ↔ -170141183460469231731687303715884105728 ≤ v ∧ v ≤ 170141183460469231731687303715884105727 := by unfold fitsV; simp
def WV.zero : WV := ⟨0, 0⟩
def addV (v : Int) : WV := if fitsV v then ofV v else WV.zero

theorem call_add (x y c : Int) (hx : 0 ≤ x) (hy : 0 ≤ y) (hc0 : 0 ≤ c) (hc : c ≤ 1) (w : World) : (callFunc 69 #[.int .u64 x, .int .u64 y, .int .u64 c]).run Tryz.prog w =
    .ok (.value (.tuple #[.int .u64 ((x + y + c) % 18446744073709551616), .int .u64 ((x + y + c) / 18446744073709551616)])) w := by
  rw [run_callFunc_extern Tryz.func69 (by kernel_rfl) (by kernel_rfl) (by kernel_rfl) (e := add64Entry) (by kernel_rfl), run_add64 x y c hx hy hc0 hc]
  rfl

theorem wof_any (w : World) (n : Int) (h0 : -9223372036854775808 ≤ n) (h1 : n ≤ 9223372036854775807) : Calls Tryz.prog 53 #[.int .i64 n] w fun e w' => e = .returned (.agg (ofV n).cells) ∧ Chg [] w w' := by
  have Hr := Lib.hid (show (ofV n).cells = #[.int .i64 (n / 9223372036854775808), .int .u64 (IntKind.u64.wrap n)] by
    unfold ofV WV.cells
    simp only
    rw [show n / 9223372036854775808 = n / 18446744073709551616 by omega]
    rfl)
  go_enter Tryz.func53, Tryz.ntmps53
  go_wp2
  have hA := At.new w #[.int .i64 (n / 9223372036854775808), .int .u64 (IntKind.u64.wrap n)] 95
  have d0 := hA.cell 0
  have d1 := hA.cell 1
  exact bodyPost_ret (v := .agg #[.int .i64 (n / 9223372036854775808), .int .u64 (IntKind.u64.wrap n)]) (by simp [results, Tryz.results53, go_sem, d0, d1]) rfl ⟨by rw [Hr.out], (Chg.refl _ _).alloc _⟩

/-- What wide.Add reckons. -/
theorem add_plain (a b : WV) (ha : a.ok) (hb : b.ok) (c s1 s2 h : Int) (hc : (a.lo + b.lo) / 18446744073709551616 = c) (hs1 : (a.lo + b.lo) % 18446744073709551616 = s1)
    (hs2 : (IntKind.u64.wrap a.hi + IntKind.u64.wrap b.hi + c) % 18446744073709551616 = s2) (hh : wrap64 s2 = h) :
    (-9223372036854775808 ≤ h ∧ h ≤ 9223372036854775807) ∧ (((a.hi < 0 ∧ b.hi < 0 ∧ 0 ≤ h) ∨ (0 ≤ a.hi ∧ 0 ≤ b.hi ∧ h < 0)) → fitsV (a.val + b.val) = false) ∧
    (¬((a.hi < 0 ∧ b.hi < 0 ∧ 0 ≤ h) ∨ (0 ≤ a.hi ∧ 0 ≤ b.hi ∧ h < 0)) → fitsV (a.val + b.val) = true ∧ ofV (a.val + b.val) = ⟨h, s1⟩) := by
  obtain ⟨ah, al⟩ := a
  obtain ⟨bh, bl⟩ := b
  have a1 : -9223372036854775808 ≤ ah := ha.h0
  have a2 : ah ≤ 9223372036854775807 := ha.h1
  have a3 : 0 ≤ al := ha.l0
  have a4 : al ≤ 18446744073709551615 := ha.l1
  have b1 : -9223372036854775808 ≤ bh := hb.h0
  have b2 : bh ≤ 9223372036854775807 := hb.h1
  have b3 : 0 ≤ bl := hb.l0
  have b4 : bl ≤ 18446744073709551615 := hb.l1
  have u1 : IntKind.u64.wrap ah = ah % 18446744073709551616 := rfl
  have u2 : IntKind.u64.wrap bh = bh % 18446744073709551616 := rfl
  simp only [WV.val] at *
  rw [u1, u2] at hs2
  unfold wrap64 at hh
  refine ⟨by omega, fun hp => ?_, fun hp => ⟨?_, ?_⟩⟩
  · apply Bool.eq_false_iff.2
    intro hf
    have := (fitsV_iff _).1 hf
    omega
  · rw [fitsV_iff]
    omega
  · unfold ofV
    congr 1 <;> omega

theorem wadd_any (w : World) (a b : WV) (ha : a.ok) (hb : b.ok) : Calls Tryz.prog 52 #[.agg a.cells, .agg b.cells] w fun e w' => e = .returned (.tuple #[.agg (addV (a.val + b.val)).cells, .bool (fitsV (a.val + b.val))]) ∧ Chg [] w w' := by
  have hA := ((At.new w a.cells 95).alloc (.cells b.cells 95)).alloc (.cells WV.zero.cells 95)
  have hB := (At.new (w.alloc (.cells a.cells 95)) b.cells 95).alloc (.cells WV.zero.cells 95)
  have hC := At.new ((w.alloc (.cells a.cells 95)).alloc (.cells b.cells 95)) WV.zero.cells 95
  rw [show (w.alloc (.cells a.cells 95)).heap.size = w.heap.size + 1 by simp] at hB
  rw [show ((w.alloc (.cells a.cells 95)).alloc (.cells b.cells 95)).heap.size = w.heap.size + 2 by simp] at hC
  have hX : Chg [] w (((w.alloc (.cells a.cells 95)).alloc (.cells b.cells 95)).alloc (.cells WV.zero.cells 95)) := (((Chg.refl [] w).alloc _).alloc _).alloc _
  have a0 := hA.cell 0; have a1 := hA.cell 1; have b0 := hB.cell 0; have b1 := hB.cell 1
  have ah0 := ha.h0; have ah1 := ha.h1; have al0 := ha.l0; have al1 := ha.l1
  have bh0 := hb.h0; have bh1 := hb.h1; have bl0 := hb.l0; have bl1 := hb.l1
  have k1 := fun w => call_add a.lo b.lo 0 al0 bl0 (by omega) (by omega) w
  have hu : ∀ x : Int, 0 ≤ IntKind.u64.wrap x ∧ IntKind.u64.wrap x ≤ 18446744073709551615 := fun x => Go.bounds_u64 (wf_wrap .u64 x)
  rw [Int.add_zero] at k1
  obtain ⟨c, hc, hc0, hc1⟩ : ∃ c, (a.lo + b.lo) / 18446744073709551616 = c ∧ 0 ≤ c ∧ c ≤ 1 := ⟨_, rfl, by omega, by omega⟩
  have k2 := fun w => call_add (IntKind.u64.wrap a.hi) (IntKind.u64.wrap b.hi) c (hu a.hi).1 (hu b.hi).1 hc0 hc1 w
  obtain ⟨s1, hs1⟩ : ∃ s, (a.lo + b.lo) % 18446744073709551616 = s := ⟨_, rfl⟩
  obtain ⟨s2, hs2⟩ : ∃ s, (IntKind.u64.wrap a.hi + IntKind.u64.wrap b.hi + c) % 18446744073709551616 = s := ⟨_, rfl⟩
  obtain ⟨h, hh⟩ : ∃ h, wrap64 s2 = h := ⟨_, rfl⟩
  obtain ⟨hb2, p1, p2⟩ := add_plain a b ha hb c s1 s2 h hc hs1 hs2 hh
  have ho := over_add a.hi b.hi h ah0 ah1 bh0 bh1 hb2.1 hb2.2
  rw [hc, hs1] at k1
  rw [hs2] at k2
  have Hp1 := Lib.hid p1
  have Hp2 := Lib.hid p2
  have Ho := Lib.hid ho
  clear p1 p2 ho hs1 hs2 hc ah0 ah1 al0 al1 bh0 bh1 bl0 bl1 hu hb2 ha hb
  have Hr := Lib.hid (show addV (a.val + b.val) = if fitsV (a.val + b.val) then ofV (a.val + b.val) else WV.zero from rfl)
  generalize addV (a.val + b.val) = res at *
  generalize fitsV (a.val + b.val) = fv at *
  rw [show a.cells = #[.int .i64 a.hi, .int .u64 a.lo] from rfl, show b.cells = #[.int .i64 b.hi, .int .u64 b.lo] from rfl, show WV.zero.cells = #[.int .i64 0, .int .u64 0] from rfl] at *
  generalize hov : bits .and .i64 (bits .xor .i64 a.hi h) (bits .xor .i64 b.hi h) = ov at *
  have fin : ∀ x y : Int, At ((((w.alloc (.cells #[.int .i64 a.hi, .int .u64 a.lo] 95)).alloc (.cells #[.int .i64 b.hi, .int .u64 b.lo] 95)).alloc (.cells #[.int .i64 x, .int .u64 y] 95)).alloc (.cells #[.int .i64 h, .int .u64 s1] 95)) (w.heap.size + 1 + 1) #[.int .i64 x, .int .u64 y] ∧
      Chg [] w ((((w.alloc (.cells #[.int .i64 a.hi, .int .u64 a.lo] 95)).alloc (.cells #[.int .i64 b.hi, .int .u64 b.lo] 95)).alloc (.cells #[.int .i64 x, .int .u64 y] 95)).alloc (.cells #[.int .i64 h, .int .u64 s1] 95)) := fun x y => by
    have q := (At.new ((w.alloc (.cells #[.int .i64 a.hi, .int .u64 a.lo] 95)).alloc (.cells #[.int .i64 b.hi, .int .u64 b.lo] 95)) #[.int .i64 x, .int .u64 y] 95).alloc (.cells #[.int .i64 h, .int .u64 s1] 95)
    rw [show ((w.alloc (.cells #[.int .i64 a.hi, .int .u64 a.lo] 95)).alloc (.cells #[.int .i64 b.hi, .int .u64 b.lo] 95)).heap.size = w.heap.size + 1 + 1 by simp] at q
    exact ⟨q, ((((Chg.refl [] w).alloc _).alloc _).alloc _).alloc _⟩
  go_enter Tryz.func52, Tryz.ntmps52
  by_cases hlt : ov < 0
  · have hf := Hp1.out (Ho.out.1 hlt)
    obtain ⟨q, qX⟩ := fin 0 0
    have Hres := Hr.out
    rw [hf] at Hres
    clear Ho Hp1 Hp2 Hr fin
    go_wp2_with fail
    clear a0 a1 b0 b1
    have d0 := q.cell 0
    have d1 := q.cell 1
    exact bodyPost_ret (v := .tuple #[.agg #[.int .i64 0, .int .u64 0], .bool false]) (by simp [results, Tryz.results52, go_sem, d0, d1]) rfl ⟨by first | rfl | (rw [Hres, hf]; rfl), qX⟩
  · obtain ⟨hf, hv⟩ := Hp2.out (fun e => hlt (Ho.out.2 e))
    obtain ⟨q, qX⟩ := fin h s1
    have Hres := Hr.out
    rw [hf, hv] at Hres
    clear Ho Hp1 Hp2 Hr fin
    go_wp2_with fail
    clear a0 a1 b0 b1
    have d0 := q.cell 0
    have d1 := q.cell 1
    exact bodyPost_ret (v := .tuple #[.agg #[.int .i64 h, .int .u64 s1], .bool true]) (by simp [results, Tryz.results52, go_sem, d0, d1]) rfl ⟨by first | rfl | (rw [Hres, hf]; rfl), qX⟩

def sub64E : Array Value → Sem Value := fun args => do
  let (x, y, b) ← Extern.MathBitsCarry.three "Sub64" args
  pure (Extern.MathBitsCarry.pair ((x + Extern.MathBitsCarry.m64 - y - b) % Extern.MathBitsCarry.m64) (if x < y + b then 1 else 0))
theorem run_sub64' {P : Program} (x y b : Nat) (hb : b ≤ 1) (w : World) :
    (sub64E #[.int .u64 x, .int .u64 y, .int .u64 b]).run P w =
      .ok (.tuple #[.int .u64 (((x + 18446744073709551616 - y - b) % 18446744073709551616 : Nat) : Int), .int .u64 ((if x < y + b then 1 else 0 : Nat) : Int)]) w := by
  have : b = 0 ∨ b = 1 := by omega
  rcases this with rfl | rfl <;> rfl
theorem call_sub (x y c : Int) (hx : 0 ≤ x) (hx1 : x ≤ 18446744073709551615) (hy : 0 ≤ y) (hy1 : y ≤ 18446744073709551615) (hc0 : 0 ≤ c) (hc : c ≤ 1) (w : World) : (callFunc 67 #[.int .u64 x, .int .u64 y, .int .u64 c]).run Tryz.prog w =
    .ok (.value (.tuple #[.int .u64 ((x - y - c) % 18446744073709551616), .int .u64 (-((x - y - c) / 18446744073709551616))])) w := by
  obtain ⟨X, rfl⟩ := Int.eq_ofNat_of_zero_le hx
  obtain ⟨Y, rfl⟩ := Int.eq_ofNat_of_zero_le hy
  obtain ⟨C, rfl⟩ := Int.eq_ofNat_of_zero_le hc0
  rw [run_callFunc_extern Tryz.func67 (by kernel_rfl) (by kernel_rfl) (by kernel_rfl) (e := sub64E) (by kernel_rfl), run_sub64' X Y C (by omega)]
  have e1 : (((X + 18446744073709551616 - Y - C) % 18446744073709551616 : Nat) : Int) = ((X : Int) - Y - C) % 18446744073709551616 := by omega
  have e2 : ((if X < Y + C then 1 else 0 : Nat) : Int) = -(((X : Int) - Y - C) / 18446744073709551616) := by split <;> omega
  rw [e1, e2]
  rfl

/-- What wide.Sub reckons. -/
theorem sub_plain (a b : WV) (ha : a.ok) (hb : b.ok) (c s1 s2 h : Int) (hc : -((a.lo - b.lo) / 18446744073709551616) = c) (hs1 : (a.lo - b.lo) % 18446744073709551616 = s1)
    (hs2 : (IntKind.u64.wrap a.hi - IntKind.u64.wrap b.hi - c) % 18446744073709551616 = s2) (hh : wrap64 s2 = h) :
    (-9223372036854775808 ≤ h ∧ h ≤ 9223372036854775807) ∧ (((a.hi < 0 ∧ 0 ≤ b.hi ∧ 0 ≤ h) ∨ (0 ≤ a.hi ∧ b.hi < 0 ∧ h < 0)) → fitsV (a.val - b.val) = false) ∧
    (¬((a.hi < 0 ∧ 0 ≤ b.hi ∧ 0 ≤ h) ∨ (0 ≤ a.hi ∧ b.hi < 0 ∧ h < 0)) → fitsV (a.val - b.val) = true ∧ ofV (a.val - b.val) = ⟨h, s1⟩) := by
  obtain ⟨ah, al⟩ := a
  obtain ⟨bh, bl⟩ := b
  have a1 : -9223372036854775808 ≤ ah := ha.h0
  have a2 : ah ≤ 9223372036854775807 := ha.h1
  have a3 : 0 ≤ al := ha.l0
  have a4 : al ≤ 18446744073709551615 := ha.l1
  have b1 : -9223372036854775808 ≤ bh := hb.h0
  have b2 : bh ≤ 9223372036854775807 := hb.h1
  have b3 : 0 ≤ bl := hb.l0
  have b4 : bl ≤ 18446744073709551615 := hb.l1
  have u1 : IntKind.u64.wrap ah = ah % 18446744073709551616 := rfl
  have u2 : IntKind.u64.wrap bh = bh % 18446744073709551616 := rfl
  simp only [WV.val] at *
  rw [u1, u2] at hs2
  unfold wrap64 at hh
  refine ⟨by omega, fun hp => ?_, fun hp => ⟨?_, ?_⟩⟩
  · apply Bool.eq_false_iff.2
    intro hf
    have := (fitsV_iff _).1 hf
    omega
  · rw [fitsV_iff]
    omega
  · unfold ofV
    congr 1 <;> omega

end Go.Proofs.YtpfglmlpodjneaaGreat
namespace Go.Proofs.YtpfglmlpodjneaaGreat
open Go

section
variable {P : Program} {ops : Array Oper} {C : Nat → World → Prop} {E : List Nat}

/-- How many of the stage's operations have come up. -/
def stg (E : List Nat) (L : Array Bool) : Nat := E.countP fun e => L.getD e false
/-- What has come up is closed under 'comes before'. -/
structure Good (ops : Array Oper) (L : Array Bool) : Prop where
  size : L.size = ops.size
  down : ∀ j o, ops[j]? = some o → L.getD j false = true → ∀ e ∈ o.after, Region.binds .any e = true → L.getD e.on false = true

def stUpon (P : Program) (C : Nat → World → Prop) (k : Nat) (v : Value) : Result Next → Prop
  | .ok (.value u) w => u = v ∧ C k w
  | .ok .skip w => v = undef ∧ C k w
  | .ok (.enter f args) w => Calls P f args w fun e w' => e = .returned v ∧ C k w'
  | _ => False

/-- Operation i yields v, whenever it may come up, and carries the world from its stage to the next one. -/
def Does (P : Program) (ops : Array Oper) (C : Nat → World → Prop) (E : List Nat) (i : Nat) (o : Oper) (v : Value) (a : Act) : Prop :=
  (Region.wanted o (yielded ops a.tmps) = true ∧ ∀ L w, Good ops L → i ∈ Region.ready .any ops L → C (stg E L) w → stUpon P C (stg E (L.setIfInBounds i true)) v ((execOp a.eval o).run P w)) ∨
  (Region.wanted o (yielded ops a.tmps) = false ∧ v = undef ∧ ∀ L w, Good ops L → i ∈ Region.ready .any ops L → C (stg E L) w → C (stg E (L.setIfInBounds i true)) w)

theorem Does.of_put {i : Nat} {o x : Oper} {v u : Value} {a : Act} (hs : ∀ cs b, o.op ≠ .select cs b) (h : ∀ d, x.dst = some d → d ∉ o.looksAt ops) :
    Does P ops C E i o v (a.put x.dst u) ↔ Does P ops C E i o v a := by
  unfold Does
  rw [execOp_put o hs a x.dst u h, wanted_put o a x.dst u h]

def sOp (P : Program) (ops : Array Oper) (C : Nat → World → Prop) (E : List Nat) (i : Nat) (K : Act → Prop) (a : Act) : Prop :=
  ∀ o, ops[i]? = some o → ∃ v, Does P ops C E i o v a ∧ K (a.put o.dst v)

def anyS (P : Program) (ops : Array Oper) (C : Nat → World → Prop) (E : List Nat) (Q : Act → Prop) : Nat → Array Bool → Act → Prop
  | 0, L, a => Region.ready .any ops L = [] ∧ Q a
  | n + 1, L, a => (Region.ready .any ops L = [] → Q a) ∧ ∀ i ∈ Region.ready .any ops L, sOp P ops C E i (anyS P ops C E Q n (L.setIfInBounds i true)) a

theorem getD_false_of_true {L : Array Bool} {j : Nat} (h : L.getD j true = false) : L.getD j false = false := by
  rcases Nat.lt_or_ge j L.size with h' | h'
  · simpa [h'] using h
  · simp [Array.getElem?_eq_none h']

theorem Good.set {L : Array Bool} (hG : Good ops L) {i : Nat} (hi : i ∈ Region.ready .any ops L) : Good ops (L.setIfInBounds i true) := by
  obtain ⟨_, o, ho, hall⟩ := mem_ready.1 hi
  refine ⟨by simp [hG.size], fun j oj hj hl e he hb => ?_⟩
  by_cases hji : j = i
  · subst hji
    rw [ho] at hj
    cases hj
    exact getD_set_true (hall e he hb)
  · rw [getD_set_ne false (Ne.symm hji)] at hl
    exact getD_set_true (hG.down j oj hj hl e he hb)

theorem wpOp_of_s {i : Nat} {L : Array Bool} {a : Act} {w : World} {K : Act → Prop} {K' : Act → World → Prop} {Q' : Exit → Act → World → Prop} (hG : Good ops L) (hi : i ∈ Region.ready .any ops L)
    (hC : C (stg E L) w) (h : ∀ a' w', C (stg E (L.setIfInBounds i true)) w' → K a' → K' a' w') (hh : sOp P ops C E i K a) : wpOp P ops Q' i K' a w := by
  obtain ⟨_, o, ho, _⟩ := mem_ready.1 hi
  obtain ⟨v, hd, hk⟩ := hh o ho
  unfold wpOp
  simp only [ho]
  rcases hd with ⟨hw, hd⟩ | ⟨hw, rfl, hd⟩
  · rw [if_pos hw]
    refine .inl ?_
    have h3 := hd L w hG hi hC
    unfold Oper.wp
    generalize (execOp a.eval o).run P w = r at *
    cases r with
    | ok n w' =>
      cases n <;> simp only [stUpon] at h3 <;> simp only [Oper.upon]
      case value u =>
        rw [h3.1]
        exact h _ _ h3.2 hk
      case skip =>
        rw [← h3.1]
        exact h _ _ h3.2 hk
      case enter f args => exact h3.mono fun e w'' ⟨he, hc⟩ => by subst he; exact h _ _ hc hk
    | halt x w' => simp only [stUpon] at h3
  · rw [if_neg (by simp [hw])]
    exact h _ _ (hd L w hG hi hC) hk

theorem wpAny_of_s {Q : Act → Prop} {Q' : Exit → Act → World → Prop} (hQ : ∀ a w L, Good ops L → Region.ready .any ops L = [] → C (stg E L) w → Q a → Q' .normal a w) :
    ∀ (n : Nat) (L : Array Bool) (a : Act) (w : World), Good ops L → C (stg E L) w → anyS P ops C E Q n L a → wpAny P .any ops Q' n L a w
  | 0, L, a, w, hG, hC, h => ⟨h.1, hQ a w L hG h.1 hC h.2⟩
  | n + 1, L, a, w, hG, hC, h => ⟨fun h0 => hQ a w L hG h0 hC (h.1 h0), fun i hi => wpOp_of_s hG hi hC (fun a' w' hc hk => wpAny_of_s hQ n _ a' w' (hG.set hi) hc hk) (h.2 i hi)⟩

theorem anyS_first {Q : Act → Prop} {i : Nat} {oi : Oper} {v : Value} (hi : ops[i]? = some oi) (hsel : ∀ (j : Nat) (o : Oper) cs b, ops[j]? = some o → o.op ≠ .select cs b) :
    ∀ (n : Nat) (L : Array Bool) (a : Act),
      (∀ j oj, ops[j]? = some oj → j ≠ i → L.getD j true = false → (∀ e ∈ oj.after, Region.binds .any e = true → e.on ≠ i) → oi.apart ops oj = true) →
      i ∈ Region.ready .any ops L → Does P ops C E i oi v a → anyS P ops C E Q n (L.setIfInBounds i true) (a.put oi.dst v) → anyS P ops C E Q (n + 1) L a := by
  intro n
  induction n with
  | zero =>
    intro L a _ hr hd H
    refine ⟨fun h0 => (by rw [h0] at hr; cases hr), fun j hj => ?_⟩
    by_cases hji : j = i
    · subst hji
      intro o ho
      rw [hi] at ho
      cases ho
      exact ⟨v, hd, H⟩
    · have := ready_mono hj hji
      rw [H.1] at this
      cases this
  | succ n ih =>
    intro L a hfree hr hd H
    refine ⟨fun h0 => (by rw [h0] at hr; cases hr), fun j hj => ?_⟩
    by_cases hji : j = i
    · subst hji
      intro o ho
      rw [hi] at ho
      cases ho
      exact ⟨v, hd, H⟩
    · intro oj hoj
      obtain ⟨u, hu, hK⟩ := H.2 j (ready_mono hj hji) oj hoj
      obtain ⟨hjun, oj', hoj', hall⟩ := mem_ready.1 hj
      rw [hoj] at hoj'
      cases hoj'
      have hnot : ∀ e ∈ oj.after, Region.binds .any e = true → e.on ≠ i := fun e he hb heq => by
        have h1 := hall e he hb
        rw [heq, getD_false_of_true (mem_ready.1 hr).1] at h1
        cases h1
      obtain ⟨h1, h2, h3⟩ := Oper.apart_spec (hfree j oj hoj hji hjun hnot)
      refine ⟨u, (Does.of_put (fun cs b => hsel j oj cs b hoj) h1).1 hu, ih (L.setIfInBounds j true) _ ?_ (ready_mono hr (Ne.symm hji)) ((Does.of_put (fun cs b => hsel i oi cs b hi) h3).2 hd) ?_⟩
      · intro k ok hk hki hun hno
        refine hfree k ok hk hki ?_ hno
        by_cases hjk : j = k
        · subst hjk; exact hjun
        · rw [getD_set_ne true hjk] at hun; exact hun
      · rw [Array.setIfInBounds_comm _ _ hji, ← Act.put_comm a v u h2]
        exact hK

def lexS (P : Program) (ops : Array Oper) (C : Nat → World → Prop) (E : List Nat) (Q : Act → Prop) : List Oper → Nat → Act → Prop
  | [], _, a => Q a
  | o :: rest, i, a => ∃ v, Does P ops C E i o v a ∧ lexS P ops C E Q rest (i + 1) (a.put o.dst v)

theorem anyS_lex {Q : Act → Prop} (hs : Region.noSelect ops = true) : ∀ (l : List Oper) (k : Nat) (L : Array Bool) (a : Act), (∀ j, l[j]? = ops[k + j]?) →
    Region.lexFrom .any ops l.length k L = true → lexS P ops C E Q l k a → anyS P ops C E Q l.length L a
  | [], _, _, _, _, hB, h => ⟨by simpa [Region.lexFrom] using hB, h⟩
  | o :: l, k, L, a, hl, hB, ⟨v, hd, hK⟩ => by
    have h0 : ops[k]? = some o := by simpa using (hl 0).symm
    simp only [List.length_cons, Region.lexFrom, Bool.and_eq_true] at hB
    obtain ⟨⟨hr, hf⟩, hB'⟩ := hB
    exact anyS_first h0 (Region.noSelect_spec hs) l.length L a (Region.free_spec h0 hf) (by simpa using hr) hd
      (anyS_lex hs l (k + 1) _ _ (fun j => by have := hl (j + 1); simpa [Nat.add_assoc, Nat.add_comm 1 j] using this) hB' hK)

/-! ### The stages at which an operation may come up -/
def certB (ops : Array Oper) (M : Array Nat) : Bool :=
  (List.range ops.size).all fun j => match ops[j]? with
    | some o => (o.after.all fun e => !Region.binds .any e || decide (e.on < j)) && (List.range ops.size).all fun i => !(M.getD j 0).testBit i || o.after.any fun e => Region.binds .any e && (e.on == i || (M.getD e.on 0).testBit i)
    | none => true
def loOf (E : List Nat) (M : Array Nat) (i : Nat) : Nat := E.countP fun e => (M.getD i 0).testBit e
def hiOf (E : List Nat) (M : Array Nat) (i : Nat) : Nat := E.countP fun e => e != i && !(M.getD e 0).testBit i
def rowsB (E : List Nat) (M : Array Nat) : List (Nat × Nat × Bool) → Nat → Bool
  | [], _ => true
  | (lo, hi, ef) :: r, i => decide (lo ≤ loOf E M i) && decide (hiOf E M i ≤ hi) && (ef == E.contains i) && rowsB E M r (i + 1)
def nodupB : List Nat → Bool
  | [] => true
  | e :: r => !r.contains e && nodupB r
def stB (ops : Array Oper) (E : List Nat) (R : List (Nat × Nat × Bool)) : Bool :=
  certB ops (Region.before ops) && (E.all fun e => decide (e < ops.size)) && nodupB E && decide (R.length = ops.size) && rowsB E (Region.before ops) R 0

theorem certB_at {M : Array Nat} (h : certB ops M = true) {j : Nat} {o : Oper} (hj : ops[j]? = some o) :
    (∀ e ∈ o.after, Region.binds .any e = true → e.on < j) ∧ ∀ i, i < ops.size → (M.getD j 0).testBit i = true → ∃ e ∈ o.after, Region.binds .any e = true ∧ (e.on = i ∨ (M.getD e.on 0).testBit i = true) := by
  have hlt : j < ops.size := (Array.getElem?_eq_some_iff.1 hj).1
  have h1 := (List.all_eq_true.1 h) j (by simpa using hlt)
  simp only [hj, Bool.and_eq_true] at h1
  refine ⟨fun e he hb => ?_, fun i hi hbit => ?_⟩
  · have := Array.all_eq_true_iff_forall_mem.1 h1.1 e he
    simpa [hb] using this
  · have := (List.all_eq_true.1 h1.2) i (by simpa using hi)
    simp only [hbit, Bool.not_true, Bool.false_or] at this
    obtain ⟨e, he, hb⟩ := Array.any_eq_true'.1 this
    simp only [Bool.and_eq_true, Bool.or_eq_true, beq_iff_eq] at hb
    exact ⟨e, he, hb.1, hb.2⟩

theorem anc_listed {M : Array Nat} (h : certB ops M = true) {L : Array Bool} (hG : Good ops L) : ∀ (n j : Nat) (o : Oper), j ≤ n → ops[j]? = some o →
    (∀ e ∈ o.after, Region.binds .any e = true → L.getD e.on false = true) → ∀ i, i < ops.size → (M.getD j 0).testBit i = true → L.getD i false = true := by
  intro n
  induction n with
  | zero =>
    intro j o hj ho hall i hi hbit
    obtain ⟨e, he, hb, hc⟩ := (certB_at h ho).2 i hi hbit
    have := (certB_at h ho).1 e he hb
    omega
  | succ n ih =>
    intro j o hj ho hall i hi hbit
    obtain ⟨e, he, hb, hc⟩ := (certB_at h ho).2 i hi hbit
    have hlt := (certB_at h ho).1 e he hb
    have hl := hall e he hb
    rcases hc with rfl | hc
    · exact hl
    · have hsz : e.on < ops.size := by have := (Array.getElem?_eq_some_iff.1 ho).1; omega
      exact ih e.on ops[e.on] (by omega) (Array.getElem?_eq_getElem hsz) (hG.down e.on _ (Array.getElem?_eq_getElem hsz) hl) i hi hc

theorem all_listed {M : Array Nat} (h : certB ops M = true) {L : Array Bool} (hG : Good ops L) (hr : Region.ready .any ops L = []) : ∀ (n j : Nat), j ≤ n → j < ops.size → L.getD j false = true := by
  intro n
  induction n with
  | zero =>
    intro j hj hlt
    obtain rfl : j = 0 := by omega
    apply Classical.byContradiction
    intro hn
    have : (0 : Nat) ∈ Region.ready .any ops L := mem_ready.2 ⟨by have := hG.size; simp [show 0 < L.size by omega] at hn ⊢; exact hn, ops[0], Array.getElem?_eq_getElem hlt,
      fun e he hb => by have := (certB_at h (Array.getElem?_eq_getElem hlt)).1 e he hb; omega⟩
    rw [hr] at this
    cases this
  | succ n ih =>
    intro j hj hlt
    apply Classical.byContradiction
    intro hn
    have : j ∈ Region.ready .any ops L := mem_ready.2 ⟨by have := hG.size; simp [show j < L.size by omega] at hn ⊢; exact hn, ops[j], Array.getElem?_eq_getElem hlt,
      fun e he hb => by have := (certB_at h (Array.getElem?_eq_getElem hlt)).1 e he hb; exact ih e.on (by omega) (by omega)⟩
    rw [hr] at this
    cases this

theorem nodupB_spec : ∀ {E : List Nat}, nodupB E = true → E.Nodup
  | [], _ => List.nodup_nil
  | e :: r, h => by
    simp only [nodupB, Bool.and_eq_true, Bool.not_eq_true', List.contains_eq_mem] at h
    exact List.nodup_cons.2 ⟨by simpa using h.1, nodupB_spec h.2⟩

theorem stg_set (hn : E.Nodup) {L : Array Bool} {i : Nat} (hi : i < L.size) (hl : L.getD i false = false) : stg E (L.setIfInBounds i true) = if E.contains i then stg E L + 1 else stg E L := by
  unfold stg
  induction E with
  | nil => rfl
  | cons e r ih =>
    obtain ⟨h1, h2⟩ := List.nodup_cons.1 hn
    rw [List.countP_cons, List.countP_cons, ih h2]
    by_cases he : e = i
    · subst he
      simp [hl, hi]
      exact h1
    · rw [getD_set_ne false (Ne.symm he)]
      have hne : (i == e) = false := by simpa using Ne.symm he
      have hc : (e :: r).contains i = r.contains i := by simp [Ne.symm he]
      rw [hc]
      split <;> omega

theorem stg_bounds {M : Array Nat} (h : certB ops M = true) (hE : ∀ e ∈ E, e < ops.size) {L : Array Bool} (hG : Good ops L) {i : Nat} (hi : i ∈ Region.ready .any ops L) : loOf E M i ≤ stg E L ∧ stg E L ≤ hiOf E M i := by
  obtain ⟨hun, o, ho, hall⟩ := mem_ready.1 hi
  have hun' := getD_false_of_true hun
  have hisz := (Array.getElem?_eq_some_iff.1 ho).1
  constructor
  · refine List.countP_mono_left fun e he hbit => ?_
    exact anc_listed h hG i i o (Nat.le_refl _) ho hall e (hE e he) hbit
  · refine List.countP_mono_left fun e he hl => ?_
    have hsz := hE e he
    by_cases hei : e = i
    · subst hei
      rw [hun'] at hl
      cases hl
    · simp only [bne_iff_ne, ne_eq, hei, not_false_eq_true, Bool.and_eq_true, true_and, Bool.not_eq_true']
      apply Bool.eq_false_iff.2
      intro hbit
      have := anc_listed h hG e e ops[e] (Nat.le_refl _) (Array.getElem?_eq_getElem hsz) (hG.down e _ (Array.getElem?_eq_getElem hsz) hl) i hisz hbit
      rw [hun'] at this
      cases this

/-! ### The walk -/
def wpStage (P : Program) (ops : Array Oper) (C : Nat → World → Prop) (Q : Act → Prop) : List (Oper × Nat × Nat × Bool) → Act → Prop
  | [], a => Q a
  | (o, lo, hi, ef) :: rest, a =>
    if Region.wanted o (yielded ops a.tmps) then ∃ v, (∀ k w, lo ≤ k → k ≤ hi → C k w → stUpon P C (if ef then k + 1 else k) v ((execOp a.eval o).run P w)) ∧ wpStage P ops C Q rest (a.put o.dst v)
    else (ef = true → ∀ k w, lo ≤ k → k ≤ hi → C k w → C (k + 1) w) ∧ wpStage P ops C Q rest (a.put o.dst undef)

theorem lexS_of_stage {Q : Act → Prop} {M : Array Nat} (hc : certB ops M = true) (hE : ∀ e ∈ E, e < ops.size) (hn : E.Nodup) : ∀ (l : List Oper) (R : List (Nat × Nat × Bool)) (i : Nat) (a : Act), (∀ j, l[j]? = ops[i + j]?) →
    R.length = l.length → rowsB E M R i = true → wpStage P ops C Q (l.zip R) a → lexS P ops C E Q l i a
  | [], _, _, _, _, _, _, h => h
  | o :: l, [], _, _, _, hl, _, _ => by simp at hl
  | o :: l, (lo, hi, ef) :: R, i, a, hj, hl, hR, h => by
    have h0 : ops[i]? = some o := by simpa using (hj 0).symm
    simp only [rowsB, Bool.and_eq_true, decide_eq_true_eq, beq_iff_eq] at hR
    obtain ⟨⟨⟨h1, h2⟩, h3⟩, h4⟩ := hR
    have next : ∀ a', wpStage P ops C Q (l.zip R) a' → lexS P ops C E Q l (i + 1) a' := fun a' h' =>
      lexS_of_stage hc hE hn l R (i + 1) a' (fun j => by have := hj (j + 1); simpa [Nat.add_assoc, Nat.add_comm 1 j] using this) (by simpa using hl) h4 h'
    have key : ∀ L, Good ops L → i ∈ Region.ready .any ops L → lo ≤ stg E L ∧ stg E L ≤ hi ∧ stg E (L.setIfInBounds i true) = if ef then stg E L + 1 else stg E L := by
      intro L hG hi'
      obtain ⟨b1, b2⟩ := stg_bounds hc hE hG hi'
      have hsz : i < L.size := by rw [hG.size]; exact (Array.getElem?_eq_some_iff.1 h0).1
      refine ⟨by omega, by omega, ?_⟩
      rw [stg_set hn hsz (getD_false_of_true (mem_ready.1 hi').1), h3]
    simp only [List.zip_cons_cons, wpStage] at h
    by_cases hw : Region.wanted o (yielded ops a.tmps) = true
    · rw [if_pos hw] at h
      obtain ⟨v, hv, hK⟩ := h
      refine ⟨v, .inl ⟨hw, fun L w hG hi' hC => ?_⟩, next _ hK⟩
      obtain ⟨k1, k2, k3⟩ := key L hG hi'
      rw [k3]
      exact hv _ w k1 k2 hC
    · rw [if_neg hw] at h
      refine ⟨undef, .inr ⟨by simpa using hw, rfl, fun L w hG hi' hC => ?_⟩, next _ h.2⟩
      obtain ⟨k1, k2, k3⟩ := key L hG hi'
      rw [k3]
      cases ef
      · exact hC
      · exact h.1 rfl _ w k1 k2 hC

/-- A region that draws its order, in stages: E: the operations that carry the world on, in their order; R: of each operation the first and the last stage at which it may come up, and whether it carries the world on. -/
theorem wp_region_stage {id : Nat} {Q : Exit → Act → World → Prop} {a : Act} {w : World} {l : List Oper} (C : Nat → World → Prop) (E : List Nat) (R : List (Nat × Nat × Bool)) (hm : P.follows .mixedOrders = true)
    (hB : Region.lexB .any l.toArray = true) (hS : stB l.toArray E R = true) (hC : C 0 w.drew) (h : wpStage P l.toArray C (fun a' => ∀ w', C E.length w' → Q .normal a' w') (l.zip R) a) :
    (Code.region id l.toArray true).wp P Q a w := by
  simp only [Region.lexB, Bool.and_eq_true] at hB
  simp only [stB, Bool.and_eq_true, decide_eq_true_eq] at hS
  obtain ⟨⟨⟨⟨s1, s2⟩, s3⟩, s4⟩, s5⟩ := hS
  have hE : ∀ e ∈ E, e < l.toArray.size := fun e he => by simpa using (List.all_eq_true.1 s2) e he
  have hn := nodupB_spec s3
  have hG0 : Good l.toArray (Array.replicate l.toArray.size false) := ⟨by simp, fun j o hj hl => by
    have := (Array.getElem?_eq_some_iff.1 hj).1
    simp only [List.size_toArray] at this
    simp [this] at hl⟩
  have h00 : stg E (Array.replicate l.toArray.size false) = 0 := by
    unfold stg
    rw [List.countP_eq_zero]
    intro e he
    have := hE e he
    simp only [List.size_toArray] at this
    simp [this]
  refine wp_region_any hm (wpAny_of_s (C := C) (E := E) (Q := fun a' => ∀ w', C E.length w' → Q .normal a' w') (fun a w' L hG hr hc h => h w' ?_) _ _ _ _ hG0 (by rw [h00]; exact hC) ?_)
  · have : stg E L = E.length := by
      unfold stg
      rw [List.countP_eq_length]
      intro e he
      exact all_listed s1 hG hr e e (Nat.le_refl _) (hE e he)
    rw [← this]
    exact hc
  · have := anyS_lex (C := C) (E := E) hB.1 l 0 (Array.replicate l.toArray.size false) a (by simp) (by simpa using hB.2) (lexS_of_stage s1 hE hn l R 0 a (by simp) (by simpa using s4) s5 h)
    simpa using this

attribute [go_sem] stUpon
/-- One operation at a time, what follows behind a variable: it is carried out. -/
theorem wpStage_yes {Q : Act → Prop} {a : Act} {o : Oper} {lo hi : Nat} {ef : Bool} {rest : List (Oper × Nat × Nat × Bool)} (hw : Region.wanted o (yielded ops a.tmps) = true)
    (h : ∀ K : Act → Prop, (∀ a, wpStage P ops C Q rest a → K a) → ∃ v, (∀ k w, lo ≤ k → k ≤ hi → C k w → stUpon P C (if ef then k + 1 else k) v ((execOp a.eval o).run P w)) ∧ K (a.put o.dst v)) : wpStage P ops C Q ((o, lo, hi, ef) :: rest) a := by
  unfold wpStage
  rw [if_pos hw]
  exact h _ (fun _ h => h)
/-- .. it is passed by (what guards it says no). -/
theorem wpStage_no {Q : Act → Prop} {a : Act} {o : Oper} {lo hi : Nat} {rest : List (Oper × Nat × Nat × Bool)} (hw : Region.wanted o (yielded ops a.tmps) = false)
    (h : ∀ K : Act → Prop, (∀ a, wpStage P ops C Q rest a → K a) → K (a.put o.dst undef)) : wpStage P ops C Q ((o, lo, hi, false) :: rest) a := by
  unfold wpStage
  rw [if_neg (by simp [hw])]
  exact ⟨(fun e => by cases e), h _ (fun _ h => h)⟩
theorem wpStage_nil {Q : Act → Prop} {a : Act} (h : Q a) : wpStage P ops C Q [] a := h
end
end Go.Proofs.YtpfglmlpodjneaaGreat
