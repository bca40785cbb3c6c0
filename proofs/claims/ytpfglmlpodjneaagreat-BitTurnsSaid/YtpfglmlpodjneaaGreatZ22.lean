/- Nam. -/
import Derived.Test.YtpfglmlpodjneaaGreatZ20
import Derived.Test.YtpfglmlpodjneaaGreatZ04
import Derived.OwnWalk
import Derived.Lib.SmallJoins
import Derived.LoopTactic
import Derived.Handy
import Derived.Deep.LoopGhost
set_option linter.unusedSimpArgs false
set_option linter.unusedVariables false
namespace Go.Proofs.YtpfglmlpodjneaaGreat
open Go.RowKit

theorem und_strs : Tryz.prog.underlying 32 = some (.slice 9) := by kernel_rfl
theorem info_str : (Tryz.prog.info? 9).map (fun i => (i.zero, i.size, i.bytes)) = some (some (.string ByteArray.empty), 1, 16) := by kernel_rfl
/-- A slice of strings of the call's own. -/
def SRow (w : World) (base : Nat) (v : Value) (L : List ByteArray) : Prop := w.ownsRow base 9 1 v L.length (L.map Value.string)
theorem SRow.nil (w : World) (base : Nat) : SRow w base (.slice none 0 0) [] := World.ownsRow_nil w base 9 1
theorem SRow.keep {S : List Nat} {w w' : World} {base : Nat} {v : Value} {L : List ByteArray} (h : SRow w base v L) (hX : Chg S w w') (hS : ∀ b ∈ S, b < base) : SRow w' base v L := by
  refine ⟨h.1, ?_⟩
  rcases h.2 with hn | ⟨g, cap, cur, rfl, hb, hgg, rest⟩
  · exact .inl hn
  · refine .inr ⟨g, cap, cur, rfl, hb, ?_, rest⟩
    rw [hX.block g (Array.getElem?_eq_some_iff.1 hgg).1 (fun hm => by have := hS g hm; omega)]
    exact hgg
theorem SRow.grown {S : List Nat} {a w w' : World} {base : Nat} {v : Value} {L : List ByteArray} (h : SRow w base v L) (hX : Chg S a w) (g : w.grownBy w' v.ownBlock) (hb : a.heap.size ≤ base) : Chg S a w' :=
  ⟨g.os.trans hX.os, g.tape.trans hX.tape, g.output.trans hX.output, Nat.le_trans hX.size g.size,
    fun k hk hn => (g.block k (Nat.lt_of_lt_of_le hk hX.size) (fun e => by have := (World.ownsRow.lt h k e.symm).1; omega)).trans (hX.block k hk hn)⟩
theorem SRow.far {w w' : World} {base : Nat} {v : Value} {L : List ByteArray} (h : SRow w base v L) (g : w.grownBy w' v.ownBlock) {b : Nat} {cs : Array Value} (hA : At w b cs) (hb : b < base) : At w' b cs := by
  have hl := hA.lt
  obtain ⟨T, hA⟩ := hA
  exact ⟨T, (g.block b hl (fun e => by have := (World.ownsRow.lt h b e.symm).1; omega)).trans hA⟩
theorem wpList_appS {ops : Array Oper} {rest : List Oper} {o : Oper} {a : Act} {Q : Exit → Act → World → Prop} {w : World} (hgd : o.guard = none) (s x : Operand)
    (ho : o.op = .call { callee := .builtin .append, args := #[s, x], argTypes := #[32, 32] })
    {base : Nat} {v : Value} {L : List ByteArray} (hs : a.eval s = v) (hr : SRow w base v L) {bx : Nat} {t : ByteArray} (hx : a.eval x = .slice (some ⟨bx, 0, none⟩) 1 1)
    {cs : Array Value} (hA : At w bx cs) (hcs : cs = #[.string t]) (h63 : L.length + 1 ≤ 1000000) (hb : base ≤ w.heap.size)
    (h : ∀ v' w', SRow w' base v' (L ++ [t]) → w.grownBy w' v.ownBlock → wpList Tryz.prog ops Q rest (a.put o.dst v') w') : wpList Tryz.prog ops Q (o :: rest) a w := by
  obtain ⟨i, hi, hz, hz1, hz2⟩ := info_parts info_str
  subst hcs
  refine wpList_append_own w hgd s x 32 ho base 9 i (.string ByteArray.empty) 1 16 und_strs hi hz hz1 hz2 rfl (by decide) v L.length (L.map Value.string) hs hr ⟨bx, 0, none⟩ 1 1 [.string t] hx (by simp) ?_ ?_ (by unfold maxLen; omega) (by omega) hb ?_
  · intro j u hu
    have hadd : (⟨bx, 0, none⟩ : Addr).add j = ⟨bx, j, none⟩ := by unfold Addr.add; split <;> simp_all
    rw [hadd, hA.cell j]
    simpa using hu
  · intro u hu
    simp only [List.mem_singleton] at hu
    subst hu
    rfl
  · intro v' w' h1 h2 _
    refine h v' w' ?_ h2
    unfold SRow
    rw [List.length_append, List.map_append]
    exact h1
/-- A slice of strings, to be read. -/
def NmsR (w : World) (v : Value) (L : List ByteArray) : Prop := ∃ a cap, v = .slice a L.length cap ∧ ∀ i s, L[i]? = some s → ∃ g, a = some ⟨g, 0, none⟩ ∧ w.cell? ⟨g, i, none⟩ = some (.string s)
theorem NmsR.keep {w w' : World} {v : Value} {L : List ByteArray} (h : NmsR w v L) (hX : Chg [] w w') : NmsR w' v L := by
  obtain ⟨a, cap, h1, h2⟩ := h
  refine ⟨a, cap, h1, fun i s hs => ?_⟩
  obtain ⟨g, e, hc⟩ := h2 i s hs
  exact ⟨g, e, hX.cell hc (by simp)⟩
theorem SRow.names {w : World} {base : Nat} {v : Value} {L : List ByteArray} (h : SRow w base v L) : NmsR w v L := by
  rcases h.2 with ⟨rfl, h0⟩ | ⟨g, cap, cur, rfl, _, hg, _, _, hsz, htk⟩
  · refine ⟨none, 0, by rw [h0], fun i s hs => ?_⟩
    rw [List.length_eq_zero_iff.1 h0] at hs
    simp at hs
  · refine ⟨some ⟨g, 0, none⟩, cap, rfl, fun i s hs => ⟨g, rfl, ?_⟩⟩
    have hu : (L.map Value.string)[i]? = some (.string s) := by simp [hs]
    rw [← htk, List.getElem?_take] at hu
    split at hu
    · simp [World.cell?, hg]; simpa using hu
    · cases hu
def nmB : List ByteArray := [⟨#[114, 117, 108, 101, 115]⟩, ⟨#[112, 111, 119, 101, 114]⟩, ⟨#[108, 105, 110, 101]⟩, ⟨#[115, 117, 109, 115]⟩, ⟨#[110, 117, 109, 98, 101, 114, 115]⟩]
def namesN (f : Int) : Nat → List ByteArray
  | 0 => []
  | n + 1 => namesN f n ++ (if bitN f ((2 ^ n : Nat) : Int) = true then [(nmB[n]?).getD ByteArray.empty] else [])
theorem namesN_succ (f : Int) (n : Nat) : namesN f (n + 1) = namesN f n ++ (if bitN f ((2 ^ n : Nat) : Int) = true then [(nmB[n]?).getD ByteArray.empty] else []) := rfl
theorem namesN_len (f : Int) : ∀ n, (namesN f n).length ≤ n
  | 0 => by simp [namesN]
  | n + 1 => by
    have := namesN_len f n
    rw [namesN_succ, List.length_append]
    split <;> simp <;> omega
theorem bitN_div (f p : Int) : bitN (f / p) 1 = bitN f p := by unfold bitN; rw [Int.ediv_one]
set_option maxRecDepth 100000 in
set_option maxHeartbeats 4000000 in
theorem bnames_any (W : World) (f : Int) : Calls Tryz.prog 13 #[.int .i64 f] W fun e w' => ∃ v, e = .returned v ∧ NmsR w' v (namesN f 5) ∧ Chg [] W w' := by
  go_enter Tryz.func13, Tryz.ntmps13
  have CA := (CL.new W 0).push #[.string ⟨#[114, 117, 108, 101, 115]⟩, .string ⟨#[112, 111, 119, 101, 114]⟩, .string ⟨#[108, 105, 110, 101]⟩, .string ⟨#[115, 117, 109, 115]⟩, .string ⟨#[110, 117, 109, 98, 101, 114, 115]⟩] 9
  have hbl : W.heap.size + 1 ≤ (W.alloc (.cells #[.string ⟨#[114, 117, 108, 101, 115]⟩, .string ⟨#[112, 111, 119, 101, 114]⟩, .string ⟨#[108, 105, 110, 101]⟩, .string ⟨#[115, 117, 109, 115]⟩, .string ⟨#[110, 117, 109, 98, 101, 114, 115]⟩] 9)).heap.size := by simp
  go_wp2_with fail
  generalize hbb : W.heap.size = bb at *
  have hWb : W.heap.size ≤ bb := by omega
  generalize W.alloc (.cells #[.string ⟨#[114, 117, 108, 101, 115]⟩, .string ⟨#[112, 111, 119, 101, 114]⟩, .string ⟨#[108, 105, 110, 101]⟩, .string ⟨#[115, 117, 109, 115]⟩, .string ⟨#[110, 117, 109, 98, 101, 114, 115]⟩] 9) = w1 at *
  go_loopg [2, 7] 5 (fun gk aa ii wr => ∃ k : Nat, k + gk = 5 ∧ ii = .int .i64 k ∧ SRow wr (bb + 1) aa (namesN f k) ∧ CL W [(bb, #[.string ⟨#[114, 117, 108, 101, 115]⟩, .string ⟨#[112, 111, 119, 101, 114]⟩, .string ⟨#[108, 105, 110, 101]⟩, .string ⟨#[115, 117, 109, 115]⟩, .string ⟨#[110, 117, 109, 98, 101, 114, 115]⟩])] 0 wr ∧ bb + 1 ≤ wr.heap.size)
  case atStart => exact ⟨0, by omega, rfl, SRow.nil _ _, CA, hbl⟩
  case round =>
    clear CA hbl
    obtain ⟨k, hk, rfl, hR, C, hsz⟩ := hrel
    have hln := namesN_len f k
    by_cases hlt : k < 5
    · have hcs : k = 0 ∨ k = 1 ∨ k = 2 ∨ k = 3 ∨ k = 4 := by omega
      rcases hcs with rfl | rfl | rfl | rfl | rfl
      · have c0 := (C.get 0 rfl).cell 0
        dsimp only at c0
        have hN := Lib.hid (namesN_succ f 0)
        have ha := Lib.hid (and_1 f)
        have hq := and_1 f
        rw [show ((2 ^ 0 : Nat) : Int) = 1 from rfl] at hN
        cases hb : bitN f 1 with
        | false =>
          have ha2 := ha.out
          rw [hb] at ha2 hq hN
          simp only [if_true, Bool.false_eq_true, if_false] at ha2 hq
          clear ha hb
          go_wp2_with fail
          go_roundg (gk - 1)
          case rel => exact ⟨1, by omega, by go_num, by rw [hN.out]; simpa using hR, C, hsz⟩
          case measure => omega
        | true =>
          have ha2 := ha.out
          rw [hb] at ha2 hq hN
          simp only [if_true, Bool.false_eq_true, if_false] at ha2 hq
          clear ha hb
          have hA := At.new wr #[.string ⟨#[114, 117, 108, 101, 115]⟩] 9
          have hXa := (Chg.refl [] wr).alloc (.cells #[.string ⟨#[114, 117, 108, 101, 115]⟩] 9)
          have hR2 := hR.keep hXa (by simp)
          have hsz2 : bb + 1 ≤ (wr.alloc (.cells #[.string ⟨#[114, 117, 108, 101, 115]⟩] 9)).heap.size := Nat.le_trans hsz hXa.size
          go_wp2_with (at_builtin; refine wpList_appS rfl (.tmp 17) (.tmp 19) rfl rfl hR2 rfl hA rfl (by omega) hsz2 ?_; intro v9 w9 h9 hg9; refine Hid.out ?_)
          refine Lib.hid ?_
          have hA9 := hR2.far hg9 ((hXa.at (C.get 0 rfl) (by simp))) (by simp)
          have hX9 : Chg [] W w9 := hR2.grown (C.x.trans hXa) hg9 (by omega)
          have C9 : CL W [(bb, #[.string ⟨#[114, 117, 108, 101, 115]⟩, .string ⟨#[112, 111, 119, 101, 114]⟩, .string ⟨#[108, 105, 110, 101]⟩, .string ⟨#[115, 117, 109, 115]⟩, .string ⟨#[110, 117, 109, 98, 101, 114, 115]⟩])] 0 w9 := ⟨fun e he => by simp only [List.mem_cons, List.not_mem_nil, or_false] at he; subst he; exact hA9, hX9⟩
          have hsz9 : bb + 1 ≤ w9.heap.size := Nat.le_trans hsz2 hg9.size
          go_wp2_with fail
          go_roundg (gk - 1)
          case rel => exact ⟨1, by omega, by go_num, by rw [hN.out]; exact h9, C9, hsz9⟩
          case measure => omega
      · have c0 := (C.get 0 rfl).cell 1
        dsimp only at c0
        have hN := Lib.hid (namesN_succ f 1)
        have ha := Lib.hid (and_2 f)
        have hq : bits .and .i64 (f / 2) 1 = (if bitN f 2 = true then 1 else 0) := by rw [and_1, bitN_div]
        rw [show ((2 ^ 1 : Nat) : Int) = 2 from rfl] at hN
        cases hb : bitN f 2 with
        | false =>
          have ha2 := ha.out
          rw [hb] at ha2 hq hN
          simp only [if_true, Bool.false_eq_true, if_false] at ha2 hq
          clear ha hb
          go_wp2_with fail
          go_roundg (gk - 1)
          case rel => exact ⟨2, by omega, by go_num, by rw [hN.out]; simpa using hR, C, hsz⟩
          case measure => omega
        | true =>
          have ha2 := ha.out
          rw [hb] at ha2 hq hN
          simp only [if_true, Bool.false_eq_true, if_false] at ha2 hq
          clear ha hb
          have hA := At.new wr #[.string ⟨#[112, 111, 119, 101, 114]⟩] 9
          have hXa := (Chg.refl [] wr).alloc (.cells #[.string ⟨#[112, 111, 119, 101, 114]⟩] 9)
          have hR2 := hR.keep hXa (by simp)
          have hsz2 : bb + 1 ≤ (wr.alloc (.cells #[.string ⟨#[112, 111, 119, 101, 114]⟩] 9)).heap.size := Nat.le_trans hsz hXa.size
          go_wp2_with (at_builtin; refine wpList_appS rfl (.tmp 17) (.tmp 19) rfl rfl hR2 rfl hA rfl (by omega) hsz2 ?_; intro v9 w9 h9 hg9; refine Hid.out ?_)
          refine Lib.hid ?_
          have hA9 := hR2.far hg9 ((hXa.at (C.get 0 rfl) (by simp))) (by simp)
          have hX9 : Chg [] W w9 := hR2.grown (C.x.trans hXa) hg9 (by omega)
          have C9 : CL W [(bb, #[.string ⟨#[114, 117, 108, 101, 115]⟩, .string ⟨#[112, 111, 119, 101, 114]⟩, .string ⟨#[108, 105, 110, 101]⟩, .string ⟨#[115, 117, 109, 115]⟩, .string ⟨#[110, 117, 109, 98, 101, 114, 115]⟩])] 0 w9 := ⟨fun e he => by simp only [List.mem_cons, List.not_mem_nil, or_false] at he; subst he; exact hA9, hX9⟩
          have hsz9 : bb + 1 ≤ w9.heap.size := Nat.le_trans hsz2 hg9.size
          go_wp2_with fail
          go_roundg (gk - 1)
          case rel => exact ⟨2, by omega, by go_num, by rw [hN.out]; exact h9, C9, hsz9⟩
          case measure => omega
      · have c0 := (C.get 0 rfl).cell 2
        dsimp only at c0
        have hN := Lib.hid (namesN_succ f 2)
        have ha := Lib.hid (and_4 f)
        have hq : bits .and .i64 (f / 4) 1 = (if bitN f 4 = true then 1 else 0) := by rw [and_1, bitN_div]
        rw [show ((2 ^ 2 : Nat) : Int) = 4 from rfl] at hN
        cases hb : bitN f 4 with
        | false =>
          have ha2 := ha.out
          rw [hb] at ha2 hq hN
          simp only [if_true, Bool.false_eq_true, if_false] at ha2 hq
          clear ha hb
          go_wp2_with fail
          go_roundg (gk - 1)
          case rel => exact ⟨3, by omega, by go_num, by rw [hN.out]; simpa using hR, C, hsz⟩
          case measure => omega
        | true =>
          have ha2 := ha.out
          rw [hb] at ha2 hq hN
          simp only [if_true, Bool.false_eq_true, if_false] at ha2 hq
          clear ha hb
          have hA := At.new wr #[.string ⟨#[108, 105, 110, 101]⟩] 9
          have hXa := (Chg.refl [] wr).alloc (.cells #[.string ⟨#[108, 105, 110, 101]⟩] 9)
          have hR2 := hR.keep hXa (by simp)
          have hsz2 : bb + 1 ≤ (wr.alloc (.cells #[.string ⟨#[108, 105, 110, 101]⟩] 9)).heap.size := Nat.le_trans hsz hXa.size
          go_wp2_with (at_builtin; refine wpList_appS rfl (.tmp 17) (.tmp 19) rfl rfl hR2 rfl hA rfl (by omega) hsz2 ?_; intro v9 w9 h9 hg9; refine Hid.out ?_)
          refine Lib.hid ?_
          have hA9 := hR2.far hg9 ((hXa.at (C.get 0 rfl) (by simp))) (by simp)
          have hX9 : Chg [] W w9 := hR2.grown (C.x.trans hXa) hg9 (by omega)
          have C9 : CL W [(bb, #[.string ⟨#[114, 117, 108, 101, 115]⟩, .string ⟨#[112, 111, 119, 101, 114]⟩, .string ⟨#[108, 105, 110, 101]⟩, .string ⟨#[115, 117, 109, 115]⟩, .string ⟨#[110, 117, 109, 98, 101, 114, 115]⟩])] 0 w9 := ⟨fun e he => by simp only [List.mem_cons, List.not_mem_nil, or_false] at he; subst he; exact hA9, hX9⟩
          have hsz9 : bb + 1 ≤ w9.heap.size := Nat.le_trans hsz2 hg9.size
          go_wp2_with fail
          go_roundg (gk - 1)
          case rel => exact ⟨3, by omega, by go_num, by rw [hN.out]; exact h9, C9, hsz9⟩
          case measure => omega
      · have c0 := (C.get 0 rfl).cell 3
        dsimp only at c0
        have hN := Lib.hid (namesN_succ f 3)
        have ha := Lib.hid (and_8 f)
        have hq : bits .and .i64 (f / 8) 1 = (if bitN f 8 = true then 1 else 0) := by rw [and_1, bitN_div]
        rw [show ((2 ^ 3 : Nat) : Int) = 8 from rfl] at hN
        cases hb : bitN f 8 with
        | false =>
          have ha2 := ha.out
          rw [hb] at ha2 hq hN
          simp only [if_true, Bool.false_eq_true, if_false] at ha2 hq
          clear ha hb
          go_wp2_with fail
          go_roundg (gk - 1)
          case rel => exact ⟨4, by omega, by go_num, by rw [hN.out]; simpa using hR, C, hsz⟩
          case measure => omega
        | true =>
          have ha2 := ha.out
          rw [hb] at ha2 hq hN
          simp only [if_true, Bool.false_eq_true, if_false] at ha2 hq
          clear ha hb
          have hA := At.new wr #[.string ⟨#[115, 117, 109, 115]⟩] 9
          have hXa := (Chg.refl [] wr).alloc (.cells #[.string ⟨#[115, 117, 109, 115]⟩] 9)
          have hR2 := hR.keep hXa (by simp)
          have hsz2 : bb + 1 ≤ (wr.alloc (.cells #[.string ⟨#[115, 117, 109, 115]⟩] 9)).heap.size := Nat.le_trans hsz hXa.size
          go_wp2_with (at_builtin; refine wpList_appS rfl (.tmp 17) (.tmp 19) rfl rfl hR2 rfl hA rfl (by omega) hsz2 ?_; intro v9 w9 h9 hg9; refine Hid.out ?_)
          refine Lib.hid ?_
          have hA9 := hR2.far hg9 ((hXa.at (C.get 0 rfl) (by simp))) (by simp)
          have hX9 : Chg [] W w9 := hR2.grown (C.x.trans hXa) hg9 (by omega)
          have C9 : CL W [(bb, #[.string ⟨#[114, 117, 108, 101, 115]⟩, .string ⟨#[112, 111, 119, 101, 114]⟩, .string ⟨#[108, 105, 110, 101]⟩, .string ⟨#[115, 117, 109, 115]⟩, .string ⟨#[110, 117, 109, 98, 101, 114, 115]⟩])] 0 w9 := ⟨fun e he => by simp only [List.mem_cons, List.not_mem_nil, or_false] at he; subst he; exact hA9, hX9⟩
          have hsz9 : bb + 1 ≤ w9.heap.size := Nat.le_trans hsz2 hg9.size
          go_wp2_with fail
          go_roundg (gk - 1)
          case rel => exact ⟨4, by omega, by go_num, by rw [hN.out]; exact h9, C9, hsz9⟩
          case measure => omega
      · have c0 := (C.get 0 rfl).cell 4
        dsimp only at c0
        have hN := Lib.hid (namesN_succ f 4)
        have ha := Lib.hid (and_16 f)
        have hq : bits .and .i64 (f / 16) 1 = (if bitN f 16 = true then 1 else 0) := by rw [and_1, bitN_div]
        rw [show ((2 ^ 4 : Nat) : Int) = 16 from rfl] at hN
        cases hb : bitN f 16 with
        | false =>
          have ha2 := ha.out
          rw [hb] at ha2 hq hN
          simp only [if_true, Bool.false_eq_true, if_false] at ha2 hq
          clear ha hb
          go_wp2_with fail
          go_roundg (gk - 1)
          case rel => exact ⟨5, by omega, by go_num, by rw [hN.out]; simpa using hR, C, hsz⟩
          case measure => omega
        | true =>
          have ha2 := ha.out
          rw [hb] at ha2 hq hN
          simp only [if_true, Bool.false_eq_true, if_false] at ha2 hq
          clear ha hb
          have hA := At.new wr #[.string ⟨#[110, 117, 109, 98, 101, 114, 115]⟩] 9
          have hXa := (Chg.refl [] wr).alloc (.cells #[.string ⟨#[110, 117, 109, 98, 101, 114, 115]⟩] 9)
          have hR2 := hR.keep hXa (by simp)
          have hsz2 : bb + 1 ≤ (wr.alloc (.cells #[.string ⟨#[110, 117, 109, 98, 101, 114, 115]⟩] 9)).heap.size := Nat.le_trans hsz hXa.size
          go_wp2_with (at_builtin; refine wpList_appS rfl (.tmp 17) (.tmp 19) rfl rfl hR2 rfl hA rfl (by omega) hsz2 ?_; intro v9 w9 h9 hg9; refine Hid.out ?_)
          refine Lib.hid ?_
          have hA9 := hR2.far hg9 ((hXa.at (C.get 0 rfl) (by simp))) (by simp)
          have hX9 : Chg [] W w9 := hR2.grown (C.x.trans hXa) hg9 (by omega)
          have C9 : CL W [(bb, #[.string ⟨#[114, 117, 108, 101, 115]⟩, .string ⟨#[112, 111, 119, 101, 114]⟩, .string ⟨#[108, 105, 110, 101]⟩, .string ⟨#[115, 117, 109, 115]⟩, .string ⟨#[110, 117, 109, 98, 101, 114, 115]⟩])] 0 w9 := ⟨fun e he => by simp only [List.mem_cons, List.not_mem_nil, or_false] at he; subst he; exact hA9, hX9⟩
          have hsz9 : bb + 1 ≤ w9.heap.size := Nat.le_trans hsz2 hg9.size
          go_wp2_with fail
          go_roundg (gk - 1)
          case rel => exact ⟨5, by omega, by go_num, by rw [hN.out]; exact h9, C9, hsz9⟩
          case measure => omega
    · obtain rfl : gk = 0 := by omega
      obtain rfl : k = 5 := by omega
      go_wp2
      go_returns
      exact ⟨_, rfl, hR.names, C.x⟩
set_option maxRecDepth 100000 in
set_option maxHeartbeats 4000000 in
theorem rnames_any (W : World) (f : Int) : Calls Tryz.prog 14 #[.int .i64 f] W fun e w' => ∃ v, e = .returned v ∧ NmsR w' v (namesN f 5) ∧ Chg [] W w' := by
  go_enter Tryz.func14, Tryz.ntmps14
  have CA := (CL.new W 0).push #[.string ⟨#[114, 117, 108, 101, 115]⟩, .string ⟨#[112, 111, 119, 101, 114]⟩, .string ⟨#[108, 105, 110, 101]⟩, .string ⟨#[115, 117, 109, 115]⟩, .string ⟨#[110, 117, 109, 98, 101, 114, 115]⟩] 9
  have hbl : W.heap.size + 1 ≤ (W.alloc (.cells #[.string ⟨#[114, 117, 108, 101, 115]⟩, .string ⟨#[112, 111, 119, 101, 114]⟩, .string ⟨#[108, 105, 110, 101]⟩, .string ⟨#[115, 117, 109, 115]⟩, .string ⟨#[110, 117, 109, 98, 101, 114, 115]⟩] 9)).heap.size := by simp
  go_wp2_with fail
  generalize hbb : W.heap.size = bb at *
  have hWb : W.heap.size ≤ bb := by omega
  generalize W.alloc (.cells #[.string ⟨#[114, 117, 108, 101, 115]⟩, .string ⟨#[112, 111, 119, 101, 114]⟩, .string ⟨#[108, 105, 110, 101]⟩, .string ⟨#[115, 117, 109, 115]⟩, .string ⟨#[110, 117, 109, 98, 101, 114, 115]⟩] 9) = w1 at *
  go_loopg [4, 5] 5 (fun gk aa ii wr => ∃ k : Nat, k + gk = 5 ∧ ii = .int .i64 k ∧ SRow wr (bb + 1) aa (namesN f k) ∧ CL W [(bb, #[.string ⟨#[114, 117, 108, 101, 115]⟩, .string ⟨#[112, 111, 119, 101, 114]⟩, .string ⟨#[108, 105, 110, 101]⟩, .string ⟨#[115, 117, 109, 115]⟩, .string ⟨#[110, 117, 109, 98, 101, 114, 115]⟩])] 0 wr ∧ bb + 1 ≤ wr.heap.size)
  case atStart => exact ⟨0, by omega, rfl, SRow.nil _ _, CA, hbl⟩
  case round =>
    clear CA hbl
    obtain ⟨k, hk, rfl, hR, C, hsz⟩ := hrel
    have hln := namesN_len f k
    by_cases hlt : k < 5
    · have hcs : k = 0 ∨ k = 1 ∨ k = 2 ∨ k = 3 ∨ k = 4 := by omega
      rcases hcs with rfl | rfl | rfl | rfl | rfl
      · have c0 := (C.get 0 rfl).cell 0
        dsimp only at c0
        have hN := Lib.hid (namesN_succ f 0)
        have ha := Lib.hid (and_1 f)
        have hq := and_1 f
        rw [show ((2 ^ 0 : Nat) : Int) = 1 from rfl] at hN
        cases hb : bitN f 1 with
        | false =>
          have ha2 := ha.out
          rw [hb] at ha2 hq hN
          simp only [if_true, Bool.false_eq_true, if_false] at ha2 hq
          clear ha hb
          go_wp2_with fail
          go_roundg (gk - 1)
          case rel => exact ⟨1, by omega, by go_num, by rw [hN.out]; simpa using hR, C, hsz⟩
          case measure => omega
        | true =>
          have ha2 := ha.out
          rw [hb] at ha2 hq hN
          simp only [if_true, Bool.false_eq_true, if_false] at ha2 hq
          clear ha hb
          have hA := At.new wr #[.string ⟨#[114, 117, 108, 101, 115]⟩] 9
          have hXa := (Chg.refl [] wr).alloc (.cells #[.string ⟨#[114, 117, 108, 101, 115]⟩] 9)
          have hR2 := hR.keep hXa (by simp)
          have hsz2 : bb + 1 ≤ (wr.alloc (.cells #[.string ⟨#[114, 117, 108, 101, 115]⟩] 9)).heap.size := Nat.le_trans hsz hXa.size
          go_wp2_with (at_builtin; refine wpList_appS rfl (.tmp 16) (.tmp 21) rfl rfl hR2 rfl hA rfl (by omega) hsz2 ?_; intro v9 w9 h9 hg9; refine Hid.out ?_)
          refine Lib.hid ?_
          have hA9 := hR2.far hg9 ((hXa.at (C.get 0 rfl) (by simp))) (by simp)
          have hX9 : Chg [] W w9 := hR2.grown (C.x.trans hXa) hg9 (by omega)
          have C9 : CL W [(bb, #[.string ⟨#[114, 117, 108, 101, 115]⟩, .string ⟨#[112, 111, 119, 101, 114]⟩, .string ⟨#[108, 105, 110, 101]⟩, .string ⟨#[115, 117, 109, 115]⟩, .string ⟨#[110, 117, 109, 98, 101, 114, 115]⟩])] 0 w9 := ⟨fun e he => by simp only [List.mem_cons, List.not_mem_nil, or_false] at he; subst he; exact hA9, hX9⟩
          have hsz9 : bb + 1 ≤ w9.heap.size := Nat.le_trans hsz2 hg9.size
          go_wp2_with fail
          go_roundg (gk - 1)
          case rel => exact ⟨1, by omega, by go_num, by rw [hN.out]; exact h9, C9, hsz9⟩
          case measure => omega
      · have c0 := (C.get 0 rfl).cell 1
        dsimp only at c0
        have hN := Lib.hid (namesN_succ f 1)
        have ha := Lib.hid (and_2 f)
        have hq : bits .and .i64 (f / 2) 1 = (if bitN f 2 = true then 1 else 0) := by rw [and_1, bitN_div]
        rw [show ((2 ^ 1 : Nat) : Int) = 2 from rfl] at hN
        cases hb : bitN f 2 with
        | false =>
          have ha2 := ha.out
          rw [hb] at ha2 hq hN
          simp only [if_true, Bool.false_eq_true, if_false] at ha2 hq
          clear ha hb
          go_wp2_with fail
          go_roundg (gk - 1)
          case rel => exact ⟨2, by omega, by go_num, by rw [hN.out]; simpa using hR, C, hsz⟩
          case measure => omega
        | true =>
          have ha2 := ha.out
          rw [hb] at ha2 hq hN
          simp only [if_true, Bool.false_eq_true, if_false] at ha2 hq
          clear ha hb
          have hA := At.new wr #[.string ⟨#[112, 111, 119, 101, 114]⟩] 9
          have hXa := (Chg.refl [] wr).alloc (.cells #[.string ⟨#[112, 111, 119, 101, 114]⟩] 9)
          have hR2 := hR.keep hXa (by simp)
          have hsz2 : bb + 1 ≤ (wr.alloc (.cells #[.string ⟨#[112, 111, 119, 101, 114]⟩] 9)).heap.size := Nat.le_trans hsz hXa.size
          go_wp2_with (at_builtin; refine wpList_appS rfl (.tmp 16) (.tmp 21) rfl rfl hR2 rfl hA rfl (by omega) hsz2 ?_; intro v9 w9 h9 hg9; refine Hid.out ?_)
          refine Lib.hid ?_
          have hA9 := hR2.far hg9 ((hXa.at (C.get 0 rfl) (by simp))) (by simp)
          have hX9 : Chg [] W w9 := hR2.grown (C.x.trans hXa) hg9 (by omega)
          have C9 : CL W [(bb, #[.string ⟨#[114, 117, 108, 101, 115]⟩, .string ⟨#[112, 111, 119, 101, 114]⟩, .string ⟨#[108, 105, 110, 101]⟩, .string ⟨#[115, 117, 109, 115]⟩, .string ⟨#[110, 117, 109, 98, 101, 114, 115]⟩])] 0 w9 := ⟨fun e he => by simp only [List.mem_cons, List.not_mem_nil, or_false] at he; subst he; exact hA9, hX9⟩
          have hsz9 : bb + 1 ≤ w9.heap.size := Nat.le_trans hsz2 hg9.size
          go_wp2_with fail
          go_roundg (gk - 1)
          case rel => exact ⟨2, by omega, by go_num, by rw [hN.out]; exact h9, C9, hsz9⟩
          case measure => omega
      · have c0 := (C.get 0 rfl).cell 2
        dsimp only at c0
        have hN := Lib.hid (namesN_succ f 2)
        have ha := Lib.hid (and_4 f)
        have hq : bits .and .i64 (f / 4) 1 = (if bitN f 4 = true then 1 else 0) := by rw [and_1, bitN_div]
        rw [show ((2 ^ 2 : Nat) : Int) = 4 from rfl] at hN
        cases hb : bitN f 4 with
        | false =>
          have ha2 := ha.out
          rw [hb] at ha2 hq hN
          simp only [if_true, Bool.false_eq_true, if_false] at ha2 hq
          clear ha hb
          go_wp2_with fail
          go_roundg (gk - 1)
          case rel => exact ⟨3, by omega, by go_num, by rw [hN.out]; simpa using hR, C, hsz⟩
          case measure => omega
        | true =>
          have ha2 := ha.out
          rw [hb] at ha2 hq hN
          simp only [if_true, Bool.false_eq_true, if_false] at ha2 hq
          clear ha hb
          have hA := At.new wr #[.string ⟨#[108, 105, 110, 101]⟩] 9
          have hXa := (Chg.refl [] wr).alloc (.cells #[.string ⟨#[108, 105, 110, 101]⟩] 9)
          have hR2 := hR.keep hXa (by simp)
          have hsz2 : bb + 1 ≤ (wr.alloc (.cells #[.string ⟨#[108, 105, 110, 101]⟩] 9)).heap.size := Nat.le_trans hsz hXa.size
          go_wp2_with (at_builtin; refine wpList_appS rfl (.tmp 16) (.tmp 21) rfl rfl hR2 rfl hA rfl (by omega) hsz2 ?_; intro v9 w9 h9 hg9; refine Hid.out ?_)
          refine Lib.hid ?_
          have hA9 := hR2.far hg9 ((hXa.at (C.get 0 rfl) (by simp))) (by simp)
          have hX9 : Chg [] W w9 := hR2.grown (C.x.trans hXa) hg9 (by omega)
          have C9 : CL W [(bb, #[.string ⟨#[114, 117, 108, 101, 115]⟩, .string ⟨#[112, 111, 119, 101, 114]⟩, .string ⟨#[108, 105, 110, 101]⟩, .string ⟨#[115, 117, 109, 115]⟩, .string ⟨#[110, 117, 109, 98, 101, 114, 115]⟩])] 0 w9 := ⟨fun e he => by simp only [List.mem_cons, List.not_mem_nil, or_false] at he; subst he; exact hA9, hX9⟩
          have hsz9 : bb + 1 ≤ w9.heap.size := Nat.le_trans hsz2 hg9.size
          go_wp2_with fail
          go_roundg (gk - 1)
          case rel => exact ⟨3, by omega, by go_num, by rw [hN.out]; exact h9, C9, hsz9⟩
          case measure => omega
      · have c0 := (C.get 0 rfl).cell 3
        dsimp only at c0
        have hN := Lib.hid (namesN_succ f 3)
        have ha := Lib.hid (and_8 f)
        have hq : bits .and .i64 (f / 8) 1 = (if bitN f 8 = true then 1 else 0) := by rw [and_1, bitN_div]
        rw [show ((2 ^ 3 : Nat) : Int) = 8 from rfl] at hN
        cases hb : bitN f 8 with
        | false =>
          have ha2 := ha.out
          rw [hb] at ha2 hq hN
          simp only [if_true, Bool.false_eq_true, if_false] at ha2 hq
          clear ha hb
          go_wp2_with fail
          go_roundg (gk - 1)
          case rel => exact ⟨4, by omega, by go_num, by rw [hN.out]; simpa using hR, C, hsz⟩
          case measure => omega
        | true =>
          have ha2 := ha.out
          rw [hb] at ha2 hq hN
          simp only [if_true, Bool.false_eq_true, if_false] at ha2 hq
          clear ha hb
          have hA := At.new wr #[.string ⟨#[115, 117, 109, 115]⟩] 9
          have hXa := (Chg.refl [] wr).alloc (.cells #[.string ⟨#[115, 117, 109, 115]⟩] 9)
          have hR2 := hR.keep hXa (by simp)
          have hsz2 : bb + 1 ≤ (wr.alloc (.cells #[.string ⟨#[115, 117, 109, 115]⟩] 9)).heap.size := Nat.le_trans hsz hXa.size
          go_wp2_with (at_builtin; refine wpList_appS rfl (.tmp 16) (.tmp 21) rfl rfl hR2 rfl hA rfl (by omega) hsz2 ?_; intro v9 w9 h9 hg9; refine Hid.out ?_)
          refine Lib.hid ?_
          have hA9 := hR2.far hg9 ((hXa.at (C.get 0 rfl) (by simp))) (by simp)
          have hX9 : Chg [] W w9 := hR2.grown (C.x.trans hXa) hg9 (by omega)
          have C9 : CL W [(bb, #[.string ⟨#[114, 117, 108, 101, 115]⟩, .string ⟨#[112, 111, 119, 101, 114]⟩, .string ⟨#[108, 105, 110, 101]⟩, .string ⟨#[115, 117, 109, 115]⟩, .string ⟨#[110, 117, 109, 98, 101, 114, 115]⟩])] 0 w9 := ⟨fun e he => by simp only [List.mem_cons, List.not_mem_nil, or_false] at he; subst he; exact hA9, hX9⟩
          have hsz9 : bb + 1 ≤ w9.heap.size := Nat.le_trans hsz2 hg9.size
          go_wp2_with fail
          go_roundg (gk - 1)
          case rel => exact ⟨4, by omega, by go_num, by rw [hN.out]; exact h9, C9, hsz9⟩
          case measure => omega
      · have c0 := (C.get 0 rfl).cell 4
        dsimp only at c0
        have hN := Lib.hid (namesN_succ f 4)
        have ha := Lib.hid (and_16 f)
        have hq : bits .and .i64 (f / 16) 1 = (if bitN f 16 = true then 1 else 0) := by rw [and_1, bitN_div]
        rw [show ((2 ^ 4 : Nat) : Int) = 16 from rfl] at hN
        cases hb : bitN f 16 with
        | false =>
          have ha2 := ha.out
          rw [hb] at ha2 hq hN
          simp only [if_true, Bool.false_eq_true, if_false] at ha2 hq
          clear ha hb
          go_wp2_with fail
          go_roundg (gk - 1)
          case rel => exact ⟨5, by omega, by go_num, by rw [hN.out]; simpa using hR, C, hsz⟩
          case measure => omega
        | true =>
          have ha2 := ha.out
          rw [hb] at ha2 hq hN
          simp only [if_true, Bool.false_eq_true, if_false] at ha2 hq
          clear ha hb
          have hA := At.new wr #[.string ⟨#[110, 117, 109, 98, 101, 114, 115]⟩] 9
          have hXa := (Chg.refl [] wr).alloc (.cells #[.string ⟨#[110, 117, 109, 98, 101, 114, 115]⟩] 9)
          have hR2 := hR.keep hXa (by simp)
          have hsz2 : bb + 1 ≤ (wr.alloc (.cells #[.string ⟨#[110, 117, 109, 98, 101, 114, 115]⟩] 9)).heap.size := Nat.le_trans hsz hXa.size
          go_wp2_with (at_builtin; refine wpList_appS rfl (.tmp 16) (.tmp 21) rfl rfl hR2 rfl hA rfl (by omega) hsz2 ?_; intro v9 w9 h9 hg9; refine Hid.out ?_)
          refine Lib.hid ?_
          have hA9 := hR2.far hg9 ((hXa.at (C.get 0 rfl) (by simp))) (by simp)
          have hX9 : Chg [] W w9 := hR2.grown (C.x.trans hXa) hg9 (by omega)
          have C9 : CL W [(bb, #[.string ⟨#[114, 117, 108, 101, 115]⟩, .string ⟨#[112, 111, 119, 101, 114]⟩, .string ⟨#[108, 105, 110, 101]⟩, .string ⟨#[115, 117, 109, 115]⟩, .string ⟨#[110, 117, 109, 98, 101, 114, 115]⟩])] 0 w9 := ⟨fun e he => by simp only [List.mem_cons, List.not_mem_nil, or_false] at he; subst he; exact hA9, hX9⟩
          have hsz9 : bb + 1 ≤ w9.heap.size := Nat.le_trans hsz2 hg9.size
          go_wp2_with fail
          go_roundg (gk - 1)
          case rel => exact ⟨5, by omega, by go_num, by rw [hN.out]; exact h9, C9, hsz9⟩
          case measure => omega
    · obtain rfl : gk = 0 := by omega
      obtain rfl : k = 5 := by omega
      go_wp2
      go_returns
      exact ⟨_, rfl, hR.names, C.x⟩
end Go.Proofs.YtpfglmlpodjneaaGreat
