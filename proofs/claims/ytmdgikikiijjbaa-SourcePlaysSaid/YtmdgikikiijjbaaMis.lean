/- apogeelaw13.Mission, of one and of two phases. -/
import Derived.Test.YtmdgikikiijjbaaSrh
import Derived.Test.YtmdgikikiijjbaaRow
import Derived.LoopTactic
import Derived.Laws.ResultCell
namespace Go.Proofs.Ytmdgikikiijjbaa
open Go.RowKit

theorem und_phs : Try.prog.underlying 22 = some (.slice 64) := by kernel_rfl
theorem info_ph : (Try.prog.info? 64).map (fun i => (i.zero, i.size, i.bytes)) = some (some (.agg #[.slice none 0 0, .int .i64 0, .int .i64 0, .int .i64 0, .int .i64 0]), 5, 56) := by kernel_rfl
def PRow (w : World) (base : Nat) (v : Value) (n : Nat) (xs : List Value) : Prop := w.ownsRow base 64 5 v n xs
theorem PRow.keep {S : List Nat} {w w' : World} {base n : Nat} {v : Value} {xs : List Value} (h : PRow w base v n xs) (hX : Chg S w w') (hS : ∀ b ∈ S, b < base) : PRow w' base v n xs := by
  refine ⟨h.1, ?_⟩
  rcases h.2 with hn | ⟨g, cap, cur, rfl, hb, hgg, rest⟩
  · exact .inl hn
  · refine .inr ⟨g, cap, cur, rfl, hb, ?_, rest⟩
    rw [hX.block g (Array.getElem?_eq_some_iff.1 hgg).1 (fun hm => by have := hS g hm; omega)]
    exact hgg
theorem PRow.grown {S : List Nat} {a w w' : World} {base n : Nat} {v : Value} {xs : List Value} (h : PRow w base v n xs) (hX : Chg S a w) (g : w.grownBy w' v.ownBlock) (hb : a.heap.size ≤ base) : Chg S a w' :=
  ⟨g.os.trans hX.os, g.tape.trans hX.tape, g.output.trans hX.output, Nat.le_trans hX.size g.size,
    fun k hk hn => (g.block k (Nat.lt_of_lt_of_le hk hX.size) (fun e => by have := (World.ownsRow.lt h k e.symm).1; omega)).trans (hX.block k hk hn)⟩
theorem PRow.far {w w' : World} {base n : Nat} {v : Value} {xs : List Value} (h : PRow w base v n xs) (g : w.grownBy w' v.ownBlock) {b : Nat} {cs : Array Value} (hA : At w b cs) (hb : b < base) : At w' b cs := by
  have hl := hA.lt
  obtain ⟨T, hA⟩ := hA
  exact ⟨T, (g.block b hl (fun e => by have := (World.ownsRow.lt h b e.symm).1; omega)).trans hA⟩
theorem wpList_appP {ops : Array Oper} {rest : List Oper} {o : Oper} {a : Act} {Q : Exit → Act → World → Prop} {w : World} (hgd : o.guard = none) (s x : Operand)
    (ho : o.op = .call { callee := .builtin .append, args := #[s, x], argTypes := #[22, 22] })
    {base n : Nat} {v : Value} {xs : List Value} (hs : a.eval s = v) (hr : PRow w base v n xs) {bx c : Nat} {cs : Array Value} (hx : a.eval x = .slice (some ⟨bx, 0, none⟩) 1 c)
    (hA : At w bx cs) (h5 : cs.size = 5) (h1 : ∀ u ∈ cs.toList, u.oneCell' = true) (hn : n ≤ 100) (hb : base ≤ w.heap.size)
    (h : ∀ v' w', PRow w' base v' (n + 1) (xs ++ cs.toList) → w.grownBy w' v.ownBlock → wpList Try.prog ops Q rest (a.put o.dst v') w') : wpList Try.prog ops Q (o :: rest) a w := by
  obtain ⟨i, hi, hz, hz1, hz2⟩ := info_parts info_ph
  refine wpList_append_own w hgd s x 22 ho base 64 i _ 5 56 und_phs hi hz hz1 hz2 rfl (by decide) v n xs hs hr ⟨bx, 0, none⟩ 1 c cs.toList hx (by simp [h5]) ?_ h1 (by unfold maxLen; omega) (by omega) hb ?_
  · intro j u hu
    have hadd : (⟨bx, 0, none⟩ : Addr).add j = ⟨bx, j, none⟩ := by unfold Addr.add; split <;> simp_all
    rw [hadd, hA.cell j]
    simpa using hu
  · intro v' w' h1 h2 _
    exact h v' w' h1 h2

set_option maxRecDepth 100000 in
set_option maxHeartbeats 2000000 in
theorem mission_1 (w : World) : Calls Try.prog 14 #[.int .i64 1] w fun e w' => ∃ g cap : Nat, e = .returned (.agg #[.slice (some ⟨g, 0, none⟩) 1 cap, .int .i64 2, .int .i64 3, .int .i64 4, .int .i64 2, .int .i64 50, .int .i64 2, .int .i64 10, .int .i64 1]) ∧ Chg [] w w' := by
  go_enter Try.func14, Try.ntmps14
  go_upto_region 1 with fail
  have hR := At.new w #[.slice none 0 0, .int .i64 0, .int .i64 0, .int .i64 0, .int .i64 0, .int .i64 0, .int .i64 0, .int .i64 0, .int .i64 0] 24
  have hX : Chg [] w (w.alloc (.cells #[.slice none 0 0, .int .i64 0, .int .i64 0, .int .i64 0, .int .i64 0, .int .i64 0, .int .i64 0, .int .i64 0, .int .i64 0] 24)) := (Chg.refl _ _).alloc _
  have hRl := hR.lt
  generalize w.alloc (.cells #[.slice none 0 0, .int .i64 0, .int .i64 0, .int .i64 0, .int .i64 0, .int .i64 0, .int .i64 0, .int .i64 0, .int .i64 0] 24) = wa at *
  generalize hz : w.heap.size = z at *
  go_upto_region 2 with fail
  have hY := At.new wa #[.slice none 0 0, .int .i64 2, .int .i64 3, .int .i64 4, .int .i64 2, .int .i64 50, .int .i64 2, .int .i64 10, .int .i64 1] 24
  replace hR := hR.alloc (.cells #[.slice none 0 0, .int .i64 2, .int .i64 3, .int .i64 4, .int .i64 2, .int .i64 50, .int .i64 2, .int .i64 10, .int .i64 1] 24)
  replace hX := hX.alloc (.cells #[.slice none 0 0, .int .i64 2, .int .i64 3, .int .i64 4, .int .i64 2, .int .i64 50, .int .i64 2, .int .i64 10, .int .i64 1] 24)
  have hXs : z ≤ wa.heap.size := by omega
  have hY1 := hY.lt
  generalize wa.heap.size = y at *
  generalize wa.alloc (.cells #[.slice none 0 0, .int .i64 2, .int .i64 3, .int .i64 4, .int .i64 2, .int .i64 50, .int .i64 2, .int .i64 10, .int .i64 1] 24) = w0 at *
  have hP0 : PRow w0 (y + 1) (.slice none 0 0) 0 [] := World.ownsRow_nil w0 (y + 1) 64 5
  obtain ⟨v0, hv0⟩ : ∃ v : Value, v = .slice none 0 0 := ⟨_, rfl⟩
  rw [← hv0] at hY hP0
  have HV0 := Lib.hid hv0
  clear hv0
  have hYs : y + 1 ≤ w0.heap.size := hY1
  have hzy : z ≠ y := by omega
  clear hY1
  go_wp2_with fail
  refine wp_loop_rounds 2 ?_
  rw [rounds_succ]
  have y0 : w0.cell? ⟨y, 0, none⟩ = some v0 := hY.cell 0
  have yf0 := hY.frozen 0
  have hPB : PRow ((w0.alloc (.cells #[.int .i64 (-1000), .int .i64 (-1000), .int .i64 1000, .int .i64 (-1000), .int .i64 1000, .int .i64 1000, .int .i64 (-1000), .int .i64 1000] 61)).alloc (.cells #[.slice (some ⟨w0.heap.size, 0, none⟩) 4 4, .int .i64 1, .int .i64 200, .int .i64 5, .int .i64 100] 64)) (y + 1) (v0) 0 _ := (hP0.keep ((Chg.refl [] _).alloc _) (by simp)).keep ((Chg.refl [] _).alloc _) (by simp)
  have hYB : At ((w0.alloc (.cells #[.int .i64 (-1000), .int .i64 (-1000), .int .i64 1000, .int .i64 (-1000), .int .i64 1000, .int .i64 1000, .int .i64 (-1000), .int .i64 1000] 61)).alloc (.cells #[.slice (some ⟨w0.heap.size, 0, none⟩) 4 4, .int .i64 1, .int .i64 200, .int .i64 5, .int .i64 100] 64)) y _ := (hY.alloc _).alloc _
  have hRB : At ((w0.alloc (.cells #[.int .i64 (-1000), .int .i64 (-1000), .int .i64 1000, .int .i64 (-1000), .int .i64 1000, .int .i64 1000, .int .i64 (-1000), .int .i64 1000] 61)).alloc (.cells #[.slice (some ⟨w0.heap.size, 0, none⟩) 4 4, .int .i64 1, .int .i64 200, .int .i64 5, .int .i64 100] 64)) z _ := (hR.alloc _).alloc _
  have hXB : Chg [] w ((w0.alloc (.cells #[.int .i64 (-1000), .int .i64 (-1000), .int .i64 1000, .int .i64 (-1000), .int .i64 1000, .int .i64 1000, .int .i64 (-1000), .int .i64 1000] 61)).alloc (.cells #[.slice (some ⟨w0.heap.size, 0, none⟩) 4 4, .int .i64 1, .int .i64 200, .int .i64 5, .int .i64 100] 64)) := (hX.alloc _).alloc _
  have hsB : y + 1 ≤ ((w0.alloc (.cells #[.int .i64 (-1000), .int .i64 (-1000), .int .i64 1000, .int .i64 (-1000), .int .i64 1000, .int .i64 1000, .int .i64 (-1000), .int .i64 1000] 61)).alloc (.cells #[.slice (some ⟨w0.heap.size, 0, none⟩) 4 4, .int .i64 1, .int .i64 200, .int .i64 5, .int .i64 100] 64)).heap.size := by simp; omega
  clear hY hR hX hP0 hYs
  have hAA := At.new (w0.alloc (.cells #[.int .i64 (-1000), .int .i64 (-1000), .int .i64 1000, .int .i64 (-1000), .int .i64 1000, .int .i64 1000, .int .i64 (-1000), .int .i64 1000] 61)) #[.slice (some ⟨w0.heap.size, 0, none⟩) 4 4, .int .i64 1, .int .i64 200, .int .i64 5, .int .i64 100] 64
  have h1c : ∀ u ∈ (#[.slice (some ⟨w0.heap.size, 0, none⟩) 4 4, .int .i64 1, .int .i64 200, .int .i64 5, .int .i64 100] : Array Value).toList, u.oneCell' = true := by intro u hu; simp only [List.mem_cons, List.not_mem_nil, or_false] at hu; rcases hu with rfl | rfl | rfl | rfl | rfl <;> rfl
  have hszA : (w0.alloc (.cells #[.int .i64 (-1000), .int .i64 (-1000), .int .i64 1000, .int .i64 (-1000), .int .i64 1000, .int .i64 1000, .int .i64 (-1000), .int .i64 1000] 61)).heap.size = w0.heap.size + 1 := by simp
  rw [hszA] at hAA
  clear hszA
  go_wp2_with (at_builtin; refine wpList_appP rfl (.tmp 10) (.tmp 17) rfl rfl hPB rfl hAA rfl h1c (by omega) hsB ?_; intro v1 ws1 hQ g; refine Hid.out ?_)
  refine Lib.hid ?_
  obtain ⟨g1, cp1, rfl⟩ := Joins.ownsRow_form (n := 1) hQ (by omega)
  have hYQ := hPB.far g hYB (by omega)
  have hRQ := hPB.far g hRB (by omega)
  have hXQ := hPB.grown hXB g (by omega)
  have hsQ : y + 1 ≤ ws1.heap.size := Nat.le_trans hsB g.size
  have q0 : ws1.cell? ⟨y, 0, none⟩ = some v0 := hYQ.cell 0
  have qf0 : ws1.frozen? ⟨y, 0, none⟩ = false := hYQ.frozen 0
  go_wp2_with fail
  have hY := hYQ.set 0 (.slice (some ⟨g1, 0, none⟩) 1 cp1) rfl
  simp only [List.setIfInBounds_toArray, List.set_cons_zero] at hY
  have hR := hRQ.other ⟨y, 0, none⟩ (.slice (some ⟨g1, 0, none⟩) 1 cp1) hzy
  have hX := hXQ.setCell (p := ⟨y, 0, none⟩) (Or.inr (by simp; omega)) (.slice (some ⟨g1, 0, none⟩) 1 cp1)
  have hP1 : PRow (ws1.setCell ⟨y, 0, none⟩ (.slice (some ⟨g1, 0, none⟩) 1 cp1)) (y + 1) (.slice (some ⟨g1, 0, none⟩) 1 cp1) 1 _ := PRow.keep (n := 1) hQ ((Chg.refl [y] _).setCell (p := ⟨y, 0, none⟩) (Or.inl (by simp)) (.slice (some ⟨g1, 0, none⟩) 1 cp1)) (by simp)
  have hYs : y + 1 ≤ (ws1.setCell ⟨y, 0, none⟩ (.slice (some ⟨g1, 0, none⟩) 1 cp1)).heap.size := by simpa [World.setCell] using hsQ
  clear hQ hYQ hRQ hXQ hsQ q0 qf0 g hAA h1c hPB hYB hRB hXB hsB y0 yf0
  generalize ws1.setCell ⟨y, 0, none⟩ (.slice (some ⟨g1, 0, none⟩) 1 cp1) = w1 at *
  rw [rounds_succ]
  have y0 : w1.cell? ⟨y, 0, none⟩ = some ((.slice (some ⟨g1, 0, none⟩) 1 cp1)) := hY.cell 0
  have y1 : w1.cell? ⟨y, 1, none⟩ = some (.int .i64 2) := hY.cell 1
  have y2 : w1.cell? ⟨y, 2, none⟩ = some (.int .i64 3) := hY.cell 2
  have y3 : w1.cell? ⟨y, 3, none⟩ = some (.int .i64 4) := hY.cell 3
  have y4 : w1.cell? ⟨y, 4, none⟩ = some (.int .i64 2) := hY.cell 4
  have y5 : w1.cell? ⟨y, 5, none⟩ = some (.int .i64 50) := hY.cell 5
  have y6 : w1.cell? ⟨y, 6, none⟩ = some (.int .i64 2) := hY.cell 6
  have y7 : w1.cell? ⟨y, 7, none⟩ = some (.int .i64 10) := hY.cell 7
  have y8 : w1.cell? ⟨y, 8, none⟩ = some (.int .i64 1) := hY.cell 8
  have r0 := hR.cell 0; have rf0 := hR.frozen 0
  have r1 := hR.cell 1; have rf1 := hR.frozen 1
  have r2 := hR.cell 2; have rf2 := hR.frozen 2
  have r3 := hR.cell 3; have rf3 := hR.frozen 3
  have r4 := hR.cell 4; have rf4 := hR.frozen 4
  have r5 := hR.cell 5; have rf5 := hR.frozen 5
  have r6 := hR.cell 6; have rf6 := hR.frozen 6
  have r7 := hR.cell 7; have rf7 := hR.frozen 7
  have r8 := hR.cell 8; have rf8 := hR.frozen 8
  go_wp2_with fail
  clear r0 rf0 y0 r1 rf1 y1 r2 rf2 y2 r3 rf3 y3 r4 rf4 y4 r5 rf5 y5 r6 rf6 y6 r7 rf7 y7 r8 rf8 y8
  have hR9 := (((((((((hR).set 0 ((.slice (some ⟨g1, 0, none⟩) 1 cp1)) rfl).set 1 (.int .i64 2) rfl).set 2 (.int .i64 3) rfl).set 3 (.int .i64 4) rfl).set 4 (.int .i64 2) rfl).set 5 (.int .i64 50) rfl).set 6 (.int .i64 2) rfl).set 7 (.int .i64 10) rfl).set 8 (.int .i64 1) rfl
  simp only [List.setIfInBounds_toArray, List.set_cons_succ, List.set_cons_zero] at hR9
  have hX9 := (((((((((hX).setCell (p := ⟨z, 0, none⟩) (Or.inr (by simp; omega)) ((.slice (some ⟨g1, 0, none⟩) 1 cp1))).setCell (p := ⟨z, 1, none⟩) (Or.inr (by simp; omega)) (.int .i64 2)).setCell (p := ⟨z, 2, none⟩) (Or.inr (by simp; omega)) (.int .i64 3)).setCell (p := ⟨z, 3, none⟩) (Or.inr (by simp; omega)) (.int .i64 4)).setCell (p := ⟨z, 4, none⟩) (Or.inr (by simp; omega)) (.int .i64 2)).setCell (p := ⟨z, 5, none⟩) (Or.inr (by simp; omega)) (.int .i64 50)).setCell (p := ⟨z, 6, none⟩) (Or.inr (by simp; omega)) (.int .i64 2)).setCell (p := ⟨z, 7, none⟩) (Or.inr (by simp; omega)) (.int .i64 10)).setCell (p := ⟨z, 8, none⟩) (Or.inr (by simp; omega)) (.int .i64 1)
  generalize (((((((((w1).setCell ⟨z, 0, none⟩ ((.slice (some ⟨g1, 0, none⟩) 1 cp1))).setCell ⟨z, 1, none⟩ (.int .i64 2)).setCell ⟨z, 2, none⟩ (.int .i64 3)).setCell ⟨z, 3, none⟩ (.int .i64 4)).setCell ⟨z, 4, none⟩ (.int .i64 2)).setCell ⟨z, 5, none⟩ (.int .i64 50)).setCell ⟨z, 6, none⟩ (.int .i64 2)).setCell ⟨z, 7, none⟩ (.int .i64 10)).setCell ⟨z, 8, none⟩ (.int .i64 1) = w9 at *
  have r0 : w9.cell? ⟨z, 0, none⟩ = some ((.slice (some ⟨g1, 0, none⟩) 1 cp1)) := hR9.cell 0
  have r1 : w9.cell? ⟨z, 1, none⟩ = some (.int .i64 2) := hR9.cell 1
  have r2 : w9.cell? ⟨z, 2, none⟩ = some (.int .i64 3) := hR9.cell 2
  have r3 : w9.cell? ⟨z, 3, none⟩ = some (.int .i64 4) := hR9.cell 3
  have r4 : w9.cell? ⟨z, 4, none⟩ = some (.int .i64 2) := hR9.cell 4
  have r5 : w9.cell? ⟨z, 5, none⟩ = some (.int .i64 50) := hR9.cell 5
  have r6 : w9.cell? ⟨z, 6, none⟩ = some (.int .i64 2) := hR9.cell 6
  have r7 : w9.cell? ⟨z, 7, none⟩ = some (.int .i64 10) := hR9.cell 7
  have r8 : w9.cell? ⟨z, 8, none⟩ = some (.int .i64 1) := hR9.cell 8
  exact bodyPost_ret (v := .agg #[(.slice (some ⟨g1, 0, none⟩) 1 cp1), .int .i64 2, .int .i64 3, .int .i64 4, .int .i64 2, .int .i64 50, .int .i64 2, .int .i64 10, .int .i64 1]) (by simp [results, Try.results14, go_sem, r0, r1, r2, r3, r4, r5, r6, r7, r8]) rfl ⟨_, _, rfl, hX9⟩
set_option maxRecDepth 100000 in
set_option maxHeartbeats 2000000 in
theorem mission_2 (w : World) : Calls Try.prog 14 #[.int .i64 2] w fun e w' => ∃ g cap : Nat, e = .returned (.agg #[.slice (some ⟨g, 0, none⟩) 2 cap, .int .i64 2, .int .i64 3, .int .i64 4, .int .i64 2, .int .i64 50, .int .i64 2, .int .i64 10, .int .i64 2]) ∧ Chg [] w w' := by
  go_enter Try.func14, Try.ntmps14
  go_upto_region 1 with fail
  have hR := At.new w #[.slice none 0 0, .int .i64 0, .int .i64 0, .int .i64 0, .int .i64 0, .int .i64 0, .int .i64 0, .int .i64 0, .int .i64 0] 24
  have hX : Chg [] w (w.alloc (.cells #[.slice none 0 0, .int .i64 0, .int .i64 0, .int .i64 0, .int .i64 0, .int .i64 0, .int .i64 0, .int .i64 0, .int .i64 0] 24)) := (Chg.refl _ _).alloc _
  have hRl := hR.lt
  generalize w.alloc (.cells #[.slice none 0 0, .int .i64 0, .int .i64 0, .int .i64 0, .int .i64 0, .int .i64 0, .int .i64 0, .int .i64 0, .int .i64 0] 24) = wa at *
  generalize hz : w.heap.size = z at *
  go_upto_region 2 with fail
  have hY := At.new wa #[.slice none 0 0, .int .i64 2, .int .i64 3, .int .i64 4, .int .i64 2, .int .i64 50, .int .i64 2, .int .i64 10, .int .i64 2] 24
  replace hR := hR.alloc (.cells #[.slice none 0 0, .int .i64 2, .int .i64 3, .int .i64 4, .int .i64 2, .int .i64 50, .int .i64 2, .int .i64 10, .int .i64 2] 24)
  replace hX := hX.alloc (.cells #[.slice none 0 0, .int .i64 2, .int .i64 3, .int .i64 4, .int .i64 2, .int .i64 50, .int .i64 2, .int .i64 10, .int .i64 2] 24)
  have hXs : z ≤ wa.heap.size := by omega
  have hY1 := hY.lt
  generalize wa.heap.size = y at *
  generalize wa.alloc (.cells #[.slice none 0 0, .int .i64 2, .int .i64 3, .int .i64 4, .int .i64 2, .int .i64 50, .int .i64 2, .int .i64 10, .int .i64 2] 24) = w0 at *
  have hP0 : PRow w0 (y + 1) (.slice none 0 0) 0 [] := World.ownsRow_nil w0 (y + 1) 64 5
  obtain ⟨v0, hv0⟩ : ∃ v : Value, v = .slice none 0 0 := ⟨_, rfl⟩
  rw [← hv0] at hY hP0
  have HV0 := Lib.hid hv0
  clear hv0
  have hYs : y + 1 ≤ w0.heap.size := hY1
  have hzy : z ≠ y := by omega
  clear hY1
  go_wp2_with fail
  refine wp_loop_rounds 3 ?_
  rw [rounds_succ]
  have y0 : w0.cell? ⟨y, 0, none⟩ = some v0 := hY.cell 0
  have yf0 := hY.frozen 0
  have hPB : PRow ((w0.alloc (.cells #[.int .i64 (-1000), .int .i64 (-1000), .int .i64 1000, .int .i64 (-1000), .int .i64 1000, .int .i64 1000, .int .i64 (-1000), .int .i64 1000] 61)).alloc (.cells #[.slice (some ⟨w0.heap.size, 0, none⟩) 4 4, .int .i64 1, .int .i64 200, .int .i64 5, .int .i64 100] 64)) (y + 1) (v0) 0 _ := (hP0.keep ((Chg.refl [] _).alloc _) (by simp)).keep ((Chg.refl [] _).alloc _) (by simp)
  have hYB : At ((w0.alloc (.cells #[.int .i64 (-1000), .int .i64 (-1000), .int .i64 1000, .int .i64 (-1000), .int .i64 1000, .int .i64 1000, .int .i64 (-1000), .int .i64 1000] 61)).alloc (.cells #[.slice (some ⟨w0.heap.size, 0, none⟩) 4 4, .int .i64 1, .int .i64 200, .int .i64 5, .int .i64 100] 64)) y _ := (hY.alloc _).alloc _
  have hRB : At ((w0.alloc (.cells #[.int .i64 (-1000), .int .i64 (-1000), .int .i64 1000, .int .i64 (-1000), .int .i64 1000, .int .i64 1000, .int .i64 (-1000), .int .i64 1000] 61)).alloc (.cells #[.slice (some ⟨w0.heap.size, 0, none⟩) 4 4, .int .i64 1, .int .i64 200, .int .i64 5, .int .i64 100] 64)) z _ := (hR.alloc _).alloc _
  have hXB : Chg [] w ((w0.alloc (.cells #[.int .i64 (-1000), .int .i64 (-1000), .int .i64 1000, .int .i64 (-1000), .int .i64 1000, .int .i64 1000, .int .i64 (-1000), .int .i64 1000] 61)).alloc (.cells #[.slice (some ⟨w0.heap.size, 0, none⟩) 4 4, .int .i64 1, .int .i64 200, .int .i64 5, .int .i64 100] 64)) := (hX.alloc _).alloc _
  have hsB : y + 1 ≤ ((w0.alloc (.cells #[.int .i64 (-1000), .int .i64 (-1000), .int .i64 1000, .int .i64 (-1000), .int .i64 1000, .int .i64 1000, .int .i64 (-1000), .int .i64 1000] 61)).alloc (.cells #[.slice (some ⟨w0.heap.size, 0, none⟩) 4 4, .int .i64 1, .int .i64 200, .int .i64 5, .int .i64 100] 64)).heap.size := by simp; omega
  clear hY hR hX hP0 hYs
  have hAA := At.new (w0.alloc (.cells #[.int .i64 (-1000), .int .i64 (-1000), .int .i64 1000, .int .i64 (-1000), .int .i64 1000, .int .i64 1000, .int .i64 (-1000), .int .i64 1000] 61)) #[.slice (some ⟨w0.heap.size, 0, none⟩) 4 4, .int .i64 1, .int .i64 200, .int .i64 5, .int .i64 100] 64
  have h1c : ∀ u ∈ (#[.slice (some ⟨w0.heap.size, 0, none⟩) 4 4, .int .i64 1, .int .i64 200, .int .i64 5, .int .i64 100] : Array Value).toList, u.oneCell' = true := by intro u hu; simp only [List.mem_cons, List.not_mem_nil, or_false] at hu; rcases hu with rfl | rfl | rfl | rfl | rfl <;> rfl
  have hszA : (w0.alloc (.cells #[.int .i64 (-1000), .int .i64 (-1000), .int .i64 1000, .int .i64 (-1000), .int .i64 1000, .int .i64 1000, .int .i64 (-1000), .int .i64 1000] 61)).heap.size = w0.heap.size + 1 := by simp
  rw [hszA] at hAA
  clear hszA
  go_wp2_with (at_builtin; refine wpList_appP rfl (.tmp 10) (.tmp 17) rfl rfl hPB rfl hAA rfl h1c (by omega) hsB ?_; intro v1 ws1 hQ g; refine Hid.out ?_)
  refine Lib.hid ?_
  obtain ⟨g1, cp1, rfl⟩ := Joins.ownsRow_form (n := 1) hQ (by omega)
  have hYQ := hPB.far g hYB (by omega)
  have hRQ := hPB.far g hRB (by omega)
  have hXQ := hPB.grown hXB g (by omega)
  have hsQ : y + 1 ≤ ws1.heap.size := Nat.le_trans hsB g.size
  have q0 : ws1.cell? ⟨y, 0, none⟩ = some v0 := hYQ.cell 0
  have qf0 : ws1.frozen? ⟨y, 0, none⟩ = false := hYQ.frozen 0
  go_wp2_with fail
  have hY := hYQ.set 0 (.slice (some ⟨g1, 0, none⟩) 1 cp1) rfl
  simp only [List.setIfInBounds_toArray, List.set_cons_zero] at hY
  have hR := hRQ.other ⟨y, 0, none⟩ (.slice (some ⟨g1, 0, none⟩) 1 cp1) hzy
  have hX := hXQ.setCell (p := ⟨y, 0, none⟩) (Or.inr (by simp; omega)) (.slice (some ⟨g1, 0, none⟩) 1 cp1)
  have hP1 : PRow (ws1.setCell ⟨y, 0, none⟩ (.slice (some ⟨g1, 0, none⟩) 1 cp1)) (y + 1) (.slice (some ⟨g1, 0, none⟩) 1 cp1) 1 _ := PRow.keep (n := 1) hQ ((Chg.refl [y] _).setCell (p := ⟨y, 0, none⟩) (Or.inl (by simp)) (.slice (some ⟨g1, 0, none⟩) 1 cp1)) (by simp)
  have hYs : y + 1 ≤ (ws1.setCell ⟨y, 0, none⟩ (.slice (some ⟨g1, 0, none⟩) 1 cp1)).heap.size := by simpa [World.setCell] using hsQ
  clear hQ hYQ hRQ hXQ hsQ q0 qf0 g hAA h1c hPB hYB hRB hXB hsB y0 yf0
  generalize ws1.setCell ⟨y, 0, none⟩ (.slice (some ⟨g1, 0, none⟩) 1 cp1) = w1 at *
  rw [rounds_succ]
  have y0 : w1.cell? ⟨y, 0, none⟩ = some (.slice (some ⟨g1, 0, none⟩) 1 cp1) := hY.cell 0
  have yf0 := hY.frozen 0
  have hPB : PRow ((w1.alloc (.cells #[.int .i64 (-1000), .int .i64 (-1000), .int .i64 1000, .int .i64 (-1000), .int .i64 1000, .int .i64 1000, .int .i64 (-1000), .int .i64 1000] 61)).alloc (.cells #[.slice (some ⟨w1.heap.size, 0, none⟩) 4 4, .int .i64 1, .int .i64 200, .int .i64 5, .int .i64 100] 64)) (y + 1) ((.slice (some ⟨g1, 0, none⟩) 1 cp1)) 1 _ := (hP1.keep ((Chg.refl [] _).alloc _) (by simp)).keep ((Chg.refl [] _).alloc _) (by simp)
  have hYB : At ((w1.alloc (.cells #[.int .i64 (-1000), .int .i64 (-1000), .int .i64 1000, .int .i64 (-1000), .int .i64 1000, .int .i64 1000, .int .i64 (-1000), .int .i64 1000] 61)).alloc (.cells #[.slice (some ⟨w1.heap.size, 0, none⟩) 4 4, .int .i64 1, .int .i64 200, .int .i64 5, .int .i64 100] 64)) y _ := (hY.alloc _).alloc _
  have hRB : At ((w1.alloc (.cells #[.int .i64 (-1000), .int .i64 (-1000), .int .i64 1000, .int .i64 (-1000), .int .i64 1000, .int .i64 1000, .int .i64 (-1000), .int .i64 1000] 61)).alloc (.cells #[.slice (some ⟨w1.heap.size, 0, none⟩) 4 4, .int .i64 1, .int .i64 200, .int .i64 5, .int .i64 100] 64)) z _ := (hR.alloc _).alloc _
  have hXB : Chg [] w ((w1.alloc (.cells #[.int .i64 (-1000), .int .i64 (-1000), .int .i64 1000, .int .i64 (-1000), .int .i64 1000, .int .i64 1000, .int .i64 (-1000), .int .i64 1000] 61)).alloc (.cells #[.slice (some ⟨w1.heap.size, 0, none⟩) 4 4, .int .i64 1, .int .i64 200, .int .i64 5, .int .i64 100] 64)) := (hX.alloc _).alloc _
  have hsB : y + 1 ≤ ((w1.alloc (.cells #[.int .i64 (-1000), .int .i64 (-1000), .int .i64 1000, .int .i64 (-1000), .int .i64 1000, .int .i64 1000, .int .i64 (-1000), .int .i64 1000] 61)).alloc (.cells #[.slice (some ⟨w1.heap.size, 0, none⟩) 4 4, .int .i64 1, .int .i64 200, .int .i64 5, .int .i64 100] 64)).heap.size := by simp; omega
  clear hY hR hX hP1 hYs
  have hAA := At.new (w1.alloc (.cells #[.int .i64 (-1000), .int .i64 (-1000), .int .i64 1000, .int .i64 (-1000), .int .i64 1000, .int .i64 1000, .int .i64 (-1000), .int .i64 1000] 61)) #[.slice (some ⟨w1.heap.size, 0, none⟩) 4 4, .int .i64 1, .int .i64 200, .int .i64 5, .int .i64 100] 64
  have h1c : ∀ u ∈ (#[.slice (some ⟨w1.heap.size, 0, none⟩) 4 4, .int .i64 1, .int .i64 200, .int .i64 5, .int .i64 100] : Array Value).toList, u.oneCell' = true := by intro u hu; simp only [List.mem_cons, List.not_mem_nil, or_false] at hu; rcases hu with rfl | rfl | rfl | rfl | rfl <;> rfl
  have hszA : (w1.alloc (.cells #[.int .i64 (-1000), .int .i64 (-1000), .int .i64 1000, .int .i64 (-1000), .int .i64 1000, .int .i64 1000, .int .i64 (-1000), .int .i64 1000] 61)).heap.size = w1.heap.size + 1 := by simp
  rw [hszA] at hAA
  clear hszA
  go_wp2_with (at_builtin; refine wpList_appP rfl (.tmp 10) (.tmp 17) rfl rfl hPB rfl hAA rfl h1c (by omega) hsB ?_; intro v2 ws2 hQ g; refine Hid.out ?_)
  refine Lib.hid ?_
  obtain ⟨g2, cp2, rfl⟩ := Joins.ownsRow_form (n := 2) hQ (by omega)
  have hYQ := hPB.far g hYB (by omega)
  have hRQ := hPB.far g hRB (by omega)
  have hXQ := hPB.grown hXB g (by omega)
  have hsQ : y + 1 ≤ ws2.heap.size := Nat.le_trans hsB g.size
  have q0 : ws2.cell? ⟨y, 0, none⟩ = some (.slice (some ⟨g1, 0, none⟩) 1 cp1) := hYQ.cell 0
  have qf0 : ws2.frozen? ⟨y, 0, none⟩ = false := hYQ.frozen 0
  go_wp2_with fail
  have hY := hYQ.set 0 (.slice (some ⟨g2, 0, none⟩) 2 cp2) rfl
  simp only [List.setIfInBounds_toArray, List.set_cons_zero] at hY
  have hR := hRQ.other ⟨y, 0, none⟩ (.slice (some ⟨g2, 0, none⟩) 2 cp2) hzy
  have hX := hXQ.setCell (p := ⟨y, 0, none⟩) (Or.inr (by simp; omega)) (.slice (some ⟨g2, 0, none⟩) 2 cp2)
  have hP2 : PRow (ws2.setCell ⟨y, 0, none⟩ (.slice (some ⟨g2, 0, none⟩) 2 cp2)) (y + 1) (.slice (some ⟨g2, 0, none⟩) 2 cp2) 2 _ := PRow.keep (n := 2) hQ ((Chg.refl [y] _).setCell (p := ⟨y, 0, none⟩) (Or.inl (by simp)) (.slice (some ⟨g2, 0, none⟩) 2 cp2)) (by simp)
  have hYs : y + 1 ≤ (ws2.setCell ⟨y, 0, none⟩ (.slice (some ⟨g2, 0, none⟩) 2 cp2)).heap.size := by simpa [World.setCell] using hsQ
  clear hQ hYQ hRQ hXQ hsQ q0 qf0 g hAA h1c hPB hYB hRB hXB hsB y0 yf0
  generalize ws2.setCell ⟨y, 0, none⟩ (.slice (some ⟨g2, 0, none⟩) 2 cp2) = w2 at *
  rw [rounds_succ]
  have y0 : w2.cell? ⟨y, 0, none⟩ = some ((.slice (some ⟨g2, 0, none⟩) 2 cp2)) := hY.cell 0
  have y1 : w2.cell? ⟨y, 1, none⟩ = some (.int .i64 2) := hY.cell 1
  have y2 : w2.cell? ⟨y, 2, none⟩ = some (.int .i64 3) := hY.cell 2
  have y3 : w2.cell? ⟨y, 3, none⟩ = some (.int .i64 4) := hY.cell 3
  have y4 : w2.cell? ⟨y, 4, none⟩ = some (.int .i64 2) := hY.cell 4
  have y5 : w2.cell? ⟨y, 5, none⟩ = some (.int .i64 50) := hY.cell 5
  have y6 : w2.cell? ⟨y, 6, none⟩ = some (.int .i64 2) := hY.cell 6
  have y7 : w2.cell? ⟨y, 7, none⟩ = some (.int .i64 10) := hY.cell 7
  have y8 : w2.cell? ⟨y, 8, none⟩ = some (.int .i64 2) := hY.cell 8
  have r0 := hR.cell 0; have rf0 := hR.frozen 0
  have r1 := hR.cell 1; have rf1 := hR.frozen 1
  have r2 := hR.cell 2; have rf2 := hR.frozen 2
  have r3 := hR.cell 3; have rf3 := hR.frozen 3
  have r4 := hR.cell 4; have rf4 := hR.frozen 4
  have r5 := hR.cell 5; have rf5 := hR.frozen 5
  have r6 := hR.cell 6; have rf6 := hR.frozen 6
  have r7 := hR.cell 7; have rf7 := hR.frozen 7
  have r8 := hR.cell 8; have rf8 := hR.frozen 8
  go_wp2_with fail
  clear r0 rf0 y0 r1 rf1 y1 r2 rf2 y2 r3 rf3 y3 r4 rf4 y4 r5 rf5 y5 r6 rf6 y6 r7 rf7 y7 r8 rf8 y8
  have hR9 := (((((((((hR).set 0 ((.slice (some ⟨g2, 0, none⟩) 2 cp2)) rfl).set 1 (.int .i64 2) rfl).set 2 (.int .i64 3) rfl).set 3 (.int .i64 4) rfl).set 4 (.int .i64 2) rfl).set 5 (.int .i64 50) rfl).set 6 (.int .i64 2) rfl).set 7 (.int .i64 10) rfl).set 8 (.int .i64 2) rfl
  simp only [List.setIfInBounds_toArray, List.set_cons_succ, List.set_cons_zero] at hR9
  have hX9 := (((((((((hX).setCell (p := ⟨z, 0, none⟩) (Or.inr (by simp; omega)) ((.slice (some ⟨g2, 0, none⟩) 2 cp2))).setCell (p := ⟨z, 1, none⟩) (Or.inr (by simp; omega)) (.int .i64 2)).setCell (p := ⟨z, 2, none⟩) (Or.inr (by simp; omega)) (.int .i64 3)).setCell (p := ⟨z, 3, none⟩) (Or.inr (by simp; omega)) (.int .i64 4)).setCell (p := ⟨z, 4, none⟩) (Or.inr (by simp; omega)) (.int .i64 2)).setCell (p := ⟨z, 5, none⟩) (Or.inr (by simp; omega)) (.int .i64 50)).setCell (p := ⟨z, 6, none⟩) (Or.inr (by simp; omega)) (.int .i64 2)).setCell (p := ⟨z, 7, none⟩) (Or.inr (by simp; omega)) (.int .i64 10)).setCell (p := ⟨z, 8, none⟩) (Or.inr (by simp; omega)) (.int .i64 2)
  generalize (((((((((w2).setCell ⟨z, 0, none⟩ ((.slice (some ⟨g2, 0, none⟩) 2 cp2))).setCell ⟨z, 1, none⟩ (.int .i64 2)).setCell ⟨z, 2, none⟩ (.int .i64 3)).setCell ⟨z, 3, none⟩ (.int .i64 4)).setCell ⟨z, 4, none⟩ (.int .i64 2)).setCell ⟨z, 5, none⟩ (.int .i64 50)).setCell ⟨z, 6, none⟩ (.int .i64 2)).setCell ⟨z, 7, none⟩ (.int .i64 10)).setCell ⟨z, 8, none⟩ (.int .i64 2) = w9 at *
  have r0 : w9.cell? ⟨z, 0, none⟩ = some ((.slice (some ⟨g2, 0, none⟩) 2 cp2)) := hR9.cell 0
  have r1 : w9.cell? ⟨z, 1, none⟩ = some (.int .i64 2) := hR9.cell 1
  have r2 : w9.cell? ⟨z, 2, none⟩ = some (.int .i64 3) := hR9.cell 2
  have r3 : w9.cell? ⟨z, 3, none⟩ = some (.int .i64 4) := hR9.cell 3
  have r4 : w9.cell? ⟨z, 4, none⟩ = some (.int .i64 2) := hR9.cell 4
  have r5 : w9.cell? ⟨z, 5, none⟩ = some (.int .i64 50) := hR9.cell 5
  have r6 : w9.cell? ⟨z, 6, none⟩ = some (.int .i64 2) := hR9.cell 6
  have r7 : w9.cell? ⟨z, 7, none⟩ = some (.int .i64 10) := hR9.cell 7
  have r8 : w9.cell? ⟨z, 8, none⟩ = some (.int .i64 2) := hR9.cell 8
  exact bodyPost_ret (v := .agg #[(.slice (some ⟨g2, 0, none⟩) 2 cp2), .int .i64 2, .int .i64 3, .int .i64 4, .int .i64 2, .int .i64 50, .int .i64 2, .int .i64 10, .int .i64 2]) (by simp [results, Try.results14, go_sem, r0, r1, r2, r3, r4, r5, r6, r7, r8]) rfl ⟨_, _, rfl, hX9⟩
end Go.Proofs.Ytmdgikikiijjbaa
