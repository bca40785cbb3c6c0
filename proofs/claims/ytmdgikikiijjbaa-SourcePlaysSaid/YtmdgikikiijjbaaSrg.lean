/- Package source: New, Reset, Last, Age, Cycle. -/
import Derived.Test.YtmdgikikiijjbaaSrf
import Derived.Laws.ResultCell
namespace Go.Proofs.Ytmdgikikiijjbaa
open Go.RowKit

theorem At.ne {w : World} {b c : Nat} {cs ds : Array Value} (h : At w b cs) (k : At w c ds) (hs : cs.size ≠ ds.size) : b ≠ c := by
  rintro rfl
  obtain ⟨T, h⟩ := h
  obtain ⟨U, k⟩ := k
  rw [h] at k
  cases k
  exact hs rfl
/-- A source in memory: its block, its counter's. -/
structure Src (w : World) (b c : Nat) (s : SV) : Prop where
  b : At w b (s.cells c)
  c : Ctr w c s.old 1000000
theorem Src.ne {w : World} {b c : Nat} {s : SV} (h : Src w b c s) : b ≠ c := At.ne h.b h.c (by simp [SV.cells])
theorem Src.keep {S : List Nat} {w w' : World} {b c : Nat} {s : SV} (h : Src w b c s) (hX : Chg S w w') (hb : b ∉ S) (hc : c ∉ S) : Src w' b c s := ⟨hX.at h.b hb, hX.at h.c hc⟩
def SV.good (s : SV) (n : NV) : SV := { s with last := n, has := true, old := 0 }
def SV.bad (s : SV) : SV := if cAdd s.old 1000000 1 > s.most then { s with last := NV.zero, has := false, old := cAdd s.old 1000000 1 } else { s with old := cAdd s.old 1000000 1 }

structure UR (W : World) (b c z : Nat) (cs zs : Array Value) (o o' : Int) (k : Nat) (w : World) : Prop where
  hb : At w b cs
  hr : At w z zs
  x : Chg [b, c] W w
  k0 : k = 0 → Ctr w c o 1000000
  k1 : 1 ≤ k → Ctr w c o' 1000000

set_option maxRecDepth 100000 in
set_option maxHeartbeats 2000000 in
theorem cyc_good (w : World) (b c : Nat) (s : SV) (n : NV) (hs : s.ok) (hn : n.bd) (h : Src w b c s) (g off m cap : Nat) (hm : m < 1000000) (hc : ∀ k, k < 8 → w.cell? ⟨g, off + m * 8 + k, none⟩ = n.cells[k]?) (hf : s.faults n = 0) :
    Calls Try.prog 10 #[.pointer (some ⟨b, 0, none⟩), .slice (some ⟨g, off, none⟩) (m + 1 : Nat) cap] w fun e w' =>
      e = .returned (.tuple #[.agg n.cells, .int .i64 0]) ∧ Src w' b c (s.good n) ∧ Chg [b, c] w w' := by
  have hbc := h.ne
  obtain ⟨hB, hK⟩ := h
  have hcb := hbc.symm
  have P1 := Lib.hid (fun w nb hB hK hN => faults_any w b c nb s n hs hn hB hK hN)
  have g0 : w.cell? ⟨g, off + m * 8, none⟩ = some (.int .i64 n.cnt) := hc 0 (by omega)
  have g1 : w.cell? ⟨g, off + m * 8 + 1, none⟩ = some (.int .i64 n.flg) := hc 1 (by omega)
  have g2 : w.cell? ⟨g, off + m * 8 + 2, none⟩ = some (.int .i64 n.x) := hc 2 (by omega)
  have g3 : w.cell? ⟨g, off + m * 8 + 3, none⟩ = some (.int .i64 n.y) := hc 3 (by omega)
  have g4 : w.cell? ⟨g, off + m * 8 + 4, none⟩ = some (.int .i64 n.z) := hc 4 (by omega)
  have g5 : w.cell? ⟨g, off + m * 8 + 5, none⟩ = some (.int .i64 n.vx) := hc 5 (by omega)
  have g6 : w.cell? ⟨g, off + m * 8 + 6, none⟩ = some (.int .i64 n.vy) := hc 6 (by omega)
  have g7 : w.cell? ⟨g, off + m * 8 + 7, none⟩ = some (.int .i64 n.vz) := hc 7 (by omega)
  clear hc
  simp only [NV.cells, NV.zero, SV.cells] at *
  have hw : IntKind.i64.wrap ((((m + 1 : Nat) : Int)) - 1) = (m : Int) := by rw [IntKind.wrap_i64]; omega
  rw [hf] at P1
  clear hf
  go_enter Try.func10, Try.ntmps10
  go_upto_region 5 with fail
  have hR := At.new w #[.int .i64 0, .int .i64 0, .int .i64 0, .int .i64 0, .int .i64 0, .int .i64 0, .int .i64 0, .int .i64 0] 32
  have hX : Chg [] w (w.alloc (.cells #[.int .i64 0, .int .i64 0, .int .i64 0, .int .i64 0, .int .i64 0, .int .i64 0, .int .i64 0, .int .i64 0] 32)) := (Chg.refl _ _).alloc _
  have hBz := hB.lt
  have hKz := hK.lt
  replace hB := hX.at hB (by simp)
  replace hK := Ctr.keep hX hK (by simp)
  replace g0 := hX.cell g0 (by simp)
  replace g1 := hX.cell g1 (by simp)
  replace g2 := hX.cell g2 (by simp)
  replace g3 := hX.cell g3 (by simp)
  replace g4 := hX.cell g4 (by simp)
  replace g5 := hX.cell g5 (by simp)
  replace g6 := hX.cell g6 (by simp)
  replace g7 := hX.cell g7 (by simp)
  generalize w.alloc (.cells #[.int .i64 0, .int .i64 0, .int .i64 0, .int .i64 0, .int .i64 0, .int .i64 0, .int .i64 0, .int .i64 0] 32) = wa at *
  generalize hz : w.heap.size = z at hR hBz hKz ⊢
  go_wp2_with fail
  clear g0 g1 g2 g3 g4 g5 g6 g7
  have hN := At.new wa #[.int .i64 n.cnt, .int .i64 n.flg, .int .i64 n.x, .int .i64 n.y, .int .i64 n.z, .int .i64 n.vx, .int .i64 n.vy, .int .i64 n.vz] 32
  have hRN := hR.lt
  replace hR := hR.alloc (.cells #[.int .i64 n.cnt, .int .i64 n.flg, .int .i64 n.x, .int .i64 n.y, .int .i64 n.z, .int .i64 n.vx, .int .i64 n.vy, .int .i64 n.vz] 32)
  replace hX := hX.alloc (.cells #[.int .i64 n.cnt, .int .i64 n.flg, .int .i64 n.x, .int .i64 n.y, .int .i64 n.z, .int .i64 n.vx, .int .i64 n.vy, .int .i64 n.vz] 32)
  replace hB := hB.alloc (.cells #[.int .i64 n.cnt, .int .i64 n.flg, .int .i64 n.x, .int .i64 n.y, .int .i64 n.z, .int .i64 n.vx, .int .i64 n.vy, .int .i64 n.vz] 32)
  replace hK := hK.alloc (.cells #[.int .i64 n.cnt, .int .i64 n.flg, .int .i64 n.x, .int .i64 n.y, .int .i64 n.z, .int .i64 n.vx, .int .i64 n.vy, .int .i64 n.vz] 32)
  generalize wa.heap.size = y at *
  generalize wa.alloc (.cells #[.int .i64 n.cnt, .int .i64 n.flg, .int .i64 n.x, .int .i64 n.y, .int .i64 n.z, .int .i64 n.vx, .int .i64 n.vy, .int .i64 n.vz] 32) = wb at *
  refine (P1.out _ _ hB hK hN).mono ?_; rintro e w1 ⟨rfl, hX1⟩
  replace hR := hX1.at hR (by simp)
  replace hB := hX1.at hB (by simp)
  replace hK := Ctr.keep hX1 hK (by simp)
  replace hN := hX1.at hN (by simp)
  replace hX := hX.trans hX1
  clear hX1 P1
  have hby : b ≠ y := by omega
  have hcy : c ≠ y := by omega
  have hbz : b ≠ z := by omega
  have hcz : c ≠ z := by omega
  have hyz : y ≠ z := by omega
  have hwz := hX.size
  rw [hz] at hwz
  go_upto_region 8 with fail
  have n0 := hN.cell 0
  have n1 := hN.cell 1
  have n2 := hN.cell 2
  have n3 := hN.cell 3
  have n4 := hN.cell 4
  have n5 := hN.cell 5
  have n6 := hN.cell 6
  have n7 := hN.cell 7
  have b2 := hB.cell 2
  have b3 := hB.cell 3
  have b4 := hB.cell 4
  have b5 := hB.cell 5
  have b6 := hB.cell 6
  have b7 := hB.cell 7
  have b8 := hB.cell 8
  have b9 := hB.cell 9
  have b10 := hB.cell 10
  have b11 := hB.cell 11
  have bf2 := hB.frozen 2
  have bf3 := hB.frozen 3
  have bf4 := hB.frozen 4
  have bf5 := hB.frozen 5
  have bf6 := hB.frozen 6
  have bf7 := hB.frozen 7
  have bf8 := hB.frozen 8
  have bf9 := hB.frozen 9
  have bf10 := hB.frozen 10
  go_upto_region 9 with fail
  clear n0 n1 n2 n3 n4 n5 n6 n7 b11 b2 bf2 b3 bf3 b4 bf4 b5 bf5 b6 bf6 b7 bf7 b8 bf8 b9 bf9 b10 bf10
  have hB2 := (((((((((hB).set 2 (.int .i64 n.cnt) rfl).set 3 (.int .i64 n.flg) rfl).set 4 (.int .i64 n.x) rfl).set 5 (.int .i64 n.y) rfl).set 6 (.int .i64 n.z) rfl).set 7 (.int .i64 n.vx) rfl).set 8 (.int .i64 n.vy) rfl).set 9 (.int .i64 n.vz) rfl).set 10 (.bool true) rfl
  simp only [List.setIfInBounds_toArray, List.set_cons_succ, List.set_cons_zero] at hB2
  have hK2 : Ctr _ c s.old 1000000 := (((((((((hK).other ⟨b, 2, none⟩ (.int .i64 n.cnt) hcb).other ⟨b, 3, none⟩ (.int .i64 n.flg) hcb).other ⟨b, 4, none⟩ (.int .i64 n.x) hcb).other ⟨b, 5, none⟩ (.int .i64 n.y) hcb).other ⟨b, 6, none⟩ (.int .i64 n.z) hcb).other ⟨b, 7, none⟩ (.int .i64 n.vx) hcb).other ⟨b, 8, none⟩ (.int .i64 n.vy) hcb).other ⟨b, 9, none⟩ (.int .i64 n.vz) hcb).other ⟨b, 10, none⟩ (.bool true) hcb
  have hN2 := (((((((((hN).other ⟨b, 2, none⟩ (.int .i64 n.cnt) hby.symm).other ⟨b, 3, none⟩ (.int .i64 n.flg) hby.symm).other ⟨b, 4, none⟩ (.int .i64 n.x) hby.symm).other ⟨b, 5, none⟩ (.int .i64 n.y) hby.symm).other ⟨b, 6, none⟩ (.int .i64 n.z) hby.symm).other ⟨b, 7, none⟩ (.int .i64 n.vx) hby.symm).other ⟨b, 8, none⟩ (.int .i64 n.vy) hby.symm).other ⟨b, 9, none⟩ (.int .i64 n.vz) hby.symm).other ⟨b, 10, none⟩ (.bool true) hby.symm
  have hR2 := (((((((((hR).other ⟨b, 2, none⟩ (.int .i64 n.cnt) hbz.symm).other ⟨b, 3, none⟩ (.int .i64 n.flg) hbz.symm).other ⟨b, 4, none⟩ (.int .i64 n.x) hbz.symm).other ⟨b, 5, none⟩ (.int .i64 n.y) hbz.symm).other ⟨b, 6, none⟩ (.int .i64 n.z) hbz.symm).other ⟨b, 7, none⟩ (.int .i64 n.vx) hbz.symm).other ⟨b, 8, none⟩ (.int .i64 n.vy) hbz.symm).other ⟨b, 9, none⟩ (.int .i64 n.vz) hbz.symm).other ⟨b, 10, none⟩ (.bool true) hbz.symm
  have hX2 : Chg [b, c] w _ := ((((((((((hX.mono (S' := [b, c]) (by simp))).setCell (p := ⟨b, 2, none⟩) (Or.inl (by simp)) (.int .i64 n.cnt)).setCell (p := ⟨b, 3, none⟩) (Or.inl (by simp)) (.int .i64 n.flg)).setCell (p := ⟨b, 4, none⟩) (Or.inl (by simp)) (.int .i64 n.x)).setCell (p := ⟨b, 5, none⟩) (Or.inl (by simp)) (.int .i64 n.y)).setCell (p := ⟨b, 6, none⟩) (Or.inl (by simp)) (.int .i64 n.z)).setCell (p := ⟨b, 7, none⟩) (Or.inl (by simp)) (.int .i64 n.vx)).setCell (p := ⟨b, 8, none⟩) (Or.inl (by simp)) (.int .i64 n.vy)).setCell (p := ⟨b, 9, none⟩) (Or.inl (by simp)) (.int .i64 n.vz)).setCell (p := ⟨b, 10, none⟩) (Or.inl (by simp)) (.bool true)
  clear hB hK hN hR hX
  generalize (((((((((w1).setCell ⟨b, 2, none⟩ (.int .i64 n.cnt)).setCell ⟨b, 3, none⟩ (.int .i64 n.flg)).setCell ⟨b, 4, none⟩ (.int .i64 n.x)).setCell ⟨b, 5, none⟩ (.int .i64 n.y)).setCell ⟨b, 6, none⟩ (.int .i64 n.z)).setCell ⟨b, 7, none⟩ (.int .i64 n.vx)).setCell ⟨b, 8, none⟩ (.int .i64 n.vy)).setCell ⟨b, 9, none⟩ (.int .i64 n.vz)).setCell ⟨b, 10, none⟩ (.bool true) = w2 at *
  have b11 : w2.cell? ⟨b, 11, none⟩ = some (.pointer (some ⟨c, 0, none⟩)) := hB2.cell 11
  go_wp2_with fail
  clear b11
  refine (cReset_any _ c s.old 1000000 hK2).mono ?_; rintro e w3 ⟨rfl, hK3, hX3⟩
  have hB3 := hX3.at hB2 (by simp [hbc])
  have hN3 := hX3.at hN2 (by simp; omega)
  have hR3 := hX3.at hR2 (by simp; omega)
  have hX4 := hX2.then hX3 (by simp)
  clear hB2 hK2 hN2 hR2 hX2 hX3
  go_upto_region 10 with fail
  have n0 := hN3.cell 0
  have n1 := hN3.cell 1
  have n2 := hN3.cell 2
  have n3 := hN3.cell 3
  have n4 := hN3.cell 4
  have n5 := hN3.cell 5
  have n6 := hN3.cell 6
  have n7 := hN3.cell 7
  have r0 := hR3.cell 0
  have r1 := hR3.cell 1
  have r2 := hR3.cell 2
  have r3 := hR3.cell 3
  have r4 := hR3.cell 4
  have r5 := hR3.cell 5
  have r6 := hR3.cell 6
  have r7 := hR3.cell 7
  have rf0 := hR3.frozen 0
  have rf1 := hR3.frozen 1
  have rf2 := hR3.frozen 2
  have rf3 := hR3.frozen 3
  have rf4 := hR3.frozen 4
  have rf5 := hR3.frozen 5
  have rf6 := hR3.frozen 6
  have rf7 := hR3.frozen 7
  go_wp2_with fail
  clear r0 rf0 r1 rf1 r2 rf2 r3 rf3 r4 rf4 r5 rf5 r6 rf6 r7 rf7
  have hR9 := ((((((((hR3).set 0 (.int .i64 n.cnt) rfl).set 1 (.int .i64 n.flg) rfl).set 2 (.int .i64 n.x) rfl).set 3 (.int .i64 n.y) rfl).set 4 (.int .i64 n.z) rfl).set 5 (.int .i64 n.vx) rfl).set 6 (.int .i64 n.vy) rfl).set 7 (.int .i64 n.vz) rfl
  simp only [List.setIfInBounds_toArray, List.set_cons_succ, List.set_cons_zero] at hR9
  have hB9 := ((((((((hB3).other ⟨z, 0, none⟩ (.int .i64 n.cnt) hbz).other ⟨z, 1, none⟩ (.int .i64 n.flg) hbz).other ⟨z, 2, none⟩ (.int .i64 n.x) hbz).other ⟨z, 3, none⟩ (.int .i64 n.y) hbz).other ⟨z, 4, none⟩ (.int .i64 n.z) hbz).other ⟨z, 5, none⟩ (.int .i64 n.vx) hbz).other ⟨z, 6, none⟩ (.int .i64 n.vy) hbz).other ⟨z, 7, none⟩ (.int .i64 n.vz) hbz
  have hK9 : Ctr _ c _ 1000000 := ((((((((hK3).other ⟨z, 0, none⟩ (.int .i64 n.cnt) hcz).other ⟨z, 1, none⟩ (.int .i64 n.flg) hcz).other ⟨z, 2, none⟩ (.int .i64 n.x) hcz).other ⟨z, 3, none⟩ (.int .i64 n.y) hcz).other ⟨z, 4, none⟩ (.int .i64 n.z) hcz).other ⟨z, 5, none⟩ (.int .i64 n.vx) hcz).other ⟨z, 6, none⟩ (.int .i64 n.vy) hcz).other ⟨z, 7, none⟩ (.int .i64 n.vz) hcz
  have hX9 := ((((((((hX4).setCell (p := ⟨z, 0, none⟩) (Or.inr (by simp; omega)) (.int .i64 n.cnt)).setCell (p := ⟨z, 1, none⟩) (Or.inr (by simp; omega)) (.int .i64 n.flg)).setCell (p := ⟨z, 2, none⟩) (Or.inr (by simp; omega)) (.int .i64 n.x)).setCell (p := ⟨z, 3, none⟩) (Or.inr (by simp; omega)) (.int .i64 n.y)).setCell (p := ⟨z, 4, none⟩) (Or.inr (by simp; omega)) (.int .i64 n.z)).setCell (p := ⟨z, 5, none⟩) (Or.inr (by simp; omega)) (.int .i64 n.vx)).setCell (p := ⟨z, 6, none⟩) (Or.inr (by simp; omega)) (.int .i64 n.vy)).setCell (p := ⟨z, 7, none⟩) (Or.inr (by simp; omega)) (.int .i64 n.vz)
  clear hR3 hB3 hK3 hX4
  generalize ((((((((w3).setCell ⟨z, 0, none⟩ (.int .i64 n.cnt)).setCell ⟨z, 1, none⟩ (.int .i64 n.flg)).setCell ⟨z, 2, none⟩ (.int .i64 n.x)).setCell ⟨z, 3, none⟩ (.int .i64 n.y)).setCell ⟨z, 4, none⟩ (.int .i64 n.z)).setCell ⟨z, 5, none⟩ (.int .i64 n.vx)).setCell ⟨z, 6, none⟩ (.int .i64 n.vy)).setCell ⟨z, 7, none⟩ (.int .i64 n.vz) = w9 at *
  have r0 : w9.cell? ⟨z, 0, none⟩ = some (.int .i64 n.cnt) := hR9.cell 0
  have r1 : w9.cell? ⟨z, 1, none⟩ = some (.int .i64 n.flg) := hR9.cell 1
  have r2 : w9.cell? ⟨z, 2, none⟩ = some (.int .i64 n.x) := hR9.cell 2
  have r3 : w9.cell? ⟨z, 3, none⟩ = some (.int .i64 n.y) := hR9.cell 3
  have r4 : w9.cell? ⟨z, 4, none⟩ = some (.int .i64 n.z) := hR9.cell 4
  have r5 : w9.cell? ⟨z, 5, none⟩ = some (.int .i64 n.vx) := hR9.cell 5
  have r6 : w9.cell? ⟨z, 6, none⟩ = some (.int .i64 n.vy) := hR9.cell 6
  have r7 : w9.cell? ⟨z, 7, none⟩ = some (.int .i64 n.vz) := hR9.cell 7
  exact bodyPost_ret (v := .tuple #[.agg #[.int .i64 n.cnt, .int .i64 n.flg, .int .i64 n.x, .int .i64 n.y, .int .i64 n.z, .int .i64 n.vx, .int .i64 n.vy, .int .i64 n.vz], .int .i64 0]) (by simp [results, Try.results10, go_sem, r0, r1, r2, r3, r4, r5, r6, r7]) rfl ⟨rfl, ⟨hB9, hK9⟩, hX9⟩
set_option maxRecDepth 100000 in
set_option maxHeartbeats 2000000 in
theorem cyc_bad (w : World) (b c : Nat) (s : SV) (n : NV) (hs : s.ok) (hn : n.bd) (h : Src w b c s) (g off m cap : Nat) (hm : m < 1000000) (hc : ∀ k, k < 8 → w.cell? ⟨g, off + m * 8 + k, none⟩ = n.cells[k]?) (f : Int) (hf : s.faults n = f) (hf0 : f ≠ 0) :
    Calls Try.prog 10 #[.pointer (some ⟨b, 0, none⟩), .slice (some ⟨g, off, none⟩) (m + 1 : Nat) cap] w fun e w' =>
      e = .returned (.tuple #[.agg NV.zero.cells, .int .i64 f]) ∧ Src w' b c s.bad ∧ Chg [b, c] w w' := by
  obtain ⟨o, ho⟩ : ∃ o, o = cAdd s.old 1000000 1 := ⟨_, rfl⟩
  have HO := Lib.hid ho
  obtain ⟨sb, hsb⟩ : ∃ x, x = s.bad := ⟨_, rfl⟩
  rw [← hsb]
  unfold SV.bad at hsb
  rw [← ho] at hsb
  have HSB := Lib.hid hsb
  clear ho hsb
  have hbc := h.ne
  obtain ⟨hB, hK⟩ := h
  have hcb := hbc.symm
  have P1 := Lib.hid (fun w nb hB hK hN => faults_any w b c nb s n hs hn hB hK hN)
  have g0 : w.cell? ⟨g, off + m * 8, none⟩ = some (.int .i64 n.cnt) := hc 0 (by omega)
  have g1 : w.cell? ⟨g, off + m * 8 + 1, none⟩ = some (.int .i64 n.flg) := hc 1 (by omega)
  have g2 : w.cell? ⟨g, off + m * 8 + 2, none⟩ = some (.int .i64 n.x) := hc 2 (by omega)
  have g3 : w.cell? ⟨g, off + m * 8 + 3, none⟩ = some (.int .i64 n.y) := hc 3 (by omega)
  have g4 : w.cell? ⟨g, off + m * 8 + 4, none⟩ = some (.int .i64 n.z) := hc 4 (by omega)
  have g5 : w.cell? ⟨g, off + m * 8 + 5, none⟩ = some (.int .i64 n.vx) := hc 5 (by omega)
  have g6 : w.cell? ⟨g, off + m * 8 + 6, none⟩ = some (.int .i64 n.vy) := hc 6 (by omega)
  have g7 : w.cell? ⟨g, off + m * 8 + 7, none⟩ = some (.int .i64 n.vz) := hc 7 (by omega)
  clear hc
  simp only [NV.cells, NV.zero, SV.cells] at *
  have hw : IntKind.i64.wrap ((((m + 1 : Nat) : Int)) - 1) = (m : Int) := by rw [IntKind.wrap_i64]; omega
  rw [hf] at P1
  clear hf
  go_enter Try.func10, Try.ntmps10
  go_upto_region 5 with fail
  have hR := At.new w #[.int .i64 0, .int .i64 0, .int .i64 0, .int .i64 0, .int .i64 0, .int .i64 0, .int .i64 0, .int .i64 0] 32
  have hX : Chg [] w (w.alloc (.cells #[.int .i64 0, .int .i64 0, .int .i64 0, .int .i64 0, .int .i64 0, .int .i64 0, .int .i64 0, .int .i64 0] 32)) := (Chg.refl _ _).alloc _
  have hBz := hB.lt
  have hKz := hK.lt
  replace hB := hX.at hB (by simp)
  replace hK := Ctr.keep hX hK (by simp)
  replace g0 := hX.cell g0 (by simp)
  replace g1 := hX.cell g1 (by simp)
  replace g2 := hX.cell g2 (by simp)
  replace g3 := hX.cell g3 (by simp)
  replace g4 := hX.cell g4 (by simp)
  replace g5 := hX.cell g5 (by simp)
  replace g6 := hX.cell g6 (by simp)
  replace g7 := hX.cell g7 (by simp)
  generalize w.alloc (.cells #[.int .i64 0, .int .i64 0, .int .i64 0, .int .i64 0, .int .i64 0, .int .i64 0, .int .i64 0, .int .i64 0] 32) = wa at *
  generalize hz : w.heap.size = z at hR hBz hKz ⊢
  go_wp2_with fail
  clear g0 g1 g2 g3 g4 g5 g6 g7
  have hN := At.new wa #[.int .i64 n.cnt, .int .i64 n.flg, .int .i64 n.x, .int .i64 n.y, .int .i64 n.z, .int .i64 n.vx, .int .i64 n.vy, .int .i64 n.vz] 32
  have hRN := hR.lt
  replace hR := hR.alloc (.cells #[.int .i64 n.cnt, .int .i64 n.flg, .int .i64 n.x, .int .i64 n.y, .int .i64 n.z, .int .i64 n.vx, .int .i64 n.vy, .int .i64 n.vz] 32)
  replace hX := hX.alloc (.cells #[.int .i64 n.cnt, .int .i64 n.flg, .int .i64 n.x, .int .i64 n.y, .int .i64 n.z, .int .i64 n.vx, .int .i64 n.vy, .int .i64 n.vz] 32)
  replace hB := hB.alloc (.cells #[.int .i64 n.cnt, .int .i64 n.flg, .int .i64 n.x, .int .i64 n.y, .int .i64 n.z, .int .i64 n.vx, .int .i64 n.vy, .int .i64 n.vz] 32)
  replace hK := hK.alloc (.cells #[.int .i64 n.cnt, .int .i64 n.flg, .int .i64 n.x, .int .i64 n.y, .int .i64 n.z, .int .i64 n.vx, .int .i64 n.vy, .int .i64 n.vz] 32)
  generalize wa.heap.size = y at *
  generalize wa.alloc (.cells #[.int .i64 n.cnt, .int .i64 n.flg, .int .i64 n.x, .int .i64 n.y, .int .i64 n.z, .int .i64 n.vx, .int .i64 n.vy, .int .i64 n.vz] 32) = wb at *
  refine (P1.out _ _ hB hK hN).mono ?_; rintro e w1 ⟨rfl, hX1⟩
  replace hR := hX1.at hR (by simp)
  replace hB := hX1.at hB (by simp)
  replace hK := Ctr.keep hX1 hK (by simp)
  replace hN := hX1.at hN (by simp)
  replace hX := hX.trans hX1
  clear hX1 P1
  have hbz : b ≠ z := by omega
  have hcz : c ≠ z := by omega
  have hwz := hX.size
  rw [hz] at hwz
  go_upto_region 11 with fail
  have hX0 : Chg [b, c] w _ := (hX.mono (S' := [b, c]) (by simp)).drew
  clear hX
  refine wp_region_stage (UR w b c z #[.int .i64 s.step, .int .i64 s.most, .int .i64 s.last.cnt, .int .i64 s.last.flg, .int .i64 s.last.x, .int .i64 s.last.y, .int .i64 s.last.z, .int .i64 s.last.vx, .int .i64 s.last.vy, .int .i64 s.last.vz, .bool s.has, .pointer (some ⟨c, 0, none⟩)] #[.int .i64 0, .int .i64 0, .int .i64 0, .int .i64 0, .int .i64 0, .int .i64 0, .int .i64 0, .int .i64 0] s.old o) [4] [(0, 0, false), (0, 0, false), (0, 0, false), (0, 0, false), (0, 0, true), (0, 1, false), (0, 1, false), (0, 1, false), (0, 1, false), (1, 1, false)]
    (by kernel_rfl) (by kernel_rfl) (by kernel_rfl) (⟨hB.drew, hR.drew, hX0, fun _ => hK.drew, fun h => absurd h (by omega)⟩) ?_
  simp only [List.zip_cons_cons, List.zip_nil_right]
  refine wpStage_yes (by go_simp) ?_
  intro K hK
  apply Exists.intro
  refine ⟨fun kk ww hk1 hk2 hC => ?_, ?_⟩
  · go_simp
    with_reducible exact rfl
  go_simp
  refine hK _ ?_
  clear hK K
  refine wpStage_yes (by go_simp) ?_
  intro K hK
  apply Exists.intro
  refine ⟨fun kk ww hk1 hk2 hC => ?_, ?_⟩
  · go_simp
    with_reducible exact rfl
  go_simp
  refine hK _ ?_
  clear hK K
  refine wpStage_yes (by go_simp) ?_
  intro K hK
  apply Exists.intro
  refine ⟨fun kk ww hk1 hk2 hC => ?_, ?_⟩
  · go_simp
    with_reducible exact rfl
  go_simp
  refine hK _ ?_
  clear hK K
  refine wpStage_yes (by go_simp) ?_
  intro K hK
  apply Exists.intro
  refine ⟨fun kk ww hk1 hk2 hC => ?_, ?_⟩
  · have b11 := hC.hb.cell 11
    go_simp
    with_reducible exact rfl
  go_simp
  refine hK _ ?_
  clear hK K
  refine wpStage_yes (by go_simp) ?_
  intro K hK
  apply Exists.intro
  refine ⟨fun kk ww hk1 hk2 hC => ?_, ?_⟩
  · obtain rfl : kk = 0 := by omega
    go_simp
    refine (cUp_any ww c s.old 1000000 (hC.k0 rfl) hs.o0 hs.o1 (by omega)).mono ?_; rintro e w' ⟨he, hA, hX⟩
    rw [← HO.out] at he hA
    exact ⟨he, hX.at hC.hb (by simp [hbc]), hX.at hC.hr (by simp; omega), hC.x.then hX (by simp), fun h => absurd h (by omega), fun _ => hA⟩
  go_simp
  refine hK _ ?_
  clear hK K
  refine wpStage_yes (by go_simp) ?_
  intro K hK
  apply Exists.intro
  refine ⟨fun kk ww hk1 hk2 hC => ?_, ?_⟩
  · go_simp
    with_reducible exact rfl
  go_simp
  refine hK _ ?_
  clear hK K
  refine wpStage_yes (by go_simp) ?_
  intro K hK
  apply Exists.intro
  refine ⟨fun kk ww hk1 hk2 hC => ?_, ?_⟩
  · go_simp
    with_reducible exact rfl
  go_simp
  refine hK _ ?_
  clear hK K
  refine wpStage_yes (by go_simp) ?_
  intro K hK
  apply Exists.intro
  refine ⟨fun kk ww hk1 hk2 hC => ?_, ?_⟩
  · go_simp
    with_reducible exact rfl
  go_simp
  refine hK _ ?_
  clear hK K
  refine wpStage_yes (by go_simp) ?_
  intro K hK
  apply Exists.intro
  refine ⟨fun kk ww hk1 hk2 hC => ?_, ?_⟩
  · have b1 := hC.hb.cell 1
    go_simp
    with_reducible exact rfl
  go_simp
  refine hK _ ?_
  clear hK K
  refine wpStage_yes (by go_simp) ?_
  intro K hK
  apply Exists.intro
  refine ⟨fun kk ww hk1 hk2 hC => ?_, ?_⟩
  · go_simp
    with_reducible exact rfl
  go_simp
  refine hK _ ?_
  clear hK K
  refine wpStage_nil (fun ww hC => ?_)
  obtain ⟨hB2, hR2, hX2, _, hK2⟩ := hC
  replace hK2 := hK2 (by decide)
  clear hB hK hR hX0
  clear HO
  by_cases hgt : o > s.most
  · obtain rfl := HSB.out.trans (if_pos hgt)
    replace hgt : s.most < o := hgt
    have b2 := hB2.cell 2
    have b3 := hB2.cell 3
    have b4 := hB2.cell 4
    have b5 := hB2.cell 5
    have b6 := hB2.cell 6
    have b7 := hB2.cell 7
    have b8 := hB2.cell 8
    have b9 := hB2.cell 9
    have b10 := hB2.cell 10
    have bf2 := hB2.frozen 2
    have bf3 := hB2.frozen 3
    have bf4 := hB2.frozen 4
    have bf5 := hB2.frozen 5
    have bf6 := hB2.frozen 6
    have bf7 := hB2.frozen 7
    have bf8 := hB2.frozen 8
    have bf9 := hB2.frozen 9
    have bf10 := hB2.frozen 10
    go_upto_region 13 with fail
    clear b2 bf2 b3 bf3 b4 bf4 b5 bf5 b6 bf6 b7 bf7 b8 bf8 b9 bf9 b10 bf10
    have hB3 := (((((((((hB2).set 2 (.int .i64 0) rfl).set 3 (.int .i64 0) rfl).set 4 (.int .i64 0) rfl).set 5 (.int .i64 0) rfl).set 6 (.int .i64 0) rfl).set 7 (.int .i64 0) rfl).set 8 (.int .i64 0) rfl).set 9 (.int .i64 0) rfl).set 10 (.bool false) rfl
    simp only [List.setIfInBounds_toArray, List.set_cons_succ, List.set_cons_zero] at hB3
    have hK3 : Ctr _ c o 1000000 := (((((((((hK2).other ⟨b, 2, none⟩ (.int .i64 0) hcb).other ⟨b, 3, none⟩ (.int .i64 0) hcb).other ⟨b, 4, none⟩ (.int .i64 0) hcb).other ⟨b, 5, none⟩ (.int .i64 0) hcb).other ⟨b, 6, none⟩ (.int .i64 0) hcb).other ⟨b, 7, none⟩ (.int .i64 0) hcb).other ⟨b, 8, none⟩ (.int .i64 0) hcb).other ⟨b, 9, none⟩ (.int .i64 0) hcb).other ⟨b, 10, none⟩ (.bool false) hcb
    have hR3 := (((((((((hR2).other ⟨b, 2, none⟩ (.int .i64 0) hbz.symm).other ⟨b, 3, none⟩ (.int .i64 0) hbz.symm).other ⟨b, 4, none⟩ (.int .i64 0) hbz.symm).other ⟨b, 5, none⟩ (.int .i64 0) hbz.symm).other ⟨b, 6, none⟩ (.int .i64 0) hbz.symm).other ⟨b, 7, none⟩ (.int .i64 0) hbz.symm).other ⟨b, 8, none⟩ (.int .i64 0) hbz.symm).other ⟨b, 9, none⟩ (.int .i64 0) hbz.symm).other ⟨b, 10, none⟩ (.bool false) hbz.symm
    have hX3 := (((((((((hX2).setCell (p := ⟨b, 2, none⟩) (Or.inl (by simp)) (.int .i64 0)).setCell (p := ⟨b, 3, none⟩) (Or.inl (by simp)) (.int .i64 0)).setCell (p := ⟨b, 4, none⟩) (Or.inl (by simp)) (.int .i64 0)).setCell (p := ⟨b, 5, none⟩) (Or.inl (by simp)) (.int .i64 0)).setCell (p := ⟨b, 6, none⟩) (Or.inl (by simp)) (.int .i64 0)).setCell (p := ⟨b, 7, none⟩) (Or.inl (by simp)) (.int .i64 0)).setCell (p := ⟨b, 8, none⟩) (Or.inl (by simp)) (.int .i64 0)).setCell (p := ⟨b, 9, none⟩) (Or.inl (by simp)) (.int .i64 0)).setCell (p := ⟨b, 10, none⟩) (Or.inl (by simp)) (.bool false)
    clear hB2 hK2 hR2 hX2
    generalize (((((((((ww).setCell ⟨b, 2, none⟩ (.int .i64 0)).setCell ⟨b, 3, none⟩ (.int .i64 0)).setCell ⟨b, 4, none⟩ (.int .i64 0)).setCell ⟨b, 5, none⟩ (.int .i64 0)).setCell ⟨b, 6, none⟩ (.int .i64 0)).setCell ⟨b, 7, none⟩ (.int .i64 0)).setCell ⟨b, 8, none⟩ (.int .i64 0)).setCell ⟨b, 9, none⟩ (.int .i64 0)).setCell ⟨b, 10, none⟩ (.bool false) = w3 at *
    have r0 := hR3.cell 0
    have r1 := hR3.cell 1
    have r2 := hR3.cell 2
    have r3 := hR3.cell 3
    have r4 := hR3.cell 4
    have r5 := hR3.cell 5
    have r6 := hR3.cell 6
    have r7 := hR3.cell 7
    have rf0 := hR3.frozen 0
    have rf1 := hR3.frozen 1
    have rf2 := hR3.frozen 2
    have rf3 := hR3.frozen 3
    have rf4 := hR3.frozen 4
    have rf5 := hR3.frozen 5
    have rf6 := hR3.frozen 6
    have rf7 := hR3.frozen 7
    go_wp2_with fail
    clear r0 rf0 r1 rf1 r2 rf2 r3 rf3 r4 rf4 r5 rf5 r6 rf6 r7 rf7
    have hR9 := ((((((((hR3).set 0 (.int .i64 0) rfl).set 1 (.int .i64 0) rfl).set 2 (.int .i64 0) rfl).set 3 (.int .i64 0) rfl).set 4 (.int .i64 0) rfl).set 5 (.int .i64 0) rfl).set 6 (.int .i64 0) rfl).set 7 (.int .i64 0) rfl
    simp only [List.setIfInBounds_toArray, List.set_cons_succ, List.set_cons_zero] at hR9
    have hB9 := ((((((((hB3).other ⟨z, 0, none⟩ (.int .i64 0) hbz).other ⟨z, 1, none⟩ (.int .i64 0) hbz).other ⟨z, 2, none⟩ (.int .i64 0) hbz).other ⟨z, 3, none⟩ (.int .i64 0) hbz).other ⟨z, 4, none⟩ (.int .i64 0) hbz).other ⟨z, 5, none⟩ (.int .i64 0) hbz).other ⟨z, 6, none⟩ (.int .i64 0) hbz).other ⟨z, 7, none⟩ (.int .i64 0) hbz
    have hK9 : Ctr _ c _ 1000000 := ((((((((hK3).other ⟨z, 0, none⟩ (.int .i64 0) hcz).other ⟨z, 1, none⟩ (.int .i64 0) hcz).other ⟨z, 2, none⟩ (.int .i64 0) hcz).other ⟨z, 3, none⟩ (.int .i64 0) hcz).other ⟨z, 4, none⟩ (.int .i64 0) hcz).other ⟨z, 5, none⟩ (.int .i64 0) hcz).other ⟨z, 6, none⟩ (.int .i64 0) hcz).other ⟨z, 7, none⟩ (.int .i64 0) hcz
    have hX9 := ((((((((hX3).setCell (p := ⟨z, 0, none⟩) (Or.inr (by simp; omega)) (.int .i64 0)).setCell (p := ⟨z, 1, none⟩) (Or.inr (by simp; omega)) (.int .i64 0)).setCell (p := ⟨z, 2, none⟩) (Or.inr (by simp; omega)) (.int .i64 0)).setCell (p := ⟨z, 3, none⟩) (Or.inr (by simp; omega)) (.int .i64 0)).setCell (p := ⟨z, 4, none⟩) (Or.inr (by simp; omega)) (.int .i64 0)).setCell (p := ⟨z, 5, none⟩) (Or.inr (by simp; omega)) (.int .i64 0)).setCell (p := ⟨z, 6, none⟩) (Or.inr (by simp; omega)) (.int .i64 0)).setCell (p := ⟨z, 7, none⟩) (Or.inr (by simp; omega)) (.int .i64 0)
    clear hR3 hB3 hK3 hX3
    generalize ((((((((w3).setCell ⟨z, 0, none⟩ (.int .i64 0)).setCell ⟨z, 1, none⟩ (.int .i64 0)).setCell ⟨z, 2, none⟩ (.int .i64 0)).setCell ⟨z, 3, none⟩ (.int .i64 0)).setCell ⟨z, 4, none⟩ (.int .i64 0)).setCell ⟨z, 5, none⟩ (.int .i64 0)).setCell ⟨z, 6, none⟩ (.int .i64 0)).setCell ⟨z, 7, none⟩ (.int .i64 0) = w9 at *
    have r0 : w9.cell? ⟨z, 0, none⟩ = some (.int .i64 0) := hR9.cell 0
    have r1 : w9.cell? ⟨z, 1, none⟩ = some (.int .i64 0) := hR9.cell 1
    have r2 : w9.cell? ⟨z, 2, none⟩ = some (.int .i64 0) := hR9.cell 2
    have r3 : w9.cell? ⟨z, 3, none⟩ = some (.int .i64 0) := hR9.cell 3
    have r4 : w9.cell? ⟨z, 4, none⟩ = some (.int .i64 0) := hR9.cell 4
    have r5 : w9.cell? ⟨z, 5, none⟩ = some (.int .i64 0) := hR9.cell 5
    have r6 : w9.cell? ⟨z, 6, none⟩ = some (.int .i64 0) := hR9.cell 6
    have r7 : w9.cell? ⟨z, 7, none⟩ = some (.int .i64 0) := hR9.cell 7
    exact bodyPost_ret (v := .tuple #[.agg #[.int .i64 0, .int .i64 0, .int .i64 0, .int .i64 0, .int .i64 0, .int .i64 0, .int .i64 0, .int .i64 0], .int .i64 f]) (by simp [results, Try.results10, go_sem, r0, r1, r2, r3, r4, r5, r6, r7]) rfl ⟨rfl, ⟨hB9, hK9⟩, hX9⟩
  · obtain rfl := HSB.out.trans (if_neg hgt)
    replace hgt : o ≤ s.most := by omega
    have r0 := hR2.cell 0
    have r1 := hR2.cell 1
    have r2 := hR2.cell 2
    have r3 := hR2.cell 3
    have r4 := hR2.cell 4
    have r5 := hR2.cell 5
    have r6 := hR2.cell 6
    have r7 := hR2.cell 7
    have rf0 := hR2.frozen 0
    have rf1 := hR2.frozen 1
    have rf2 := hR2.frozen 2
    have rf3 := hR2.frozen 3
    have rf4 := hR2.frozen 4
    have rf5 := hR2.frozen 5
    have rf6 := hR2.frozen 6
    have rf7 := hR2.frozen 7
    go_wp2_with fail
    clear r0 rf0 r1 rf1 r2 rf2 r3 rf3 r4 rf4 r5 rf5 r6 rf6 r7 rf7
    have hR9 := ((((((((hR2).set 0 (.int .i64 0) rfl).set 1 (.int .i64 0) rfl).set 2 (.int .i64 0) rfl).set 3 (.int .i64 0) rfl).set 4 (.int .i64 0) rfl).set 5 (.int .i64 0) rfl).set 6 (.int .i64 0) rfl).set 7 (.int .i64 0) rfl
    simp only [List.setIfInBounds_toArray, List.set_cons_succ, List.set_cons_zero] at hR9
    have hB9 := ((((((((hB2).other ⟨z, 0, none⟩ (.int .i64 0) hbz).other ⟨z, 1, none⟩ (.int .i64 0) hbz).other ⟨z, 2, none⟩ (.int .i64 0) hbz).other ⟨z, 3, none⟩ (.int .i64 0) hbz).other ⟨z, 4, none⟩ (.int .i64 0) hbz).other ⟨z, 5, none⟩ (.int .i64 0) hbz).other ⟨z, 6, none⟩ (.int .i64 0) hbz).other ⟨z, 7, none⟩ (.int .i64 0) hbz
    have hK9 : Ctr _ c _ 1000000 := ((((((((hK2).other ⟨z, 0, none⟩ (.int .i64 0) hcz).other ⟨z, 1, none⟩ (.int .i64 0) hcz).other ⟨z, 2, none⟩ (.int .i64 0) hcz).other ⟨z, 3, none⟩ (.int .i64 0) hcz).other ⟨z, 4, none⟩ (.int .i64 0) hcz).other ⟨z, 5, none⟩ (.int .i64 0) hcz).other ⟨z, 6, none⟩ (.int .i64 0) hcz).other ⟨z, 7, none⟩ (.int .i64 0) hcz
    have hX9 := ((((((((hX2).setCell (p := ⟨z, 0, none⟩) (Or.inr (by simp; omega)) (.int .i64 0)).setCell (p := ⟨z, 1, none⟩) (Or.inr (by simp; omega)) (.int .i64 0)).setCell (p := ⟨z, 2, none⟩) (Or.inr (by simp; omega)) (.int .i64 0)).setCell (p := ⟨z, 3, none⟩) (Or.inr (by simp; omega)) (.int .i64 0)).setCell (p := ⟨z, 4, none⟩) (Or.inr (by simp; omega)) (.int .i64 0)).setCell (p := ⟨z, 5, none⟩) (Or.inr (by simp; omega)) (.int .i64 0)).setCell (p := ⟨z, 6, none⟩) (Or.inr (by simp; omega)) (.int .i64 0)).setCell (p := ⟨z, 7, none⟩) (Or.inr (by simp; omega)) (.int .i64 0)
    clear hR2 hB2 hK2 hX2
    generalize ((((((((ww).setCell ⟨z, 0, none⟩ (.int .i64 0)).setCell ⟨z, 1, none⟩ (.int .i64 0)).setCell ⟨z, 2, none⟩ (.int .i64 0)).setCell ⟨z, 3, none⟩ (.int .i64 0)).setCell ⟨z, 4, none⟩ (.int .i64 0)).setCell ⟨z, 5, none⟩ (.int .i64 0)).setCell ⟨z, 6, none⟩ (.int .i64 0)).setCell ⟨z, 7, none⟩ (.int .i64 0) = w9 at *
    have r0 : w9.cell? ⟨z, 0, none⟩ = some (.int .i64 0) := hR9.cell 0
    have r1 : w9.cell? ⟨z, 1, none⟩ = some (.int .i64 0) := hR9.cell 1
    have r2 : w9.cell? ⟨z, 2, none⟩ = some (.int .i64 0) := hR9.cell 2
    have r3 : w9.cell? ⟨z, 3, none⟩ = some (.int .i64 0) := hR9.cell 3
    have r4 : w9.cell? ⟨z, 4, none⟩ = some (.int .i64 0) := hR9.cell 4
    have r5 : w9.cell? ⟨z, 5, none⟩ = some (.int .i64 0) := hR9.cell 5
    have r6 : w9.cell? ⟨z, 6, none⟩ = some (.int .i64 0) := hR9.cell 6
    have r7 : w9.cell? ⟨z, 7, none⟩ = some (.int .i64 0) := hR9.cell 7
    exact bodyPost_ret (v := .tuple #[.agg #[.int .i64 0, .int .i64 0, .int .i64 0, .int .i64 0, .int .i64 0, .int .i64 0, .int .i64 0, .int .i64 0], .int .i64 f]) (by simp [results, Try.results10, go_sem, r0, r1, r2, r3, r4, r5, r6, r7]) rfl ⟨rfl, ⟨hB9, hK9⟩, hX9⟩
set_option maxRecDepth 100000 in
set_option maxHeartbeats 2000000 in
theorem cyc_nil (w : World) (b c : Nat) (s : SV) (hs : s.ok) (h : Src w b c s) (a : Option Addr) (cap : Nat) :
    Calls Try.prog 10 #[.pointer (some ⟨b, 0, none⟩), .slice a 0 cap] w fun e w' =>
      e = .returned (.tuple #[.agg NV.zero.cells, .int .i64 1]) ∧ Src w' b c s.bad ∧ Chg [b, c] w w' := by
  obtain ⟨o, ho⟩ : ∃ o, o = cAdd s.old 1000000 1 := ⟨_, rfl⟩
  have HO := Lib.hid ho
  obtain ⟨sb, hsb⟩ : ∃ x, x = s.bad := ⟨_, rfl⟩
  rw [← hsb]
  unfold SV.bad at hsb
  rw [← ho] at hsb
  have HSB := Lib.hid hsb
  clear ho hsb
  have hbc := h.ne
  obtain ⟨hB, hK⟩ := h
  have hcb := hbc.symm
  simp only [NV.cells, NV.zero, SV.cells] at *
  go_enter Try.func10, Try.ntmps10
  go_upto_region 11 with fail
  have hR := At.new w #[.int .i64 0, .int .i64 0, .int .i64 0, .int .i64 0, .int .i64 0, .int .i64 0, .int .i64 0, .int .i64 0] 32
  have hX : Chg [] w (w.alloc (.cells #[.int .i64 0, .int .i64 0, .int .i64 0, .int .i64 0, .int .i64 0, .int .i64 0, .int .i64 0, .int .i64 0] 32)) := (Chg.refl _ _).alloc _
  have hBz := hB.lt
  have hKz := hK.lt
  replace hB := hX.at hB (by simp)
  replace hK := Ctr.keep hX hK (by simp)
  generalize w.alloc (.cells #[.int .i64 0, .int .i64 0, .int .i64 0, .int .i64 0, .int .i64 0, .int .i64 0, .int .i64 0, .int .i64 0] 32) = wa at *
  generalize hz : w.heap.size = z at hR hBz hKz ⊢
  have hbz : b ≠ z := by omega
  have hcz : c ≠ z := by omega
  have hwz := hX.size
  rw [hz] at hwz
  have hX0 : Chg [b, c] w _ := (hX.mono (S' := [b, c]) (by simp)).drew
  clear hX
  refine wp_region_stage (UR w b c z #[.int .i64 s.step, .int .i64 s.most, .int .i64 s.last.cnt, .int .i64 s.last.flg, .int .i64 s.last.x, .int .i64 s.last.y, .int .i64 s.last.z, .int .i64 s.last.vx, .int .i64 s.last.vy, .int .i64 s.last.vz, .bool s.has, .pointer (some ⟨c, 0, none⟩)] #[.int .i64 0, .int .i64 0, .int .i64 0, .int .i64 0, .int .i64 0, .int .i64 0, .int .i64 0, .int .i64 0] s.old o) [4] [(0, 0, false), (0, 0, false), (0, 0, false), (0, 0, false), (0, 0, true), (0, 1, false), (0, 1, false), (0, 1, false), (0, 1, false), (1, 1, false)]
    (by kernel_rfl) (by kernel_rfl) (by kernel_rfl) (⟨hB.drew, hR.drew, hX0, fun _ => hK.drew, fun h => absurd h (by omega)⟩) ?_
  simp only [List.zip_cons_cons, List.zip_nil_right]
  refine wpStage_yes (by go_simp) ?_
  intro K hK
  apply Exists.intro
  refine ⟨fun kk ww hk1 hk2 hC => ?_, ?_⟩
  · go_simp
    with_reducible exact rfl
  go_simp
  refine hK _ ?_
  clear hK K
  refine wpStage_yes (by go_simp) ?_
  intro K hK
  apply Exists.intro
  refine ⟨fun kk ww hk1 hk2 hC => ?_, ?_⟩
  · go_simp
    with_reducible exact rfl
  go_simp
  refine hK _ ?_
  clear hK K
  refine wpStage_yes (by go_simp) ?_
  intro K hK
  apply Exists.intro
  refine ⟨fun kk ww hk1 hk2 hC => ?_, ?_⟩
  · go_simp
    with_reducible exact rfl
  go_simp
  refine hK _ ?_
  clear hK K
  refine wpStage_yes (by go_simp) ?_
  intro K hK
  apply Exists.intro
  refine ⟨fun kk ww hk1 hk2 hC => ?_, ?_⟩
  · have b11 := hC.hb.cell 11
    go_simp
    with_reducible exact rfl
  go_simp
  refine hK _ ?_
  clear hK K
  refine wpStage_yes (by go_simp) ?_
  intro K hK
  apply Exists.intro
  refine ⟨fun kk ww hk1 hk2 hC => ?_, ?_⟩
  · obtain rfl : kk = 0 := by omega
    go_simp
    refine (cUp_any ww c s.old 1000000 (hC.k0 rfl) hs.o0 hs.o1 (by omega)).mono ?_; rintro e w' ⟨he, hA, hX⟩
    rw [← HO.out] at he hA
    exact ⟨he, hX.at hC.hb (by simp [hbc]), hX.at hC.hr (by simp; omega), hC.x.then hX (by simp), fun h => absurd h (by omega), fun _ => hA⟩
  go_simp
  refine hK _ ?_
  clear hK K
  refine wpStage_yes (by go_simp) ?_
  intro K hK
  apply Exists.intro
  refine ⟨fun kk ww hk1 hk2 hC => ?_, ?_⟩
  · go_simp
    with_reducible exact rfl
  go_simp
  refine hK _ ?_
  clear hK K
  refine wpStage_yes (by go_simp) ?_
  intro K hK
  apply Exists.intro
  refine ⟨fun kk ww hk1 hk2 hC => ?_, ?_⟩
  · go_simp
    with_reducible exact rfl
  go_simp
  refine hK _ ?_
  clear hK K
  refine wpStage_yes (by go_simp) ?_
  intro K hK
  apply Exists.intro
  refine ⟨fun kk ww hk1 hk2 hC => ?_, ?_⟩
  · go_simp
    with_reducible exact rfl
  go_simp
  refine hK _ ?_
  clear hK K
  refine wpStage_yes (by go_simp) ?_
  intro K hK
  apply Exists.intro
  refine ⟨fun kk ww hk1 hk2 hC => ?_, ?_⟩
  · have b1 := hC.hb.cell 1
    go_simp
    with_reducible exact rfl
  go_simp
  refine hK _ ?_
  clear hK K
  refine wpStage_yes (by go_simp) ?_
  intro K hK
  apply Exists.intro
  refine ⟨fun kk ww hk1 hk2 hC => ?_, ?_⟩
  · go_simp
    with_reducible exact rfl
  go_simp
  refine hK _ ?_
  clear hK K
  refine wpStage_nil (fun ww hC => ?_)
  obtain ⟨hB2, hR2, hX2, _, hK2⟩ := hC
  replace hK2 := hK2 (by decide)
  clear hB hK hR hX0
  clear HO
  by_cases hgt : o > s.most
  · obtain rfl := HSB.out.trans (if_pos hgt)
    replace hgt : s.most < o := hgt
    have b2 := hB2.cell 2
    have b3 := hB2.cell 3
    have b4 := hB2.cell 4
    have b5 := hB2.cell 5
    have b6 := hB2.cell 6
    have b7 := hB2.cell 7
    have b8 := hB2.cell 8
    have b9 := hB2.cell 9
    have b10 := hB2.cell 10
    have bf2 := hB2.frozen 2
    have bf3 := hB2.frozen 3
    have bf4 := hB2.frozen 4
    have bf5 := hB2.frozen 5
    have bf6 := hB2.frozen 6
    have bf7 := hB2.frozen 7
    have bf8 := hB2.frozen 8
    have bf9 := hB2.frozen 9
    have bf10 := hB2.frozen 10
    go_upto_region 13 with fail
    clear b2 bf2 b3 bf3 b4 bf4 b5 bf5 b6 bf6 b7 bf7 b8 bf8 b9 bf9 b10 bf10
    have hB3 := (((((((((hB2).set 2 (.int .i64 0) rfl).set 3 (.int .i64 0) rfl).set 4 (.int .i64 0) rfl).set 5 (.int .i64 0) rfl).set 6 (.int .i64 0) rfl).set 7 (.int .i64 0) rfl).set 8 (.int .i64 0) rfl).set 9 (.int .i64 0) rfl).set 10 (.bool false) rfl
    simp only [List.setIfInBounds_toArray, List.set_cons_succ, List.set_cons_zero] at hB3
    have hK3 : Ctr _ c o 1000000 := (((((((((hK2).other ⟨b, 2, none⟩ (.int .i64 0) hcb).other ⟨b, 3, none⟩ (.int .i64 0) hcb).other ⟨b, 4, none⟩ (.int .i64 0) hcb).other ⟨b, 5, none⟩ (.int .i64 0) hcb).other ⟨b, 6, none⟩ (.int .i64 0) hcb).other ⟨b, 7, none⟩ (.int .i64 0) hcb).other ⟨b, 8, none⟩ (.int .i64 0) hcb).other ⟨b, 9, none⟩ (.int .i64 0) hcb).other ⟨b, 10, none⟩ (.bool false) hcb
    have hR3 := (((((((((hR2).other ⟨b, 2, none⟩ (.int .i64 0) hbz.symm).other ⟨b, 3, none⟩ (.int .i64 0) hbz.symm).other ⟨b, 4, none⟩ (.int .i64 0) hbz.symm).other ⟨b, 5, none⟩ (.int .i64 0) hbz.symm).other ⟨b, 6, none⟩ (.int .i64 0) hbz.symm).other ⟨b, 7, none⟩ (.int .i64 0) hbz.symm).other ⟨b, 8, none⟩ (.int .i64 0) hbz.symm).other ⟨b, 9, none⟩ (.int .i64 0) hbz.symm).other ⟨b, 10, none⟩ (.bool false) hbz.symm
    have hX3 := (((((((((hX2).setCell (p := ⟨b, 2, none⟩) (Or.inl (by simp)) (.int .i64 0)).setCell (p := ⟨b, 3, none⟩) (Or.inl (by simp)) (.int .i64 0)).setCell (p := ⟨b, 4, none⟩) (Or.inl (by simp)) (.int .i64 0)).setCell (p := ⟨b, 5, none⟩) (Or.inl (by simp)) (.int .i64 0)).setCell (p := ⟨b, 6, none⟩) (Or.inl (by simp)) (.int .i64 0)).setCell (p := ⟨b, 7, none⟩) (Or.inl (by simp)) (.int .i64 0)).setCell (p := ⟨b, 8, none⟩) (Or.inl (by simp)) (.int .i64 0)).setCell (p := ⟨b, 9, none⟩) (Or.inl (by simp)) (.int .i64 0)).setCell (p := ⟨b, 10, none⟩) (Or.inl (by simp)) (.bool false)
    clear hB2 hK2 hR2 hX2
    generalize (((((((((ww).setCell ⟨b, 2, none⟩ (.int .i64 0)).setCell ⟨b, 3, none⟩ (.int .i64 0)).setCell ⟨b, 4, none⟩ (.int .i64 0)).setCell ⟨b, 5, none⟩ (.int .i64 0)).setCell ⟨b, 6, none⟩ (.int .i64 0)).setCell ⟨b, 7, none⟩ (.int .i64 0)).setCell ⟨b, 8, none⟩ (.int .i64 0)).setCell ⟨b, 9, none⟩ (.int .i64 0)).setCell ⟨b, 10, none⟩ (.bool false) = w3 at *
    have r0 := hR3.cell 0
    have r1 := hR3.cell 1
    have r2 := hR3.cell 2
    have r3 := hR3.cell 3
    have r4 := hR3.cell 4
    have r5 := hR3.cell 5
    have r6 := hR3.cell 6
    have r7 := hR3.cell 7
    have rf0 := hR3.frozen 0
    have rf1 := hR3.frozen 1
    have rf2 := hR3.frozen 2
    have rf3 := hR3.frozen 3
    have rf4 := hR3.frozen 4
    have rf5 := hR3.frozen 5
    have rf6 := hR3.frozen 6
    have rf7 := hR3.frozen 7
    go_wp2_with fail
    clear r0 rf0 r1 rf1 r2 rf2 r3 rf3 r4 rf4 r5 rf5 r6 rf6 r7 rf7
    have hR9 := ((((((((hR3).set 0 (.int .i64 0) rfl).set 1 (.int .i64 0) rfl).set 2 (.int .i64 0) rfl).set 3 (.int .i64 0) rfl).set 4 (.int .i64 0) rfl).set 5 (.int .i64 0) rfl).set 6 (.int .i64 0) rfl).set 7 (.int .i64 0) rfl
    simp only [List.setIfInBounds_toArray, List.set_cons_succ, List.set_cons_zero] at hR9
    have hB9 := ((((((((hB3).other ⟨z, 0, none⟩ (.int .i64 0) hbz).other ⟨z, 1, none⟩ (.int .i64 0) hbz).other ⟨z, 2, none⟩ (.int .i64 0) hbz).other ⟨z, 3, none⟩ (.int .i64 0) hbz).other ⟨z, 4, none⟩ (.int .i64 0) hbz).other ⟨z, 5, none⟩ (.int .i64 0) hbz).other ⟨z, 6, none⟩ (.int .i64 0) hbz).other ⟨z, 7, none⟩ (.int .i64 0) hbz
    have hK9 : Ctr _ c _ 1000000 := ((((((((hK3).other ⟨z, 0, none⟩ (.int .i64 0) hcz).other ⟨z, 1, none⟩ (.int .i64 0) hcz).other ⟨z, 2, none⟩ (.int .i64 0) hcz).other ⟨z, 3, none⟩ (.int .i64 0) hcz).other ⟨z, 4, none⟩ (.int .i64 0) hcz).other ⟨z, 5, none⟩ (.int .i64 0) hcz).other ⟨z, 6, none⟩ (.int .i64 0) hcz).other ⟨z, 7, none⟩ (.int .i64 0) hcz
    have hX9 := ((((((((hX3).setCell (p := ⟨z, 0, none⟩) (Or.inr (by simp; omega)) (.int .i64 0)).setCell (p := ⟨z, 1, none⟩) (Or.inr (by simp; omega)) (.int .i64 0)).setCell (p := ⟨z, 2, none⟩) (Or.inr (by simp; omega)) (.int .i64 0)).setCell (p := ⟨z, 3, none⟩) (Or.inr (by simp; omega)) (.int .i64 0)).setCell (p := ⟨z, 4, none⟩) (Or.inr (by simp; omega)) (.int .i64 0)).setCell (p := ⟨z, 5, none⟩) (Or.inr (by simp; omega)) (.int .i64 0)).setCell (p := ⟨z, 6, none⟩) (Or.inr (by simp; omega)) (.int .i64 0)).setCell (p := ⟨z, 7, none⟩) (Or.inr (by simp; omega)) (.int .i64 0)
    clear hR3 hB3 hK3 hX3
    generalize ((((((((w3).setCell ⟨z, 0, none⟩ (.int .i64 0)).setCell ⟨z, 1, none⟩ (.int .i64 0)).setCell ⟨z, 2, none⟩ (.int .i64 0)).setCell ⟨z, 3, none⟩ (.int .i64 0)).setCell ⟨z, 4, none⟩ (.int .i64 0)).setCell ⟨z, 5, none⟩ (.int .i64 0)).setCell ⟨z, 6, none⟩ (.int .i64 0)).setCell ⟨z, 7, none⟩ (.int .i64 0) = w9 at *
    have r0 : w9.cell? ⟨z, 0, none⟩ = some (.int .i64 0) := hR9.cell 0
    have r1 : w9.cell? ⟨z, 1, none⟩ = some (.int .i64 0) := hR9.cell 1
    have r2 : w9.cell? ⟨z, 2, none⟩ = some (.int .i64 0) := hR9.cell 2
    have r3 : w9.cell? ⟨z, 3, none⟩ = some (.int .i64 0) := hR9.cell 3
    have r4 : w9.cell? ⟨z, 4, none⟩ = some (.int .i64 0) := hR9.cell 4
    have r5 : w9.cell? ⟨z, 5, none⟩ = some (.int .i64 0) := hR9.cell 5
    have r6 : w9.cell? ⟨z, 6, none⟩ = some (.int .i64 0) := hR9.cell 6
    have r7 : w9.cell? ⟨z, 7, none⟩ = some (.int .i64 0) := hR9.cell 7
    exact bodyPost_ret (v := .tuple #[.agg #[.int .i64 0, .int .i64 0, .int .i64 0, .int .i64 0, .int .i64 0, .int .i64 0, .int .i64 0, .int .i64 0], .int .i64 1]) (by simp [results, Try.results10, go_sem, r0, r1, r2, r3, r4, r5, r6, r7]) rfl ⟨rfl, ⟨hB9, hK9⟩, hX9⟩
  · obtain rfl := HSB.out.trans (if_neg hgt)
    replace hgt : o ≤ s.most := by omega
    have r0 := hR2.cell 0
    have r1 := hR2.cell 1
    have r2 := hR2.cell 2
    have r3 := hR2.cell 3
    have r4 := hR2.cell 4
    have r5 := hR2.cell 5
    have r6 := hR2.cell 6
    have r7 := hR2.cell 7
    have rf0 := hR2.frozen 0
    have rf1 := hR2.frozen 1
    have rf2 := hR2.frozen 2
    have rf3 := hR2.frozen 3
    have rf4 := hR2.frozen 4
    have rf5 := hR2.frozen 5
    have rf6 := hR2.frozen 6
    have rf7 := hR2.frozen 7
    go_wp2_with fail
    clear r0 rf0 r1 rf1 r2 rf2 r3 rf3 r4 rf4 r5 rf5 r6 rf6 r7 rf7
    have hR9 := ((((((((hR2).set 0 (.int .i64 0) rfl).set 1 (.int .i64 0) rfl).set 2 (.int .i64 0) rfl).set 3 (.int .i64 0) rfl).set 4 (.int .i64 0) rfl).set 5 (.int .i64 0) rfl).set 6 (.int .i64 0) rfl).set 7 (.int .i64 0) rfl
    simp only [List.setIfInBounds_toArray, List.set_cons_succ, List.set_cons_zero] at hR9
    have hB9 := ((((((((hB2).other ⟨z, 0, none⟩ (.int .i64 0) hbz).other ⟨z, 1, none⟩ (.int .i64 0) hbz).other ⟨z, 2, none⟩ (.int .i64 0) hbz).other ⟨z, 3, none⟩ (.int .i64 0) hbz).other ⟨z, 4, none⟩ (.int .i64 0) hbz).other ⟨z, 5, none⟩ (.int .i64 0) hbz).other ⟨z, 6, none⟩ (.int .i64 0) hbz).other ⟨z, 7, none⟩ (.int .i64 0) hbz
    have hK9 : Ctr _ c _ 1000000 := ((((((((hK2).other ⟨z, 0, none⟩ (.int .i64 0) hcz).other ⟨z, 1, none⟩ (.int .i64 0) hcz).other ⟨z, 2, none⟩ (.int .i64 0) hcz).other ⟨z, 3, none⟩ (.int .i64 0) hcz).other ⟨z, 4, none⟩ (.int .i64 0) hcz).other ⟨z, 5, none⟩ (.int .i64 0) hcz).other ⟨z, 6, none⟩ (.int .i64 0) hcz).other ⟨z, 7, none⟩ (.int .i64 0) hcz
    have hX9 := ((((((((hX2).setCell (p := ⟨z, 0, none⟩) (Or.inr (by simp; omega)) (.int .i64 0)).setCell (p := ⟨z, 1, none⟩) (Or.inr (by simp; omega)) (.int .i64 0)).setCell (p := ⟨z, 2, none⟩) (Or.inr (by simp; omega)) (.int .i64 0)).setCell (p := ⟨z, 3, none⟩) (Or.inr (by simp; omega)) (.int .i64 0)).setCell (p := ⟨z, 4, none⟩) (Or.inr (by simp; omega)) (.int .i64 0)).setCell (p := ⟨z, 5, none⟩) (Or.inr (by simp; omega)) (.int .i64 0)).setCell (p := ⟨z, 6, none⟩) (Or.inr (by simp; omega)) (.int .i64 0)).setCell (p := ⟨z, 7, none⟩) (Or.inr (by simp; omega)) (.int .i64 0)
    clear hR2 hB2 hK2 hX2
    generalize ((((((((ww).setCell ⟨z, 0, none⟩ (.int .i64 0)).setCell ⟨z, 1, none⟩ (.int .i64 0)).setCell ⟨z, 2, none⟩ (.int .i64 0)).setCell ⟨z, 3, none⟩ (.int .i64 0)).setCell ⟨z, 4, none⟩ (.int .i64 0)).setCell ⟨z, 5, none⟩ (.int .i64 0)).setCell ⟨z, 6, none⟩ (.int .i64 0)).setCell ⟨z, 7, none⟩ (.int .i64 0) = w9 at *
    have r0 : w9.cell? ⟨z, 0, none⟩ = some (.int .i64 0) := hR9.cell 0
    have r1 : w9.cell? ⟨z, 1, none⟩ = some (.int .i64 0) := hR9.cell 1
    have r2 : w9.cell? ⟨z, 2, none⟩ = some (.int .i64 0) := hR9.cell 2
    have r3 : w9.cell? ⟨z, 3, none⟩ = some (.int .i64 0) := hR9.cell 3
    have r4 : w9.cell? ⟨z, 4, none⟩ = some (.int .i64 0) := hR9.cell 4
    have r5 : w9.cell? ⟨z, 5, none⟩ = some (.int .i64 0) := hR9.cell 5
    have r6 : w9.cell? ⟨z, 6, none⟩ = some (.int .i64 0) := hR9.cell 6
    have r7 : w9.cell? ⟨z, 7, none⟩ = some (.int .i64 0) := hR9.cell 7
    exact bodyPost_ret (v := .tuple #[.agg #[.int .i64 0, .int .i64 0, .int .i64 0, .int .i64 0, .int .i64 0, .int .i64 0, .int .i64 0, .int .i64 0], .int .i64 1]) (by simp [results, Try.results10, go_sem, r0, r1, r2, r3, r4, r5, r6, r7]) rfl ⟨rfl, ⟨hB9, hK9⟩, hX9⟩
end Go.Proofs.Ytmdgikikiijjbaa
