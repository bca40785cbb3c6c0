/- The reference of package source: Cycle, of nothing. -/
import Derived.Test.YtmdgikikiijjbaaSri
namespace Go.Proofs.Ytmdgikikiijjbaa
open Go.RowKit

set_option maxRecDepth 100000 in
set_option maxHeartbeats 2000000 in
theorem rcyc_nil (w : World) (b : Nat) (s : SV) (hs : s.ok) (h : At w b s.rcells) (a : Option Addr) (cap : Nat) :
    Calls Try.prog 11 #[.pointer (some ⟨b, 0, none⟩), .slice a 0 cap] w fun e w' =>
      e = .returned (.tuple #[.agg NV.zero.cells, .int .i64 1]) ∧ At w' b s.bad.rcells ∧ Chg [b] w w' := by
  obtain ⟨o, ho⟩ : ∃ o, o = cAdd s.old 1000000 1 := ⟨_, rfl⟩
  have HO := Lib.hid ho
  obtain ⟨sb, hsb⟩ : ∃ x, x = s.bad := ⟨_, rfl⟩
  rw [← hsb]
  unfold SV.bad at hsb
  rw [← ho] at hsb
  have HSB := Lib.hid hsb
  clear ho hsb
  have hB := h
  clear h
  simp only [NV.cells, NV.zero, SV.rcells] at *
  go_enter Try.func11, Try.ntmps11
  go_upto_region 2 with fail
  have hR := At.new w #[.int .i64 0, .int .i64 0, .int .i64 0, .int .i64 0, .int .i64 0, .int .i64 0, .int .i64 0, .int .i64 0] 32
  have hX : Chg [] w (w.alloc (.cells #[.int .i64 0, .int .i64 0, .int .i64 0, .int .i64 0, .int .i64 0, .int .i64 0, .int .i64 0, .int .i64 0] 32)) := (Chg.refl _ _).alloc _
  have hBz := hB.lt
  replace hB := hX.at hB (by simp)
  generalize w.alloc (.cells #[.int .i64 0, .int .i64 0, .int .i64 0, .int .i64 0, .int .i64 0, .int .i64 0, .int .i64 0, .int .i64 0] 32) = wa at *
  generalize hz : w.heap.size = z at *
  go_upto_region 21 with fail
  replace hR := hR.alloc (.cells #[.int .i64 0, .int .i64 0, .int .i64 0, .int .i64 0, .int .i64 0, .int .i64 0, .int .i64 0, .int .i64 0] 32)
  replace hX := hX.alloc (.cells #[.int .i64 0, .int .i64 0, .int .i64 0, .int .i64 0, .int .i64 0, .int .i64 0, .int .i64 0, .int .i64 0] 32)
  replace hB := hB.alloc (.cells #[.int .i64 0, .int .i64 0, .int .i64 0, .int .i64 0, .int .i64 0, .int .i64 0, .int .i64 0, .int .i64 0] 32)
  have hwz := hX.size
  rw [hz] at hwz
  have hbz : b ≠ z := by omega
  generalize wa.alloc (.cells #[.int .i64 0, .int .i64 0, .int .i64 0, .int .i64 0, .int .i64 0, .int .i64 0, .int .i64 0, .int .i64 0] 32) = wb at *
  replace hX := hX.mono (S' := [b]) (by simp)
  have ho0 := hs.o0
  have ho2 := hs.o1
  have hwo1 : IntKind.i64.wrap (s.old + 1) = s.old + 1 := by rw [IntKind.wrap_i64]; omega
  by_cases hmx : 1000000 < s.old + 1
  · have ho1 : 1000000 = o := by rw [HO.out]; unfold cAdd; omega
    have b11 := hB.cell 11
    have bf11 := hB.frozen 11
    go_upto_region 22 with fail
    clear b11 bf11
    have hB2 := hB.set 11 (.int .i64 o) rfl
    simp only [List.setIfInBounds_toArray, List.set_cons_succ, List.set_cons_zero] at hB2
    have hR2 := hR.other ⟨b, 11, none⟩ (.int .i64 o) hbz.symm
    have hX2 : Chg [b] w _ := hX.setCell (p := ⟨b, 11, none⟩) (Or.inl (by simp)) (.int .i64 o)
    clear hB hR hX
    generalize wb.setCell ⟨b, 11, none⟩ (.int .i64 o) = w2 at *
    clear ho1 HO
    have hB2d : WB b z #[.int .i64 s.step, .int .i64 s.most, .int .i64 s.last.cnt, .int .i64 s.last.flg, .int .i64 s.last.x, .int .i64 s.last.y, .int .i64 s.last.z, .int .i64 s.last.vx, .int .i64 s.last.vy, .int .i64 s.last.vz, .bool s.has, .int .i64 o] #[.int .i64 0, .int .i64 0, .int .i64 0, .int .i64 0, .int .i64 0, .int .i64 0, .int .i64 0, .int .i64 0] w 0 w2.drew := ⟨hB2.drew, hR2.drew, hX2.drew⟩
    clear hB2 hR2 hX2
    refine wp_region_stage (WB b z #[.int .i64 s.step, .int .i64 s.most, .int .i64 s.last.cnt, .int .i64 s.last.flg, .int .i64 s.last.x, .int .i64 s.last.y, .int .i64 s.last.z, .int .i64 s.last.vx, .int .i64 s.last.vy, .int .i64 s.last.vz, .bool s.has, .int .i64 o] #[.int .i64 0, .int .i64 0, .int .i64 0, .int .i64 0, .int .i64 0, .int .i64 0, .int .i64 0, .int .i64 0] w) [] [(0, 0, false), (0, 0, false), (0, 0, false), (0, 0, false), (0, 0, false), (0, 0, false), (0, 0, false), (0, 0, false), (0, 0, false)]
      (by kernel_rfl) (by kernel_rfl) (by kernel_rfl) (hB2d) ?_
    simp only [List.zip_cons_cons, List.zip_nil_right]
    refine wpStage_yes (by go_simp) ?_
    intro K hK
    apply Exists.intro
    refine ⟨fun kk ww2 hk1 hk2 hC => ?_, ?_⟩
    · go_simp
      with_reducible exact rfl
    go_simp
    refine hK _ ?_
    clear hK K
    refine wpStage_yes (by go_simp) ?_
    intro K hK
    apply Exists.intro
    refine ⟨fun kk ww2 hk1 hk2 hC => ?_, ?_⟩
    · go_simp
      with_reducible exact rfl
    go_simp
    refine hK _ ?_
    clear hK K
    refine wpStage_yes (by go_simp) ?_
    intro K hK
    apply Exists.intro
    refine ⟨fun kk ww2 hk1 hk2 hC => ?_, ?_⟩
    · go_simp
      with_reducible exact rfl
    go_simp
    refine hK _ ?_
    clear hK K
    refine wpStage_yes (by go_simp) ?_
    intro K hK
    apply Exists.intro
    refine ⟨fun kk ww2 hk1 hk2 hC => ?_, ?_⟩
    · have b11 := hC.hb.cell 11
      go_simp
      with_reducible exact rfl
    go_simp
    refine hK _ ?_
    clear hK K
    refine wpStage_yes (by go_simp) ?_
    intro K hK
    apply Exists.intro
    refine ⟨fun kk ww2 hk1 hk2 hC => ?_, ?_⟩
    · go_simp
      with_reducible exact rfl
    go_simp
    refine hK _ ?_
    clear hK K
    refine wpStage_yes (by go_simp) ?_
    intro K hK
    apply Exists.intro
    refine ⟨fun kk ww2 hk1 hk2 hC => ?_, ?_⟩
    · go_simp
      with_reducible exact rfl
    go_simp
    refine hK _ ?_
    clear hK K
    refine wpStage_yes (by go_simp) ?_
    intro K hK
    apply Exists.intro
    refine ⟨fun kk ww2 hk1 hk2 hC => ?_, ?_⟩
    · go_simp
      with_reducible exact rfl
    go_simp
    refine hK _ ?_
    clear hK K
    refine wpStage_yes (by go_simp) ?_
    intro K hK
    apply Exists.intro
    refine ⟨fun kk ww2 hk1 hk2 hC => ?_, ?_⟩
    · have b1 := hC.hb.cell 1
      go_simp
      with_reducible exact rfl
    go_simp
    refine hK _ ?_
    clear hK K
    refine wpStage_yes (by go_simp) ?_
    intro K hK
    apply Exists.intro
    refine ⟨fun kk ww2 hk1 hk2 hC => ?_, ?_⟩
    · go_simp
      with_reducible exact rfl
    go_simp
    refine hK _ ?_
    clear hK K
    refine wpStage_nil (fun ww2 hC => ?_)
    clear hB2d
    obtain ⟨hB2, hR2, hX2⟩ := hC
    by_cases hgt : o > s.most
    · obtain rfl := HSB.out.trans (if_pos hgt)
      replace hgt : s.most < o := hgt
      have b2 := hB2.cell 2
      have b3 := hB2.cell 3
      have b4 := hB2.cell 4
      have b5 := hB2.cell 5
      have b6 := hB2.cell 6
      have b7 := hB2.cell 7
      have b8 := hB2.cell 8
      have b9 := hB2.cell 9
      have b10 := hB2.cell 10
      have bf2 := hB2.frozen 2
      have bf3 := hB2.frozen 3
      have bf4 := hB2.frozen 4
      have bf5 := hB2.frozen 5
      have bf6 := hB2.frozen 6
      have bf7 := hB2.frozen 7
      have bf8 := hB2.frozen 8
      have bf9 := hB2.frozen 9
      have bf10 := hB2.frozen 10
      go_upto_region 25 with fail
      clear b2 bf2 b3 bf3 b4 bf4 b5 bf5 b6 bf6 b7 bf7 b8 bf8 b9 bf9 b10 bf10
      have hB3 := ((((((((hB2.set 10 (.bool false) rfl).set 2 (.int .i64 0) rfl).set 3 (.int .i64 0) rfl).set 4 (.int .i64 0) rfl).set 5 (.int .i64 0) rfl).set 6 (.int .i64 0) rfl).set 7 (.int .i64 0) rfl).set 8 (.int .i64 0) rfl).set 9 (.int .i64 0) rfl
      simp only [List.setIfInBounds_toArray, List.set_cons_succ, List.set_cons_zero] at hB3
      have hR3 := ((((((((hR2.other ⟨b, 10, none⟩ (.bool false) hbz.symm).other ⟨b, 2, none⟩ (.int .i64 0) hbz.symm).other ⟨b, 3, none⟩ (.int .i64 0) hbz.symm).other ⟨b, 4, none⟩ (.int .i64 0) hbz.symm).other ⟨b, 5, none⟩ (.int .i64 0) hbz.symm).other ⟨b, 6, none⟩ (.int .i64 0) hbz.symm).other ⟨b, 7, none⟩ (.int .i64 0) hbz.symm).other ⟨b, 8, none⟩ (.int .i64 0) hbz.symm).other ⟨b, 9, none⟩ (.int .i64 0) hbz.symm
      have hX3 := ((((((((hX2.setCell (p := ⟨b, 10, none⟩) (Or.inl (by simp)) (.bool false)).setCell (p := ⟨b, 2, none⟩) (Or.inl (by simp)) (.int .i64 0)).setCell (p := ⟨b, 3, none⟩) (Or.inl (by simp)) (.int .i64 0)).setCell (p := ⟨b, 4, none⟩) (Or.inl (by simp)) (.int .i64 0)).setCell (p := ⟨b, 5, none⟩) (Or.inl (by simp)) (.int .i64 0)).setCell (p := ⟨b, 6, none⟩) (Or.inl (by simp)) (.int .i64 0)).setCell (p := ⟨b, 7, none⟩) (Or.inl (by simp)) (.int .i64 0)).setCell (p := ⟨b, 8, none⟩) (Or.inl (by simp)) (.int .i64 0)).setCell (p := ⟨b, 9, none⟩) (Or.inl (by simp)) (.int .i64 0)
      clear hB2 hR2 hX2
      generalize (((((((((ww2.setCell ⟨b, 10, none⟩ (.bool false))).setCell ⟨b, 2, none⟩ (.int .i64 0)).setCell ⟨b, 3, none⟩ (.int .i64 0)).setCell ⟨b, 4, none⟩ (.int .i64 0)).setCell ⟨b, 5, none⟩ (.int .i64 0)).setCell ⟨b, 6, none⟩ (.int .i64 0)).setCell ⟨b, 7, none⟩ (.int .i64 0)).setCell ⟨b, 8, none⟩ (.int .i64 0)).setCell ⟨b, 9, none⟩ (.int .i64 0) = w3 at *
      have r0 := hR3.cell 0
      have r1 := hR3.cell 1
      have r2 := hR3.cell 2
      have r3 := hR3.cell 3
      have r4 := hR3.cell 4
      have r5 := hR3.cell 5
      have r6 := hR3.cell 6
      have r7 := hR3.cell 7
      have rf0 := hR3.frozen 0
      have rf1 := hR3.frozen 1
      have rf2 := hR3.frozen 2
      have rf3 := hR3.frozen 3
      have rf4 := hR3.frozen 4
      have rf5 := hR3.frozen 5
      have rf6 := hR3.frozen 6
      have rf7 := hR3.frozen 7
      go_wp2_with (with_reducible refine hold_post ?_)
      refine Lib.hid ?_
      clear r0 rf0 r1 rf1 r2 rf2 r3 rf3 r4 rf4 r5 rf5 r6 rf6 r7 rf7
      have hR9 := ((((((((hR3).set 0 (.int .i64 0) rfl).set 1 (.int .i64 0) rfl).set 2 (.int .i64 0) rfl).set 3 (.int .i64 0) rfl).set 4 (.int .i64 0) rfl).set 5 (.int .i64 0) rfl).set 6 (.int .i64 0) rfl).set 7 (.int .i64 0) rfl
      simp only [List.setIfInBounds_toArray, List.set_cons_succ, List.set_cons_zero] at hR9
      have hB9 := ((((((((hB3).other ⟨z, 0, none⟩ (.int .i64 0) hbz).other ⟨z, 1, none⟩ (.int .i64 0) hbz).other ⟨z, 2, none⟩ (.int .i64 0) hbz).other ⟨z, 3, none⟩ (.int .i64 0) hbz).other ⟨z, 4, none⟩ (.int .i64 0) hbz).other ⟨z, 5, none⟩ (.int .i64 0) hbz).other ⟨z, 6, none⟩ (.int .i64 0) hbz).other ⟨z, 7, none⟩ (.int .i64 0) hbz
      have hX9 := ((((((((hX3).setCell (p := ⟨z, 0, none⟩) (Or.inr (by simp; omega)) (.int .i64 0)).setCell (p := ⟨z, 1, none⟩) (Or.inr (by simp; omega)) (.int .i64 0)).setCell (p := ⟨z, 2, none⟩) (Or.inr (by simp; omega)) (.int .i64 0)).setCell (p := ⟨z, 3, none⟩) (Or.inr (by simp; omega)) (.int .i64 0)).setCell (p := ⟨z, 4, none⟩) (Or.inr (by simp; omega)) (.int .i64 0)).setCell (p := ⟨z, 5, none⟩) (Or.inr (by simp; omega)) (.int .i64 0)).setCell (p := ⟨z, 6, none⟩) (Or.inr (by simp; omega)) (.int .i64 0)).setCell (p := ⟨z, 7, none⟩) (Or.inr (by simp; omega)) (.int .i64 0)
      clear hR3 hB3 hX3
      generalize ((((((((w3).setCell ⟨z, 0, none⟩ (.int .i64 0)).setCell ⟨z, 1, none⟩ (.int .i64 0)).setCell ⟨z, 2, none⟩ (.int .i64 0)).setCell ⟨z, 3, none⟩ (.int .i64 0)).setCell ⟨z, 4, none⟩ (.int .i64 0)).setCell ⟨z, 5, none⟩ (.int .i64 0)).setCell ⟨z, 6, none⟩ (.int .i64 0)).setCell ⟨z, 7, none⟩ (.int .i64 0) = w9 at *
      have r0 : w9.cell? ⟨z, 0, none⟩ = some (.int .i64 0) := hR9.cell 0
      have r1 : w9.cell? ⟨z, 1, none⟩ = some (.int .i64 0) := hR9.cell 1
      have r2 : w9.cell? ⟨z, 2, none⟩ = some (.int .i64 0) := hR9.cell 2
      have r3 : w9.cell? ⟨z, 3, none⟩ = some (.int .i64 0) := hR9.cell 3
      have r4 : w9.cell? ⟨z, 4, none⟩ = some (.int .i64 0) := hR9.cell 4
      have r5 : w9.cell? ⟨z, 5, none⟩ = some (.int .i64 0) := hR9.cell 5
      have r6 : w9.cell? ⟨z, 6, none⟩ = some (.int .i64 0) := hR9.cell 6
      have r7 : w9.cell? ⟨z, 7, none⟩ = some (.int .i64 0) := hR9.cell 7
      exact bodyPost_ret (v := .tuple #[.agg #[.int .i64 0, .int .i64 0, .int .i64 0, .int .i64 0, .int .i64 0, .int .i64 0, .int .i64 0, .int .i64 0], .int .i64 1]) (by simp [results, Try.results11, go_sem, r0, r1, r2, r3, r4, r5, r6, r7]) rfl ⟨rfl, hB9, hX9⟩
    · obtain rfl := HSB.out.trans (if_neg hgt)
      replace hgt : o ≤ s.most := by omega
      have r0 := hR2.cell 0
      have r1 := hR2.cell 1
      have r2 := hR2.cell 2
      have r3 := hR2.cell 3
      have r4 := hR2.cell 4
      have r5 := hR2.cell 5
      have r6 := hR2.cell 6
      have r7 := hR2.cell 7
      have rf0 := hR2.frozen 0
      have rf1 := hR2.frozen 1
      have rf2 := hR2.frozen 2
      have rf3 := hR2.frozen 3
      have rf4 := hR2.frozen 4
      have rf5 := hR2.frozen 5
      have rf6 := hR2.frozen 6
      have rf7 := hR2.frozen 7
      go_wp2_with (with_reducible refine hold_post ?_)
      refine Lib.hid ?_
      clear r0 rf0 r1 rf1 r2 rf2 r3 rf3 r4 rf4 r5 rf5 r6 rf6 r7 rf7
      have hR9 := ((((((((hR2).set 0 (.int .i64 0) rfl).set 1 (.int .i64 0) rfl).set 2 (.int .i64 0) rfl).set 3 (.int .i64 0) rfl).set 4 (.int .i64 0) rfl).set 5 (.int .i64 0) rfl).set 6 (.int .i64 0) rfl).set 7 (.int .i64 0) rfl
      simp only [List.setIfInBounds_toArray, List.set_cons_succ, List.set_cons_zero] at hR9
      have hB9 := ((((((((hB2).other ⟨z, 0, none⟩ (.int .i64 0) hbz).other ⟨z, 1, none⟩ (.int .i64 0) hbz).other ⟨z, 2, none⟩ (.int .i64 0) hbz).other ⟨z, 3, none⟩ (.int .i64 0) hbz).other ⟨z, 4, none⟩ (.int .i64 0) hbz).other ⟨z, 5, none⟩ (.int .i64 0) hbz).other ⟨z, 6, none⟩ (.int .i64 0) hbz).other ⟨z, 7, none⟩ (.int .i64 0) hbz
      have hX9 := ((((((((hX2).setCell (p := ⟨z, 0, none⟩) (Or.inr (by simp; omega)) (.int .i64 0)).setCell (p := ⟨z, 1, none⟩) (Or.inr (by simp; omega)) (.int .i64 0)).setCell (p := ⟨z, 2, none⟩) (Or.inr (by simp; omega)) (.int .i64 0)).setCell (p := ⟨z, 3, none⟩) (Or.inr (by simp; omega)) (.int .i64 0)).setCell (p := ⟨z, 4, none⟩) (Or.inr (by simp; omega)) (.int .i64 0)).setCell (p := ⟨z, 5, none⟩) (Or.inr (by simp; omega)) (.int .i64 0)).setCell (p := ⟨z, 6, none⟩) (Or.inr (by simp; omega)) (.int .i64 0)).setCell (p := ⟨z, 7, none⟩) (Or.inr (by simp; omega)) (.int .i64 0)
      clear hR2 hB2 hX2
      generalize ((((((((ww2).setCell ⟨z, 0, none⟩ (.int .i64 0)).setCell ⟨z, 1, none⟩ (.int .i64 0)).setCell ⟨z, 2, none⟩ (.int .i64 0)).setCell ⟨z, 3, none⟩ (.int .i64 0)).setCell ⟨z, 4, none⟩ (.int .i64 0)).setCell ⟨z, 5, none⟩ (.int .i64 0)).setCell ⟨z, 6, none⟩ (.int .i64 0)).setCell ⟨z, 7, none⟩ (.int .i64 0) = w9 at *
      have r0 : w9.cell? ⟨z, 0, none⟩ = some (.int .i64 0) := hR9.cell 0
      have r1 : w9.cell? ⟨z, 1, none⟩ = some (.int .i64 0) := hR9.cell 1
      have r2 : w9.cell? ⟨z, 2, none⟩ = some (.int .i64 0) := hR9.cell 2
      have r3 : w9.cell? ⟨z, 3, none⟩ = some (.int .i64 0) := hR9.cell 3
      have r4 : w9.cell? ⟨z, 4, none⟩ = some (.int .i64 0) := hR9.cell 4
      have r5 : w9.cell? ⟨z, 5, none⟩ = some (.int .i64 0) := hR9.cell 5
      have r6 : w9.cell? ⟨z, 6, none⟩ = some (.int .i64 0) := hR9.cell 6
      have r7 : w9.cell? ⟨z, 7, none⟩ = some (.int .i64 0) := hR9.cell 7
      exact bodyPost_ret (v := .tuple #[.agg #[.int .i64 0, .int .i64 0, .int .i64 0, .int .i64 0, .int .i64 0, .int .i64 0, .int .i64 0, .int .i64 0], .int .i64 1]) (by simp [results, Try.results11, go_sem, r0, r1, r2, r3, r4, r5, r6, r7]) rfl ⟨rfl, hB9, hX9⟩
  · replace hmx : s.old + 1 ≤ 1000000 := by omega
    have ho1 : s.old + 1 = o := by rw [HO.out]; unfold cAdd; omega
    have b11 := hB.cell 11
    have bf11 := hB.frozen 11
    go_upto_region 22 with fail
    clear b11 bf11
    have hB2 := hB.set 11 (.int .i64 o) rfl
    simp only [List.setIfInBounds_toArray, List.set_cons_succ, List.set_cons_zero] at hB2
    have hR2 := hR.other ⟨b, 11, none⟩ (.int .i64 o) hbz.symm
    have hX2 : Chg [b] w _ := hX.setCell (p := ⟨b, 11, none⟩) (Or.inl (by simp)) (.int .i64 o)
    clear hB hR hX
    generalize wb.setCell ⟨b, 11, none⟩ (.int .i64 o) = w2 at *
    clear ho1 HO
    have hB2d : WB b z #[.int .i64 s.step, .int .i64 s.most, .int .i64 s.last.cnt, .int .i64 s.last.flg, .int .i64 s.last.x, .int .i64 s.last.y, .int .i64 s.last.z, .int .i64 s.last.vx, .int .i64 s.last.vy, .int .i64 s.last.vz, .bool s.has, .int .i64 o] #[.int .i64 0, .int .i64 0, .int .i64 0, .int .i64 0, .int .i64 0, .int .i64 0, .int .i64 0, .int .i64 0] w 0 w2.drew := ⟨hB2.drew, hR2.drew, hX2.drew⟩
    clear hB2 hR2 hX2
    refine wp_region_stage (WB b z #[.int .i64 s.step, .int .i64 s.most, .int .i64 s.last.cnt, .int .i64 s.last.flg, .int .i64 s.last.x, .int .i64 s.last.y, .int .i64 s.last.z, .int .i64 s.last.vx, .int .i64 s.last.vy, .int .i64 s.last.vz, .bool s.has, .int .i64 o] #[.int .i64 0, .int .i64 0, .int .i64 0, .int .i64 0, .int .i64 0, .int .i64 0, .int .i64 0, .int .i64 0] w) [] [(0, 0, false), (0, 0, false), (0, 0, false), (0, 0, false), (0, 0, false), (0, 0, false), (0, 0, false), (0, 0, false), (0, 0, false)]
      (by kernel_rfl) (by kernel_rfl) (by kernel_rfl) (hB2d) ?_
    simp only [List.zip_cons_cons, List.zip_nil_right]
    refine wpStage_yes (by go_simp) ?_
    intro K hK
    apply Exists.intro
    refine ⟨fun kk ww2 hk1 hk2 hC => ?_, ?_⟩
    · go_simp
      with_reducible exact rfl
    go_simp
    refine hK _ ?_
    clear hK K
    refine wpStage_yes (by go_simp) ?_
    intro K hK
    apply Exists.intro
    refine ⟨fun kk ww2 hk1 hk2 hC => ?_, ?_⟩
    · go_simp
      with_reducible exact rfl
    go_simp
    refine hK _ ?_
    clear hK K
    refine wpStage_yes (by go_simp) ?_
    intro K hK
    apply Exists.intro
    refine ⟨fun kk ww2 hk1 hk2 hC => ?_, ?_⟩
    · go_simp
      with_reducible exact rfl
    go_simp
    refine hK _ ?_
    clear hK K
    refine wpStage_yes (by go_simp) ?_
    intro K hK
    apply Exists.intro
    refine ⟨fun kk ww2 hk1 hk2 hC => ?_, ?_⟩
    · have b11 := hC.hb.cell 11
      go_simp
      with_reducible exact rfl
    go_simp
    refine hK _ ?_
    clear hK K
    refine wpStage_yes (by go_simp) ?_
    intro K hK
    apply Exists.intro
    refine ⟨fun kk ww2 hk1 hk2 hC => ?_, ?_⟩
    · go_simp
      with_reducible exact rfl
    go_simp
    refine hK _ ?_
    clear hK K
    refine wpStage_yes (by go_simp) ?_
    intro K hK
    apply Exists.intro
    refine ⟨fun kk ww2 hk1 hk2 hC => ?_, ?_⟩
    · go_simp
      with_reducible exact rfl
    go_simp
    refine hK _ ?_
    clear hK K
    refine wpStage_yes (by go_simp) ?_
    intro K hK
    apply Exists.intro
    refine ⟨fun kk ww2 hk1 hk2 hC => ?_, ?_⟩
    · go_simp
      with_reducible exact rfl
    go_simp
    refine hK _ ?_
    clear hK K
    refine wpStage_yes (by go_simp) ?_
    intro K hK
    apply Exists.intro
    refine ⟨fun kk ww2 hk1 hk2 hC => ?_, ?_⟩
    · have b1 := hC.hb.cell 1
      go_simp
      with_reducible exact rfl
    go_simp
    refine hK _ ?_
    clear hK K
    refine wpStage_yes (by go_simp) ?_
    intro K hK
    apply Exists.intro
    refine ⟨fun kk ww2 hk1 hk2 hC => ?_, ?_⟩
    · go_simp
      with_reducible exact rfl
    go_simp
    refine hK _ ?_
    clear hK K
    refine wpStage_nil (fun ww2 hC => ?_)
    clear hB2d
    obtain ⟨hB2, hR2, hX2⟩ := hC
    by_cases hgt : o > s.most
    · obtain rfl := HSB.out.trans (if_pos hgt)
      replace hgt : s.most < o := hgt
      have b2 := hB2.cell 2
      have b3 := hB2.cell 3
      have b4 := hB2.cell 4
      have b5 := hB2.cell 5
      have b6 := hB2.cell 6
      have b7 := hB2.cell 7
      have b8 := hB2.cell 8
      have b9 := hB2.cell 9
      have b10 := hB2.cell 10
      have bf2 := hB2.frozen 2
      have bf3 := hB2.frozen 3
      have bf4 := hB2.frozen 4
      have bf5 := hB2.frozen 5
      have bf6 := hB2.frozen 6
      have bf7 := hB2.frozen 7
      have bf8 := hB2.frozen 8
      have bf9 := hB2.frozen 9
      have bf10 := hB2.frozen 10
      go_upto_region 25 with fail
      clear b2 bf2 b3 bf3 b4 bf4 b5 bf5 b6 bf6 b7 bf7 b8 bf8 b9 bf9 b10 bf10
      have hB3 := ((((((((hB2.set 10 (.bool false) rfl).set 2 (.int .i64 0) rfl).set 3 (.int .i64 0) rfl).set 4 (.int .i64 0) rfl).set 5 (.int .i64 0) rfl).set 6 (.int .i64 0) rfl).set 7 (.int .i64 0) rfl).set 8 (.int .i64 0) rfl).set 9 (.int .i64 0) rfl
      simp only [List.setIfInBounds_toArray, List.set_cons_succ, List.set_cons_zero] at hB3
      have hR3 := ((((((((hR2.other ⟨b, 10, none⟩ (.bool false) hbz.symm).other ⟨b, 2, none⟩ (.int .i64 0) hbz.symm).other ⟨b, 3, none⟩ (.int .i64 0) hbz.symm).other ⟨b, 4, none⟩ (.int .i64 0) hbz.symm).other ⟨b, 5, none⟩ (.int .i64 0) hbz.symm).other ⟨b, 6, none⟩ (.int .i64 0) hbz.symm).other ⟨b, 7, none⟩ (.int .i64 0) hbz.symm).other ⟨b, 8, none⟩ (.int .i64 0) hbz.symm).other ⟨b, 9, none⟩ (.int .i64 0) hbz.symm
      have hX3 := ((((((((hX2.setCell (p := ⟨b, 10, none⟩) (Or.inl (by simp)) (.bool false)).setCell (p := ⟨b, 2, none⟩) (Or.inl (by simp)) (.int .i64 0)).setCell (p := ⟨b, 3, none⟩) (Or.inl (by simp)) (.int .i64 0)).setCell (p := ⟨b, 4, none⟩) (Or.inl (by simp)) (.int .i64 0)).setCell (p := ⟨b, 5, none⟩) (Or.inl (by simp)) (.int .i64 0)).setCell (p := ⟨b, 6, none⟩) (Or.inl (by simp)) (.int .i64 0)).setCell (p := ⟨b, 7, none⟩) (Or.inl (by simp)) (.int .i64 0)).setCell (p := ⟨b, 8, none⟩) (Or.inl (by simp)) (.int .i64 0)).setCell (p := ⟨b, 9, none⟩) (Or.inl (by simp)) (.int .i64 0)
      clear hB2 hR2 hX2
      generalize (((((((((ww2.setCell ⟨b, 10, none⟩ (.bool false))).setCell ⟨b, 2, none⟩ (.int .i64 0)).setCell ⟨b, 3, none⟩ (.int .i64 0)).setCell ⟨b, 4, none⟩ (.int .i64 0)).setCell ⟨b, 5, none⟩ (.int .i64 0)).setCell ⟨b, 6, none⟩ (.int .i64 0)).setCell ⟨b, 7, none⟩ (.int .i64 0)).setCell ⟨b, 8, none⟩ (.int .i64 0)).setCell ⟨b, 9, none⟩ (.int .i64 0) = w3 at *
      have r0 := hR3.cell 0
      have r1 := hR3.cell 1
      have r2 := hR3.cell 2
      have r3 := hR3.cell 3
      have r4 := hR3.cell 4
      have r5 := hR3.cell 5
      have r6 := hR3.cell 6
      have r7 := hR3.cell 7
      have rf0 := hR3.frozen 0
      have rf1 := hR3.frozen 1
      have rf2 := hR3.frozen 2
      have rf3 := hR3.frozen 3
      have rf4 := hR3.frozen 4
      have rf5 := hR3.frozen 5
      have rf6 := hR3.frozen 6
      have rf7 := hR3.frozen 7
      go_wp2_with (with_reducible refine hold_post ?_)
      refine Lib.hid ?_
      clear r0 rf0 r1 rf1 r2 rf2 r3 rf3 r4 rf4 r5 rf5 r6 rf6 r7 rf7
      have hR9 := ((((((((hR3).set 0 (.int .i64 0) rfl).set 1 (.int .i64 0) rfl).set 2 (.int .i64 0) rfl).set 3 (.int .i64 0) rfl).set 4 (.int .i64 0) rfl).set 5 (.int .i64 0) rfl).set 6 (.int .i64 0) rfl).set 7 (.int .i64 0) rfl
      simp only [List.setIfInBounds_toArray, List.set_cons_succ, List.set_cons_zero] at hR9
      have hB9 := ((((((((hB3).other ⟨z, 0, none⟩ (.int .i64 0) hbz).other ⟨z, 1, none⟩ (.int .i64 0) hbz).other ⟨z, 2, none⟩ (.int .i64 0) hbz).other ⟨z, 3, none⟩ (.int .i64 0) hbz).other ⟨z, 4, none⟩ (.int .i64 0) hbz).other ⟨z, 5, none⟩ (.int .i64 0) hbz).other ⟨z, 6, none⟩ (.int .i64 0) hbz).other ⟨z, 7, none⟩ (.int .i64 0) hbz
      have hX9 := ((((((((hX3).setCell (p := ⟨z, 0, none⟩) (Or.inr (by simp; omega)) (.int .i64 0)).setCell (p := ⟨z, 1, none⟩) (Or.inr (by simp; omega)) (.int .i64 0)).setCell (p := ⟨z, 2, none⟩) (Or.inr (by simp; omega)) (.int .i64 0)).setCell (p := ⟨z, 3, none⟩) (Or.inr (by simp; omega)) (.int .i64 0)).setCell (p := ⟨z, 4, none⟩) (Or.inr (by simp; omega)) (.int .i64 0)).setCell (p := ⟨z, 5, none⟩) (Or.inr (by simp; omega)) (.int .i64 0)).setCell (p := ⟨z, 6, none⟩) (Or.inr (by simp; omega)) (.int .i64 0)).setCell (p := ⟨z, 7, none⟩) (Or.inr (by simp; omega)) (.int .i64 0)
      clear hR3 hB3 hX3
      generalize ((((((((w3).setCell ⟨z, 0, none⟩ (.int .i64 0)).setCell ⟨z, 1, none⟩ (.int .i64 0)).setCell ⟨z, 2, none⟩ (.int .i64 0)).setCell ⟨z, 3, none⟩ (.int .i64 0)).setCell ⟨z, 4, none⟩ (.int .i64 0)).setCell ⟨z, 5, none⟩ (.int .i64 0)).setCell ⟨z, 6, none⟩ (.int .i64 0)).setCell ⟨z, 7, none⟩ (.int .i64 0) = w9 at *
      have r0 : w9.cell? ⟨z, 0, none⟩ = some (.int .i64 0) := hR9.cell 0
      have r1 : w9.cell? ⟨z, 1, none⟩ = some (.int .i64 0) := hR9.cell 1
      have r2 : w9.cell? ⟨z, 2, none⟩ = some (.int .i64 0) := hR9.cell 2
      have r3 : w9.cell? ⟨z, 3, none⟩ = some (.int .i64 0) := hR9.cell 3
      have r4 : w9.cell? ⟨z, 4, none⟩ = some (.int .i64 0) := hR9.cell 4
      have r5 : w9.cell? ⟨z, 5, none⟩ = some (.int .i64 0) := hR9.cell 5
      have r6 : w9.cell? ⟨z, 6, none⟩ = some (.int .i64 0) := hR9.cell 6
      have r7 : w9.cell? ⟨z, 7, none⟩ = some (.int .i64 0) := hR9.cell 7
      exact bodyPost_ret (v := .tuple #[.agg #[.int .i64 0, .int .i64 0, .int .i64 0, .int .i64 0, .int .i64 0, .int .i64 0, .int .i64 0, .int .i64 0], .int .i64 1]) (by simp [results, Try.results11, go_sem, r0, r1, r2, r3, r4, r5, r6, r7]) rfl ⟨rfl, hB9, hX9⟩
    · obtain rfl := HSB.out.trans (if_neg hgt)
      replace hgt : o ≤ s.most := by omega
      have r0 := hR2.cell 0
      have r1 := hR2.cell 1
      have r2 := hR2.cell 2
      have r3 := hR2.cell 3
      have r4 := hR2.cell 4
      have r5 := hR2.cell 5
      have r6 := hR2.cell 6
      have r7 := hR2.cell 7
      have rf0 := hR2.frozen 0
      have rf1 := hR2.frozen 1
      have rf2 := hR2.frozen 2
      have rf3 := hR2.frozen 3
      have rf4 := hR2.frozen 4
      have rf5 := hR2.frozen 5
      have rf6 := hR2.frozen 6
      have rf7 := hR2.frozen 7
      go_wp2_with (with_reducible refine hold_post ?_)
      refine Lib.hid ?_
      clear r0 rf0 r1 rf1 r2 rf2 r3 rf3 r4 rf4 r5 rf5 r6 rf6 r7 rf7
      have hR9 := ((((((((hR2).set 0 (.int .i64 0) rfl).set 1 (.int .i64 0) rfl).set 2 (.int .i64 0) rfl).set 3 (.int .i64 0) rfl).set 4 (.int .i64 0) rfl).set 5 (.int .i64 0) rfl).set 6 (.int .i64 0) rfl).set 7 (.int .i64 0) rfl
      simp only [List.setIfInBounds_toArray, List.set_cons_succ, List.set_cons_zero] at hR9
      have hB9 := ((((((((hB2).other ⟨z, 0, none⟩ (.int .i64 0) hbz).other ⟨z, 1, none⟩ (.int .i64 0) hbz).other ⟨z, 2, none⟩ (.int .i64 0) hbz).other ⟨z, 3, none⟩ (.int .i64 0) hbz).other ⟨z, 4, none⟩ (.int .i64 0) hbz).other ⟨z, 5, none⟩ (.int .i64 0) hbz).other ⟨z, 6, none⟩ (.int .i64 0) hbz).other ⟨z, 7, none⟩ (.int .i64 0) hbz
      have hX9 := ((((((((hX2).setCell (p := ⟨z, 0, none⟩) (Or.inr (by simp; omega)) (.int .i64 0)).setCell (p := ⟨z, 1, none⟩) (Or.inr (by simp; omega)) (.int .i64 0)).setCell (p := ⟨z, 2, none⟩) (Or.inr (by simp; omega)) (.int .i64 0)).setCell (p := ⟨z, 3, none⟩) (Or.inr (by simp; omega)) (.int .i64 0)).setCell (p := ⟨z, 4, none⟩) (Or.inr (by simp; omega)) (.int .i64 0)).setCell (p := ⟨z, 5, none⟩) (Or.inr (by simp; omega)) (.int .i64 0)).setCell (p := ⟨z, 6, none⟩) (Or.inr (by simp; omega)) (.int .i64 0)).setCell (p := ⟨z, 7, none⟩) (Or.inr (by simp; omega)) (.int .i64 0)
      clear hR2 hB2 hX2
      generalize ((((((((ww2).setCell ⟨z, 0, none⟩ (.int .i64 0)).setCell ⟨z, 1, none⟩ (.int .i64 0)).setCell ⟨z, 2, none⟩ (.int .i64 0)).setCell ⟨z, 3, none⟩ (.int .i64 0)).setCell ⟨z, 4, none⟩ (.int .i64 0)).setCell ⟨z, 5, none⟩ (.int .i64 0)).setCell ⟨z, 6, none⟩ (.int .i64 0)).setCell ⟨z, 7, none⟩ (.int .i64 0) = w9 at *
      have r0 : w9.cell? ⟨z, 0, none⟩ = some (.int .i64 0) := hR9.cell 0
      have r1 : w9.cell? ⟨z, 1, none⟩ = some (.int .i64 0) := hR9.cell 1
      have r2 : w9.cell? ⟨z, 2, none⟩ = some (.int .i64 0) := hR9.cell 2
      have r3 : w9.cell? ⟨z, 3, none⟩ = some (.int .i64 0) := hR9.cell 3
      have r4 : w9.cell? ⟨z, 4, none⟩ = some (.int .i64 0) := hR9.cell 4
      have r5 : w9.cell? ⟨z, 5, none⟩ = some (.int .i64 0) := hR9.cell 5
      have r6 : w9.cell? ⟨z, 6, none⟩ = some (.int .i64 0) := hR9.cell 6
      have r7 : w9.cell? ⟨z, 7, none⟩ = some (.int .i64 0) := hR9.cell 7
      exact bodyPost_ret (v := .tuple #[.agg #[.int .i64 0, .int .i64 0, .int .i64 0, .int .i64 0, .int .i64 0, .int .i64 0, .int .i64 0, .int .i64 0], .int .i64 1]) (by simp [results, Try.results11, go_sem, r0, r1, r2, r3, r4, r5, r6, r7]) rfl ⟨rfl, hB9, hX9⟩
end Go.Proofs.Ytmdgikikiijjbaa
