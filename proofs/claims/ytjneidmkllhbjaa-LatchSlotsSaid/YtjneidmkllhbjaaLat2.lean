/- Package latch: Save, where it goes well. -/
import Derived.Test.YtjneidmkllhbjaaLas
import Derived.Deep.DeepCutAuto
namespace Go.Proofs.Ytjneidmkllhbjaa
open Go.RowKit

structure LSv (W0 : World) (S : List Nat) (b z : Nat) (zc c0 c1 c2 c3 : Array Value) (P : World → Prop) (k : Nat) (w : World) : Prop where
  k0 : k = 0 → At w b c0
  k1 : k = 1 → At w b c1
  k2 : k = 2 → At w b c2
  k3 : 3 ≤ k → At w b c3
  hz : At w z zc
  x : Chg S W0 w
  p : P w
set_option maxRecDepth 100000 in
set_option maxHeartbeats 2000000 in
/-- The write goes well: the latch holds the record. -/
theorem lsave_ok (w : World) (b f : Nat) (l : LtV) (r : RcV) (h : At w b (l.cells f)) (hl0 : 0 ≤ l.last.seq) (hl1 : l.last.seq ≤ 4294967295) (hs0 : 0 ≤ l.slot) (hs1 : l.slot ≤ 1) (hb0 : 0 ≤ l.base) (hb1 : l.base ≤ 100000) (hr : (r.next l).right = true)
    (S : List Nat) (hbS : b ∉ S) (hSw : ∀ x ∈ S, x < w.heap.size) (P : World → Prop) (hPb : ∀ w1 w2, P w1 → Chg [b] w1 w2 → P w2) (hPd : ∀ w1, P w1 → P w1.drew)
    (HW : ∀ w1, Chg [] w w1 → Calls Try.prog 16 #[.pointer (some ⟨f, 0, none⟩), .int .i64 (l.base + (l.slot + 1) % 2 * 24), .string (strOfNums (r.next l).all)] w1 fun e w2 => e = .returned (.int .i64 0) ∧ P w2 ∧ Chg S w1 w2) :
    Calls Try.prog 20 #[.pointer (some ⟨b, 0, none⟩), .agg r.cells] w fun e w' => e = .returned (.int .i64 0) ∧ At w' b ((⟨l.base, (l.slot + 1) % 2, r.next l, true⟩ : LtV).cells f) ∧ P w' ∧ Chg (b :: S) w w' := by
  have HP := fun w => lprint_any w (r.next l)
  have hp : (r.next l).print = strOfNums (r.next l).all := by unfold RcV.print; rw [hr]; rfl
  rw [hp] at HP
  have hz24 : (strOfNums (r.next l).all).size = 24 := by rw [strOfNums_size, RcV.all_len]
  have hne := str24_ne hz24
  generalize strOfNums (r.next l).all = txt at *
  have hmd : (l.slot + 1).tmod 2 = (l.slot + 1) % 2 := Int.tmod_eq_emod_of_nonneg (by omega)
  have HW' := Lib.hid HW
  clear hp hr HW
  have hB := h
  clear h
  simp only [RcV.next, RcV.cells, LtV.cells] at *
  have hZ := At.new w #[.int .i64 r.seq, .int .i64 r.cyc, .int .i64 r.ph, .int .i64 r.st, .int .i64 r.fl, .int .i64 r.vi, .int .i64 r.di, .int .i64 r.inv, .int .i64 r.inph] 23
  have hX : Chg [] w (w.alloc (.cells #[.int .i64 r.seq, .int .i64 r.cyc, .int .i64 r.ph, .int .i64 r.st, .int .i64 r.fl, .int .i64 r.vi, .int .i64 r.di, .int .i64 r.inv, .int .i64 r.inph] 23)) := (Chg.refl _ _).alloc _
  have hbz : b ≠ w.heap.size := by have := hB.lt; omega
  replace hB := hX.at hB (by simp)
  go_enter Try.func20, Try.ntmps20
  go_upto_region 1 with fail
  have hzW : w.heap.size ≤ w.heap.size := Nat.le_refl _
  generalize hz : w.heap.size = z at *
  generalize w.alloc (.cells #[.int .i64 r.seq, .int .i64 r.cyc, .int .i64 r.ph, .int .i64 r.st, .int .i64 r.fl, .int .i64 r.vi, .int .i64 r.di, .int .i64 r.inv, .int .i64 r.inph] 23) = wa at *
  have b3 : wa.cell? ⟨b, 3, none⟩ = some (.int .i64 l.last.seq) := hB.cell 3
  have z0 : wa.cell? ⟨z, 0, none⟩ = some (.int .i64 r.seq) := hZ.cell 0
  have zf0 := hZ.frozen 0
  go_upto_region 4 with fail
  have hZ2 := hZ.set 0 (.int .i64 (l.last.seq + 1)) rfl
  simp only [List.setIfInBounds_toArray, List.set_cons_zero] at hZ2
  have hB2 := hB.other ⟨z, 0, none⟩ (.int .i64 (l.last.seq + 1)) hbz
  have hX2 := hX.setCell (p := ⟨z, 0, none⟩) (Or.inr (by simp; omega)) (.int .i64 (l.last.seq + 1))
  generalize wa.setCell ⟨z, 0, none⟩ (.int .i64 (l.last.seq + 1)) = wb at *
  clear b3 z0 zf0
  have z0 : wb.cell? ⟨z, 0, none⟩ = some (.int .i64 (l.last.seq + 1)) := hZ2.cell 0
  have z1 : wb.cell? ⟨z, 1, none⟩ = some (.int .i64 r.cyc) := hZ2.cell 1
  have z2 : wb.cell? ⟨z, 2, none⟩ = some (.int .i64 r.ph) := hZ2.cell 2
  have z3 : wb.cell? ⟨z, 3, none⟩ = some (.int .i64 r.st) := hZ2.cell 3
  have z4 : wb.cell? ⟨z, 4, none⟩ = some (.int .i64 r.fl) := hZ2.cell 4
  have z5 : wb.cell? ⟨z, 5, none⟩ = some (.int .i64 r.vi) := hZ2.cell 5
  have z6 : wb.cell? ⟨z, 6, none⟩ = some (.int .i64 r.di) := hZ2.cell 6
  have z7 : wb.cell? ⟨z, 7, none⟩ = some (.int .i64 r.inv) := hZ2.cell 7
  have z8 : wb.cell? ⟨z, 8, none⟩ = some (.int .i64 r.inph) := hZ2.cell 8
  go_wp2_with fail
  refine (HP _).mono ?_; rintro e w2 ⟨rfl, hY⟩
  go_upto_region 7 with fail
  clear z0 z1 z2 z3 z4 z5 z6 z7 z8
  replace hB := hY.at hB2 (by simp)
  clear hB2
  replace hX2 := hX2.trans hY
  have q0 : w2.cell? ⟨b, 0, none⟩ = some (.pointer (some ⟨f, 0, none⟩)) := hB.cell 0
  have q1 : w2.cell? ⟨b, 1, none⟩ = some (.int .i64 l.base) := hB.cell 1
  have q2 : w2.cell? ⟨b, 2, none⟩ = some (.int .i64 l.slot) := hB.cell 2
  go_upto_region 8 with fail
  have hsl : 0 ≤ (l.slot + 1) % 2 ∧ (l.slot + 1) % 2 ≤ 1 := by omega
  clear hmd
  generalize hslq : (l.slot + 1) % 2 = sl at *
  have Hsl := Lib.hid hslq
  clear hslq
  go_still_tail 12, (by kernel_rfl)
  change wpList _ _ _ _ _ w2.drew
  clear q0 q1 q2
  have hZ3 := hY.at hZ2 (by simp)
  skip
  go_upto_region 11 with (go_at_call 16; refine (HW'.out _ hX2.drew).mono ?_; rintro e w3 ⟨rfl, hP, hXS⟩)
  have hzS : z ∉ S := fun hh => by have := hSw z hh; omega
  replace hB := hXS.at hB.drew hbS
  replace hZ3 := hXS.at hZ3.drew hzS
  have hX3 : Chg (b :: S) w w3 := (hX2.drew.mono (by simp)).trans (hXS.mono (fun x hx _ => by simp [hx]))
  clear hXS hX2 hY hZ2 hX hZ
  replace hB : At w3 b #[.pointer (some ⟨f, 0, none⟩), .int .i64 l.base, .int .i64 l.slot, .int .i64 l.last.seq, .int .i64 l.last.cyc, .int .i64 l.last.ph, .int .i64 l.last.st, .int .i64 l.last.fl, .int .i64 l.last.vi, .int .i64 l.last.di, .int .i64 l.last.inv, .int .i64 l.last.inph, .bool l.ok] := hB
  replace hZ3 : At w3 z #[.int .i64 (l.last.seq + 1), .int .i64 r.cyc, .int .i64 r.ph, .int .i64 r.st, .int .i64 r.fl, .int .i64 r.vi, .int .i64 r.di, .int .i64 r.inv, .int .i64 r.inph] := hZ3
  refine wp_region_stage (LSv w (b :: S) b z #[.int .i64 (l.last.seq + 1), .int .i64 r.cyc, .int .i64 r.ph, .int .i64 r.st, .int .i64 r.fl, .int .i64 r.vi, .int .i64 r.di, .int .i64 r.inv, .int .i64 r.inph] #[.pointer (some ⟨f, 0, none⟩), .int .i64 l.base, .int .i64 l.slot, .int .i64 l.last.seq, .int .i64 l.last.cyc, .int .i64 l.last.ph, .int .i64 l.last.st, .int .i64 l.last.fl, .int .i64 l.last.vi, .int .i64 l.last.di, .int .i64 l.last.inv, .int .i64 l.last.inph, .bool l.ok] #[.pointer (some ⟨f, 0, none⟩), .int .i64 l.base, .int .i64 sl, .int .i64 l.last.seq, .int .i64 l.last.cyc, .int .i64 l.last.ph, .int .i64 l.last.st, .int .i64 l.last.fl, .int .i64 l.last.vi, .int .i64 l.last.di, .int .i64 l.last.inv, .int .i64 l.last.inph, .bool l.ok] #[.pointer (some ⟨f, 0, none⟩), .int .i64 l.base, .int .i64 sl, .int .i64 (l.last.seq + 1), .int .i64 r.cyc, .int .i64 r.ph, .int .i64 r.st, .int .i64 r.fl, .int .i64 r.vi, .int .i64 r.di, .int .i64 r.inv, .int .i64 r.inph, .bool l.ok] #[.pointer (some ⟨f, 0, none⟩), .int .i64 l.base, .int .i64 sl, .int .i64 (l.last.seq + 1), .int .i64 r.cyc, .int .i64 r.ph, .int .i64 r.st, .int .i64 r.fl, .int .i64 r.vi, .int .i64 r.di, .int .i64 r.inv, .int .i64 r.inph, .bool true] P) [7, 10, 13] [(0, 0, false), (0, 1, false), (0, 2, false), (0, 0, false), (0, 1, false), (0, 0, false), (0, 0, false), (0, 0, true), (1, 1, false), (1, 1, false), (1, 1, true), (2, 2, false), (2, 2, false), (2, 2, true)]
    (by kernel_rfl) (by kernel_rfl) (by kernel_rfl) (⟨fun _ => hB.drew, fun h => absurd h (by omega), fun h => absurd h (by omega), fun h => absurd h (by omega), hZ3.drew, hX3.drew, hPd _ hP⟩) ?_
  simp only [List.zip_cons_cons, List.zip_nil_right]
  refine wpStage_yes (by go_simp) ?_
  intro K hK
  apply Exists.intro
  refine ⟨fun kk ww hk1 hk2 hC => ?_, ?_⟩
  · go_simp
    with_reducible exact rfl
  go_simp
  refine hK _ ?_
  clear hK K
  refine wpStage_yes (by go_simp) ?_
  intro K hK
  apply Exists.intro
  refine ⟨fun kk ww hk1 hk2 hC => ?_, ?_⟩
  · go_simp
    with_reducible exact rfl
  go_simp
  refine hK _ ?_
  clear hK K
  refine wpStage_yes (by go_simp) ?_
  intro K hK
  apply Exists.intro
  refine ⟨fun kk ww hk1 hk2 hC => ?_, ?_⟩
  · go_simp
    with_reducible exact rfl
  go_simp
  refine hK _ ?_
  clear hK K
  refine wpStage_yes (by go_simp) ?_
  intro K hK
  apply Exists.intro
  refine ⟨fun kk ww hk1 hk2 hC => ?_, ?_⟩
  · go_simp
    with_reducible exact rfl
  go_simp
  refine hK _ ?_
  clear hK K
  refine wpStage_yes (by go_simp) ?_
  intro K hK
  apply Exists.intro
  refine ⟨fun kk ww hk1 hk2 hC => ?_, ?_⟩
  · have z0 := hC.hz.cell 0
    have z1 := hC.hz.cell 1
    have z2 := hC.hz.cell 2
    have z3 := hC.hz.cell 3
    have z4 := hC.hz.cell 4
    have z5 := hC.hz.cell 5
    have z6 := hC.hz.cell 6
    have z7 := hC.hz.cell 7
    have z8 := hC.hz.cell 8
    go_simp
    with_reducible exact rfl
  go_simp
  refine hK _ ?_
  clear hK K
  refine wpStage_yes (by go_simp) ?_
  intro K hK
  apply Exists.intro
  refine ⟨fun kk ww hk1 hk2 hC => ?_, ?_⟩
  · go_simp
    with_reducible exact rfl
  go_simp
  refine hK _ ?_
  clear hK K
  refine wpStage_yes (by go_simp) ?_
  intro K hK
  apply Exists.intro
  refine ⟨fun kk ww hk1 hk2 hC => ?_, ?_⟩
  · go_simp
    with_reducible exact rfl
  go_simp
  refine hK _ ?_
  clear hK K
  refine wpStage_yes (by go_simp) ?_
  intro K hK
  apply Exists.intro
  refine ⟨fun kk ww hk1 hk2 hC => ?_, ?_⟩
  · obtain rfl : kk = 0 := by omega
    have hB := hC.k0 rfl
    have b2 := hB.cell 2
    have bf2 := hB.frozen 2
    go_simp
    have hB9 := (hB).set 2 (.int .i64 sl) rfl
    simp only [List.setIfInBounds_toArray, List.set_cons_succ, List.set_cons_zero] at hB9
    have hX9 := ((Chg.refl [b] ww)).setCell (p := ⟨b, 2, none⟩) (Or.inl (by simp)) (.int .i64 sl)
    exact ⟨rfl, fun h => absurd h (by omega), fun _ => hB9, fun h => absurd h (by omega), fun h => absurd h (by omega), hX9.at hC.hz (by simp; exact hbz.symm), hC.x.trans (hX9.mono (by simp)), hPb _ _ hC.p hX9⟩
  go_simp
  refine hK _ ?_
  clear hK K
  refine wpStage_yes (by go_simp) ?_
  intro K hK
  apply Exists.intro
  refine ⟨fun kk ww hk1 hk2 hC => ?_, ?_⟩
  · go_simp
    with_reducible exact rfl
  go_simp
  refine hK _ ?_
  clear hK K
  refine wpStage_yes (by go_simp) ?_
  intro K hK
  apply Exists.intro
  refine ⟨fun kk ww hk1 hk2 hC => ?_, ?_⟩
  · go_simp
    with_reducible exact rfl
  go_simp
  refine hK _ ?_
  clear hK K
  refine wpStage_yes (by go_simp) ?_
  intro K hK
  apply Exists.intro
  refine ⟨fun kk ww hk1 hk2 hC => ?_, ?_⟩
  · obtain rfl : kk = 1 := by omega
    have hB := hC.k1 rfl
    have b3 := hB.cell 3
    have b4 := hB.cell 4
    have b5 := hB.cell 5
    have b6 := hB.cell 6
    have b7 := hB.cell 7
    have b8 := hB.cell 8
    have b9 := hB.cell 9
    have b10 := hB.cell 10
    have b11 := hB.cell 11
    have bf3 := hB.frozen 3
    have bf4 := hB.frozen 4
    have bf5 := hB.frozen 5
    have bf6 := hB.frozen 6
    have bf7 := hB.frozen 7
    have bf8 := hB.frozen 8
    have bf9 := hB.frozen 9
    have bf10 := hB.frozen 10
    have bf11 := hB.frozen 11
    go_simp
    have hB9 := (((((((((hB).set 3 (.int .i64 (l.last.seq + 1)) rfl).set 4 (.int .i64 r.cyc) rfl).set 5 (.int .i64 r.ph) rfl).set 6 (.int .i64 r.st) rfl).set 7 (.int .i64 r.fl) rfl).set 8 (.int .i64 r.vi) rfl).set 9 (.int .i64 r.di) rfl).set 10 (.int .i64 r.inv) rfl).set 11 (.int .i64 r.inph) rfl
    simp only [List.setIfInBounds_toArray, List.set_cons_succ, List.set_cons_zero] at hB9
    have hX9 := ((((((((((Chg.refl [b] ww)).setCell (p := ⟨b, 3, none⟩) (Or.inl (by simp)) (.int .i64 (l.last.seq + 1))).setCell (p := ⟨b, 4, none⟩) (Or.inl (by simp)) (.int .i64 r.cyc)).setCell (p := ⟨b, 5, none⟩) (Or.inl (by simp)) (.int .i64 r.ph)).setCell (p := ⟨b, 6, none⟩) (Or.inl (by simp)) (.int .i64 r.st)).setCell (p := ⟨b, 7, none⟩) (Or.inl (by simp)) (.int .i64 r.fl)).setCell (p := ⟨b, 8, none⟩) (Or.inl (by simp)) (.int .i64 r.vi)).setCell (p := ⟨b, 9, none⟩) (Or.inl (by simp)) (.int .i64 r.di)).setCell (p := ⟨b, 10, none⟩) (Or.inl (by simp)) (.int .i64 r.inv)).setCell (p := ⟨b, 11, none⟩) (Or.inl (by simp)) (.int .i64 r.inph)
    exact ⟨rfl, fun h => absurd h (by omega), fun h => absurd h (by omega), fun _ => hB9, fun h => absurd h (by omega), hX9.at hC.hz (by simp; exact hbz.symm), hC.x.trans (hX9.mono (by simp)), hPb _ _ hC.p hX9⟩
  go_simp
  refine hK _ ?_
  clear hK K
  refine wpStage_yes (by go_simp) ?_
  intro K hK
  apply Exists.intro
  refine ⟨fun kk ww hk1 hk2 hC => ?_, ?_⟩
  · go_simp
    with_reducible exact rfl
  go_simp
  refine hK _ ?_
  clear hK K
  refine wpStage_yes (by go_simp) ?_
  intro K hK
  apply Exists.intro
  refine ⟨fun kk ww hk1 hk2 hC => ?_, ?_⟩
  · go_simp
    with_reducible exact rfl
  go_simp
  refine hK _ ?_
  clear hK K
  refine wpStage_yes (by go_simp) ?_
  intro K hK
  apply Exists.intro
  refine ⟨fun kk ww hk1 hk2 hC => ?_, ?_⟩
  · obtain rfl : kk = 2 := by omega
    have hB := hC.k2 rfl
    have b12 := hB.cell 12
    have bf12 := hB.frozen 12
    go_simp
    have hB9 := (hB).set 12 (.bool true) rfl
    simp only [List.setIfInBounds_toArray, List.set_cons_succ, List.set_cons_zero] at hB9
    have hX9 := ((Chg.refl [b] ww)).setCell (p := ⟨b, 12, none⟩) (Or.inl (by simp)) (.bool true)
    exact ⟨rfl, fun h => absurd h (by omega), fun h => absurd h (by omega), fun h => absurd h (by omega), fun _ => hB9, hX9.at hC.hz (by simp; exact hbz.symm), hC.x.trans (hX9.mono (by simp)), hPb _ _ hC.p hX9⟩
  go_simp
  refine hK _ ?_
  clear hK K
  refine wpStage_nil (fun ww hC => ?_)
  have hB9 := hC.k3 (by decide)
  have hX9 := hC.x
  have hP9 := hC.p
  clear hC hB hZ3 hX3 hP
  go_wp2
  go_returns
  exact ⟨rfl, by rw [← Hsl.out] at hB9; exact hB9, hP9, hX9⟩
end Go.Proofs.Ytjneidmkllhbjaa
