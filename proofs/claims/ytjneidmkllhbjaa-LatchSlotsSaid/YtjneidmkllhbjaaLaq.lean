/- Package latch: Open, where it goes well. -/
import Derived.Test.YtjneidmkllhbjaaLap
import Derived.Deep.QuietTactic
import Derived.BigQuiet
import Derived.Deep.CutBlock
import Derived.Deep.LoopGhost
import Derived.LoopTactic
import Derived.Deep.DeepCutAuto
namespace Go.Proofs.Ytjneidmkllhbjaa
open Go.RowKit

/-- What a slot's bytes make of what is kept. -/
def LtV.see (l : LtV) (k : Int) (s : ByteArray) : LtV := if isRec s = true ∧ l.last.seq < (lread s).seq then ⟨l.base, k, lread s, true⟩ else l
def LtV.open (base : Nat) (B : ByteArray) : LtV := ((⟨base, 1, RcV.zero, false⟩ : LtV).see 0 (B.extract base (base + 24))).see 1 (B.extract (base + 24) (base + 24 + 24))
set_option maxRecDepth 100000 in
set_option maxHeartbeats 2000000 in
theorem lopen_ok (w : World) (f r c : Nat) (s : FL) (h : FlA w f r c s) (ho : s.off = false) (hb : s.B.size ≤ 4096) (base : Nat) (hr : base + 48 ≤ s.B.size) : Calls Try.prog 17 #[.pointer (some ⟨f, 0, none⟩), .int .i64 base] w fun e w' =>
    ∃ y, e = .returned (.tuple #[.pointer (some ⟨y, 0, none⟩), .int .i64 0]) ∧ At w' y ((LtV.open base s.B).cells f) ∧ Chg [] w w' ∧ w.heap.size ≤ y := by
  have HD := fun w' (hX : Chg [] w w') => fl_down w' f r c s (h.keep hX (by simp) (by simp) (by simp))
  have HS := fun w' (hX : Chg [] w w') => fl_size w' f r c s (h.keep hX (by simp) (by simp) (by simp))
  rw [ho] at HD
  have hZ : At (w.alloc (.cells #[.pointer (some ⟨f, 0, none⟩), .int .i64 base, .int .i64 1, .int .i64 0, .int .i64 0, .int .i64 0, .int .i64 0, .int .i64 0, .int .i64 0, .int .i64 0, .int .i64 0, .int .i64 0, .bool false] 70)) w.heap.size ((⟨base, 1, RcV.zero, false⟩ : LtV).cells f) := At.new w #[.pointer (some ⟨f, 0, none⟩), .int .i64 base, .int .i64 1, .int .i64 0, .int .i64 0, .int .i64 0, .int .i64 0, .int .i64 0, .int .i64 0, .int .i64 0, .int .i64 0, .int .i64 0, .bool false] 70
  have hX : Chg [] w (w.alloc (.cells #[.pointer (some ⟨f, 0, none⟩), .int .i64 base, .int .i64 1, .int .i64 0, .int .i64 0, .int .i64 0, .int .i64 0, .int .i64 0, .int .i64 0, .int .i64 0, .int .i64 0, .int .i64 0, .bool false] 70)) := (Chg.refl _ _).alloc _
  have hzW : w.heap.size ≤ w.heap.size := Nat.le_refl _
  go_enter Try.func17, Try.ntmps17
  go_upto_block 0 with fail
  generalize hz : w.heap.size = z at *
  generalize w.alloc (.cells #[.pointer (some ⟨f, 0, none⟩), .int .i64 base, .int .i64 1, .int .i64 0, .int .i64 0, .int .i64 0, .int .i64 0, .int .i64 0, .int .i64 0, .int .i64 0, .int .i64 0, .int .i64 0, .bool false] 70) = wa at *
  have hbn : (base : Int) ≤ (s.B.size : Int) - 48 := by omega
  have hB4 : (s.B.size : Int) ≤ 4096 := by omega
  go_wp2_with fail
  refine (HD _ hX).mono ?_; rintro e w' ⟨rfl, rfl⟩
  go_wp2_with fail
  refine (HS _ hX).mono ?_; rintro e w' ⟨rfl, rfl⟩
  go_wp2_with fail
  obtain ⟨l0, hl0⟩ : ∃ l0 : LtV, l0 = ⟨base, 1, RcV.zero, false⟩ := ⟨_, rfl⟩
  rw [← hl0] at hZ
  have Hl0 := Lib.hid hl0
  clear hl0
  have hFA := fun w' (hX : Chg [] w w') => h.keep hX (by simp) (by simp) (by simp)
  clear HD HS h
  go_loopg [32] 2 (fun gk idx wr => ∃ (k : Nat) (l : LtV), k + gk = 2 ∧ idx = .int .i64 k ∧ Hid ((k = 0 → l = l0) ∧ (k = 1 → l = l0.see 0 (s.B.extract base (base + 24))) ∧ (k = 2 → l = LtV.open base s.B)) ∧ At wr z (l.cells f) ∧ Chg [] w wr)
  case atStart => exact ⟨0, l0, by omega, rfl, Lib.hid ⟨fun _ => rfl, fun h => absurd h (by decide), fun h => absurd h (by decide)⟩, hZ, hX⟩
  case round =>
    obtain ⟨k, l, hk, rfl, Hl, hZ, hX⟩ := hrel
    by_cases hlt : k < 2
    · have hc : IntKind.i64.wrap ((base : Int) + (k : Int) * 24) = ((base + k * 24 : Nat) : Int) := by rw [IntKind.wrap_i64]; omega
      have HR := fun w' (hX : Chg [] w w') => fl_read w' f r c s (hFA w' hX) ho (base + k * 24) 24 hb (by omega)
      have hsz : (s.B.extract (base + k * 24) (base + k * 24 + 24)).size = 24 := by simp; omega
      generalize ht : s.B.extract (base + k * 24) (base + k * 24 + 24) = t at HR hsz
      have Ht := Lib.hid ht
      clear ht
      have Hc2 := Lib.hid (show (base : Int) + (k : Int) * 24 = ((base + k * 24 : Nat) : Int) by omega)
      go_wp2_with fail
      rw [Hc2.out]
      refine (HR _ hX).mono ?_; rintro e w' ⟨rfl, rfl⟩
      go_wp2_with fail
      refine (lread_any _ t (by omega)).mono ?_; rintro e w5 ⟨rfl, hY⟩
      replace hZ := hY.at hZ (by simp)
      replace hX := hX.trans hY
      have Hs := Lib.hid (show l.see k t = if isRec t = true ∧ l.last.seq < (lread t).seq then ⟨l.base, k, lread t, true⟩ else l from rfl)
      generalize lread t = q at *
      generalize isRec t = bq at *
      clear HR hY hFA
      simp only [RcV.cells, LtV.cells] at hZ ⊢
      go_upto_region 15 with fail
      have hY := At.new w5 #[.int .i64 q.seq, .int .i64 q.cyc, .int .i64 q.ph, .int .i64 q.st, .int .i64 q.fl, .int .i64 q.vi, .int .i64 q.di, .int .i64 q.inv, .int .i64 q.inph] 23
      have hyz : w5.heap.size ≠ z := by have := hZ.lt; omega
      replace hZ := hZ.alloc (.cells #[.int .i64 q.seq, .int .i64 q.cyc, .int .i64 q.ph, .int .i64 q.st, .int .i64 q.fl, .int .i64 q.vi, .int .i64 q.di, .int .i64 q.inv, .int .i64 q.inph] 23)
      replace hX := hX.alloc (.cells #[.int .i64 q.seq, .int .i64 q.cyc, .int .i64 q.ph, .int .i64 q.st, .int .i64 q.fl, .int .i64 q.vi, .int .i64 q.di, .int .i64 q.inv, .int .i64 q.inph] 23)
      generalize w5.alloc (.cells #[.int .i64 q.seq, .int .i64 q.cyc, .int .i64 q.ph, .int .i64 q.st, .int .i64 q.fl, .int .i64 q.vi, .int .i64 q.di, .int .i64 q.inv, .int .i64 q.inph] 23) = w6 at *
      generalize w5.heap.size = y at *
      have Hk := Lib.hid hk
      clear hk
      have y0 : w6.cell? ⟨y, 0, none⟩ = some (.int .i64 q.seq) := hY.cell 0
      have z3 : w6.cell? ⟨z, 3, none⟩ = some (.int .i64 l.last.seq) := hZ.cell 3
      have REL : ∀ l2, l2 = l.see k t → (k + 1 = 0 → l2 = l0) ∧ (k + 1 = 1 → l2 = l0.see 0 (s.B.extract base (base + 24))) ∧ (k + 1 = 2 → l2 = LtV.open base s.B) := by
        intro l2 e
        refine ⟨fun h => absurd h (by omega), fun h => ?_, fun h => ?_⟩
        · obtain rfl : k = 0 := by omega
          have e1 := Hl.out.1 rfl
          have e2 := Ht.out
          rw [e, e1, ← e2, Nat.zero_mul, Nat.add_zero]
          rfl
        · obtain rfl : k = 1 := by omega
          have e1 := Hl.out.2.1 rfl
          have e2 := Ht.out
          rw [e, e1, ← e2, Nat.one_mul, Hl0.out]
          rfl
      have HREL := Lib.hid REL
      clear REL
      cases bq
      · go_quiet (fail)
        clear y0 z3
        replace hZ := hZ.drewN nq
        replace hX := hX.drewN nq
        generalize w6.drewN nq = w7 at *
        clear nq
        go_wp2_with fail
        go_roundg (gk - 1)
        case measure => have := Hk.out; omega
        case rel => exact ⟨k + 1, l, by have := Hk.out; omega, by go_num, Lib.hid (HREL.out l (by rw [Hs.out]; simp)), hZ, hX⟩
      · by_cases hgt : l.last.seq < q.seq
        · skip
          go_quiet (fail)
          clear y0 z3
          replace hZ := hZ.drewN nq
          replace hY := hY.drewN nq
          replace hX := (hX.drewN nq).mono (S' := [z]) (by simp)
          generalize w6.drewN nq = w7 at *
          clear nq
          go_upto_region 16 with fail
          refine wp_region_stage (LSv w [z] z y #[.int .i64 q.seq, .int .i64 q.cyc, .int .i64 q.ph, .int .i64 q.st, .int .i64 q.fl, .int .i64 q.vi, .int .i64 q.di, .int .i64 q.inv, .int .i64 q.inph] #[.pointer (some ⟨f, 0, none⟩), .int .i64 l.base, .int .i64 l.slot, .int .i64 l.last.seq, .int .i64 l.last.cyc, .int .i64 l.last.ph, .int .i64 l.last.st, .int .i64 l.last.fl, .int .i64 l.last.vi, .int .i64 l.last.di, .int .i64 l.last.inv, .int .i64 l.last.inph, .bool l.ok] #[.pointer (some ⟨f, 0, none⟩), .int .i64 l.base, .int .i64 k, .int .i64 l.last.seq, .int .i64 l.last.cyc, .int .i64 l.last.ph, .int .i64 l.last.st, .int .i64 l.last.fl, .int .i64 l.last.vi, .int .i64 l.last.di, .int .i64 l.last.inv, .int .i64 l.last.inph, .bool l.ok] #[.pointer (some ⟨f, 0, none⟩), .int .i64 l.base, .int .i64 k, .int .i64 q.seq, .int .i64 q.cyc, .int .i64 q.ph, .int .i64 q.st, .int .i64 q.fl, .int .i64 q.vi, .int .i64 q.di, .int .i64 q.inv, .int .i64 q.inph, .bool l.ok] #[.pointer (some ⟨f, 0, none⟩), .int .i64 l.base, .int .i64 k, .int .i64 q.seq, .int .i64 q.cyc, .int .i64 q.ph, .int .i64 q.st, .int .i64 q.fl, .int .i64 q.vi, .int .i64 q.di, .int .i64 q.inv, .int .i64 q.inph, .bool true] (fun _ => True)) [7, 10, 13] [(0, 0, false), (0, 1, false), (0, 2, false), (0, 0, false), (0, 1, false), (0, 0, false), (0, 0, false), (0, 0, true), (1, 1, false), (1, 1, false), (1, 1, true), (2, 2, false), (2, 2, false), (2, 2, true)]
            (by kernel_rfl) (by kernel_rfl) (by kernel_rfl) (⟨fun _ => hZ.drew, fun h => absurd h (by omega), fun h => absurd h (by omega), fun h => absurd h (by omega), hY.drew, hX.drew, trivial⟩) ?_
          simp only [List.zip_cons_cons, List.zip_nil_right]
          refine wpStage_yes (by go_simp) ?_
          intro K hK
          apply Exists.intro
          refine ⟨fun kk ww hk1 hk2 hC => ?_, ?_⟩
          · go_simp
            with_reducible exact rfl
          go_simp
          refine hK _ ?_
          clear hK K
          refine wpStage_yes (by go_simp) ?_
          intro K hK
          apply Exists.intro
          refine ⟨fun kk ww hk1 hk2 hC => ?_, ?_⟩
          · go_simp
            with_reducible exact rfl
          go_simp
          refine hK _ ?_
          clear hK K
          refine wpStage_yes (by go_simp) ?_
          intro K hK
          apply Exists.intro
          refine ⟨fun kk ww hk1 hk2 hC => ?_, ?_⟩
          · go_simp
            with_reducible exact rfl
          go_simp
          refine hK _ ?_
          clear hK K
          refine wpStage_yes (by go_simp) ?_
          intro K hK
          apply Exists.intro
          refine ⟨fun kk ww hk1 hk2 hC => ?_, ?_⟩
          · go_simp
            with_reducible exact rfl
          go_simp
          refine hK _ ?_
          clear hK K
          refine wpStage_yes (by go_simp) ?_
          intro K hK
          apply Exists.intro
          refine ⟨fun kk ww hk1 hk2 hC => ?_, ?_⟩
          · have z0 := hC.hz.cell 0
            have z1 := hC.hz.cell 1
            have z2 := hC.hz.cell 2
            have z3 := hC.hz.cell 3
            have z4 := hC.hz.cell 4
            have z5 := hC.hz.cell 5
            have z6 := hC.hz.cell 6
            have z7 := hC.hz.cell 7
            have z8 := hC.hz.cell 8
            go_simp
            with_reducible exact rfl
          go_simp
          refine hK _ ?_
          clear hK K
          refine wpStage_yes (by go_simp) ?_
          intro K hK
          apply Exists.intro
          refine ⟨fun kk ww hk1 hk2 hC => ?_, ?_⟩
          · go_simp
            with_reducible exact rfl
          go_simp
          refine hK _ ?_
          clear hK K
          refine wpStage_yes (by go_simp) ?_
          intro K hK
          apply Exists.intro
          refine ⟨fun kk ww hk1 hk2 hC => ?_, ?_⟩
          · go_simp
            with_reducible exact rfl
          go_simp
          refine hK _ ?_
          clear hK K
          refine wpStage_yes (by go_simp) ?_
          intro K hK
          apply Exists.intro
          refine ⟨fun kk ww hk1 hk2 hC => ?_, ?_⟩
          · obtain rfl : kk = 0 := by omega
            have hB := hC.k0 rfl
            have b2 := hB.cell 2
            have bf2 := hB.frozen 2
            go_simp
            have hB9 := (hB).set 2 (.int .i64 k) rfl
            simp only [List.setIfInBounds_toArray, List.set_cons_succ, List.set_cons_zero] at hB9
            have hX9 := ((Chg.refl [z] ww)).setCell (p := ⟨z, 2, none⟩) (Or.inl (by simp)) (.int .i64 k)
            exact ⟨rfl, fun h => absurd h (by omega), fun _ => hB9, fun h => absurd h (by omega), fun h => absurd h (by omega), hX9.at hC.hz (by simp; exact hyz), hC.x.trans (hX9.mono (by simp)), trivial⟩
          go_simp
          refine hK _ ?_
          clear hK K
          refine wpStage_yes (by go_simp) ?_
          intro K hK
          apply Exists.intro
          refine ⟨fun kk ww hk1 hk2 hC => ?_, ?_⟩
          · go_simp
            with_reducible exact rfl
          go_simp
          refine hK _ ?_
          clear hK K
          refine wpStage_yes (by go_simp) ?_
          intro K hK
          apply Exists.intro
          refine ⟨fun kk ww hk1 hk2 hC => ?_, ?_⟩
          · go_simp
            with_reducible exact rfl
          go_simp
          refine hK _ ?_
          clear hK K
          refine wpStage_yes (by go_simp) ?_
          intro K hK
          apply Exists.intro
          refine ⟨fun kk ww hk1 hk2 hC => ?_, ?_⟩
          · obtain rfl : kk = 1 := by omega
            have hB := hC.k1 rfl
            have b3 := hB.cell 3
            have b4 := hB.cell 4
            have b5 := hB.cell 5
            have b6 := hB.cell 6
            have b7 := hB.cell 7
            have b8 := hB.cell 8
            have b9 := hB.cell 9
            have b10 := hB.cell 10
            have b11 := hB.cell 11
            have bf3 := hB.frozen 3
            have bf4 := hB.frozen 4
            have bf5 := hB.frozen 5
            have bf6 := hB.frozen 6
            have bf7 := hB.frozen 7
            have bf8 := hB.frozen 8
            have bf9 := hB.frozen 9
            have bf10 := hB.frozen 10
            have bf11 := hB.frozen 11
            go_simp
            have hB9 := (((((((((hB).set 3 (.int .i64 q.seq) rfl).set 4 (.int .i64 q.cyc) rfl).set 5 (.int .i64 q.ph) rfl).set 6 (.int .i64 q.st) rfl).set 7 (.int .i64 q.fl) rfl).set 8 (.int .i64 q.vi) rfl).set 9 (.int .i64 q.di) rfl).set 10 (.int .i64 q.inv) rfl).set 11 (.int .i64 q.inph) rfl
            simp only [List.setIfInBounds_toArray, List.set_cons_succ, List.set_cons_zero] at hB9
            have hX9 := ((((((((((Chg.refl [z] ww)).setCell (p := ⟨z, 3, none⟩) (Or.inl (by simp)) (.int .i64 q.seq)).setCell (p := ⟨z, 4, none⟩) (Or.inl (by simp)) (.int .i64 q.cyc)).setCell (p := ⟨z, 5, none⟩) (Or.inl (by simp)) (.int .i64 q.ph)).setCell (p := ⟨z, 6, none⟩) (Or.inl (by simp)) (.int .i64 q.st)).setCell (p := ⟨z, 7, none⟩) (Or.inl (by simp)) (.int .i64 q.fl)).setCell (p := ⟨z, 8, none⟩) (Or.inl (by simp)) (.int .i64 q.vi)).setCell (p := ⟨z, 9, none⟩) (Or.inl (by simp)) (.int .i64 q.di)).setCell (p := ⟨z, 10, none⟩) (Or.inl (by simp)) (.int .i64 q.inv)).setCell (p := ⟨z, 11, none⟩) (Or.inl (by simp)) (.int .i64 q.inph)
            exact ⟨rfl, fun h => absurd h (by omega), fun h => absurd h (by omega), fun _ => hB9, fun h => absurd h (by omega), hX9.at hC.hz (by simp; exact hyz), hC.x.trans (hX9.mono (by simp)), trivial⟩
          go_simp
          refine hK _ ?_
          clear hK K
          refine wpStage_yes (by go_simp) ?_
          intro K hK
          apply Exists.intro
          refine ⟨fun kk ww hk1 hk2 hC => ?_, ?_⟩
          · go_simp
            with_reducible exact rfl
          go_simp
          refine hK _ ?_
          clear hK K
          refine wpStage_yes (by go_simp) ?_
          intro K hK
          apply Exists.intro
          refine ⟨fun kk ww hk1 hk2 hC => ?_, ?_⟩
          · go_simp
            with_reducible exact rfl
          go_simp
          refine hK _ ?_
          clear hK K
          refine wpStage_yes (by go_simp) ?_
          intro K hK
          apply Exists.intro
          refine ⟨fun kk ww hk1 hk2 hC => ?_, ?_⟩
          · obtain rfl : kk = 2 := by omega
            have hB := hC.k2 rfl
            have b12 := hB.cell 12
            have bf12 := hB.frozen 12
            go_simp
            have hB9 := (hB).set 12 (.bool true) rfl
            simp only [List.setIfInBounds_toArray, List.set_cons_succ, List.set_cons_zero] at hB9
            have hX9 := ((Chg.refl [z] ww)).setCell (p := ⟨z, 12, none⟩) (Or.inl (by simp)) (.bool true)
            exact ⟨rfl, fun h => absurd h (by omega), fun h => absurd h (by omega), fun h => absurd h (by omega), fun _ => hB9, hX9.at hC.hz (by simp; exact hyz), hC.x.trans (hX9.mono (by simp)), trivial⟩
          go_simp
          refine hK _ ?_
          clear hK K
          refine wpStage_nil (fun ww hC => ?_)
          have hB9 := hC.k3 (by decide)
          have hX9 : Chg [] w ww := hC.x.mono (fun x hx hl => by simp at hx; omega)
          clear hC hZ hY hX
          go_wp2_with fail
          go_roundg (gk - 1)
          case measure => have := Hk.out; omega
          case rel => exact ⟨k + 1, ⟨l.base, k, q, true⟩, by have := Hk.out; omega, by go_num, Lib.hid (HREL.out _ (by rw [Hs.out, if_pos ⟨trivial, hgt⟩])), hB9, hX9⟩
        · go_quiet (fail)
          clear y0 z3
          replace hZ := hZ.drewN nq
          replace hX := hX.drewN nq
          generalize w6.drewN nq = w7 at *
          clear nq
          go_wp2_with fail
          go_roundg (gk - 1)
          case measure => have := Hk.out; omega
          case rel => exact ⟨k + 1, l, by have := Hk.out; omega, by go_num, Lib.hid (HREL.out l (by rw [Hs.out, if_neg (fun hh => by have := hh.2; omega)])), hZ, hX⟩
    · obtain rfl : k = 2 := by omega
      go_wp2
      go_returns
      exact ⟨z, rfl, by have := Hl.out.2.2 trivial; rw [← this]; exact hZ, hX, by omega⟩
end Go.Proofs.Ytjneidmkllhbjaa
