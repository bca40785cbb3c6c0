/- The reference of package source: Cycle, where it has one. -/
import Derived.Test.YtmdgikikiijjbaaSrx
import Derived.Test.YtmdgikikiijjbaaSryb
namespace Go.Proofs.Ytmdgikikiijjbaa
open Go.RowKit

set_option maxRecDepth 100000 in
set_option maxHeartbeats 2000000 in
theorem rcyc_tb (w : World) (b : Nat) (s : SV) (n : NV) (hs : s.ok) (hr : s.okr) (hn : n.bd) (h : At w b s.rcells) (g off m cap : Nat) (hm : m < 1000000) (hc : ∀ k, k < 8 → w.cell? ⟨g, off + m * 8 + k, none⟩ = n.cells[k]?) (hha : s.has = true) (hj0 : jmp1 (s.step * (s.old + 1)) n.vx s.last.vx = false) (hj1 : jmp1 (s.step * (s.old + 1)) n.vy s.last.vy = true)
    (Q : Ending → World → Prop) (hQ0 : s.faults n = 0 → ∀ w', At w' b (s.good n).rcells → Chg [b] w w' → Q (.returned (.tuple #[.agg n.cells, .int .i64 0])) w')
    (hQ1 : s.faults n ≠ 0 → ∀ w', At w' b s.bad.rcells → Chg [b] w w' → Q (.returned (.tuple #[.agg NV.zero.cells, .int .i64 (s.faults n)])) w') :
    Calls Try.prog 11 #[.pointer (some ⟨b, 0, none⟩), .slice (some ⟨g, off, none⟩) (m + 1 : Nat) cap] w Q := by
  have hB := h
  clear h
  have g0 : w.cell? ⟨g, off + m * 8, none⟩ = some (.int .i64 n.cnt) := hc 0 (by omega)
  have g1 : w.cell? ⟨g, off + m * 8 + 1, none⟩ = some (.int .i64 n.flg) := hc 1 (by omega)
  have g2 : w.cell? ⟨g, off + m * 8 + 2, none⟩ = some (.int .i64 n.x) := hc 2 (by omega)
  have g3 : w.cell? ⟨g, off + m * 8 + 3, none⟩ = some (.int .i64 n.y) := hc 3 (by omega)
  have g4 : w.cell? ⟨g, off + m * 8 + 4, none⟩ = some (.int .i64 n.z) := hc 4 (by omega)
  have g5 : w.cell? ⟨g, off + m * 8 + 5, none⟩ = some (.int .i64 n.vx) := hc 5 (by omega)
  have g6 : w.cell? ⟨g, off + m * 8 + 6, none⟩ = some (.int .i64 n.vy) := hc 6 (by omega)
  have g7 : w.cell? ⟨g, off + m * 8 + 7, none⟩ = some (.int .i64 n.vz) := hc 7 (by omega)
  clear hc
  simp only [NV.cells, NV.zero, SV.rcells] at *
  have hw : IntKind.i64.wrap ((((m + 1 : Nat) : Int)) - 1) = (m : Int) := by rw [IntKind.wrap_i64]; omega
  have hwo : IntKind.i64.wrap (s.old + 1) = s.old + 1 := by have := hs.o0; have := hs.o1; rw [IntKind.wrap_i64]; omega
  have hm1 := mul_bd1 s.step s.old hs.s0 hs.o0
  have hm2 := mul_up s.step s.old hs.s0 hr.s1 hs.o0 hs.o1
  have hwm : IntKind.i64.wrap (s.step * (s.old + 1)) = s.step * (s.old + 1) := by rw [IntKind.wrap_i64]; omega
  have hfit : fits64 (s.step * (s.old + 1)) = true := (fits64_iff _).2 ⟨by omega, by omega⟩
  have O0 := fun w => out_any w n.x 1073741824 (by decide) (by decide)
  have O1 := fun w => out_any w n.y 1073741824 (by decide) (by decide)
  have O2 := fun w => out_any w n.z 1073741824 (by decide) (by decide)
  have O3 := fun w => out_any w n.vx 65536 (by decide) (by decide)
  have O4 := fun w => out_any w n.vy 65536 (by decide) (by decide)
  have O5 := fun w => out_any w n.vz 65536 (by decide) (by decide)
  have J0 := fun w => jump_any w n.vx s.last.vx (s.step * (s.old + 1)) hm2 hr.x0 hr.x1
  have J1 := fun w => jump_any w n.vy s.last.vy (s.step * (s.old + 1)) hm2 hr.y0 hr.y1
  have J2 := fun w => jump_any w n.vz s.last.vz (s.step * (s.old + 1)) hm2 hr.z0 hr.z1
  have HF : s.faults n = (if s.has && n.cnt == s.last.cnt then 2 else 0) + (if n.flg == 0 then 0 else 4) + (if bey1 1073741824 n.x || bey1 1073741824 n.y || bey1 1073741824 n.z || bey1 65536 n.vx || bey1 65536 n.vy || bey1 65536 n.vz then 8 else 0) + (if s.has && (jmp1 (s.step * (s.old + 1)) n.vx s.last.vx || (jmp1 (s.step * (s.old + 1)) n.vy s.last.vy || jmp1 (s.step * (s.old + 1)) n.vz s.last.vz)) then 16 else 0) := by
    unfold SV.faults SV.jumps
    rw [hfit]
    simp only [bey, List.any_cons, List.any_nil, Bool.or_false, Bool.true_and, Bool.or_assoc]
  generalize bey1 1073741824 n.x = o0 at *
  replace O0 := Lib.hid O0
  generalize bey1 1073741824 n.y = o1 at *
  replace O1 := Lib.hid O1
  generalize bey1 1073741824 n.z = o2 at *
  replace O2 := Lib.hid O2
  generalize bey1 65536 n.vx = o3 at *
  replace O3 := Lib.hid O3
  generalize bey1 65536 n.vy = o4 at *
  replace O4 := Lib.hid O4
  generalize bey1 65536 n.vz = o5 at *
  replace O5 := Lib.hid O5
  generalize hmo : s.step * (s.old + 1) = mo at J0 J1 J2 HF hj0 hj1
  replace hwm := hwm.trans hmo
  clear hmo
  generalize jmp1 mo n.vx s.last.vx = j0 at *
  replace J0 := Lib.hid J0
  generalize jmp1 mo n.vy s.last.vy = j1 at *
  replace J1 := Lib.hid J1
  generalize jmp1 mo n.vz s.last.vz = j2 at *
  replace J2 := Lib.hid J2
  clear hm1 hm2 hfit
  generalize s.faults n = fv at *
  have HQ0 := Lib.hid hQ0
  have HQ1 := Lib.hid hQ1
  clear hQ0 hQ1
  rw [hha] at hB HF
  have Hha := Lib.hid hha
  clear hha
  subst hj0
  subst hj1
  simp only [Bool.true_or, Bool.false_or] at HF
  go_enter Try.func11, Try.ntmps11
  go_upto_region 2 with fail
  have hR := At.new w #[.int .i64 0, .int .i64 0, .int .i64 0, .int .i64 0, .int .i64 0, .int .i64 0, .int .i64 0, .int .i64 0] 32
  have hX : Chg [] w (w.alloc (.cells #[.int .i64 0, .int .i64 0, .int .i64 0, .int .i64 0, .int .i64 0, .int .i64 0, .int .i64 0, .int .i64 0] 32)) := (Chg.refl _ _).alloc _
  have hBz := hB.lt
  replace hB := hX.at hB (by simp)
  replace g0 := hX.cell g0 (by simp)
  replace g1 := hX.cell g1 (by simp)
  replace g2 := hX.cell g2 (by simp)
  replace g3 := hX.cell g3 (by simp)
  replace g4 := hX.cell g4 (by simp)
  replace g5 := hX.cell g5 (by simp)
  replace g6 := hX.cell g6 (by simp)
  replace g7 := hX.cell g7 (by simp)
  generalize w.alloc (.cells #[.int .i64 0, .int .i64 0, .int .i64 0, .int .i64 0, .int .i64 0, .int .i64 0, .int .i64 0, .int .i64 0] 32) = wa at *
  generalize hz : w.heap.size = z at *
  go_upto_region 3 with fail
  have hN := At.new wa #[.int .i64 0, .int .i64 0, .int .i64 0, .int .i64 0, .int .i64 0, .int .i64 0, .int .i64 0, .int .i64 0] 32
  have hRN := hR.lt
  have hX1 : Chg [] wa (wa.alloc (.cells #[.int .i64 0, .int .i64 0, .int .i64 0, .int .i64 0, .int .i64 0, .int .i64 0, .int .i64 0, .int .i64 0] 32)) := (Chg.refl _ _).alloc _
  replace hR := hX1.at hR (by simp)
  replace hX := hX.trans hX1
  replace hB := hX1.at hB (by simp)
  replace g0 := hX1.cell g0 (by simp)
  replace g1 := hX1.cell g1 (by simp)
  replace g2 := hX1.cell g2 (by simp)
  replace g3 := hX1.cell g3 (by simp)
  replace g4 := hX1.cell g4 (by simp)
  replace g5 := hX1.cell g5 (by simp)
  replace g6 := hX1.cell g6 (by simp)
  replace g7 := hX1.cell g7 (by simp)
  have hwz := hX.size
  rw [hz] at hwz
  clear hX1
  generalize hy : wa.heap.size = y at *
  generalize wa.alloc (.cells #[.int .i64 0, .int .i64 0, .int .i64 0, .int .i64 0, .int .i64 0, .int .i64 0, .int .i64 0, .int .i64 0] 32) = wb at *
  have hby : b ≠ y := by omega
  have hyz : y ≠ z := by omega
  have hbz : b ≠ z := by omega
  go_upto_if 13 with fail
  go_cut [6] (fun v wx => ∃ f : Int, v = .int .i64 f ∧ f = fv ∧ CL w [(b, #[.int .i64 s.step, .int .i64 s.most, .int .i64 s.last.cnt, .int .i64 s.last.flg, .int .i64 s.last.x, .int .i64 s.last.y, .int .i64 s.last.z, .int .i64 s.last.vx, .int .i64 s.last.vy, .int .i64 s.last.vz, .bool true, .int .i64 s.old]), (z, #[.int .i64 0, .int .i64 0, .int .i64 0, .int .i64 0, .int .i64 0, .int .i64 0, .int .i64 0, .int .i64 0]), (y, #[.int .i64 n.cnt, .int .i64 n.flg, .int .i64 n.x, .int .i64 n.y, .int .i64 n.z, .int .i64 n.vx, .int .i64 n.vy, .int .i64 n.vz])] 0 wx)
  case first =>
    have n0 := hN.cell 0
    have n1 := hN.cell 1
    have n2 := hN.cell 2
    have n3 := hN.cell 3
    have n4 := hN.cell 4
    have n5 := hN.cell 5
    have n6 := hN.cell 6
    have n7 := hN.cell 7
    have nf0 := hN.frozen 0
    have nf1 := hN.frozen 1
    have nf2 := hN.frozen 2
    have nf3 := hN.frozen 3
    have nf4 := hN.frozen 4
    have nf5 := hN.frozen 5
    have nf6 := hN.frozen 6
    have nf7 := hN.frozen 7
    go_upto_region 6 with fail
    clear g0 n0 nf0 g1 n1 nf1 g2 n2 nf2 g3 n3 nf3 g4 n4 nf4 g5 n5 nf5 g6 n6 nf6 g7 n7 nf7
    have hN2 := ((((((((hN).set 0 (.int .i64 n.cnt) rfl).set 1 (.int .i64 n.flg) rfl).set 2 (.int .i64 n.x) rfl).set 3 (.int .i64 n.y) rfl).set 4 (.int .i64 n.z) rfl).set 5 (.int .i64 n.vx) rfl).set 6 (.int .i64 n.vy) rfl).set 7 (.int .i64 n.vz) rfl
    simp only [List.setIfInBounds_toArray, List.set_cons_succ, List.set_cons_zero] at hN2
    have hB2 := ((((((((hB).other ⟨y, 0, none⟩ (.int .i64 n.cnt) hby).other ⟨y, 1, none⟩ (.int .i64 n.flg) hby).other ⟨y, 2, none⟩ (.int .i64 n.x) hby).other ⟨y, 3, none⟩ (.int .i64 n.y) hby).other ⟨y, 4, none⟩ (.int .i64 n.z) hby).other ⟨y, 5, none⟩ (.int .i64 n.vx) hby).other ⟨y, 6, none⟩ (.int .i64 n.vy) hby).other ⟨y, 7, none⟩ (.int .i64 n.vz) hby
    have hR2 := ((((((((hR).other ⟨y, 0, none⟩ (.int .i64 n.cnt) hyz.symm).other ⟨y, 1, none⟩ (.int .i64 n.flg) hyz.symm).other ⟨y, 2, none⟩ (.int .i64 n.x) hyz.symm).other ⟨y, 3, none⟩ (.int .i64 n.y) hyz.symm).other ⟨y, 4, none⟩ (.int .i64 n.z) hyz.symm).other ⟨y, 5, none⟩ (.int .i64 n.vx) hyz.symm).other ⟨y, 6, none⟩ (.int .i64 n.vy) hyz.symm).other ⟨y, 7, none⟩ (.int .i64 n.vz) hyz.symm
    have hX2 := ((((((((hX).setCell (p := ⟨y, 0, none⟩) (Or.inr (by simp; omega)) (.int .i64 n.cnt)).setCell (p := ⟨y, 1, none⟩) (Or.inr (by simp; omega)) (.int .i64 n.flg)).setCell (p := ⟨y, 2, none⟩) (Or.inr (by simp; omega)) (.int .i64 n.x)).setCell (p := ⟨y, 3, none⟩) (Or.inr (by simp; omega)) (.int .i64 n.y)).setCell (p := ⟨y, 4, none⟩) (Or.inr (by simp; omega)) (.int .i64 n.z)).setCell (p := ⟨y, 5, none⟩) (Or.inr (by simp; omega)) (.int .i64 n.vx)).setCell (p := ⟨y, 6, none⟩) (Or.inr (by simp; omega)) (.int .i64 n.vy)).setCell (p := ⟨y, 7, none⟩) (Or.inr (by simp; omega)) (.int .i64 n.vz)
    clear hN hB hR hX
    generalize ((((((((wb).setCell ⟨y, 0, none⟩ (.int .i64 n.cnt)).setCell ⟨y, 1, none⟩ (.int .i64 n.flg)).setCell ⟨y, 2, none⟩ (.int .i64 n.x)).setCell ⟨y, 3, none⟩ (.int .i64 n.y)).setCell ⟨y, 4, none⟩ (.int .i64 n.z)).setCell ⟨y, 5, none⟩ (.int .i64 n.vx)).setCell ⟨y, 6, none⟩ (.int .i64 n.vy)).setCell ⟨y, 7, none⟩ (.int .i64 n.vz) = wc0 at *
    have C : CL w [(b, #[.int .i64 s.step, .int .i64 s.most, .int .i64 s.last.cnt, .int .i64 s.last.flg, .int .i64 s.last.x, .int .i64 s.last.y, .int .i64 s.last.z, .int .i64 s.last.vx, .int .i64 s.last.vy, .int .i64 s.last.vz, .bool true, .int .i64 s.old]), (z, #[.int .i64 0, .int .i64 0, .int .i64 0, .int .i64 0, .int .i64 0, .int .i64 0, .int .i64 0, .int .i64 0]), (y, #[.int .i64 n.cnt, .int .i64 n.flg, .int .i64 n.x, .int .i64 n.y, .int .i64 n.z, .int .i64 n.vx, .int .i64 n.vy, .int .i64 n.vz])] 0 wc0 := (((⟨fun _ h => absurd h (by simp), hX2⟩ : CL w [] 0 wc0).cons hN2).cons hR2).cons hB2
    clear hN2 hB2 hR2 hX2
    have n2_2 := (C.get 2 rfl).cell 2; have n2_3 := (C.get 2 rfl).cell 3; have n2_4 := (C.get 2 rfl).cell 4; have n2_5 := (C.get 2 rfl).cell 5; have n2_6 := (C.get 2 rfl).cell 6; have n2_7 := (C.get 2 rfl).cell 7
    go_cut [8] (fun v wx => v = .bool (o0 || o1 || o2 || o3 || o4 || o5) ∧ CL w [(b, #[.int .i64 s.step, .int .i64 s.most, .int .i64 s.last.cnt, .int .i64 s.last.flg, .int .i64 s.last.x, .int .i64 s.last.y, .int .i64 s.last.z, .int .i64 s.last.vx, .int .i64 s.last.vy, .int .i64 s.last.vz, .bool true, .int .i64 s.old]), (z, #[.int .i64 0, .int .i64 0, .int .i64 0, .int .i64 0, .int .i64 0, .int .i64 0, .int .i64 0, .int .i64 0]), (y, #[.int .i64 n.cnt, .int .i64 n.flg, .int .i64 n.x, .int .i64 n.y, .int .i64 n.z, .int .i64 n.vx, .int .i64 n.vy, .int .i64 n.vz])] 0 wx)
    case first =>
      go_wp2_with fail
      refine (O0.out _).mono ?_; rintro e w' ⟨rfl, rfl⟩
      cases o0
      · go_wp2_with fail
        refine (O1.out _).mono ?_; rintro e w' ⟨rfl, rfl⟩
        cases o1
        · go_wp2_with fail
          refine (O2.out _).mono ?_; rintro e w' ⟨rfl, rfl⟩
          cases o2
          · go_wp2_with fail
            refine (O3.out _).mono ?_; rintro e w' ⟨rfl, rfl⟩
            cases o3
            · go_wp2_with fail
              refine (O4.out _).mono ?_; rintro e w' ⟨rfl, rfl⟩
              cases o4
              · go_wp2_with fail
                refine (O5.out _).mono ?_; rintro e w' ⟨rfl, rfl⟩
                cases o5
                · go_wp2_with fail
                  go_meet
                  exact ⟨rfl, C⟩
                · go_wp2_with fail
                  go_meet
                  exact ⟨rfl, C⟩
              · go_wp2_with fail
                go_meet
                exact ⟨rfl, C⟩
            · go_wp2_with fail
              go_meet
              exact ⟨rfl, C⟩
          · go_wp2_with fail
            go_meet
            exact ⟨rfl, C⟩
        · go_wp2_with fail
          go_meet
          exact ⟨rfl, C⟩
      · go_wp2_with fail
        go_meet
        exact ⟨rfl, C⟩
    clear C n2_2 n2_3 n2_4 n2_5 n2_6 n2_7
    obtain ⟨rfl, C⟩ := hcut
    generalize (o0 || o1 || o2 || o3 || o4 || o5) = far at *
    clear O0 O1 O2 O3 O4 O5
    have Cd := C.drew
    clear C
    go_upto_region 7 with fail
    refine wp_region_stage (CL w [(b, #[.int .i64 s.step, .int .i64 s.most, .int .i64 s.last.cnt, .int .i64 s.last.flg, .int .i64 s.last.x, .int .i64 s.last.y, .int .i64 s.last.z, .int .i64 s.last.vx, .int .i64 s.last.vy, .int .i64 s.last.vz, .bool true, .int .i64 s.old]), (z, #[.int .i64 0, .int .i64 0, .int .i64 0, .int .i64 0, .int .i64 0, .int .i64 0, .int .i64 0, .int .i64 0]), (y, #[.int .i64 n.cnt, .int .i64 n.flg, .int .i64 n.x, .int .i64 n.y, .int .i64 n.z, .int .i64 n.vx, .int .i64 n.vy, .int .i64 n.vz])]) [] [(0, 0, false), (0, 0, false), (0, 0, false), (0, 0, false), (0, 0, false), (0, 0, false), (0, 0, false), (0, 0, false), (0, 0, false), (0, 0, false), (0, 0, false), (0, 0, false), (0, 0, false), (0, 0, false)]
      (by kernel_rfl) (by kernel_rfl) (by kernel_rfl) (Cd) ?_
    simp only [List.zip_cons_cons, List.zip_nil_right]
    refine wpStage_yes (by go_simp) ?_
    intro K hK
    apply Exists.intro
    refine ⟨fun kk ww hk1 hk2 hC => ?_, ?_⟩
    · go_simp
      with_reducible exact rfl
    go_simp
    refine hK _ ?_
    clear hK K
    refine wpStage_yes (by go_simp) ?_
    intro K hK
    apply Exists.intro
    refine ⟨fun kk ww hk1 hk2 hC => ?_, ?_⟩
    · go_simp
      with_reducible exact rfl
    go_simp
    refine hK _ ?_
    clear hK K
    refine wpStage_yes (by go_simp) ?_
    intro K hK
    apply Exists.intro
    refine ⟨fun kk ww hk1 hk2 hC => ?_, ?_⟩
    · go_simp
      with_reducible exact rfl
    go_simp
    refine hK _ ?_
    clear hK K
    refine wpStage_yes (by go_simp) ?_
    intro K hK
    apply Exists.intro
    refine ⟨fun kk ww hk1 hk2 hC => ?_, ?_⟩
    · have c0_10 := (hC.get 0 rfl).cell 10
      go_simp
      with_reducible exact rfl
    go_simp
    refine hK _ ?_
    clear hK K
    refine wpStage_yes (by go_simp) ?_
    intro K hK
    apply Exists.intro
    refine ⟨fun kk ww hk1 hk2 hC => ?_, ?_⟩
    · go_simp
      with_reducible exact rfl
    go_simp
    refine hK _ ?_
    clear hK K
    refine wpStage_yes (by go_simp) ?_
    intro K hK
    apply Exists.intro
    refine ⟨fun kk ww hk1 hk2 hC => ?_, ?_⟩
    · go_simp
      with_reducible exact rfl
    go_simp
    refine hK _ ?_
    clear hK K
    refine wpStage_yes (by go_simp) ?_
    intro K hK
    apply Exists.intro
    refine ⟨fun kk ww hk1 hk2 hC => ?_, ?_⟩
    · have c2_0 := (hC.get 2 rfl).cell 0
      go_simp
      with_reducible exact rfl
    go_simp
    refine hK _ ?_
    clear hK K
    refine wpStage_yes (by go_simp) ?_
    intro K hK
    apply Exists.intro
    refine ⟨fun kk ww hk1 hk2 hC => ?_, ?_⟩
    · go_simp
      with_reducible exact rfl
    go_simp
    refine hK _ ?_
    clear hK K
    refine wpStage_yes (by go_simp) ?_
    intro K hK
    apply Exists.intro
    refine ⟨fun kk ww hk1 hk2 hC => ?_, ?_⟩
    · go_simp
      with_reducible exact rfl
    go_simp
    refine hK _ ?_
    clear hK K
    refine wpStage_yes (by go_simp) ?_
    intro K hK
    apply Exists.intro
    refine ⟨fun kk ww hk1 hk2 hC => ?_, ?_⟩
    · go_simp
      with_reducible exact rfl
    go_simp
    refine hK _ ?_
    clear hK K
    refine wpStage_yes (by go_simp) ?_
    intro K hK
    apply Exists.intro
    refine ⟨fun kk ww hk1 hk2 hC => ?_, ?_⟩
    · go_simp
      with_reducible exact rfl
    go_simp
    refine hK _ ?_
    clear hK K
    refine wpStage_yes (by go_simp) ?_
    intro K hK
    apply Exists.intro
    refine ⟨fun kk ww hk1 hk2 hC => ?_, ?_⟩
    · have c0_2 := (hC.get 0 rfl).cell 2
      go_simp
      with_reducible exact rfl
    go_simp
    refine hK _ ?_
    clear hK K
    refine wpStage_yes (by go_simp) ?_
    intro K hK
    apply Exists.intro
    refine ⟨fun kk ww hk1 hk2 hC => ?_, ?_⟩
    · go_simp
      with_reducible exact rfl
    go_simp
    refine hK _ ?_
    clear hK K
    refine wpStage_yes (by go_simp) ?_
    intro K hK
    apply Exists.intro
    refine ⟨fun kk ww hk1 hk2 hC => ?_, ?_⟩
    · go_simp
      with_reducible exact rfl
    go_simp
    refine hK _ ?_
    clear hK K
    refine wpStage_nil (fun ww hC => ?_)
    clear Cd
    have C := hC
    clear hC
    generalize (n.cnt == s.last.cnt) = q at *
    simp only [Bool.true_and] at HF
    go_upto_if 61 with fail
    go_cut [6] (fun v wx => v = .int .i64 (if q then 2 else 0) ∧ CL w [(b, #[.int .i64 s.step, .int .i64 s.most, .int .i64 s.last.cnt, .int .i64 s.last.flg, .int .i64 s.last.x, .int .i64 s.last.y, .int .i64 s.last.z, .int .i64 s.last.vx, .int .i64 s.last.vy, .int .i64 s.last.vz, .bool true, .int .i64 s.old]), (z, #[.int .i64 0, .int .i64 0, .int .i64 0, .int .i64 0, .int .i64 0, .int .i64 0, .int .i64 0, .int .i64 0]), (y, #[.int .i64 n.cnt, .int .i64 n.flg, .int .i64 n.x, .int .i64 n.y, .int .i64 n.z, .int .i64 n.vx, .int .i64 n.vy, .int .i64 n.vz])] 0 wx)
    case first =>
      cases q
      · go_wp2_with fail
        go_meet
        exact ⟨rfl, C⟩
      · go_wp2_with fail
        go_meet
        exact ⟨rfl, C⟩
    clear C
    obtain ⟨rfl, C⟩ := hcut
    have c2_1 := (C.get 2 rfl).cell 1
    have hyy : (n.flg == 0) = decide (n.flg = 0) := rfl
    rw [hyy] at HF
    clear hyy
    go_upto_if 66 with fail
    go_cut [6] (fun v wx => ∃ a : Int, v = .int .i64 a ∧ Hid (a = ((if q then 2 else 0) + (if decide (n.flg = 0) then 0 else 4))) ∧ CL w [(b, #[.int .i64 s.step, .int .i64 s.most, .int .i64 s.last.cnt, .int .i64 s.last.flg, .int .i64 s.last.x, .int .i64 s.last.y, .int .i64 s.last.z, .int .i64 s.last.vx, .int .i64 s.last.vy, .int .i64 s.last.vz, .bool true, .int .i64 s.old]), (z, #[.int .i64 0, .int .i64 0, .int .i64 0, .int .i64 0, .int .i64 0, .int .i64 0, .int .i64 0, .int .i64 0]), (y, #[.int .i64 n.cnt, .int .i64 n.flg, .int .i64 n.x, .int .i64 n.y, .int .i64 n.z, .int .i64 n.vx, .int .i64 n.vy, .int .i64 n.vz])] 0 wx)
    case first =>
      by_cases hf0 : n.flg = 0
      · cases q
        · go_wp2_with fail
          go_meet
          exact ⟨_, rfl, Lib.hid (by (first | rw [decide_eq_true hf0] | rw [decide_eq_false hf0]); rfl), C⟩
        · go_wp2_with fail
          go_meet
          exact ⟨_, rfl, Lib.hid (by (first | rw [decide_eq_true hf0] | rw [decide_eq_false hf0]); rfl), C⟩
      · cases q
        · go_wp2_with fail
          go_meet
          exact ⟨_, rfl, Lib.hid (by (first | rw [decide_eq_true hf0] | rw [decide_eq_false hf0]); rfl), C⟩
        · go_wp2_with fail
          go_meet
          exact ⟨_, rfl, Lib.hid (by (first | rw [decide_eq_true hf0] | rw [decide_eq_false hf0]); rfl), C⟩
    clear c2_1 C
    obtain ⟨a, rfl, HA, C⟩ := hcut
    generalize decide (n.flg = 0) = yy at *
    have ha0 : 0 ≤ a ∧ a ≤ 6 := by rw [HA.out]; cases q <;> cases yy <;> decide
    have ha8 : IntKind.i64.wrap (a + 8) = a + 8 := by rw [IntKind.wrap_i64]; omega
    go_upto_if 69 with fail
    go_cut [6] (fun v wx => ∃ d : Int, v = .int .i64 d ∧ Hid (d = a + (if far then 8 else 0)) ∧ CL w [(b, #[.int .i64 s.step, .int .i64 s.most, .int .i64 s.last.cnt, .int .i64 s.last.flg, .int .i64 s.last.x, .int .i64 s.last.y, .int .i64 s.last.z, .int .i64 s.last.vx, .int .i64 s.last.vy, .int .i64 s.last.vz, .bool true, .int .i64 s.old]), (z, #[.int .i64 0, .int .i64 0, .int .i64 0, .int .i64 0, .int .i64 0, .int .i64 0, .int .i64 0, .int .i64 0]), (y, #[.int .i64 n.cnt, .int .i64 n.flg, .int .i64 n.x, .int .i64 n.y, .int .i64 n.z, .int .i64 n.vx, .int .i64 n.vy, .int .i64 n.vz])] 0 wx)
    case first =>
      cases far
      · go_wp2_with fail
        go_meet
        exact ⟨_, rfl, Lib.hid (by simp), C⟩
      · go_wp2_with fail
        go_meet
        exact ⟨_, rfl, Lib.hid (by simp), C⟩
    clear C ha8
    obtain ⟨d, rfl, HD, C⟩ := hcut
    have hd0 : 0 ≤ d ∧ d ≤ 14 := by rw [HD.out]; cases far <;> simp <;> omega
    refine (by assumption : ∀ (a : Act) (w : World), Code.wp Try.prog _ _ a w → _) _ _ ?_
    refine rjmp_b w wc b z y s n mo j2 hwo hwm J0.out J1.out J2.out d hd0 _ _ _ _ _ _ _ _ _ _ _ _ _ _ _ _ _ _ _ _ _ _ _ _ _ _ _ _ _ _ _ _ _ _ _ _ _ _ _ _ _ _ _ _ _ _ _ _ _ _ _ _ _ _ _ _ _ _ _ _ _ _ _ _ _ _ _ _ _ _ _ _ _ _ _ _ _ _ _ _ _ _ _ _ _ _ _ _ _ _ _ _ _ _ _ _ _ _ _ _ _ _ _ _ _ _ _ _ _ _ _ _ _ _ _ _ _ _ _ _ _ _ _ _ _ _ _ _ _ _ _ _ _ _ _ _ _ _ _ _ _ _ _ _ _ _ _ _ _ _ _ _ _ _ _ _ _ C _ Q ?_
    intro wx f q8 q9 q10 q11 q12 q13 q14 q15 q16 q17 q18 q19 q20 q21 q22 q23 q24 q25 q26 q27 q28 q29 q30 q31 q32 q33 q34 q35 q36 q37 q38 q39 q40 q41 q42 q43 q44 q45 q46 q47 q48 q49 q50 q51 q52 q53 q54 q55 q56 q57 q58 q59 q60 q61 q62 q63 q64 q65 q66 q67 q68 q69 q70 q71 q72 q73 q74 q75 q76 q77 q78 q79 q80 q81 q82 q83 q84 q85 q86 q87 q88 q89 q90 q91 q92 q93 q94 q95 q96 q97 q98 q99 q100 q101 q102 q103 q104 q105 q106 q107 q108 q109 q110 q111 q112 q113 q114 q115 q116 q117 q118 q119 q120 q121 q122 q123 q124 q125 q126 q127 q128 q129 q130 q131 q132 q133 q134 q135 q136 q137 q138 q139 q140 q141 q142 q143 q144 q145 q146 q147 q148 q149 q150 q151 q152 q153 q154 q155 q156 q157 q158 q159 q160 Hf C
    have hff : f = fv := by rw [HF, Hf, HD.out, HA.out]; try simp
    have HFF := Lib.hid hff
    clear hff Hf hd0
    dsimp only
    go_wp2_with fail
    go_meet
    exact ⟨_, rfl, HFF.out, C⟩
  obtain ⟨f, rfl, hff, C⟩ := hcut
  clear O0 O1 O2 O3 O4 O5 J0 J1 J2 HF hN hB hR hX g0 g1 g2 g3 g4 g5 g6 g7
  have C2 : CL w [(b, #[.int .i64 s.step, .int .i64 s.most, .int .i64 s.last.cnt, .int .i64 s.last.flg, .int .i64 s.last.x, .int .i64 s.last.y, .int .i64 s.last.z, .int .i64 s.last.vx, .int .i64 s.last.vy, .int .i64 s.last.vz, .bool s.has, .int .i64 s.old]), (z, #[.int .i64 0, .int .i64 0, .int .i64 0, .int .i64 0, .int .i64 0, .int .i64 0, .int .i64 0, .int .i64 0]), (y, #[.int .i64 n.cnt, .int .i64 n.flg, .int .i64 n.x, .int .i64 n.y, .int .i64 n.z, .int .i64 n.vx, .int .i64 n.vy, .int .i64 n.vz])] 0 wc := by rw [Hha.out]; exact C
  refine (by assumption : ∀ (a : Act) (w : World), Code.wp Try.prog _ _ a w → _) _ _ ?_
  exact rtail w wc b z y s n hs f fv hff _ _ _ _ _ _ _ _ _ _ _ _ _ _ _ _ _ _ _ _ _ _ _ _ _ _ _ _ _ _ _ _ _ _ _ _ _ _ _ _ _ _ _ _ _ _ _ _ _ _ _ _ _ _ _ _ _ _ _ _ _ _ _ _ _ _ _ _ _ _ _ _ _ _ _ _ _ _ _ _ _ _ _ _ _ _ _ _ _ _ _ _ _ _ _ _ _ _ _ _ _ _ _ _ _ _ _ _ _ _ _ _ _ _ _ _ _ _ _ _ _ _ _ _ _ _ _ _ _ _ _ _ _ _ _ _ _ _ _ _ _ _ _ _ _ _ _ _ _ _ _ _ _ _ _ _ _ hz hBz (by omega) hby hyz hbz C2 Q HQ0.out HQ1.out
end Go.Proofs.Ytmdgikikiijjbaa
