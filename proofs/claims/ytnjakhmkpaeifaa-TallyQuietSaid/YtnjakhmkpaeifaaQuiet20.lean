/- The walk of the law TallyQuiet. -/
import Derived.Test.YtnjakhmkpaeifaaT20
import Derived.LoopTactic
import Derived.Deep.LoopGhost
import Derived.Deep.DeepCutAuto
import Derived.Deep.CutBlock
namespace Go.Proofs.Ytnjakhmkpaeifaa
open Go.RowKit

def fx (x : Int) : Int := if x = 3 then 2 else x
theorem fx_ne (x : Int) : fx x ≠ 3 := by unfold fx; split <;> omega
def still (s p q : Int) : Int := if (!hd p && !hd q) = true then s + 1 else 0
theorem quiet_cyc {s g p q : Int} (hs : 0 ≤ s) (hg : s < g) (hp : p ≠ 3) (hq : q ≠ 3) : TS.cyc ⟨0, 0, s, 1, 1, g⟩ p q = ⟨0, 0, still s p q, 1, 1, g⟩ := by
  have h3 : (p == 3) = false := by simpa using hp
  have h4 : (q == 3) = false := by simpa using hq
  have e1 : cAdd s g 1 = s + 1 := by unfold cAdd; omega
  have e2 : cSet g 0 = 0 := by unfold cSet; omega
  have e3 : cSet 1 0 = 0 := by decide
  unfold TS.cyc still
  rw [h3, h4]
  cases hd p <;> cases hd q <;> simp [TS.upG, TS.setG, TS.setV, TS.setD, e1, e2, e3]

set_option maxRecDepth 100000 in
set_option maxHeartbeats 2000000 in
theorem TallyQuiet_walk (W : World) (a : Int) (_w0 : (Lit.int .i64 a).wf = true) (v2 : Value) (l : List (Int × Int × Unit))
    (h2 : (Sh.slice (.prod (.int .i64) (.prod (.int .i64) .unit))).rep W l [v2]) :
    Calls Try.prog 3 #[.int .i64 a, v2] W fun e w' => e = .returned (.bool true) ∧ Below W.heap.size W w' := by
  have hp := pairs_of h2
  clear h2
  generalize l.length = len at hp
  generalize (fun k => (l.getD k (0, 0, ())).1) = K at hp
  generalize (fun k => (l.getD k (0, 0, ())).2.1) = N at hp
  obtain ⟨ad, cap, rfl, hlen, hcell⟩ := hp.out
  unfold maxLen at hlen
  clear hp
  have bm := umod_bd a 20 (by omega) (by omega)
  go_enter Try.func3, Try.ntmps3
  by_cases hbig : 300 < len
  · go_wp2_with (first
      | (go_at_call 6; refine (awake20 _).mono ?_; rintro e w' ⟨rfl, hX⟩))
    go_ret
    exact ⟨rfl, Chg.to_below (Chg.trans (by assumption) (by assumption))⟩
  · go_wp2_with (first
      | (go_at_call 6; refine (awake20 _).mono ?_; rintro e w0 ⟨rfl, hX0⟩))
    refine (limits20 _ _ _ _).mono ?_; rintro e w1 ⟨rfl, hX1⟩
    generalize wrap64 ((IntKind.u64.wrap a).tmod 20) = m' at *
    go_wp2_with fail
    refine (new20 _ _ _ _ (by decide) (by decide) (by omega)).mono ?_; rintro e w2 ⟨B, rfl, hT, hX2, hB⟩
    have hg : cSet 1000000 (1 + m') = 1 + m' := by unfold cSet; omega
    replace hT : Tal w2 B ⟨0, 0, 0, 1, 1, cSet 1000000 (1 + m')⟩ := hT
    rw [hg] at hT
    clear hg
    have hX := (hX0.trans hX1).trans hX2
    have hBW : Below W.heap.size W w2 := Chg.to_below hX
    have hb1 : ∀ b ∈ B.all, W.heap.size ≤ b := fun b hb => by have := hB b hb; have := hX0.size; have := hX1.size; omega
    clear hX0 hX1 hX2 hX hB
    have hgb : 1 ≤ 1 + m' ∧ 1 + m' ≤ 20 := by omega
    clear bm
    generalize 1 + m' = g at *
    go_wp2_with fail
    go_loopg [6, 32] len (fun gk st i wr => ∃ (k : Nat) (s : Int), k + gk = len ∧ i = .int .i64 k ∧ st = .int .i64 s ∧ 0 ≤ s ∧ s < g ∧ Below W.heap.size W wr ∧ Tal wr B ⟨0, 0, s, 1, 1, g⟩)
    case atStart => exact ⟨0, 0, by omega, rfl, rfl, by omega, by omega, hBW, hT⟩
    case round =>
      obtain ⟨k, s, hk, rfl, rfl, hs0, hs1, hB, hT⟩ := hrel
      have hk' : k ≤ len := by omega
      by_cases hlt : k < len
      · obtain ⟨b', off, rfl, hb, hc0, hc1, hK, hN⟩ := hcell k hlt
        have Hk := Lib.hid hk
        clear hcell hk
        have c0 := (hB.cell (p := ⟨b', off + k * 2, none⟩) hb).trans hc0
        have c1 := (hB.cell (p := ⟨b', off + k * 2 + 1, none⟩) hb).trans hc1
        clear hc0 hc1
        generalize K k = x at *
        generalize N k = y at *
        go_upto_block 2 with fail
        have hZ := At.new wr #[.int .i64 x, .int .i64 y] 31
        have hX : Chg [] wr (wr.alloc (.cells #[.int .i64 x, .int .i64 y] 31)) := (Chg.refl _ _).alloc _
        have hTa := Tal.keep hX hT (by simp)
        have hBa := Chg.below hB hX hB.size (by simp)
        have hzW : W.heap.size ≤ wr.heap.size := hB.size
        have hzB : ∀ b ∈ B.all, b ≠ wr.heap.size := fun b hb => by have := hT.lt b hb; omega
        clear c0 c1 hT hB hX
        have hB0 := Lib.hid hb
        clear hb
        generalize hz : wr.heap.size = z at *
        clear hz
        generalize wr.alloc (.cells #[.int .i64 x, .int .i64 y] 31) = wa at *
        go_cut [] (fun w => At w z #[.int .i64 (fx x), .int .i64 (fx y)] ∧ Tal w B ⟨0, 0, s, 1, 1, g⟩ ∧ Below W.heap.size W w)
        case first =>
          have d0 := hZ.cell 0
          have d1 := hZ.cell 1
          have f0 := hZ.frozen 0
          have f1 := hZ.frozen 1
          by_cases hx : x = 3 <;> by_cases hy : y = 3
          · obtain rfl := hx
            obtain rfl := hy
            go_wp2_with fail
            refine wp_loop_rounds 3 ?_
            rw [rounds_succ]; go_wp2_with fail
            rw [rounds_succ]; go_wp2_with fail
            rw [rounds_succ]; go_wp2
            go_meet
            exact ⟨(hZ.set 0 (.int .i64 2) rfl).set 1 (.int .i64 2) rfl, Tal.keep (((Chg.refl [z] wa).setCell (by simp) _).setCell (by simp) _) hTa (by simpa using hzB), (hBa.setCell (by simpa using hzW) _).setCell (by simpa using hzW) _⟩
          · obtain rfl := hx
            have hy' : (y == 3) = false := by simpa using hy
            have ey := Lib.hid (show fx y = y by simp [fx, hy])
            go_wp2_with fail
            refine wp_loop_rounds 3 ?_
            rw [rounds_succ]; go_wp2_with fail
            rw [rounds_succ]; go_wp2_with fail
            rw [rounds_succ]; go_wp2
            go_meet
            rw [ey.out]
            exact ⟨hZ.set 0 (.int .i64 2) rfl, Tal.keep ((Chg.refl [z] wa).setCell (by simp) _) hTa (by simpa using hzB), hBa.setCell (by simpa using hzW) _⟩
          · obtain rfl := hy
            have hx' : (x == 3) = false := by simpa using hx
            have ex := Lib.hid (show fx x = x by simp [fx, hx])
            go_wp2_with fail
            refine wp_loop_rounds 3 ?_
            rw [rounds_succ]; go_wp2_with fail
            rw [rounds_succ]; go_wp2_with fail
            rw [rounds_succ]; go_wp2
            go_meet
            rw [ex.out]
            exact ⟨hZ.set 1 (.int .i64 2) rfl, Tal.keep ((Chg.refl [z] wa).setCell (by simp) _) hTa (by simpa using hzB), hBa.setCell (by simpa using hzW) _⟩
          · have hx' : (x == 3) = false := by simpa using hx
            have hy' : (y == 3) = false := by simpa using hy
            have ex := Lib.hid (show fx x = x by simp [fx, hx])
            have ey := Lib.hid (show fx y = y by simp [fx, hy])
            go_wp2_with fail
            refine wp_loop_rounds 3 ?_
            rw [rounds_succ]; go_wp2_with fail
            rw [rounds_succ]; go_wp2_with fail
            rw [rounds_succ]; go_wp2
            go_meet
            rw [ex.out, ey.out]
            exact ⟨hZ, hTa, hBa⟩
        clear hZ hTa hBa
        obtain ⟨hZ, hT, hB⟩ := hcut
        have hp3 := fx_ne x
        have hq3 := fx_ne y
        have d0 := hZ.cell 0
        have d1 := hZ.cell 1
        clear hZ
        generalize fx x = p at *
        generalize fx y = q at *
        go_upto_region 15 with fail
        go_cut [10] (fun v w => v = .bool (!hd p && !hd q) ∧ w = wc)
        case first =>
          go_wp2_with fail
          all_goals
            go_meet
            exact ⟨by congr 1; simp only [hd]; rw [Bool.eq_iff_iff]; simp <;> omega, rfl⟩
        obtain ⟨rfl, rfl⟩ := hcut
        have hc := quiet_cyc hs0 hs1 hp3 hq3
        have Hc := Lib.hid hc
        have e : still s p q = if (!hd p && !hd q) = true then s + 1 else 0 := rfl
        have E := Lib.hid e
        clear hc e hp3 hq3
        have hok : TS.ok ⟨0, 0, s, 1, 1, g⟩ := ⟨by simp, by simp, by simp; omega⟩
        have hwhy : ∀ s', s' < g → TS.why ⟨0, 0, s', 1, 1, g⟩ = 0 := fun s' h => by
          have : (s' == g) = false := by simp; omega
          simp [TS.why, this]
        have Hw := Lib.hid hwhy
        clear hwhy
        have hcsW : ∀ b ∈ B.cs, W.heap.size ≤ b := fun b hb => hb1 b (by simp only [TB.cs, TB.all, List.mem_cons] at hb ⊢; exact Or.inr hb)
        generalize (!hd p && !hd q) = no at *
        cases no
        · have H1 := Lib.hid (Hc.out.trans (show TS.mk 0 0 (still s p q) 1 1 g = ⟨0, 0, 0, 1, 1, g⟩ by rw [E.out]; simp))
          have H2 := Lib.hid (Hw.out (0) (by omega))
          clear Hc E Hw
          go_wp2_with (first
            | (go_at_call 9; refine (tCycle_any _ B _ p q hT hok).mono ?_; rintro e w1 ⟨rfl, hT1, hX1⟩; rw [H1.out] at hT1)
            | (go_at_call 10; refine (tCounts_any _ B _ hT1).mono ?_; rintro e w2 ⟨rfl, hX2⟩; have hT2 := Tal.keep hX2 hT1 (by simp))
            | (go_at_call 11; refine (tFires_any _ B _ hT2).mono ?_; rw [H2.out]; rintro e w3 ⟨rfl, hX3⟩))
          have hB1 := Chg.below hB hX1 hB.size hcsW
          have hB2 := Chg.below hB1 hX2 hB1.size (by simp)
          have hB3 := Chg.below hB2 hX3 hB2.size (by simp)
          go_roundg (gk - 1)
          case measure => have := Hk.out; omega
          case rel => exact ⟨k + 1, 0, by have := Hk.out; omega, by go_num, by first | rfl | go_num, by omega, by omega, hB3, Tal.keep hX3 hT2 (by simp)⟩
        · by_cases hge : g ≤ s + 1
          · go_wp2
            go_ret
            exact ⟨rfl, hB⟩
          · have H1 := Lib.hid (Hc.out.trans (show TS.mk 0 0 (still s p q) 1 1 g = ⟨0, 0, s + 1, 1, 1, g⟩ by rw [E.out]; simp))
            have H2 := Lib.hid (Hw.out (s + 1) (by omega))
            clear Hc E Hw
            go_wp2_with (first
              | (go_at_call 9; refine (tCycle_any _ B _ p q hT hok).mono ?_; rintro e w1 ⟨rfl, hT1, hX1⟩; rw [H1.out] at hT1)
              | (go_at_call 10; refine (tCounts_any _ B _ hT1).mono ?_; rintro e w2 ⟨rfl, hX2⟩; have hT2 := Tal.keep hX2 hT1 (by simp))
              | (go_at_call 11; refine (tFires_any _ B _ hT2).mono ?_; rw [H2.out]; rintro e w3 ⟨rfl, hX3⟩))
            have hB1 := Chg.below hB hX1 hB.size hcsW
            have hB2 := Chg.below hB1 hX2 hB1.size (by simp)
            have hB3 := Chg.below hB2 hX3 hB2.size (by simp)
            go_roundg (gk - 1)
            case measure => have := Hk.out; omega
            case rel => exact ⟨k + 1, s + 1, by have := Hk.out; omega, by go_num, by first | rfl | go_num, by omega, by omega, hB3, Tal.keep hX3 hT2 (by simp)⟩
      · clear hcell
        go_wp2
        go_ret
        exact ⟨rfl, hB⟩
end Go.Proofs.Ytnjakhmkpaeifaa
