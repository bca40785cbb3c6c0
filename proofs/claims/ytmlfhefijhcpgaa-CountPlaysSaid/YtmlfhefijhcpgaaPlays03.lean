/- The walk of the law CountPlays. -/
import Derived.Test.YtmlfhefijhcpgaaOps03
import Derived.Deep.DeepCutAuto
import Derived.Deep.CutBlock
namespace Go.Proofs.Ytmlfhefijhcpgaa
open Go.RowKit

set_option maxRecDepth 100000 in
set_option maxHeartbeats 2000000 in
theorem CountPlays_walk (W : World) (a : Int) (_w0 : (Lit.int .i64 a).wf = true) (v2 : Value) (l : List (Int × Int × Unit))
    (h2 : (Sh.slice (.prod (.int .i64) (.prod (.int .i64) .unit))).rep W l [v2]) :
    Calls Try.prog 3 #[.int .i64 a, v2] W fun e w' => e = .returned (.bool true) ∧ Below W.heap.size W w' := by
  have hp := pairs_of h2
  clear h2
  generalize l.length = len at hp
  generalize (fun k => (l.getD k (0, 0, ())).1) = K at hp
  generalize (fun k => (l.getD k (0, 0, ())).2.1) = N at hp
  obtain ⟨ad, cap, rfl, hlen, hcell⟩ := hp.out
  unfold maxLen at hlen
  clear hp
  go_enter Try.func3, Try.ntmps3
  by_cases hbig : 300 < len
  · go_wp2_with (first
      | (go_at_call 8; refine (awake03 _).mono ?_; rintro e w' ⟨rfl, hX⟩))
    go_ret
    exact ⟨rfl, Chg.to_below (Chg.trans (by assumption) (by assumption))⟩
  · go_wp2_with (first
      | (go_at_call 8; refine (awake03 _).mono ?_; rintro e w0 ⟨rfl, hX0⟩))
    refine (cNew _ _).mono ?_; rintro e w1 ⟨x, rfl, hx, hCx, hX1⟩
    go_wp2_with fail
    refine (rNew _ _).mono ?_; rintro e w2 ⟨y, rfl, hy, hCy, hX2⟩
    go_wp2_with fail
    have bx := cSet_bd 1000000 a (by omega)
    have hxy : x ≠ y := by have := hCx.lt; omega
    replace hCx := hCx.keep hX2 (by simp)
    have hB1 : Below W.heap.size W w2 := Chg.below (Chg.below (Chg.to_below hX0) hX1 (by have := hX0.size; omega) (by simp)) hX2 (by have := hX0.size; have := hX1.size; omega) (by simp)
    have hxW : W.heap.size ≤ x := by have := hX0.size; omega
    have hyW : W.heap.size ≤ y := by have := hX0.size; have := hX1.size; omega
    generalize cSet 1000000 a = m at *
    clear hX0 hX1 hX2 hx hy
    go_loopg [24] len (fun g i wr => ∃ k : Nat, k + g = len ∧ i = .int .i64 k ∧ Below W.heap.size W wr ∧ ∃ n, 0 ≤ n ∧ n ≤ m ∧ Ctr wr x n m ∧ Ctr wr y n m)
    case atStart => exact ⟨0, by omega, rfl, hB1, 0, by omega, by omega, hCx, hCy⟩
    case round =>
      obtain ⟨k, hk, rfl, hB, n, hn0, hn1, hC, hD⟩ := hrel
      have hk' : k ≤ len := by omega
      by_cases hlt : k < len
      · obtain ⟨b', off, rfl, hb, c0, c1, _, hN⟩ := hcell k hlt
        replace c0 := (hB.cell (p := ⟨b', off + k * 2, none⟩) hb).trans c0
        replace c1 := (hB.cell (p := ⟨b', off + k * 2 + 1, none⟩) hb).trans c1
        have Hk := Lib.hid hk
        clear hcell hk
        have eA : ∀ q, (q = N k ∨ (q = 2000000 ∧ 2000000 < N k)) → cAdd n m q = cAdd n m (N k) := by unfold cAdd; omega
        have eS : ∀ q, (q = N k ∨ (q = 2000000 ∧ 2000000 < N k)) → cSet m q = cSet m (N k) := by unfold cSet; omega
        have HA := Lib.hid eA
        have HS := Lib.hid eS
        clear eA eS
        go_upto_if 31 with fail
        go_cut [9] (fun v w => ∃ q, v = .int .i64 q ∧ w = wr.alloc (.cells #[.int .i64 (K k), .int .i64 (N k)] 29) ∧ (q = N k ∨ (q = 2000000 ∧ 2000000 < N k)))
        case first =>
          go_wp2
          all_goals
            go_meet
            exact ⟨_, rfl, rfl, by omega⟩
        obtain ⟨q, rfl, rfl, hq⟩ := hcut
        have eA := HA.out q hq
        have eS := HS.out q hq
        clear hq
        go_upto_block 2 with fail
        have hBa := hB.alloc hB.size (.cells #[.int .i64 (K k), .int .i64 (N k)] 29)
        have hsz : W.heap.size ≤ (wr.alloc (.cells #[.int .i64 (K k), .int .i64 (N k)] 29)).heap.size := hBa.size
        replace hC := hC.alloc (.cells #[.int .i64 (K k), .int .i64 (N k)] 29)
        replace hD := hD.alloc (.cells #[.int .i64 (K k), .int .i64 (N k)] 29)
        go_cut [] (fun w => ∃ n', 0 ≤ n' ∧ n' ≤ m ∧ Ctr w x n' m ∧ Ctr w y n' m ∧ Below W.heap.size W w)
        case first =>
          go_wp2_with (first
            | (go_at_call 11; refine (cUp_any _ x n m hC hn0 hn1 bx.2).mono ?_; rintro e w' ⟨rfl, hA, hX⟩; have hn' := cAdd_bd n m 1 hn1)
            | (go_at_call 13; refine (cAdd_any _ x n m _ hC hn0 hn1 bx.2).mono ?_; rintro e w' ⟨rfl, hA, hX⟩; have hn' := cAdd_bd n m (N k) hn1)
            | (go_at_call 14; refine (cSet_any _ x n m _ hC).mono ?_; rintro e w' ⟨rfl, hA, hX⟩; have hn' := cSet_bd m (N k) bx.1)
            | (go_at_call 16; refine (cReset_any _ x n m hC).mono ?_; rintro e w' ⟨rfl, hA, hX⟩; have hn' := cSet_bd m 0 bx.1)
            | (go_at_call 12; refine (rAdd _ y n m _ (hD.keep hX (by simp; omega)) hn0 hn1 bx.2).mono ?_; rintro e w' ⟨rfl, hA', hX'⟩)
            | (go_at_call 15; refine (rSet _ y n m _ (hD.keep hX (by simp; omega))).mono ?_; rintro e w' ⟨rfl, hA', hX'⟩))
          all_goals
            go_meet
            first
              | exact ⟨_, by omega, hn'.2, hA.keep hX' (by simp; omega), hA', Chg.below (Chg.below hBa hX hsz (by simp; omega)) hX' (by have := hX.size; omega) (by simp; omega)⟩
              | exact ⟨_, by omega, hn'.2, hA.keep hX' (by simp; omega), eA ▸ hA', Chg.below (Chg.below hBa hX hsz (by simp; omega)) hX' (by have := hX.size; omega) (by simp; omega)⟩
              | exact ⟨_, by omega, hn'.2, hA.keep hX' (by simp; omega), eS ▸ hA', Chg.below (Chg.below hBa hX hsz (by simp; omega)) hX' (by have := hX.size; omega) (by simp; omega)⟩
        clear hC hD eA eS hsz hBa HA HS c0 c1 hB hn0 hn1
        obtain ⟨n', hn0', hn1', hC, hD, hB⟩ := hcut
        have d0 := hD.c0
        have d1 := hD.c1
        go_upto_region 22 with fail
        go_quiet ((first | (go_at_call 17; exact quiet_same (cValue_any _ x n' m (hC.drewN _))) | (go_at_call 18; exact quiet_same (cMost_any _ x n' m (hC.drewN _))) | (go_at_call 19; exact quiet_same (cFull_any _ x n' m (hC.drewN _)))))
        go_wp2
        go_roundg (gk - 1)
        case measure => have := Hk.out; omega
        case rel => exact ⟨k + 1, by have := Hk.out; omega, by go_num, hB.drewN _, n', hn0', hn1', hC.drewN _, hD.drewN _⟩
      · clear hcell
        go_wp2
        go_ret
        exact ⟨rfl, hB⟩
end Go.Proofs.Ytmlfhefijhcpgaa
