/- The walk of the law SeqrTwo. -/
import Derived.Test.YtdeckpbeclionaaSeqF
namespace Go.Proofs.Ytdeckpbeclionaa
open Go.RowKit

/-- What a sequencer hears from another one, on the ground. -/
def hears (c : Int) (p : SQ) : SI := ⟨c, true, 0, 0, p.state, wishOf p, false, false, 0⟩
theorem wishOf_bd (q : SQ) : 0 ≤ wishOf q ∧ wishOf q ≤ 15 := by
  unfold wishOf
  split <;> split <;> omega

set_option maxRecDepth 100000 in
set_option maxHeartbeats 1000000 in
theorem step22 (w : World) (x y : Nat) (p q : SQ) (c d : Int) (hP : At w x p.cells) (hQ : At w y q.cells) (hp : p.ok) (hq : q.ok) (hxy : x ≠ y) :
    Calls Try.prog 18 #[.pointer (some ⟨x, 0, none⟩), .pointer (some ⟨y, 0, none⟩), .int .i64 c, .int .i64 d] w fun e w' =>
      e = .returned (.tuple #[]) ∧ At w' x (sqCycle p (hears c q)).cells ∧ At w' y (sqCycle q (hears d p)).cells ∧ Chg [x, y] w w' := by
  have bp := wishOf_bd p
  have bq := wishOf_bd q
  have hxl := hP.lt
  have hyl := hQ.lt
  go_enter Try.func18, Try.ntmps18
  go_wp2_with fail
  refine (sState_any _ x p hP).mono ?_; rintro e w0 ⟨rfl, rfl⟩
  go_wp2_with fail
  refine (sWish_any _ x p hP).mono ?_; rintro e w0 ⟨rfl, rfl⟩
  go_wp2_with fail
  have hP1 := hP.alloc (.cells #[.int .i64 0, .int .i64 0, .int .i64 p.state, .int .i64 (wishOf p)] 30)
  have hQ1 := hQ.alloc (.cells #[.int .i64 0, .int .i64 0, .int .i64 p.state, .int .i64 (wishOf p)] 30)
  refine (sState_any _ y q hQ1).mono ?_; rintro e w0 ⟨rfl, rfl⟩
  go_wp2_with fail
  refine (sWish_any _ y q hQ1).mono ?_; rintro e w0 ⟨rfl, rfl⟩
  go_wp2_with fail
  have hV := (At.new w #[.int .i64 0, .int .i64 0, .int .i64 p.state, .int .i64 (wishOf p)] 30).alloc (.cells #[.int .i64 0, .int .i64 0, .int .i64 q.state, .int .i64 (wishOf q)] 30)
  have hP2 := hP1.alloc (.cells #[.int .i64 0, .int .i64 0, .int .i64 q.state, .int .i64 (wishOf q)] 30)
  have hQ2 := hQ1.alloc (.cells #[.int .i64 0, .int .i64 0, .int .i64 q.state, .int .i64 (wishOf q)] 30)
  have hX2 : Chg [x, y] w ((w.alloc (.cells #[.int .i64 0, .int .i64 0, .int .i64 p.state, .int .i64 (wishOf p)] 30)).alloc (.cells #[.int .i64 0, .int .i64 0, .int .i64 q.state, .int .i64 (wishOf q)] 30)) := ((Chg.refl _ _).alloc _).alloc _
  refine (cycle_any _ x p (hears c q) hP2 hp bq.1 bq.2).mono ?_; rintro e w3 ⟨rfl, hP3, hX3⟩
  have hQ3 := hX3.at hQ2 (by simpa using hxy.symm)
  have hV3 := hX3.at hV (by simp; omega)
  have v0 := hV3.cell 0
  have v1 := hV3.cell 1
  have v2 := hV3.cell 2
  have v3 := hV3.cell 3
  clear hP hQ hP1 hQ1 hP2 hQ2 hV hV3
  go_wp2_with fail
  refine (cycle_any _ y q (hears d p) hQ3 hq bp.1 bp.2).mono ?_; rintro e w4 ⟨rfl, hQ4, hX4⟩
  go_wp2
  go_end0
  exact ⟨rfl, hX4.at hP3 (by simpa using hxy), hQ4, (hX2.then hX3 (by simp)).then hX4 (by simp)⟩

set_option maxRecDepth 100000 in
set_option maxHeartbeats 2000000 in
theorem SeqrTwo_walk (W : World) (a : Int) (_w0 : (Lit.int .i64 a).wf = true) (back : Bool) :
    Calls Try.prog 5 #[.int .i64 a, .bool back] W fun e w' => e = .returned (.bool true) ∧ Below W.heap.size W w' := by
  have bm := umod_bd a 5 (by omega) (by omega)
  go_enter Try.func5, Try.ntmps5
  go_wp2_with fail
  generalize wrap64 ((IntKind.u64.wrap a).tmod 5) = m at *
  refine (sNew _ _ _).mono ?_; rintro e w1 ⟨x, rfl, hx, hP, hX1⟩
  go_wp2_with fail
  refine (sNew _ _ _).mono ?_; rintro e w2 ⟨y, rfl, hy, hQ, hX2⟩
  go_wp2_with fail
  refine (awake22 _).mono ?_; rintro e w3 ⟨rfl, hX3⟩
  go_wp2_with fail
  have hxy : x ≠ y := by have := hP.lt; omega
  have hP3 := (hX3.at (hX2.at hP (by simp)) (by simp)).alloc (.cells #[.int .i64 1, .int .i64 2] 3)
  have hQ3 := (hX3.at hQ (by simp)).alloc (.cells #[.int .i64 1, .int .i64 2] 3)
  have hS3 := At.new w3 #[.int .i64 1, .int .i64 2] 3
  have hxs : x ≠ w3.heap.size := by have := hP.lt; have := hX2.size; have := hX3.size; omega
  have hys : y ≠ w3.heap.size := by have := hQ.lt; have := hX3.size; omega
  have hxW : W.heap.size ≤ x := hx
  have hyW : W.heap.size ≤ y := by have := hX1.size; omega
  have hB3 : Below W.heap.size W w3 := Chg.below (Chg.below (Chg.to_below hX1) hX2 hX1.size (by simp)) hX3 (by have := hX1.size; have := hX2.size; omega) (by simp)
  have hB4 := hB3.alloc hB3.size (.cells #[.int .i64 1, .int .i64 2] 3)
  generalize w3.heap.size = sl at *
  clear hX1 hX2 hX3 hx hy hP hQ hB3
  go_loopg [5, 6, 21] 2 (fun g a b i wr => ∃ (j u v : Nat), j + g = 2 ∧ i = .int .i64 j ∧ a = .pointer (some ⟨u, 0, none⟩) ∧ b = .pointer (some ⟨v, 0, none⟩) ∧ u ≠ v ∧ u ≠ sl ∧ v ≠ sl ∧ W.heap.size ≤ u ∧ W.heap.size ≤ v ∧
    At wr sl #[.int .i64 1, .int .i64 2] ∧ At wr u (sq (if j = 1 then 1 else 0) false false false).cells ∧ At wr v (sq (if j = 1 then 1 else 0) false false false).cells ∧ Below W.heap.size W wr)
  case atStart => exact ⟨0, x, y, by omega, rfl, rfl, rfl, hxy, hxs, hys, hxW, hyW, hS3, hP3, hQ3, hB4⟩
  case round =>
    clear hP3 hQ3 hS3 hxs hys hxW hyW hxy hB4
    obtain ⟨j, u, v, hj, rfl, rfl, rfl, huv, hus, hvs, huW, hvW, hS, hU, hV, hB⟩ := hrel
    by_cases h2 : j = 2
    · subst h2
      go_wp2
      go_ret
      exact ⟨rfl, hB⟩
    · have key : ∃ (c : Int) (s0 s1 s2 : SQ), (j = 0 ∧ c = 1 ∨ j = 1 ∧ c = 2) ∧ sq (if j = 1 then 1 else 0) false false false = s0 ∧ s0.ok ∧ s1.ok ∧ s2.ok ∧ sqCycle s0 (hears c s0) = s1 ∧ sqCycle s0 (hears 0 s0) = s0 ∧ sqCycle s1 (hears 0 s0) = s1 ∧ sqCycle s0 (hears 0 s1) = s0 ∧
          sqCycle s0 (hears c s1) = s2 ∧ sqCycle s1 (hears 0 s2) = s2 ∧ sqCycle s2 (hears 0 s1) = s2 ∧ sqCycle s2 (hears 0 s2) = s2 ∧ s2.state = (if c = 2 then 0 else 1) ∧ s2 = sq (if j + 1 = 1 then 1 else 0) false false false := by
        rcases (show j = 0 ∨ j = 1 by omega) with rfl | rfl
        · exact ⟨1, sq 0 false false false, sq 0 true false false, sq 1 false false false, by simp, rfl, sq_ok _ _ _ _ (by decide) (by decide), sq_ok _ _ _ _ (by decide) (by decide), sq_ok _ _ _ _ (by decide) (by decide), rfl, rfl, rfl, rfl, rfl, rfl, rfl, rfl, rfl, rfl⟩
        · exact ⟨2, sq 1 false false false, sq 1 false true false, sq 0 false false false, by simp, rfl, sq_ok _ _ _ _ (by decide) (by decide), sq_ok _ _ _ _ (by decide) (by decide), sq_ok _ _ _ _ (by decide) (by decide), rfl, rfl, rfl, rfl, rfl, rfl, rfl, rfl, rfl, rfl⟩
      obtain ⟨c, s0, s1, s2, hjc, e0, ok0, ok1, ok2, F1, F2, F3, F4, F5, F6, F7, F8, hst, e2⟩ := key
      rw [e0] at hU hV
      have HJ := Lib.hid hj
      have HF := Lib.hid (And.intro F1 (And.intro F2 (And.intro F3 (And.intro F4 (And.intro F5 (And.intro F6 (And.intro F7 F8)))))))
      have HE := Lib.hid e2
      have HT := Lib.hid hst
      clear e0 F1 F2 F3 F4 F5 F6 F7 F8 e2 hst hj
      have l0 := hS.cell 0
      have l1 := hS.cell 1
      rcases hjc with ⟨rfl, rfl⟩ | ⟨rfl, rfl⟩
      all_goals
        go_upto_if 29 with fail
        go_cut [5, 6] (fun a b w => ∃ u' v', a = .pointer (some ⟨u', 0, none⟩) ∧ b = .pointer (some ⟨v', 0, none⟩) ∧ u' ≠ v' ∧ u' ≠ sl ∧ v' ≠ sl ∧ W.heap.size ≤ u' ∧ W.heap.size ≤ v' ∧ At w sl #[.int .i64 1, .int .i64 2] ∧ At w u' s0.cells ∧ At w v' s0.cells ∧ Below W.heap.size W w)
        case first =>
          cases back
          all_goals
            go_wp2
            go_meet
            first
              | exact ⟨u, v, rfl, rfl, huv, hus, hvs, huW, hvW, hS, hU, hV, hB⟩
              | exact ⟨v, u, rfl, rfl, huv.symm, hvs, hus, hvW, huW, hS, hV, hU, hB⟩
        clear hS hU hV hB l0 l1 hus hvs huv huW hvW
        obtain ⟨u, v, rfl, rfl, huv, hus, hvs, huW, hvW, hS, hU, hV, hB⟩ := hcut
        have hmn : (m.toNat : Int) = m := by omega
        have HM := Lib.hid hmn
        clear hmn
        go_wp2_with fail
        refine (step22 _ u v s0 s0 _ 0 hU hV ok0 ok0 huv).mono ?_; rintro e wA ⟨rfl, hU1, hV1, hX⟩
        rw [HF.out.1] at hU1
        rw [HF.out.2.1] at hV1
        replace hS := hX.at hS (by simp; omega)
        replace hB := Chg.below hB hX hB.size (by simp; omega)
        clear hX hU hV
        go_upto_block 2 with fail
        go_cut [] (fun w => At w sl #[.int .i64 1, .int .i64 2] ∧ At w u s1.cells ∧ At w v s0.cells ∧ Below W.heap.size W w)
        case first =>
          go_wp2_with fail
          go_loopg [38] m.toNat (fun g i wr => ∃ k : Nat, k + g = m.toNat ∧ i = .int .i64 k ∧ At wr sl #[.int .i64 1, .int .i64 2] ∧ At wr u s1.cells ∧ At wr v s0.cells ∧ Below W.heap.size W wr)
          case atStart => exact ⟨0, by omega, rfl, hS, hU1, hV1, hB⟩
          case round =>
            clear hS hU1 hV1 hB
            obtain ⟨k, hk, rfl, hS, hU, hV, hB⟩ := hrel
            have Hk := Lib.hid hk
            by_cases hlt : (k : Int) < m
            · clear hk
              go_wp2_with fail
              refine (step22 _ u v s1 s0 0 0 hU hV ok1 ok0 huv).mono ?_; rintro e wB ⟨rfl, hU1, hV1, hX⟩
              rw [HF.out.2.2.1] at hU1
              rw [HF.out.2.2.2.1] at hV1
              replace hS := hX.at hS (by simp; omega)
              replace hB := Chg.below hB hX hB.size (by simp; omega)
              clear hX hU hV
              go_wp2_with fail
              go_roundg (m.toNat - k - 1)
              case measure => have := Hk.out; omega
              case rel => exact ⟨k + 1, by have := Hk.out; omega, by go_num, hS, hU1, hV1, hB⟩
            · clear hk
              go_wp2_with fail
              go_meet
              exact ⟨hS, hU, hV, hB⟩
        clear hS hU1 hV1 hB
        obtain ⟨hS, hU, hV, hB⟩ := hcut
        go_wp2_with fail
        refine (step22 _ u v s1 s0 0 _ hU hV ok1 ok0 huv).mono ?_; rintro e wC ⟨rfl, hU1, hV1, hX⟩
        rw [HF.out.2.2.1] at hU1
        rw [HF.out.2.2.2.2.1] at hV1
        replace hS := hX.at hS (by simp; omega)
        replace hB := Chg.below hB hX hB.size (by simp; omega)
        clear hX hU hV
        go_upto_block 4 with fail
        go_cut [] (fun w => At w sl #[.int .i64 1, .int .i64 2] ∧ At w u s2.cells ∧ At w v s2.cells ∧ Below W.heap.size W w)
        case first =>
          go_wp2_with fail
          go_loopg [50] 2 (fun g i wr => ∃ k : Nat, k + g = 2 ∧ i = .int .i64 k ∧ At wr sl #[.int .i64 1, .int .i64 2] ∧ (k = 0 → At wr u s1.cells) ∧ (1 ≤ k → At wr u s2.cells) ∧ At wr v s2.cells ∧ Below W.heap.size W wr)
          case atStart => exact ⟨0, by omega, rfl, hS, fun _ => hU1, fun h => absurd h (by omega), hV1, hB⟩
          case round =>
            clear hS hU1 hV1 hB
            obtain ⟨k, hk, rfl, hS, hU0, hU2, hV, hB⟩ := hrel
            have Hk := Lib.hid hk
            by_cases hlt : (k : Int) < 2
            · by_cases h0 : k = 0
              · have hU := hU0 h0
                clear hk hU0 hU2
                subst h0
                go_wp2_with fail
                refine (step22 _ u v s1 s2 0 0 hU hV ok1 ok2 huv).mono ?_; rintro e wB ⟨rfl, hU1, hV1, hX⟩
                rw [HF.out.2.2.2.2.2.1] at hU1
                rw [HF.out.2.2.2.2.2.2.1] at hV1
                replace hS := hX.at hS (by simp; omega)
                replace hB := Chg.below hB hX hB.size (by simp; omega)
                clear hX hU hV
                go_wp2_with fail
                go_roundg 1
                case measure => have := Hk.out; omega
                case rel => exact ⟨1, by omega, rfl, hS, fun h => absurd h (by omega), fun _ => hU1, hV1, hB⟩
              · have hU := hU2 (by omega)
                obtain rfl : k = 1 := by omega
                clear hk hU0 hU2 h0
                go_wp2_with fail
                refine (step22 _ u v s2 s2 0 0 hU hV ok2 ok2 huv).mono ?_; rintro e wB ⟨rfl, hU1, hV1, hX⟩
                rw [HF.out.2.2.2.2.2.2.2] at hU1 hV1
                replace hS := hX.at hS (by simp; omega)
                replace hB := Chg.below hB hX hB.size (by simp; omega)
                clear hX hU hV
                go_wp2_with fail
                go_roundg 0
                case measure => have := Hk.out; omega
                case rel => exact ⟨2, by omega, rfl, hS, fun h => absurd h (by omega), fun _ => hU1, hV1, hB⟩
            · have hU := hU2 (by omega)
              obtain rfl : k = 2 := by omega
              clear hk hU0 hU2
              go_wp2_with fail
              go_meet
              exact ⟨hS, hU, hV, hB⟩
        clear hS hU1 hV1 hB
        obtain ⟨hS, hU, hV, hB⟩ := hcut
        have hst := HT.out
        simp at hst
        go_wp2_with (first
          | (go_at_call 13; refine (sState_any _ _ s2 (by first | exact hU | exact hV)).mono ?_; rintro e w' ⟨rfl, rfl⟩))
        have e := HE.out
        rw [e] at hU hV
        go_roundg (gk - 1)
        case measure => have := HJ.out; omega
        case rel =>
          first
            | exact ⟨1, u, v, by have := HJ.out; omega, rfl, rfl, rfl, huv, hus, hvs, huW, hvW, hS, hU, hV, hB⟩
            | exact ⟨2, u, v, by have := HJ.out; omega, rfl, rfl, rfl, huv, hus, hvs, huW, hvW, hS, hU, hV, hB⟩
end Go.Proofs.Ytdeckpbeclionaa
