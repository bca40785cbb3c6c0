/- The walk of the law TallySides. -/
import Derived.Test.YtnjakhmkpaeifaaT20
import Derived.LoopTactic
import Derived.Deep.LoopGhost
import Derived.Deep.DeepCutAuto
import Derived.Deep.CutBlock
namespace Go.Proofs.Ytnjakhmkpaeifaa
open Go.RowKit

theorem cyc_swap (s : TS) (a b : Int) : s.cyc a b = s.cyc b a := by
  unfold TS.cyc
  have e : ((a == 3) != (b == 3)) = ((b == 3) != (a == 3)) := by cases (a == 3) <;> cases (b == 3) <;> rfl
  rw [e]
  cases hd a <;> cases hd b <;> cases (a == 3) <;> cases (b == 3) <;> rfl
theorem cSet_self {m k : Int} (h0 : 0 ≤ k) (h1 : k ≤ m) : cSet m k = k := by unfold cSet; omega
theorem cyc_ok {s : TS} (h : s.ok) (a b : Int) : (s.cyc a b).ok ∧ (s.cyc a b).mv = s.mv ∧ (s.cyc a b).md = s.md ∧ (s.cyc a b).mg = s.mg := by
  have hv := h.v; have hd' := h.d; have hg := h.g
  have v1 := cAdd_bd s.v s.mv 1 hv.2.1
  have d1 := cAdd_bd s.d s.md 1 hd'.2.1
  have g1 := cAdd_bd s.g s.mg 1 hg.2.1
  have v2 := cSet_bd s.mv 0 (by omega)
  have d2 := cSet_bd s.md 0 (by omega)
  have g2 := cSet_bd s.mg 0 (by omega)
  unfold TS.cyc
  split
  · exact ⟨⟨hv, hd', by simp [TS.upG]; omega⟩, rfl, rfl, rfl⟩
  · split
    · exact ⟨⟨hv, by simp [TS.upD, TS.setG]; omega, by simp [TS.upD, TS.setG]; omega⟩, rfl, rfl, rfl⟩
    · split
      · exact ⟨⟨by simp [TS.upV, TS.setG]; omega, hd', by simp [TS.upV, TS.setG]; omega⟩, rfl, rfl, rfl⟩
      · exact ⟨⟨by simp [TS.setV, TS.setD, TS.setG]; omega, by simp [TS.setV, TS.setD, TS.setG]; omega, by simp [TS.setV, TS.setD, TS.setG]; omega⟩, rfl, rfl, rfl⟩
/-- What was counted, set in a tally with the same limits. -/
theorem set_self {s r : TS} (h : s.ok) (e1 : r.mv = s.mv) (e2 : r.md = s.md) (e3 : r.mg = s.mg) : r.set s.v s.d s.g = s := by
  obtain ⟨v, d, g, mv, md, mg⟩ := s
  obtain ⟨v', d', g', mv', md', mg'⟩ := r
  have hv := h.v; have hd' := h.d; have hg := h.g
  simp only at e1 e2 e3 hv hd' hg
  subst e1 e2 e3
  simp [TS.set, TS.setV, TS.setD, TS.setG, cSet_self hv.1 hv.2.1, cSet_self hd'.1 hd'.2.1, cSet_self hg.1 hg.2.1]

theorem cs_sub {B : TB} {b : Nat} (h : b ∈ B.cs) : b ∈ B.all := by
  simp only [TB.cs, TB.all, List.mem_cons] at h ⊢
  exact Or.inr h

set_option maxRecDepth 100000 in
set_option maxHeartbeats 4000000 in
theorem TallySides_walk (W : World) (a : Int) (_w0 : (Lit.int .i64 a).wf = true) (b : Int) (_w1 : (Lit.int .i64 b).wf = true) (c : Int) (_w2 : (Lit.int .i64 c).wf = true) (v3 : Value) (l : List (Int × Int × Unit))
    (h3 : (Sh.slice (.prod (.int .i64) (.prod (.int .i64) .unit))).rep W l [v3]) (d : Int) (_w4 : (Lit.int .i64 d).wf = true) :
    Calls Try.prog 4 #[.int .i64 a, .int .i64 b, .int .i64 c, v3, .int .i64 d] W fun e w' => e = .returned (.bool true) ∧ Below W.heap.size W w' := by
  have hp := pairs_of h3
  clear h3
  generalize l.length = len at hp
  generalize (fun k => (l.getD k (0, 0, ())).1) = K at hp
  generalize (fun k => (l.getD k (0, 0, ())).2.1) = N at hp
  obtain ⟨ad, cap, rfl, hlen, hcell⟩ := hp.out
  unfold maxLen at hlen
  clear hp
  have ba := umod_bd a 20 (by omega) (by omega)
  have bb := umod_bd b 20 (by omega) (by omega)
  have bc := umod_bd c 20 (by omega) (by omega)
  go_enter Try.func4, Try.ntmps4
  by_cases hbig : 300 < len
  · go_wp2_with (first
      | (go_at_call 6; refine (awake20 _).mono ?_; rintro e w' ⟨rfl, hX⟩))
    go_ret
    exact ⟨rfl, Chg.to_below (Chg.trans (by assumption) (by assumption))⟩
  · have bd := umod_bd d (len + 1) (by omega) (by omega)
    have hl63 : IntKind.u64.wrap ((len : Int) + 1) = (len : Int) + 1 := by
      have := u64_bd ((len : Int) + 1)
      simp [IntKind.wrap, IntKind.bits]; omega
    go_wp2_with (first
      | (go_at_call 6; refine (awake20 _).mono ?_; rintro e w0 ⟨rfl, hX0⟩))
    generalize wrap64 ((IntKind.u64.wrap a).tmod 20) = n at *
    generalize wrap64 ((IntKind.u64.wrap b).tmod 20) = m at *
    generalize wrap64 ((IntKind.u64.wrap c).tmod 20) = g at *
    refine (limits20 _ _ _ _).mono ?_; rintro e w1 ⟨rfl, hX1⟩
    go_wp2_with fail
    refine (new20 _ _ _ _ (by omega) (by omega) (by omega)).mono ?_; rintro e w2 ⟨A, rfl, hA, hX2, hA0⟩
    go_wp2_with fail
    refine (limits20 _ _ _ _).mono ?_; rintro e w3 ⟨rfl, hX3⟩
    go_wp2_with fail
    refine (new20 _ _ _ _ (by omega) (by omega) (by omega)).mono ?_; rintro e w4 ⟨B, rfl, hB, hX4, hB0⟩
    go_wp2_with fail
    refine (limits20 _ _ _ _).mono ?_; rintro e w5 ⟨rfl, hX5⟩
    go_wp2_with fail
    refine (new20 _ _ _ _ (by omega) (by omega) (by omega)).mono ?_; rintro e w6 ⟨C, rfl, hC, hX6, hC0⟩
    have en : ∀ x, 0 ≤ x → x < 20 → cSet 1000000 (1 + x) = 1 + x := fun x h1 h2 => by unfold cSet; omega
    rw [en n ba.1 ba.2, en m bb.1 bb.2, en g bc.1 bc.2] at hA hB hC
    clear en
    have s1 := hX0.size
    have s2 := hX1.size
    have s3 := hX2.size
    have s4 := hX3.size
    have s5 := hX4.size
    have s6 := hX5.size
    have hX := (((((hX0.trans hX1).trans hX2).trans hX3).trans hX4).trans hX5).trans hX6
    have hBW : Below W.heap.size W w6 := Chg.to_below hX
    have lA := hA.lt
    have lB := hB.lt
    have dAB : ∀ x ∈ A.all, x ∉ B.all := fun x h1 h2 => by have := lA x h1; have := hB0 x h2; omega
    have dAC : ∀ x ∈ A.all, x ∉ C.all := fun x h1 h2 => by have := lA x h1; have := hC0 x h2; omega
    have dBC : ∀ x ∈ B.all, x ∉ C.all := fun x h1 h2 => by have := lB x h1; have := hC0 x h2; omega
    have oA : ∀ x ∈ A.all, W.heap.size ≤ x := fun x h1 => by have := hA0 x h1; omega
    have oB : ∀ x ∈ B.all, W.heap.size ≤ x := fun x h1 => by have := hB0 x h1; omega
    have oC : ∀ x ∈ C.all, W.heap.size ≤ x := fun x h1 => by have := hC0 x h1; omega
    replace hA := Tal.keep ((hX3.trans hX4).trans (hX5.trans hX6)) hA (by simp)
    replace hB := Tal.keep (hX5.trans hX6) hB (by simp)
    have hok : TS.ok ⟨0, 0, 0, 1 + n, 1 + m, 1 + g⟩ := ⟨by simp; omega, by simp; omega, by simp; omega⟩
    generalize TS.mk 0 0 0 (1 + n) (1 + m) (1 + g) = s0 at *
    clear hX0 hX1 hX2 hX3 hX4 hX5 hX6 s1 s2 s3 s4 s5 s6 hX lA lB hA0 hB0 hC0 ba bb bc
    go_wp2_with fail
    generalize wrap64 ((IntKind.u64.wrap d).tmod (↑len + 1)) = cut at *
    have kAB : ∀ b ∈ B.all, b ∉ A.cs := fun b hb hc => dAB b (cs_sub hc) hb
    have kAC : ∀ b ∈ C.all, b ∉ A.cs := fun b hb hc => dAC b (cs_sub hc) hb
    have kBA : ∀ b ∈ A.all, b ∉ B.cs := fun b hb hc => dAB b hb (cs_sub hc)
    have kBC : ∀ b ∈ C.all, b ∉ B.cs := fun b hb hc => dBC b (cs_sub hc) hb
    have kCA : ∀ b ∈ A.all, b ∉ C.cs := fun b hb hc => dAC b hb (cs_sub hc)
    have kCB : ∀ b ∈ B.all, b ∉ C.cs := fun b hb hc => dBC b hb (cs_sub hc)
    have uA : ∀ b ∈ A.cs, W.heap.size ≤ b := fun b hb => oA b (cs_sub hb)
    have uB : ∀ b ∈ B.cs, W.heap.size ≤ b := fun b hb => oB b (cs_sub hb)
    have uC : ∀ b ∈ C.cs, W.heap.size ≤ b := fun b hb => oC b (cs_sub hb)
    clear dAB dAC dBC oA oB oC
    go_loopg [73] len (fun gk i wr => ∃ (k : Nat) (s r : TS), k + gk = len ∧ i = .int .i64 k ∧ Below W.heap.size W wr ∧ Tal wr A s ∧ Tal wr B s ∧ Tal wr C r ∧ s.ok ∧ (r.mv = s.mv ∧ r.md = s.md ∧ r.mg = s.mg) ∧ (cut < k → r = s))
    case atStart => exact ⟨0, s0, s0, by omega, rfl, hBW, hA, hB, hC, hok, ⟨rfl, rfl, rfl⟩, fun _ => rfl⟩
    case round =>
      clear hA hB hC hok hBW bd
      obtain ⟨k, s, r, hk, rfl, hBl, hA, hB, hC, hok, hlim, hr⟩ := hrel
      have hk' : k ≤ len := by omega
      by_cases hlt : k < len
      · obtain ⟨b', off, rfl, hb, hc0, hc1, hK, hN⟩ := hcell k hlt
        have Hk := Lib.hid hk
        have Hl := Lib.hid hlim
        clear hcell hk hlim
        have c0 := (hBl.cell (p := ⟨b', off + k * 2, none⟩) hb).trans hc0
        have c1 := (hBl.cell (p := ⟨b', off + k * 2 + 1, none⟩) hb).trans hc1
        clear hc0 hc1
        generalize K k = x at *
        generalize N k = y at *
        go_upto_if 80 with fail
        have hZ := At.new wr #[.int .i64 x, .int .i64 y] 31
        have hX : Chg [] wr (wr.alloc (.cells #[.int .i64 x, .int .i64 y] 31)) := (Chg.refl _ _).alloc _
        have hAa := Tal.keep hX hA (by simp)
        have hBa := Tal.keep hX hB (by simp)
        have hCa := Tal.keep hX hC (by simp)
        have hBe := Chg.below hBl hX hBl.size (by simp)
        have hzW : W.heap.size ≤ wr.heap.size := hBl.size
        have zA : wr.heap.size ∉ A.all := fun hb => by have := hA.lt _ hb; omega
        have zB : wr.heap.size ∉ B.all := fun hb => by have := hB.lt _ hb; omega
        have zC : wr.heap.size ∉ C.all := fun hb => by have := hC.lt _ hb; omega
        clear c0 c1 hA hB hC hBl hX
        have hB0 := Lib.hid hb
        clear hb
        generalize hz : wr.heap.size = z at *
        clear hz
        generalize wr.alloc (.cells #[.int .i64 x, .int .i64 y] 31) = wa at *
        go_cut [] (fun w => ∃ r', Tal w A s ∧ Tal w B s ∧ Tal w C r' ∧ (r'.mv = s.mv ∧ r'.md = s.md ∧ r'.mg = s.mg) ∧ (cut ≤ k → r' = s) ∧ At w z #[.int .i64 x, .int .i64 y] ∧ Below W.heap.size W w)
        case first =>
          by_cases he : (k : Int) = cut
          · obtain rfl := he
            go_wp2_with (first
              | (go_at_call 10; refine (tCounts_any _ A _ hAa).mono ?_; rintro e w1 ⟨rfl, hX1⟩; have hC1 := Tal.keep hX1 hCa (by simp))
              | (go_at_call 12; refine (tSet_any _ C _ s.v s.d s.g hC1).mono ?_; rintro e w2 ⟨rfl, hC2, hX2⟩))
            go_meet
            rw [set_self hok Hl.out.1 Hl.out.2.1 Hl.out.2.2] at hC2
            have hB1 := Chg.below hBe hX1 hBe.size (by simp)
            exact ⟨s, Tal.keep hX2 (Tal.keep hX1 hAa (by simp)) kCA, Tal.keep hX2 (Tal.keep hX1 hBa (by simp)) kCB, hC2, ⟨rfl, rfl, rfl⟩, fun _ => rfl, hX2.at (hX1.at hZ (by simp)) (fun h => zC (cs_sub h)), Chg.below hB1 hX2 hB1.size uC⟩
          · have he' : ((k : Int) == cut) = false := by simpa using he
            go_wp2_with fail
            go_meet
            exact ⟨r, hAa, hBa, hCa, Hl.out, fun h => hr (by omega), hZ, hBe⟩
        clear hAa hBa hCa hZ hBe hr hl63
        obtain ⟨r', hA, hB, hC, hlim, hr, hZ, hBl⟩ := hcut
        have d0 := hZ.cell 0
        have d1 := hZ.cell 1
        have Hm := Lib.hid hlim
        have Ho := Lib.hid (cyc_ok hok x y)
        have Hs := Lib.hid (cyc_swap s y x)
        clear hlim Hl
        by_cases hle : cut ≤ (k : Int)
        · obtain rfl : r' = s := hr hle
          clear hr
          go_wp2_with (first
            | (go_at_call 9; (with_reducible refine (tCycle_any _ A _ x y hA hok).mono ?_); rintro e w1 ⟨rfl, hA1, hX1⟩; have hB1 := Tal.keep hX1 hB kAB; have hC1 := Tal.keep hX1 hC kAC; have hZ1 := hX1.at hZ (fun h => zA (cs_sub h)); have d2 := hZ1.cell 0; have d3 := hZ1.cell 1)
            | (go_at_call 9; (with_reducible refine (tCycle_any _ B _ y x hB1 hok).mono ?_); rintro e w2 ⟨rfl, hB2, hX2⟩; rw [Hs.out] at hB2; have hA2 := Tal.keep hX2 hA1 kBA; have hC2 := Tal.keep hX2 hC1 kBC; have hZ2 := hX2.at hZ1 (fun h => zB (cs_sub h)); have d4 := hZ2.cell 0; have d5 := hZ2.cell 1)
            | (go_at_call 9; (with_reducible refine (tCycle_any _ C _ x y hC2 hok).mono ?_); rintro e w3 ⟨rfl, hC3, hX3⟩; have hA3 := Tal.keep hX3 hA2 kCA; have hB3 := Tal.keep hX3 hB2 kCB)
            | (go_at_call 10; (with_reducible refine (tCounts_any _ A _ hA3).mono ?_); rintro e w4 ⟨rfl, hX4⟩; have hB4 := Tal.keep hX4 hB3 (by simp); have hC4 := Tal.keep hX4 hC3 (by simp))
            | (go_at_call 10; (with_reducible refine (tCounts_any _ B _ hB4).mono ?_); rintro e w5 ⟨rfl, hX5⟩; have hC5 := Tal.keep hX5 hC4 (by simp))
            | (go_at_call 10; (with_reducible refine (tCounts_any _ C _ hC5).mono ?_); rintro e w6 ⟨rfl, hX6⟩))
          have q1 := Chg.below hBl hX1 hBl.size uA
          have q2 := Chg.below q1 hX2 q1.size uB
          have q3 := Chg.below q2 hX3 q2.size uC
          have q4 := Chg.below q3 hX4 q3.size (by simp)
          have q5 := Chg.below q4 hX5 q4.size (by simp)
          have q6 := Chg.below q5 hX6 q5.size (by simp)
          go_roundg (gk - 1)
          case measure => have := Hk.out; omega
          case rel => exact ⟨k + 1, r'.cyc x y, r'.cyc x y, by have := Hk.out; omega, by go_num, q6, Tal.keep hX6 (Tal.keep hX5 (Tal.keep hX4 hA3 (by simp)) (by simp)) (by simp), Tal.keep hX6 (Tal.keep hX5 hB4 (by simp)) (by simp), Tal.keep hX6 hC5 (by simp), Ho.out.1, ⟨rfl, rfl, rfl⟩, fun _ => rfl⟩
        · clear hr
          go_wp2_with (first
            | (go_at_call 9; (with_reducible refine (tCycle_any _ A _ x y hA hok).mono ?_); rintro e w1 ⟨rfl, hA1, hX1⟩; have hB1 := Tal.keep hX1 hB kAB; have hC1 := Tal.keep hX1 hC kAC; have hZ1 := hX1.at hZ (fun h => zA (cs_sub h)); have d2 := hZ1.cell 0; have d3 := hZ1.cell 1)
            | (go_at_call 9; (with_reducible refine (tCycle_any _ B _ y x hB1 hok).mono ?_); rintro e w2 ⟨rfl, hB2, hX2⟩; rw [Hs.out] at hB2; have hA2 := Tal.keep hX2 hA1 kBA; have hC2 := Tal.keep hX2 hC1 kBC)
            | (go_at_call 10; (with_reducible refine (tCounts_any _ A _ hA2).mono ?_); rintro e w4 ⟨rfl, hX4⟩; have hB4 := Tal.keep hX4 hB2 (by simp); have hC4 := Tal.keep hX4 hC2 (by simp))
            | (go_at_call 10; (with_reducible refine (tCounts_any _ B _ hB4).mono ?_); rintro e w5 ⟨rfl, hX5⟩; have hC5 := Tal.keep hX5 hC4 (by simp))
            | (go_at_call 10; (with_reducible refine (tCounts_any _ C _ hC5).mono ?_); rintro e w6 ⟨rfl, hX6⟩))
          have q1 := Chg.below hBl hX1 hBl.size uA
          have q2 := Chg.below q1 hX2 q1.size uB
          have q4 := Chg.below q2 hX4 q2.size (by simp)
          have q5 := Chg.below q4 hX5 q4.size (by simp)
          have q6 := Chg.below q5 hX6 q5.size (by simp)
          go_roundg (gk - 1)
          case measure => have := Hk.out; omega
          case rel => exact ⟨k + 1, s.cyc x y, r', by have := Hk.out; omega, by go_num, q6, Tal.keep hX6 (Tal.keep hX5 (Tal.keep hX4 hA2 (by simp)) (by simp)) (by simp), Tal.keep hX6 (Tal.keep hX5 hB4 (by simp)) (by simp), Tal.keep hX6 hC5 (by simp), Ho.out.1, ⟨Hm.out.1.trans Ho.out.2.1.symm, Hm.out.2.1.trans Ho.out.2.2.1.symm, Hm.out.2.2.trans Ho.out.2.2.2.symm⟩, fun h => absurd h (by omega)⟩
      · clear hcell
        go_wp2
        go_ret
        exact ⟨rfl, hBl⟩
end Go.Proofs.Ytnjakhmkpaeifaa
