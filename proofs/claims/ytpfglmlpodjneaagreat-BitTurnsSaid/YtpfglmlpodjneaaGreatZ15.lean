/- Rsm, Rsp, Rfw, Rsa, Wft. -/
import Derived.Test.YtpfglmlpodjneaaGreatZ14
import Derived.LoopTactic
import Derived.Handy
import Derived.Deep.LoopGhost
set_option linter.unusedSimpArgs false
set_option linter.unusedVariables false
namespace Go.Proofs.YtpfglmlpodjneaaGreat
open Go.RowKit

theorem ite_ne2 {p q : PtV} (h : eqB p q = false) {α : Sort _} (a b : α) : (if p.x = q.x then if p.y = q.y then b else a else a) = a := ite_ne h b a
def sameB (L M : List PtV) : Bool := (L.length == M.length) && (List.range L.length).all fun i => eqB (ptg L i) (ptg M i)
theorem same_iff (L M : List PtV) : sameB L M = true ↔ L.length = M.length ∧ ∀ i, i < L.length → eqB (ptg L i) (ptg M i) = true := by
  simp [sameB, List.all_eq_true, List.mem_range]
set_option maxHeartbeats 4000000 in
set_option maxRecDepth 10000 in
theorem rsame_any (W : World) (v u : Value) (L M : List PtV) (h : PtsR W v L) (h' : PtsR W u M) : Calls Tryz.prog 42 #[v, u] W fun e w' => e = .returned (.bool (sameB L M)) ∧ Chg [] W w' := by
  have HI := Lib.hid (same_iff L M)
  have HN : Hid (∀ i, i < L.length → eqB (ptg L i) (ptg M i) = false → sameB L M = false) := Lib.hid (fun i hi he => by
    cases hs : sameB L M
    · rfl
    · rw [same_iff] at hs; rw [hs.2 i hi] at he; cases he)
  have hX := Chg.refl [] W
  by_cases hlen : L.length = M.length
  · obtain ⟨hm, h⟩ := h
    obtain ⟨hm2, h'⟩ := h'
    rcases h with ⟨rfl, ad, cap, rfl⟩ | ⟨b, off, cap, rfl, h0, hc⟩
    · have hM : M = [] := List.length_eq_zero_iff.1 hlen.symm
      subst hM
      rcases h' with ⟨_, ad2, cap2, rfl⟩ | ⟨b2, off2, cap2, rfl, h02, _⟩
      · have HT : Hid (sameB [] [] = true) := Lib.hid rfl
        generalize sameB [] [] = R at *
        go_enter Tryz.func42, Tryz.ntmps42
        go_wp2_with fail
        go_loopg [5] 0 (fun gk ii wr => ii = .int .i64 0 ∧ wr = W)
        case atStart => exact ⟨rfl, rfl⟩
        case round =>
          obtain ⟨rfl, rfl⟩ := hrel
          go_wp2
          all_goals go_returns
          all_goals exact ⟨ret_bool (by rw [HT.out]), hX⟩
      · simp at h02
    · rcases h' with ⟨rfl, _⟩ | ⟨b2, off2, cap2, rfl, h02, hc2⟩
      · simp at hlen; rw [hlen] at h0; simp at h0
      · have Hc := Lib.hid hc
        have Hc2 := Lib.hid hc2
        clear hc hc2
        have HM : Hid (∀ i, i < L.length → M[i]? = some (ptg M i)) := Lib.hid (fun i hi => ptg_get M i (by omega))
        have HA : Hid ((∀ i, i < L.length → eqB (ptg L i) (ptg M i) = true) → sameB L M = true) := Lib.hid (fun h => (same_iff L M).2 ⟨hlen, h⟩)
        clear HI
        rw [← hlen] at *
        have HL : Hid (∀ i, i < L.length → L[i]? = some (ptg L i)) := Lib.hid (fun i hi => ptg_get L i hi)
        generalize sameB L M = R at *
        clear hlen
        generalize L.length = n at *
        go_enter Tryz.func42, Tryz.ntmps42
        go_wp2_with fail
        go_loopg [5] n (fun gk ii wr => ∃ i : Nat, i + gk = n ∧ ii = .int .i64 i ∧ Chg [] W wr ∧ Hid (∀ j, j < i → eqB (ptg L j) (ptg M j) = true))
        case atStart => exact ⟨0, by omega, rfl, Chg.refl _ _, Lib.hid (fun j h => by omega)⟩
        case round =>
          clear hX
          obtain ⟨i, hi, rfl, hX, HP⟩ := hrel
          by_cases hlt : i < n
          · have Hp := Lib.hid (HL.out i hlt)
            have Hq := Lib.hid (HM.out i hlt)
            have g0 : (0 : Int) ≤ (i : Int) := by omega
            have g1 : (i : Int) < (n : Int) := by omega
            have g2 : (i : Int).toNat = i := by omega
            have HNi := Lib.hid (HN.out i hlt)
            have HPi : Hid (eqB (ptg L i) (ptg M i) = true → ∀ j, j < i + 1 → eqB (ptg L j) (ptg M j) = true) := Lib.hid (fun he j hj => by
              by_cases e : j = i
              · subst e; exact he
              · exact HP.out j (by omega))
            generalize hp : ptg L i = p at Hp HNi HPi
            generalize hq : ptg M i = q at Hq HNi HPi
            clear hp hq
            go_upto_region 6 with fail
            cases hE : eqB p q with
            | true =>
              have hx : p.x = q.x ∧ p.y = q.y := by unfold eqB at hE; simpa using hE
              obtain ⟨hx, hy⟩ := hx
              have HP2 := Lib.hid (HPi.out hE)
              clear hE
              refine wp_region_ex (fun _ w => Chg [] W w) (fun _ => Chg []) [] [(0, 0, false), (0, 0, false), (0, 0, false), (0, 0, false), (0, 0, false), (0, 0, false), (0, 0, false), (0, 0, false), (0, 0, false)] [17, 18, 19, 20, 21, 22, 23, 24, 25] (by kernel_rfl) rfl (by kernel_rfl) (by kernel_rfl) (hX.drew) ?_
              simp only [List.zip_cons_cons, List.zip_nil_right]
              refine ex_det 17 [0] rfl rfl (fun _ _ _ _ _ _ _ _ => rfl) ?_
              apply Exists.intro
              refine ⟨?_, ?_⟩
              · intro wx bX kX hk1 hk2 hC hb hd K hK
                have e0 := hb 0 rfl
                simp only [exSlot, List.getD_cons_succ, List.getD_cons_zero] at e0
                simp only [execOp, e0]
                clear hb hd
                go_simp
                exact hK _ hC (Chg.refl _ _)
              refine ex_det 18 [5] rfl rfl (fun _ _ _ _ _ _ _ _ => rfl) ?_
              apply Exists.intro
              refine ⟨?_, ?_⟩
              · intro wx bX kX hk1 hk2 hC hb hd K hK
                have e5 := hb 5 rfl
                simp only [exSlot, List.getD_cons_succ, List.getD_cons_zero] at e5
                simp only [execOp, e5]
                clear hb hd
                go_simp
                exact hK _ hC (Chg.refl _ _)
              refine ex_det 19 [17, 18] rfl rfl (fun _ _ _ _ _ _ _ _ => rfl) ?_
              apply Exists.intro
              refine ⟨?_, ?_⟩
              · intro wx bX kX hk1 hk2 hC hb hd K hK
                have e17 := hd 17 _ _ rfl rfl
                try dsimp only at e17
                have e18 := hd 18 _ _ rfl rfl
                try dsimp only at e18
                simp only [execOp, e17, e18]
                clear hb hd
                go_simp
                exact hK _ hC (Chg.refl _ _)
              refine ex_det 20 [19] rfl rfl (fun _ _ _ _ _ _ _ _ => rfl) ?_
              apply Exists.intro
              refine ⟨?_, ?_⟩
              · intro wx bX kX hk1 hk2 hC hb hd K hK
                have e19 := hd 19 _ _ rfl rfl
                try dsimp only at e19
                have d0 := hC.cell (Hc.out i p Hp.out).1 (by simp)
                have d1 := hC.cell (Hc.out i p Hp.out).2 (by simp)
                have d2 := hC.cell (Hc2.out i q Hq.out).1 (by simp)
                have d3 := hC.cell (Hc2.out i q Hq.out).2 (by simp)
                simp only [execOp, e19]
                clear hb hd
                go_simp
                exact hK _ hC (Chg.refl _ _)
              refine ex_det 21 [1] rfl rfl (fun _ _ _ _ _ _ _ _ => rfl) ?_
              apply Exists.intro
              refine ⟨?_, ?_⟩
              · intro wx bX kX hk1 hk2 hC hb hd K hK
                have e1 := hb 1 rfl
                simp only [exSlot, List.getD_cons_succ, List.getD_cons_zero] at e1
                simp only [execOp, e1]
                clear hb hd
                go_simp
                exact hK _ hC (Chg.refl _ _)
              refine ex_det 22 [5] rfl rfl (fun _ _ _ _ _ _ _ _ => rfl) ?_
              apply Exists.intro
              refine ⟨?_, ?_⟩
              · intro wx bX kX hk1 hk2 hC hb hd K hK
                have e5 := hb 5 rfl
                simp only [exSlot, List.getD_cons_succ, List.getD_cons_zero] at e5
                simp only [execOp, e5]
                clear hb hd
                go_simp
                exact hK _ hC (Chg.refl _ _)
              refine ex_det 23 [21, 22] rfl rfl (fun _ _ _ _ _ _ _ _ => rfl) ?_
              apply Exists.intro
              refine ⟨?_, ?_⟩
              · intro wx bX kX hk1 hk2 hC hb hd K hK
                have e21 := hd 21 _ _ rfl rfl
                try dsimp only at e21
                have e22 := hd 22 _ _ rfl rfl
                try dsimp only at e22
                simp only [execOp, e21, e22]
                clear hb hd
                go_simp
                exact hK _ hC (Chg.refl _ _)
              refine ex_det 24 [23] rfl rfl (fun _ _ _ _ _ _ _ _ => rfl) ?_
              apply Exists.intro
              refine ⟨?_, ?_⟩
              · intro wx bX kX hk1 hk2 hC hb hd K hK
                have e23 := hd 23 _ _ rfl rfl
                try dsimp only at e23
                have d0 := hC.cell (Hc.out i p Hp.out).1 (by simp)
                have d1 := hC.cell (Hc.out i p Hp.out).2 (by simp)
                have d2 := hC.cell (Hc2.out i q Hq.out).1 (by simp)
                have d3 := hC.cell (Hc2.out i q Hq.out).2 (by simp)
                simp only [execOp, e23]
                clear hb hd
                go_simp
                exact hK _ hC (Chg.refl _ _)
              refine ex_det 25 [20, 24] rfl rfl (fun _ _ _ _ _ _ _ _ => rfl) ?_
              apply Exists.intro
              refine ⟨?_, ?_⟩
              · intro wx bX kX hk1 hk2 hC hb hd K hK
                have e20 := hd 20 _ _ rfl rfl
                try dsimp only at e20
                have e24 := hd 24 _ _ rfl rfl
                try dsimp only at e24
                simp only [execOp, e20, e24]
                clear hb hd
                go_simp
                exact hK _ hC (Chg.refl _ _)
              refine ex_end ?_
              intro us w2 hus hC hall
              obtain ⟨v0, us, rfl⟩ := List.exists_cons_of_length_eq_add_one hus
              replace hus := Nat.succ.inj hus
              obtain ⟨v1, us, rfl⟩ := List.exists_cons_of_length_eq_add_one hus
              replace hus := Nat.succ.inj hus
              obtain ⟨v2, us, rfl⟩ := List.exists_cons_of_length_eq_add_one hus
              replace hus := Nat.succ.inj hus
              obtain ⟨v3, us, rfl⟩ := List.exists_cons_of_length_eq_add_one hus
              replace hus := Nat.succ.inj hus
              obtain ⟨v4, us, rfl⟩ := List.exists_cons_of_length_eq_add_one hus
              replace hus := Nat.succ.inj hus
              obtain ⟨v5, us, rfl⟩ := List.exists_cons_of_length_eq_add_one hus
              replace hus := Nat.succ.inj hus
              obtain ⟨v6, us, rfl⟩ := List.exists_cons_of_length_eq_add_one hus
              replace hus := Nat.succ.inj hus
              obtain ⟨v7, us, rfl⟩ := List.exists_cons_of_length_eq_add_one hus
              replace hus := Nat.succ.inj hus
              obtain ⟨v8, us, rfl⟩ := List.exists_cons_of_length_eq_add_one hus
              replace hus := Nat.succ.inj hus
              obtain rfl := List.length_eq_zero_iff.1 hus
              clear hus
              generalize hbb : exPuts _ _ _ = bb at hall ⊢
              simp only [exPuts, Act.put, List.setIfInBounds_toArray, List.set_cons_succ, List.set_cons_zero] at hbb
              subst hbb
              obtain ⟨h8, h7, h6, h5, h4, h3, h2, h1, h0, -⟩ := hall
              obtain rfl : v0 = _ := h0
              obtain rfl : v1 = _ := h1
              obtain rfl : v2 = _ := h2
              obtain rfl : v3 = _ := h3
              obtain rfl : v4 = _ := h4
              obtain rfl : v5 = _ := h5
              obtain rfl : v6 = _ := h6
              obtain rfl : v7 = _ := h7
              obtain rfl : v8 = _ := h8
              go_wp2_with fail
              go_roundg (gk - 1)
              case rel => exact ⟨i + 1, by omega, by go_num, hC, HP2⟩
              case measure => omega
            | false =>
              have HE := Lib.hid hE
              have HF := Lib.hid (HNi.out hE)
              clear hE
              refine wp_region_ex (fun _ w => Chg [] W w) (fun _ => Chg []) [] [(0, 0, false), (0, 0, false), (0, 0, false), (0, 0, false), (0, 0, false), (0, 0, false), (0, 0, false), (0, 0, false), (0, 0, false)] [17, 18, 19, 20, 21, 22, 23, 24, 25] (by kernel_rfl) rfl (by kernel_rfl) (by kernel_rfl) (hX.drew) ?_
              simp only [List.zip_cons_cons, List.zip_nil_right]
              refine ex_det 17 [0] rfl rfl (fun _ _ _ _ _ _ _ _ => rfl) ?_
              apply Exists.intro
              refine ⟨?_, ?_⟩
              · intro wx bX kX hk1 hk2 hC hb hd K hK
                have e0 := hb 0 rfl
                simp only [exSlot, List.getD_cons_succ, List.getD_cons_zero] at e0
                simp only [execOp, e0]
                clear hb hd
                go_simp
                exact hK _ hC (Chg.refl _ _)
              refine ex_det 18 [5] rfl rfl (fun _ _ _ _ _ _ _ _ => rfl) ?_
              apply Exists.intro
              refine ⟨?_, ?_⟩
              · intro wx bX kX hk1 hk2 hC hb hd K hK
                have e5 := hb 5 rfl
                simp only [exSlot, List.getD_cons_succ, List.getD_cons_zero] at e5
                simp only [execOp, e5]
                clear hb hd
                go_simp
                exact hK _ hC (Chg.refl _ _)
              refine ex_det 19 [17, 18] rfl rfl (fun _ _ _ _ _ _ _ _ => rfl) ?_
              apply Exists.intro
              refine ⟨?_, ?_⟩
              · intro wx bX kX hk1 hk2 hC hb hd K hK
                have e17 := hd 17 _ _ rfl rfl
                try dsimp only at e17
                have e18 := hd 18 _ _ rfl rfl
                try dsimp only at e18
                simp only [execOp, e17, e18]
                clear hb hd
                go_simp
                exact hK _ hC (Chg.refl _ _)
              refine ex_det 20 [19] rfl rfl (fun _ _ _ _ _ _ _ _ => rfl) ?_
              apply Exists.intro
              refine ⟨?_, ?_⟩
              · intro wx bX kX hk1 hk2 hC hb hd K hK
                have e19 := hd 19 _ _ rfl rfl
                try dsimp only at e19
                have d0 := hC.cell (Hc.out i p Hp.out).1 (by simp)
                have d1 := hC.cell (Hc.out i p Hp.out).2 (by simp)
                have d2 := hC.cell (Hc2.out i q Hq.out).1 (by simp)
                have d3 := hC.cell (Hc2.out i q Hq.out).2 (by simp)
                simp only [execOp, e19]
                clear hb hd
                go_simp
                exact hK _ hC (Chg.refl _ _)
              refine ex_det 21 [1] rfl rfl (fun _ _ _ _ _ _ _ _ => rfl) ?_
              apply Exists.intro
              refine ⟨?_, ?_⟩
              · intro wx bX kX hk1 hk2 hC hb hd K hK
                have e1 := hb 1 rfl
                simp only [exSlot, List.getD_cons_succ, List.getD_cons_zero] at e1
                simp only [execOp, e1]
                clear hb hd
                go_simp
                exact hK _ hC (Chg.refl _ _)
              refine ex_det 22 [5] rfl rfl (fun _ _ _ _ _ _ _ _ => rfl) ?_
              apply Exists.intro
              refine ⟨?_, ?_⟩
              · intro wx bX kX hk1 hk2 hC hb hd K hK
                have e5 := hb 5 rfl
                simp only [exSlot, List.getD_cons_succ, List.getD_cons_zero] at e5
                simp only [execOp, e5]
                clear hb hd
                go_simp
                exact hK _ hC (Chg.refl _ _)
              refine ex_det 23 [21, 22] rfl rfl (fun _ _ _ _ _ _ _ _ => rfl) ?_
              apply Exists.intro
              refine ⟨?_, ?_⟩
              · intro wx bX kX hk1 hk2 hC hb hd K hK
                have e21 := hd 21 _ _ rfl rfl
                try dsimp only at e21
                have e22 := hd 22 _ _ rfl rfl
                try dsimp only at e22
                simp only [execOp, e21, e22]
                clear hb hd
                go_simp
                exact hK _ hC (Chg.refl _ _)
              refine ex_det 24 [23] rfl rfl (fun _ _ _ _ _ _ _ _ => rfl) ?_
              apply Exists.intro
              refine ⟨?_, ?_⟩
              · intro wx bX kX hk1 hk2 hC hb hd K hK
                have e23 := hd 23 _ _ rfl rfl
                try dsimp only at e23
                have d0 := hC.cell (Hc.out i p Hp.out).1 (by simp)
                have d1 := hC.cell (Hc.out i p Hp.out).2 (by simp)
                have d2 := hC.cell (Hc2.out i q Hq.out).1 (by simp)
                have d3 := hC.cell (Hc2.out i q Hq.out).2 (by simp)
                simp only [execOp, e23]
                clear hb hd
                go_simp
                exact hK _ hC (Chg.refl _ _)
              refine ex_det 25 [20, 24] rfl rfl (fun _ _ _ _ _ _ _ _ => rfl) ?_
              apply Exists.intro
              refine ⟨?_, ?_⟩
              · intro wx bX kX hk1 hk2 hC hb hd K hK
                have e20 := hd 20 _ _ rfl rfl
                try dsimp only at e20
                have e24 := hd 24 _ _ rfl rfl
                try dsimp only at e24
                simp only [execOp, e20, e24]
                clear hb hd
                go_simp
                rw [ite_ne2 HE.out]; exact hK _ hC (Chg.refl _ _)
              refine ex_end ?_
              intro us w2 hus hC hall
              obtain ⟨v0, us, rfl⟩ := List.exists_cons_of_length_eq_add_one hus
              replace hus := Nat.succ.inj hus
              obtain ⟨v1, us, rfl⟩ := List.exists_cons_of_length_eq_add_one hus
              replace hus := Nat.succ.inj hus
              obtain ⟨v2, us, rfl⟩ := List.exists_cons_of_length_eq_add_one hus
              replace hus := Nat.succ.inj hus
              obtain ⟨v3, us, rfl⟩ := List.exists_cons_of_length_eq_add_one hus
              replace hus := Nat.succ.inj hus
              obtain ⟨v4, us, rfl⟩ := List.exists_cons_of_length_eq_add_one hus
              replace hus := Nat.succ.inj hus
              obtain ⟨v5, us, rfl⟩ := List.exists_cons_of_length_eq_add_one hus
              replace hus := Nat.succ.inj hus
              obtain ⟨v6, us, rfl⟩ := List.exists_cons_of_length_eq_add_one hus
              replace hus := Nat.succ.inj hus
              obtain ⟨v7, us, rfl⟩ := List.exists_cons_of_length_eq_add_one hus
              replace hus := Nat.succ.inj hus
              obtain ⟨v8, us, rfl⟩ := List.exists_cons_of_length_eq_add_one hus
              replace hus := Nat.succ.inj hus
              obtain rfl := List.length_eq_zero_iff.1 hus
              clear hus
              generalize hbb : exPuts _ _ _ = bb at hall ⊢
              simp only [exPuts, Act.put, List.setIfInBounds_toArray, List.set_cons_succ, List.set_cons_zero] at hbb
              subst hbb
              obtain ⟨h8, h7, h6, h5, h4, h3, h2, h1, h0, -⟩ := hall
              obtain rfl : v0 = _ := h0
              obtain rfl : v1 = _ := h1
              obtain rfl : v2 = _ := h2
              obtain rfl : v3 = _ := h3
              obtain rfl : v4 = _ := h4
              obtain rfl : v5 = _ := h5
              obtain rfl : v6 = _ := h6
              obtain rfl : v7 = _ := h7
              obtain rfl : v8 = _ := h8
              go_wp2
              all_goals go_returns
              all_goals exact ⟨ret_bool (by rw [HF.out]), hC⟩
          · obtain rfl : gk = 0 := by omega
            obtain rfl : i = n := by omega
            have HT : Hid (R = true) := Lib.hid (HA.out HP.out)
            go_wp2
            all_goals go_returns
            all_goals exact ⟨ret_bool (by rw [HT.out]), hX⟩
  · have HF : Hid (sameB L M = false) := Lib.hid (by
      cases hs : sameB L M
      · rfl
      · rw [same_iff] at hs; exact absurd hs.1 hlen)
    obtain ⟨_, ad, cap, rfl⟩ := h.len
    obtain ⟨_, ad2, cap2, rfl⟩ := h'.len
    clear h h' HI HN
    have hne : ¬ (L.length : Int) = (M.length : Int) := by omega
    generalize sameB L M = R at *
    generalize L.length = n at *
    generalize M.length = m at *
    go_enter Tryz.func42, Tryz.ntmps42
    go_wp2
    all_goals go_returns
    all_goals exact ⟨ret_bool (by rw [HF.out]), hX⟩
end Go.Proofs.YtpfglmlpodjneaaGreat
namespace Go.Proofs.YtpfglmlpodjneaaGreat
open Go.RowKit

def samePh (p q : PhV) : Bool := sameB p.area q.area && (decide (p.g = q.g) && (decide (p.mv = q.mv) && (decide (p.mn = q.mn) && decide (p.up = q.up))))
set_option maxHeartbeats 2000000 in
set_option maxRecDepth 10000 in
theorem rsamephase_any (W : World) (va vb : Value) (p q : PhV) (h : PtsR W va p.area) (h' : PtsR W vb q.area) : Calls Tryz.prog 25 #[.agg #[va, .int .i64 p.g, .int .i64 p.mv, .int .i64 p.mn, .int .i64 p.up], .agg #[vb, .int .i64 q.g, .int .i64 q.mv, .int .i64 q.mn, .int .i64 q.up]] W fun e w' => e = .returned (.bool (samePh p q)) ∧ Chg [] W w' := by
  have hX := ((Chg.refl [] W).alloc (.cells #[va, .int .i64 p.g, .int .i64 p.mv, .int .i64 p.mn, .int .i64 p.up] 51)).alloc (.cells #[vb, .int .i64 q.g, .int .i64 q.mv, .int .i64 q.mn, .int .i64 q.up] 51)
  have hA := (At.new W #[va, .int .i64 p.g, .int .i64 p.mv, .int .i64 p.mn, .int .i64 p.up] 51).alloc (.cells #[vb, .int .i64 q.g, .int .i64 q.mv, .int .i64 q.mn, .int .i64 q.up] 51)
  have hB := At.new (W.alloc (.cells #[va, .int .i64 p.g, .int .i64 p.mv, .int .i64 p.mn, .int .i64 p.up] 51)) #[vb, .int .i64 q.g, .int .i64 q.mv, .int .i64 q.mn, .int .i64 q.up] 51
  rw [alloc_sz] at hB
  have HS := fun w (hw : Chg [] W w) => rsame_any w va vb p.area q.area (h.keep hw) (h'.keep hw)
  have Ho := Lib.hid (show samePh p q = (sameB p.area q.area && (decide (p.g = q.g) && (decide (p.mv = q.mv) && (decide (p.mn = q.mn) && decide (p.up = q.up))))) from rfl)
  clear h h'
  generalize samePh p q = R at *
  generalize sameB p.area q.area = b at *
  go_enter Tryz.func25, Tryz.ntmps25
  go_wp2_with fail
  refine (HS _ hX).mono ?_; rintro e w1 ⟨rfl, hY⟩
  replace hA := hY.at hA (by simp)
  replace hB := hY.at hB (by simp)
  replace hX := hX.trans hY
  clear hY
  have a0 := hA.cell 0
  have a1 := hA.cell 1
  have a2 := hA.cell 2
  have a3 := hA.cell 3
  have a4 := hA.cell 4
  have b0 := hB.cell 0
  have b1 := hB.cell 1
  have b2 := hB.cell 2
  have b3 := hB.cell 3
  have b4 := hB.cell 4
  cases b with
  | false =>
    go_wp2
    all_goals go_returns
    all_goals exact ⟨ret_bool (by rw [Ho.out]; rfl), hX⟩
  | true =>
    by_cases e0 : p.g = q.g
    · by_cases e1 : p.mv = q.mv
      · by_cases e2 : p.mn = q.mn
        · by_cases e3 : p.up = q.up
          · go_wp2
            all_goals go_returns
            all_goals exact ⟨ret_bool (by rw [Ho.out]; simp [*]), hX⟩
          · go_wp2
            all_goals go_returns
            all_goals exact ⟨ret_bool (by rw [Ho.out]; simp [*]), hX⟩
        · go_wp2
          all_goals go_returns
          all_goals exact ⟨ret_bool (by rw [Ho.out]; simp [*]), hX⟩
      · go_wp2
        all_goals go_returns
        all_goals exact ⟨ret_bool (by rw [Ho.out]; simp [*]), hX⟩
    · go_wp2
      all_goals go_returns
      all_goals exact ⟨ret_bool (by rw [Ho.out]; simp [*]), hX⟩
end Go.Proofs.YtpfglmlpodjneaaGreat
namespace Go.Proofs.YtpfglmlpodjneaaGreat
open Go.RowKit

def fewB (r : RuV) : Bool := (r.phs.all fun p => decide (p.area.length ≤ 12)) && decide (r.phs.length ≤ 8)
set_option maxHeartbeats 4000000 in
set_option maxRecDepth 10000 in
theorem rfew_any (W : World) (va : Value) (r : RuV) (h : PhsR W va r.phs) : Calls Tryz.prog 15 #[.agg #[va, .int .i64 r.n, .int .i64 r.d, .int .i64 r.green, .int .i64 r.eps, .int .i64 r.step, .int .i64 r.age, .int .i64 r.lift, .int .i64 r.saf]] W fun e w' => e = .returned (.bool (fewB r)) ∧ Chg [] W w' := by
  have hX := (Chg.refl [] W).alloc (.cells #[va, .int .i64 r.n, .int .i64 r.d, .int .i64 r.green, .int .i64 r.eps, .int .i64 r.step, .int .i64 r.age, .int .i64 r.lift, .int .i64 r.saf] 25)
  have hA := At.new W #[va, .int .i64 r.n, .int .i64 r.d, .int .i64 r.green, .int .i64 r.eps, .int .i64 r.step, .int .i64 r.age, .int .i64 r.lift, .int .i64 r.saf] 25
  have f0 := hA.cell 0
  have Hw := Lib.hid (show fewB r = ((r.phs.all fun p => decide (p.area.length ≤ 12)) && decide (r.phs.length ≤ 8)) from rfl)
  generalize fewB r = R at *
  obtain ⟨hm, h⟩ := h
  rcases h with ⟨e, ad, cap, rfl⟩ | ⟨b, off, cap, rfl, h0, hc⟩
  · have HT : Hid (R = true) := Lib.hid (by rw [Hw.out, e]; rfl)
    go_enter Tryz.func15, Tryz.ntmps15
    go_wp2_with fail
    go_loopg [3] 0 (fun gk ii wr => ii = .int .i64 0 ∧ wr = W.alloc (.cells #[.slice ad 0 cap, .int .i64 r.n, .int .i64 r.d, .int .i64 r.green, .int .i64 r.eps, .int .i64 r.step, .int .i64 r.age, .int .i64 r.lift, .int .i64 r.saf] 25))
    case atStart => exact ⟨rfl, rfl⟩
    case round =>
      obtain ⟨rfl, rfl⟩ := hrel
      go_wp2
      all_goals go_returns
      all_goals exact ⟨ret_bool (by rw [HT.out]), hX⟩
  · have Hc := Lib.hid hc
    clear hc
    generalize hn : r.phs.length = n at *
    have Hn := Lib.hid hn
    clear hn
    go_enter Tryz.func15, Tryz.ntmps15
    go_wp2_with fail
    go_loopg [3] n (fun gk ii wr => ∃ i : Nat, i + gk = n ∧ ii = .int .i64 i ∧ wr = W.alloc (.cells #[.slice (some ⟨b, off, none⟩) n cap, .int .i64 r.n, .int .i64 r.d, .int .i64 r.green, .int .i64 r.eps, .int .i64 r.step, .int .i64 r.age, .int .i64 r.lift, .int .i64 r.saf] 25) ∧ Hid (∀ j q, j < i → r.phs[j]? = some q → q.area.length ≤ 12))
    case atStart => exact ⟨0, by omega, rfl, rfl, Lib.hid (fun j q h => by omega)⟩
    case round =>
      obtain ⟨i, hi, rfl, rfl, HP⟩ := hrel
      by_cases hlt : i < n
      · obtain ⟨p, hp⟩ : ∃ p, r.phs[i]? = some p := ⟨r.phs[i]'(by rw [Hn.out]; exact hlt), List.getElem?_eq_getElem _⟩
        obtain ⟨ua, hua, c0, -⟩ := Hc.out i p hp
        obtain ⟨_, aa, acap, rfl⟩ := hua.len
        have d0 := hX.cell c0 (by simp)
        clear hua c0
        have Hp := Lib.hid hp
        clear hp
        have g0 : (0 : Int) ≤ (i : Int) := by omega
        have g1 : (i : Int) < (n : Int) := by omega
        have g2 : (i : Int).toNat = i := by omega
        by_cases hlong : p.area.length ≤ 12
        · have HP2 : Hid (∀ j q, j < i + 1 → r.phs[j]? = some q → q.area.length ≤ 12) := Lib.hid (fun j q hj hq => by
            by_cases e : j = i
            · subst e; rw [Hp.out] at hq; obtain rfl := Option.some.inj hq; exact hlong
            · exact HP.out j q (by omega) hq)
          generalize p.area.length = m at *
          go_wp2_with fail
          go_roundg (gk - 1)
          case rel => exact ⟨i + 1, by omega, by go_num, rfl, HP2⟩
          case measure => omega
        · have HF : Hid (R = false) := Lib.hid (by
            rw [Hw.out, show (r.phs.all fun p => decide (p.area.length ≤ 12)) = false from List.all_eq_false.2 ⟨p, List.mem_of_getElem? Hp.out, by simpa using hlong⟩]; rfl)
          generalize p.area.length = m at *
          go_wp2
          all_goals go_returns
          all_goals exact ⟨ret_bool (by rw [HF.out]), hX⟩
      · obtain rfl : gk = 0 := by omega
        obtain rfl : i = n := by omega
        have HE : Hid (R = decide (i ≤ 8)) := Lib.hid (by
          rw [Hw.out, show (r.phs.all fun p => decide (p.area.length ≤ 12)) = true from List.all_eq_true.2 (fun q hq => by
            obtain ⟨j, hj, e⟩ := List.getElem_of_mem hq
            exact decide_eq_true (HP.out j q (by rw [← Hn.out]; exact hj) (by rw [List.getElem?_eq_getElem hj, e])))]
          simp)
        by_cases h8 : i ≤ 8
        · go_wp2
          all_goals go_returns
          all_goals exact ⟨ret_bool (by rw [HE.out]; simp [h8]; try omega), hX⟩
        · go_wp2
          all_goals go_returns
          all_goals exact ⟨ret_bool (by rw [HE.out]; simp [h8]; try omega), hX⟩
end Go.Proofs.YtpfglmlpodjneaaGreat
namespace Go.Proofs.YtpfglmlpodjneaaGreat
open Go.RowKit

/-- The rules are the same (as a Prop). -/
def sameP (r s : RuV) : Prop := r.phs.length = s.phs.length ∧ (r.n = s.n ∧ r.d = s.d ∧ r.green = s.green ∧ r.eps = s.eps ∧ r.step = s.step ∧ r.age = s.age ∧ r.lift = s.lift ∧ r.saf = s.saf ∧ True) ∧ ∀ j p q, j < r.phs.length → r.phs[j]? = some p → s.phs[j]? = some q → samePh p q = true
set_option maxHeartbeats 8000000 in
set_option maxRecDepth 10000 in
theorem rrsame_any (W : World) (va vb : Value) (rp sp : List PhV) (r_n s_n r_d s_d r_green s_green r_eps s_eps r_step s_step r_age s_age r_lift s_lift r_saf s_saf : Int) (h : PhsR W va rp) (h' : PhsR W vb sp) (h0 : 0 < rp.length) (h0' : 0 < sp.length) (R : Bool) (hR : R = true ↔ sameP ⟨rp, r_n, r_d, r_green, r_eps, r_step, r_age, r_lift, r_saf⟩ ⟨sp, s_n, s_d, s_green, s_eps, s_step, s_age, s_lift, s_saf⟩) : Calls Tryz.prog 11 #[.agg #[va, .int .i64 r_n, .int .i64 r_d, .int .i64 r_green, .int .i64 r_eps, .int .i64 r_step, .int .i64 r_age, .int .i64 r_lift, .int .i64 r_saf], .agg #[vb, .int .i64 s_n, .int .i64 s_d, .int .i64 s_green, .int .i64 s_eps, .int .i64 s_step, .int .i64 s_age, .int .i64 s_lift, .int .i64 s_saf]] W fun e w' => e = .returned (.bool R) ∧ Chg [] W w' := by
  by_cases hlen : rp.length = sp.length
  · obtain ⟨hm, h⟩ := h
    obtain ⟨hm2, h'⟩ := h'
    rcases h with ⟨e, _⟩ | ⟨b, off, cap, rfl, _, hc⟩
    · rw [e] at h0; simp at h0
    · rcases h' with ⟨e, _⟩ | ⟨b2, off2, cap2, rfl, _, hc2⟩
      · rw [e] at h0'; simp at h0'
      · have Hc := Lib.hid hc
        have Hc2 := Lib.hid hc2
        clear hc hc2
        have HN : Hid (¬ (r_n = s_n ∧ r_d = s_d ∧ r_green = s_green ∧ r_eps = s_eps ∧ r_step = s_step ∧ r_age = s_age ∧ r_lift = s_lift ∧ r_saf = s_saf ∧ True) → R = false) := Lib.hid (fun hn => by
          cases R
          · rfl
          · exact absurd (hR.1 rfl).2.1 hn)
        have HB : Hid (∀ j p q, rp[j]? = some p → sp[j]? = some q → samePh p q = false → R = false) := Lib.hid (fun j p q h1 h2 h3 => by
          cases R
          · rfl
          · have := (hR.1 rfl).2.2 j p q (List.getElem?_eq_some_iff.1 h1).1 h1 h2; rw [h3] at this; cases this)
        have HY : Hid ((r_n = s_n ∧ r_d = s_d ∧ r_green = s_green ∧ r_eps = s_eps ∧ r_step = s_step ∧ r_age = s_age ∧ r_lift = s_lift ∧ r_saf = s_saf ∧ True) → (∀ j p q, j < rp.length → rp[j]? = some p → sp[j]? = some q → samePh p q = true) → R = true) := Lib.hid (fun h1 h2 => hR.2 ⟨hlen, h1, h2⟩)
        clear hR
        generalize hn : rp.length = n at *
        have Hn := Lib.hid hn
        have Hm := Lib.hid hlen.symm
        rw [← hlen]
        clear hn hlen hm2 h0'
        have hC := (((CL.new W 0).push #[.slice (some ⟨b, off, none⟩) n cap, .int .i64 r_n, .int .i64 r_d, .int .i64 r_green, .int .i64 r_eps, .int .i64 r_step, .int .i64 r_age, .int .i64 r_lift, .int .i64 r_saf] 25).push #[.slice (some ⟨b2, off2, none⟩) n cap2, .int .i64 s_n, .int .i64 s_d, .int .i64 s_green, .int .i64 s_eps, .int .i64 s_step, .int .i64 s_age, .int .i64 s_lift, .int .i64 s_saf] 25)
        simp only [alloc_sz] at hC
        have f0 := (hC.get 1 rfl).cell 0
        have f1 := (hC.get 1 rfl).cell 1
        have f2 := (hC.get 1 rfl).cell 2
        have f3 := (hC.get 1 rfl).cell 3
        have f4 := (hC.get 1 rfl).cell 4
        have f5 := (hC.get 1 rfl).cell 5
        have f6 := (hC.get 1 rfl).cell 6
        have f7 := (hC.get 1 rfl).cell 7
        have f8 := (hC.get 1 rfl).cell 8
        have k0 := (hC.get 0 rfl).cell 0
        have k1 := (hC.get 0 rfl).cell 1
        have k2 := (hC.get 0 rfl).cell 2
        have k3 := (hC.get 0 rfl).cell 3
        have k4 := (hC.get 0 rfl).cell 4
        have k5 := (hC.get 0 rfl).cell 5
        have k6 := (hC.get 0 rfl).cell 6
        have k7 := (hC.get 0 rfl).cell 7
        have k8 := (hC.get 0 rfl).cell 8
        try dsimp only at f0 f1 f2 f3 f4 f5 f6 f7 f8 k0 k1 k2 k3 k4 k5 k6 k7 k8
        go_enter Tryz.func11, Tryz.ntmps11
        by_cases e0 : r_n = s_n
        · subst e0
          by_cases e1 : r_d = s_d
          · subst e1
            by_cases e2 : r_green = s_green
            · subst e2
              by_cases e3 : r_eps = s_eps
              · subst e3
                by_cases e4 : r_step = s_step
                · subst e4
                  by_cases e5 : r_age = s_age
                  · subst e5
                    by_cases e6 : r_lift = s_lift
                    · subst e6
                      by_cases e7 : r_saf = s_saf
                      · subst e7
                        go_wp2_with fail
                        go_loopg [5] n (fun gk ii wr => ∃ i : Nat, i + gk = n ∧ ii = .int .i64 i ∧ CL W [(W.heap.size + 1, #[.slice (some ⟨b2, off2, none⟩) n cap2, .int .i64 r_n, .int .i64 r_d, .int .i64 r_green, .int .i64 r_eps, .int .i64 r_step, .int .i64 r_age, .int .i64 r_lift, .int .i64 r_saf]), (W.heap.size, #[.slice (some ⟨b, off, none⟩) n cap, .int .i64 r_n, .int .i64 r_d, .int .i64 r_green, .int .i64 r_eps, .int .i64 r_step, .int .i64 r_age, .int .i64 r_lift, .int .i64 r_saf])] 0 wr ∧ Hid (∀ j p q, j < i → rp[j]? = some p → sp[j]? = some q → samePh p q = true))
                        case atStart => exact ⟨0, by omega, rfl, hC, Lib.hid (fun j p q h => by omega)⟩
                        case round =>
                          clear hC f0 f1 f2 f3 f4 f5 f6 f7 f8 k0 k1 k2 k3 k4 k5 k6 k7 k8
                          obtain ⟨i, hi, rfl, hC, HP⟩ := hrel
                          have f0 := (hC.get 1 rfl).cell 0
                          try dsimp only at f0
                          by_cases hlt : i < n
                          · obtain ⟨p, hp⟩ : ∃ p, rp[i]? = some p := ⟨rp[i]'(by rw [Hn.out]; exact hlt), List.getElem?_eq_getElem _⟩
                            obtain ⟨q, hq⟩ : ∃ p, sp[i]? = some p := ⟨sp[i]'(by rw [Hm.out]; exact hlt), List.getElem?_eq_getElem _⟩
                            obtain ⟨ua, hua, HcP⟩ := Hc.out i p hp
                            obtain ⟨ub, hub, HcQ⟩ := Hc2.out i q hq
                            replace HcP := Lib.hid HcP
                            replace HcQ := Lib.hid HcQ
                            have HS := fun w (hw : Chg [] W w) => rsamephase_any w ua ub p q (hua.keep hw) (hub.keep hw)
                            clear hua hub
                            have Hp := Lib.hid hp
                            have Hq := Lib.hid hq
                            clear hp hq
                            have HPi : Hid (samePh p q = true → ∀ j p' q', j < i + 1 → rp[j]? = some p' → sp[j]? = some q' → samePh p' q' = true) := Lib.hid (fun he j p' q' hj h1 h2 => by
                              by_cases e : j = i
                              · subst e; rw [Hp.out] at h1; rw [Hq.out] at h2; obtain rfl := Option.some.inj h1; obtain rfl := Option.some.inj h2; exact he
                              · exact HP.out j p' q' (by omega) h1 h2)
                            have HNi : Hid (samePh p q = false → R = false) := Lib.hid (fun he => HB.out i p q Hp.out Hq.out he)
                            have g0 : (0 : Int) ≤ (i : Int) := by omega
                            have g1 : (i : Int) < (n : Int) := by omega
                            have g2 : (i : Int).toNat = i := by omega
                            go_upto_region 6 with fail
                            clear f0
                            generalize samePh p q = c at *
                            refine wp_region_ex (fun _ w => CL W [(W.heap.size + 1, #[.slice (some ⟨b2, off2, none⟩) n cap2, .int .i64 r_n, .int .i64 r_d, .int .i64 r_green, .int .i64 r_eps, .int .i64 r_step, .int .i64 r_age, .int .i64 r_lift, .int .i64 r_saf]), (W.heap.size, #[.slice (some ⟨b, off, none⟩) n cap, .int .i64 r_n, .int .i64 r_d, .int .i64 r_green, .int .i64 r_eps, .int .i64 r_step, .int .i64 r_age, .int .i64 r_lift, .int .i64 r_saf])] 0 w) (fun _ => Chg []) [10] [(0, 0, false), (0, 0, false), (0, 0, false), (0, 0, false), (0, 0, false), (0, 0, false), (0, 0, false), (0, 0, false), (0, 0, false), (0, 0, false), (0, 0, true), (1, 1, false)] [76, 77, 78, 79, 80, 81, 82, 83, 84, 85, 86, 87] (by kernel_rfl) rfl (by kernel_rfl) (by kernel_rfl) (hC.drew) ?_
                            simp only [List.zip_cons_cons, List.zip_nil_right]
                            refine ex_det 76 [2] rfl rfl (fun _ _ _ _ _ _ _ _ => rfl) ?_
                            apply Exists.intro
                            refine ⟨?_, ?_⟩
                            · intro wx bX kX hk1 hk2 hC hb hd K hK
                              have e2 := hb 2 rfl
                              simp only [exSlot, List.getD_cons_succ, List.getD_cons_zero] at e2
                              simp only [execOp, e2]
                              clear hb hd
                              go_simp
                              exact hK _ hC (Chg.refl _ _)
                            refine ex_det 77 [76] rfl rfl (fun _ _ _ _ _ _ _ _ => rfl) ?_
                            apply Exists.intro
                            refine ⟨?_, ?_⟩
                            · intro wx bX kX hk1 hk2 hC hb hd K hK
                              have e76 := hd 76 _ _ rfl rfl
                              try dsimp only at e76
                              have f0 := (hC.get 1 rfl).cell 0
                              have g0_ := (hC.get 0 rfl).cell 0
                              try dsimp only at f0 g0_
                              simp only [execOp, e76]
                              clear hb hd
                              go_simp
                              exact hK _ hC (Chg.refl _ _)
                            refine ex_det 78 [5] rfl rfl (fun _ _ _ _ _ _ _ _ => rfl) ?_
                            apply Exists.intro
                            refine ⟨?_, ?_⟩
                            · intro wx bX kX hk1 hk2 hC hb hd K hK
                              have e5 := hb 5 rfl
                              simp only [exSlot, List.getD_cons_succ, List.getD_cons_zero] at e5
                              simp only [execOp, e5]
                              clear hb hd
                              go_simp
                              exact hK _ hC (Chg.refl _ _)
                            refine ex_det 79 [77, 78] rfl rfl (fun _ _ _ _ _ _ _ _ => rfl) ?_
                            apply Exists.intro
                            refine ⟨?_, ?_⟩
                            · intro wx bX kX hk1 hk2 hC hb hd K hK
                              have e77 := hd 77 _ _ rfl rfl
                              try dsimp only at e77
                              have e78 := hd 78 _ _ rfl rfl
                              try dsimp only at e78
                              simp only [execOp, e77, e78]
                              clear hb hd
                              go_simp
                              exact hK _ hC (Chg.refl _ _)
                            refine ex_det 80 [79] rfl rfl (fun _ _ _ _ _ _ _ _ => rfl) ?_
                            apply Exists.intro
                            refine ⟨?_, ?_⟩
                            · intro wx bX kX hk1 hk2 hC hb hd K hK
                              have e79 := hd 79 _ _ rfl rfl
                              try dsimp only at e79
                              obtain ⟨p0, p1, p2, p3, p4⟩ := HcP.out
                              have d0 := hC.x.cell p0 (by simp)
                              have d1 := hC.x.cell p1 (by simp)
                              have d2 := hC.x.cell p2 (by simp)
                              have d3 := hC.x.cell p3 (by simp)
                              have d4 := hC.x.cell p4 (by simp)
                              simp only [execOp, e79]
                              clear hb hd
                              go_simp
                              exact hK _ hC (Chg.refl _ _)
                            refine ex_det 81 [3] rfl rfl (fun _ _ _ _ _ _ _ _ => rfl) ?_
                            apply Exists.intro
                            refine ⟨?_, ?_⟩
                            · intro wx bX kX hk1 hk2 hC hb hd K hK
                              have e3 := hb 3 rfl
                              simp only [exSlot, List.getD_cons_succ, List.getD_cons_zero] at e3
                              simp only [execOp, e3]
                              clear hb hd
                              go_simp
                              exact hK _ hC (Chg.refl _ _)
                            refine ex_det 82 [81] rfl rfl (fun _ _ _ _ _ _ _ _ => rfl) ?_
                            apply Exists.intro
                            refine ⟨?_, ?_⟩
                            · intro wx bX kX hk1 hk2 hC hb hd K hK
                              have e81 := hd 81 _ _ rfl rfl
                              try dsimp only at e81
                              have f0 := (hC.get 1 rfl).cell 0
                              have g0_ := (hC.get 0 rfl).cell 0
                              try dsimp only at f0 g0_
                              simp only [execOp, e81]
                              clear hb hd
                              go_simp
                              exact hK _ hC (Chg.refl _ _)
                            refine ex_det 83 [5] rfl rfl (fun _ _ _ _ _ _ _ _ => rfl) ?_
                            apply Exists.intro
                            refine ⟨?_, ?_⟩
                            · intro wx bX kX hk1 hk2 hC hb hd K hK
                              have e5 := hb 5 rfl
                              simp only [exSlot, List.getD_cons_succ, List.getD_cons_zero] at e5
                              simp only [execOp, e5]
                              clear hb hd
                              go_simp
                              exact hK _ hC (Chg.refl _ _)
                            refine ex_det 84 [82, 83] rfl rfl (fun _ _ _ _ _ _ _ _ => rfl) ?_
                            apply Exists.intro
                            refine ⟨?_, ?_⟩
                            · intro wx bX kX hk1 hk2 hC hb hd K hK
                              have e82 := hd 82 _ _ rfl rfl
                              try dsimp only at e82
                              have e83 := hd 83 _ _ rfl rfl
                              try dsimp only at e83
                              simp only [execOp, e82, e83]
                              clear hb hd
                              go_simp
                              exact hK _ hC (Chg.refl _ _)
                            refine ex_det 85 [84] rfl rfl (fun _ _ _ _ _ _ _ _ => rfl) ?_
                            apply Exists.intro
                            refine ⟨?_, ?_⟩
                            · intro wx bX kX hk1 hk2 hC hb hd K hK
                              have e84 := hd 84 _ _ rfl rfl
                              try dsimp only at e84
                              obtain ⟨p0, p1, p2, p3, p4⟩ := HcQ.out
                              have d0 := hC.x.cell p0 (by simp)
                              have d1 := hC.x.cell p1 (by simp)
                              have d2 := hC.x.cell p2 (by simp)
                              have d3 := hC.x.cell p3 (by simp)
                              have d4 := hC.x.cell p4 (by simp)
                              simp only [execOp, e84]
                              clear hb hd
                              go_simp
                              exact hK _ hC (Chg.refl _ _)
                            refine ex_det 86 [80, 85] rfl rfl (fun _ _ _ _ _ _ _ _ => rfl) ?_
                            apply Exists.intro
                            refine ⟨?_, ?_⟩
                            · intro wx bX kX hk1 hk2 hC hb hd K hK
                              have e80 := hd 80 _ _ rfl rfl
                              try dsimp only at e80
                              have e85 := hd 85 _ _ rfl rfl
                              try dsimp only at e85
                              simp only [execOp, resolve, List.map_toArray, List.map_cons, List.map_nil, e80, e85]
                              clear hb hd
                              go_simp
                              refine ((HS _ hC.x)).mono ?_; rintro e w' ⟨rfl, hX⟩
                              exact ⟨_, rfl, hK _ (hC.step (j := 0) hX) hX⟩
                            refine ex_det 87 [86] rfl rfl (fun _ _ _ _ _ _ _ _ => rfl) ?_
                            apply Exists.intro
                            refine ⟨?_, ?_⟩
                            · intro wx bX kX hk1 hk2 hC hb hd K hK
                              have e86 := hd 86 _ _ rfl rfl
                              try dsimp only at e86
                              simp only [execOp, e86]
                              clear hb hd
                              go_simp
                              exact hK _ hC (Chg.refl _ _)
                            refine ex_end ?_
                            intro us w2 hus hC hall
                            obtain ⟨v0, us, rfl⟩ := List.exists_cons_of_length_eq_add_one hus
                            replace hus := Nat.succ.inj hus
                            obtain ⟨v1, us, rfl⟩ := List.exists_cons_of_length_eq_add_one hus
                            replace hus := Nat.succ.inj hus
                            obtain ⟨v2, us, rfl⟩ := List.exists_cons_of_length_eq_add_one hus
                            replace hus := Nat.succ.inj hus
                            obtain ⟨v3, us, rfl⟩ := List.exists_cons_of_length_eq_add_one hus
                            replace hus := Nat.succ.inj hus
                            obtain ⟨v4, us, rfl⟩ := List.exists_cons_of_length_eq_add_one hus
                            replace hus := Nat.succ.inj hus
                            obtain ⟨v5, us, rfl⟩ := List.exists_cons_of_length_eq_add_one hus
                            replace hus := Nat.succ.inj hus
                            obtain ⟨v6, us, rfl⟩ := List.exists_cons_of_length_eq_add_one hus
                            replace hus := Nat.succ.inj hus
                            obtain ⟨v7, us, rfl⟩ := List.exists_cons_of_length_eq_add_one hus
                            replace hus := Nat.succ.inj hus
                            obtain ⟨v8, us, rfl⟩ := List.exists_cons_of_length_eq_add_one hus
                            replace hus := Nat.succ.inj hus
                            obtain ⟨v9, us, rfl⟩ := List.exists_cons_of_length_eq_add_one hus
                            replace hus := Nat.succ.inj hus
                            obtain ⟨v10, us, rfl⟩ := List.exists_cons_of_length_eq_add_one hus
                            replace hus := Nat.succ.inj hus
                            obtain ⟨v11, us, rfl⟩ := List.exists_cons_of_length_eq_add_one hus
                            replace hus := Nat.succ.inj hus
                            obtain rfl := List.length_eq_zero_iff.1 hus
                            clear hus
                            generalize hbb : exPuts _ _ _ = bb at hall ⊢
                            simp only [exPuts, Act.put, List.setIfInBounds_toArray, List.set_cons_succ, List.set_cons_zero] at hbb
                            subst hbb
                            obtain ⟨h11, h10, h9, h8, h7, h6, h5, h4, h3, h2, h1, h0, -⟩ := hall
                            obtain rfl : v0 = _ := h0
                            obtain rfl : v1 = _ := h1
                            obtain rfl : v2 = _ := h2
                            obtain rfl : v3 = _ := h3
                            obtain rfl : v4 = _ := h4
                            obtain rfl : v5 = _ := h5
                            obtain rfl : v6 = _ := h6
                            obtain rfl : v7 = _ := h7
                            obtain rfl : v8 = _ := h8
                            obtain rfl : v9 = _ := h9
                            obtain rfl : v10 = _ := h10
                            obtain rfl : v11 = _ := h11
                            cases c with
                            | false =>
                              have HF := Lib.hid (HNi.out rfl)
                              go_wp2
                              all_goals go_returns
                              all_goals exact ⟨ret_bool (by rw [HF.out]), hC.x⟩
                            | true =>
                              have HP2 := Lib.hid (HPi.out rfl)
                              go_wp2_with fail
                              go_roundg (gk - 1)
                              case rel => exact ⟨i + 1, by omega, by go_num, hC, HP2⟩
                              case measure => omega
                          · obtain rfl : gk = 0 := by omega
                            obtain rfl : i = n := by omega
                            have HT : Hid (R = true) := Lib.hid (HY.out (by simp) HP.out)
                            go_wp2
                            all_goals go_returns
                            all_goals exact ⟨ret_bool (by rw [HT.out]), hC.x⟩
                      · have HF : Hid (R = false) := Lib.hid (HN.out (fun h => e7 h.2.2.2.2.2.2.2.1))
                        go_wp2
                        all_goals go_returns
                        all_goals exact ⟨ret_bool (by rw [HF.out]), hC.x⟩
                    · have HF : Hid (R = false) := Lib.hid (HN.out (fun h => e6 h.2.2.2.2.2.2.1))
                      go_wp2
                      all_goals go_returns
                      all_goals exact ⟨ret_bool (by rw [HF.out]), hC.x⟩
                  · have HF : Hid (R = false) := Lib.hid (HN.out (fun h => e5 h.2.2.2.2.2.1))
                    go_wp2
                    all_goals go_returns
                    all_goals exact ⟨ret_bool (by rw [HF.out]), hC.x⟩
                · have HF : Hid (R = false) := Lib.hid (HN.out (fun h => e4 h.2.2.2.2.1))
                  go_wp2
                  all_goals go_returns
                  all_goals exact ⟨ret_bool (by rw [HF.out]), hC.x⟩
              · have HF : Hid (R = false) := Lib.hid (HN.out (fun h => e3 h.2.2.2.1))
                go_wp2
                all_goals go_returns
                all_goals exact ⟨ret_bool (by rw [HF.out]), hC.x⟩
            · have HF : Hid (R = false) := Lib.hid (HN.out (fun h => e2 h.2.2.1))
              go_wp2
              all_goals go_returns
              all_goals exact ⟨ret_bool (by rw [HF.out]), hC.x⟩
          · have HF : Hid (R = false) := Lib.hid (HN.out (fun h => e1 h.2.1))
            go_wp2
            all_goals go_returns
            all_goals exact ⟨ret_bool (by rw [HF.out]), hC.x⟩
        · have HF : Hid (R = false) := Lib.hid (HN.out (fun h => e0 h.1))
          go_wp2
          all_goals go_returns
          all_goals exact ⟨ret_bool (by rw [HF.out]), hC.x⟩
  · have HF : Hid (R = false) := Lib.hid (by
      cases R
      · rfl
      · exact absurd (hR.1 rfl).1 hlen)
    clear hR
    obtain ⟨_, ad, cap, rfl⟩ := h.len
    obtain ⟨_, ad2, cap2, rfl⟩ := h'.len
    have hX := ((Chg.refl [] W).alloc (.cells #[.slice ad rp.length cap, .int .i64 r_n, .int .i64 r_d, .int .i64 r_green, .int .i64 r_eps, .int .i64 r_step, .int .i64 r_age, .int .i64 r_lift, .int .i64 r_saf] 25)).alloc (.cells #[.slice ad2 sp.length cap2, .int .i64 s_n, .int .i64 s_d, .int .i64 s_green, .int .i64 s_eps, .int .i64 s_step, .int .i64 s_age, .int .i64 s_lift, .int .i64 s_saf] 25)
    clear h h' h0 h0'
    have hne : ¬ (rp.length : Int) = (sp.length : Int) := by omega
    generalize rp.length = n at *
    generalize sp.length = m at *
    go_enter Tryz.func11, Tryz.ntmps11
    go_wp2
    all_goals go_returns
    all_goals exact ⟨ret_bool (by rw [HF.out]), hX⟩
end Go.Proofs.YtpfglmlpodjneaaGreat
namespace Go.Proofs.YtpfglmlpodjneaaGreat
open Go.RowKit

theorem inB_iff (n lo hi : Int) : inB n lo hi = true ↔ lo ≤ n ∧ n ≤ hi := by unfold inB; simp
theorem pts_fit {L : List PtV} (h : polyB L = true) : 3 ≤ L.length ∧ L.length ≤ 8 ∧ ∀ q ∈ L, q.fit := by
  unfold polyB at h
  rw [Bool.and_eq_true] at h
  obtain ⟨hs, hf⟩ := h
  rw [simple_iff] at hs
  refine ⟨hs.1, hs.2.1, fun q hq => ?_⟩
  have ho := List.all_eq_true.1 hs.2.2.1 q hq
  have hnf : q.far = false := by
    cases hh : q.far with
    | false => rfl
    | true =>
      have : L.any PtV.far = true := List.any_eq_true.2 ⟨q, hq, hh⟩
      rw [this] at hf; cases hf
  have hr : farR q = false := by
    cases hh : farR q with
    | false => rfl
    | true => rw [far_big hh ho] at hnf; cases hnf
  unfold farR at hr
  simp at hr
  unfold PtV.fit
  omega
theorem wrong_parts {r : RuV} (h : wrongN r = 0) : (1 ≤ r.phs.length ∧ r.phs.length ≤ 4) ∧ (∀ p ∈ r.phs, p.ok = true) ∧ (r.n ≤ 50 ∧ r.d ≤ 50 ∧ r.green ≤ 50 ∧ 1 ≤ r.n ∧ 1 ≤ r.d ∧ 1 ≤ r.green) ∧ (0 ≤ r.eps ∧ r.eps ≤ 1024) ∧ (1 ≤ r.step ∧ r.step ≤ 65536) ∧ (1 ≤ r.age ∧ r.age ≤ 50) ∧ (1 ≤ r.lift ∧ r.lift ≤ 1073741824) ∧ (0 ≤ r.saf ∧ r.saf ≤ r.phs.length) := by
  unfold wrongN at h
  split at h; · cases h
  split at h; · cases h
  split at h; · cases h
  split at h; · cases h
  split at h; · cases h
  split at h; · cases h
  split at h; · cases h
  split at h; · cases h
  rename_i a1 a2 a3 a4 a5 a6 a7 a8
  simp only [Bool.not_eq_false] at a1 a3 a4 a5 a6 a7 a8
  rw [limB_eq] at a3
  simp only [Bool.and_eq_true] at a3
  rw [inB_iff] at a1 a4 a5 a6 a7 a8
  obtain ⟨c1, c2, c3⟩ := a3
  rw [inB_iff] at c1 c2 c3
  refine ⟨by omega, fun p hp => ?_, by omega, a4, a5, a6, a7, a8⟩
  cases ho : p.ok with
  | true => rfl
  | false => exact absurd (List.any_eq_true.2 ⟨p, hp, by rw [ho]; rfl⟩) a2
theorem ph_fit {p : PhV} (h : p.ok = true) : p.fit := by
  unfold PhV.ok phaseB at h
  simp only [Bool.and_eq_true] at h
  obtain ⟨h1, h2, h3, h4, h5⟩ := h
  rw [inB_iff] at h2 h3 h4 h5
  obtain ⟨q1, q2, q3⟩ := pts_fit h1
  exact ⟨by omega, q3, by omega, by omega, by omega, by omega⟩
theorem wrong_fit {r : RuV} (h : wrongN r = 0) : r.fit := by
  obtain ⟨h1, h2, h3, h4, h5, h6, h7, h8⟩ := wrong_parts h
  exact ⟨by omega, fun p hp => ph_fit (h2 p hp), by omega, by omega, by omega, by omega, by omega, by omega, by omega, by omega⟩
theorem sameB_refl (L : List PtV) : sameB L L = true := by
  rw [same_iff]
  exact ⟨rfl, fun i _ => by unfold eqB; simp⟩
theorem samePh_refl (p : PhV) : samePh p p = true := by unfold samePh; rw [sameB_refl]; simp
set_option maxHeartbeats 4000000 in
set_option maxRecDepth 10000 in
theorem same0_any (W : World) (va vb : Value) (r_n r_d r_green r_eps r_step r_age r_lift r_saf : Int) (h : PhsR W va []) (h' : PhsR W vb []) : Calls Tryz.prog 11 #[.agg #[va, .int .i64 r_n, .int .i64 r_d, .int .i64 r_green, .int .i64 r_eps, .int .i64 r_step, .int .i64 r_age, .int .i64 r_lift, .int .i64 r_saf], .agg #[vb, .int .i64 r_n, .int .i64 r_d, .int .i64 r_green, .int .i64 r_eps, .int .i64 r_step, .int .i64 r_age, .int .i64 r_lift, .int .i64 r_saf]] W fun e w' => e = .returned (.bool true) ∧ Chg [] W w' := by
  obtain ⟨_, ad, cap, rfl⟩ := h.len
  obtain ⟨_, ad2, cap2, rfl⟩ := h'.len
  clear h h'
  simp only [List.length_nil] at *
  have C := ((CL.new W 0).push #[.slice ad 0 cap, .int .i64 r_n, .int .i64 r_d, .int .i64 r_green, .int .i64 r_eps, .int .i64 r_step, .int .i64 r_age, .int .i64 r_lift, .int .i64 r_saf] 25).push #[.slice ad2 0 cap2, .int .i64 r_n, .int .i64 r_d, .int .i64 r_green, .int .i64 r_eps, .int .i64 r_step, .int .i64 r_age, .int .i64 r_lift, .int .i64 r_saf] 25
  simp only [alloc_sz] at C
  have f0 := (C.get 1 rfl).cell 0; have f1 := (C.get 1 rfl).cell 1; have f2 := (C.get 1 rfl).cell 2; have f3 := (C.get 1 rfl).cell 3; have f4 := (C.get 1 rfl).cell 4; have f5 := (C.get 1 rfl).cell 5; have f6 := (C.get 1 rfl).cell 6; have f7 := (C.get 1 rfl).cell 7; have f8 := (C.get 1 rfl).cell 8
  have k0 := (C.get 0 rfl).cell 0; have k1 := (C.get 0 rfl).cell 1; have k2 := (C.get 0 rfl).cell 2; have k3 := (C.get 0 rfl).cell 3; have k4 := (C.get 0 rfl).cell 4; have k5 := (C.get 0 rfl).cell 5; have k6 := (C.get 0 rfl).cell 6; have k7 := (C.get 0 rfl).cell 7; have k8 := (C.get 0 rfl).cell 8
  try dsimp only at f0 f1 f2 f3 f4 f5 f6 f7 f8 k0 k1 k2 k3 k4 k5 k6 k7 k8
  have hX := C.x
  go_enter Tryz.func11, Tryz.ntmps11
  go_wp2_with fail
  refine wp_loop_rounds 1 ?_
  rw [rounds_succ]
  go_wp2
  all_goals go_returns
  all_goals exact ⟨rfl, hX⟩
/-- Rules are the same as themselves. -/
theorem same_self (W : World) (va vb : Value) (r : RuV) (h : PhsR W va r.phs) (h' : PhsR W vb r.phs) : Calls Tryz.prog 11 #[.agg (r.cells va), .agg (r.cells vb)] W fun e w' => e = .returned (.bool true) ∧ Chg [] W w' := by
  obtain ⟨phs, n, d, g, e, s, a, l, f⟩ := r
  cases phs with
  | nil => exact same0_any W va vb n d g e s a l f h h'
  | cons p phs =>
    refine rrsame_any W va vb (p :: phs) (p :: phs) n n d d g g e e s s a a l l f f h h' (by simp) (by simp) true ⟨fun _ => ⟨rfl, by simp, fun j q q' _ h1 h2 => ?_⟩, fun _ => rfl⟩
    rw [h1] at h2
    rw [Option.some.inj h2]
    exact samePh_refl _
end Go.Proofs.YtpfglmlpodjneaaGreat
