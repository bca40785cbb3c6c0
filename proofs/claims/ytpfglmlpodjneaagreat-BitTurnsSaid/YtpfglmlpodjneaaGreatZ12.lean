/- Pls, Plr, Rul. -/
import Derived.Test.YtpfglmlpodjneaaGreatZ11
set_option linter.unusedSimpArgs false
set_option linter.unusedVariables false
namespace Go.Proofs.YtpfglmlpodjneaaGreat
open Go.RowKit

def ptg (L : List PtV) (i : Nat) : PtV := (L[i]?).getD ⟨0, 0⟩
def eqB (p q : PtV) : Bool := (p.x == q.x) && (p.y == q.y)
def pairB (L : List PtV) (k i : Nat) : Bool := !(eqB (ptg L i) (ptg L k)) && apartV L.length k i (ptg L k) (ptg L ((k + 1) % L.length)) (ptg L i) (ptg L ((i + 1) % L.length))
def simpleB (L : List PtV) : Bool := (decide (3 ≤ L.length) && (decide (L.length ≤ 8) && L.all PtV.ok)) && (List.range L.length).all fun i => (List.range i).all fun k => pairB L k i
theorem simple_iff (L : List PtV) : simpleB L = true ↔ 3 ≤ L.length ∧ L.length ≤ 8 ∧ L.all PtV.ok = true ∧ ∀ i, i < L.length → ∀ k, k < i → pairB L k i = true := by
  simp [simpleB, List.all_eq_true, List.mem_range, and_assoc]
theorem ptg_get (L : List PtV) (i : Nat) (h : i < L.length) : L[i]? = some (ptg L i) := by
  unfold ptg; rw [List.getElem?_eq_getElem h]; rfl
theorem ite_ne {p q : PtV} (h : eqB p q = false) {α : Sort _} (a b : α) : (if p.x = q.x then if p.y = q.y then a else b else b) = b := by
  unfold eqB at h
  split
  · split
    · rename_i h1 h2; simp [h1, h2] at h
    · rfl
  · rfl
theorem simple_no {L : List PtV} {i k : Nat} (hi : i < L.length) (hk : k < i) (h : pairB L k i = false) : simpleB L = false := by
  cases hs : simpleB L
  · rfl
  · rw [simple_iff] at hs
    rw [hs.2.2.2 i hi k hk] at h; cases h
set_option maxHeartbeats 4000000 in
set_option maxRecDepth 10000 in
theorem psimple_any (W : World) (v : Value) (L : List PtV) (h : PtsR W v L) : Calls Tryz.prog 100 #[v] W fun e w' => e = .returned (.bool (simpleB L)) ∧ Chg [] W w' := by
  have HR := has_simple W v L h
  rw [show (L.any fun p => (!p.ok)) = !(L.all PtV.ok) by rw [List.any_eq_not_all_not]; simp] at HR
  have HA0 := fun w (hw : Chg [] W w) k i (hk : k < L.length) (hi : i < L.length) => apart_any w v L (h.keep hw) k i _ _ _ _ (ptg_get L k hk) (ptg_get L _ (Nat.mod_lt _ (by omega))) (ptg_get L i hi) (ptg_get L _ (Nat.mod_lt _ (by omega)))
  have HI := Lib.hid (simple_iff L)
  have HN : Hid (∀ i k : Nat, i < L.length → k < i → pairB L k i = false → simpleB L = false) := Lib.hid (fun i k hi hk h => simple_no hi hk h)
  have hm := h.1
  have hX := Chg.refl [] W
  by_cases h3 : 3 ≤ L.length
  · by_cases h8 : L.length ≤ 8
    · cases hok : L.all PtV.ok with
      | false =>
        have HRf : Hid (simpleB L = false) := Lib.hid (by cases hs : simpleB L; rfl; rw [HI.out, hok] at hs; exact absurd hs.2.2.1 (by simp))
        rw [hok] at HR
        obtain ⟨_, ad, cap, rfl⟩ := h.len
        clear h HI HN hok HA0
        generalize simpleB L = R at *
        generalize L.length = n at *
        go_enter Tryz.func100, Tryz.ntmps100
        go_wp2_with fail
        refine HR.mono ?_; rintro e w' ⟨rfl, hX⟩
        go_wp2
        all_goals go_returns
        all_goals exact ⟨ret_bool (by rw [HRf.out]), hX⟩
      | true =>
        rw [hok] at HR
        have Hok := Lib.hid hok
        clear hok
        obtain ⟨_, h⟩ := h
        rcases h with ⟨rfl, _⟩ | ⟨b, off, cap, rfl, h0, hc⟩
        · simp at h3
        · have Hc := Lib.hid hc
          have HAp := Lib.hid HA0
          clear hc HA0
          generalize hR : simpleB L = R at *
          have HRR := Lib.hid hR
          clear hR
          generalize hn : L.length = n at *
          have Hn := Lib.hid hn
          clear hn
          go_enter Tryz.func100, Tryz.ntmps100
          go_wp2_with fail
          refine HR.mono ?_; rintro e w1 ⟨rfl, hX⟩
          go_wp2_with fail
          go_loopg [19] n (fun gk ii wr => ∃ i : Nat, i + gk = n ∧ ii = .int .i64 i ∧ Chg [] W wr ∧ Hid (∀ i', i' < i → ∀ k, k < i' → pairB L k i' = true))
          case atStart => exact ⟨0, by omega, rfl, by assumption, Lib.hid (fun i' h => by omega)⟩
          case round =>
            obtain ⟨i, hi, rfl, hX, HP⟩ := hrel
            by_cases hlt : i < n
            · have g0 : (0 : Int) ≤ (i : Int) := by omega
              have g1 : (i : Int) < (n : Int) := by omega
              have g2 : (i : Int).toNat = i := by omega
              go_wp2_with fail
              go_loopg [23] i (fun gj kk wr => ∃ k : Nat, k + gj = i ∧ kk = .int .i64 k ∧ Chg [] W wr ∧ Hid (∀ k', k' < k → pairB L k' i = true))
              case atStart => exact ⟨0, by omega, rfl, hX, Lib.hid (fun i' h => by omega)⟩
              case round =>
                clear hX
                obtain ⟨k, hk, rfl, hX, HQ⟩ := hrel
                by_cases hlt2 : k < i
                · have k0 : (0 : Int) ≤ (k : Int) := by omega
                  have k1 : (k : Int) < (n : Int) := by omega
                  have k2 : (k : Int).toNat = k := by omega
                  have HA := fun w hw => HAp.out w hw k i (by omega) hlt
                  have Hp := Lib.hid (ptg_get L i (by rw [Hn.out]; exact hlt))
                  have Hq := Lib.hid (ptg_get L k (by rw [Hn.out]; omega))
                  have Hb := Lib.hid (show pairB L k i = (!(eqB (ptg L i) (ptg L k)) && apartV L.length k i (ptg L k) (ptg L ((k + 1) % L.length)) (ptg L i) (ptg L ((i + 1) % L.length))) from rfl)
                  rw [Hn.out] at Hb
                  generalize apartV n k i _ _ _ _ = A at HA Hb
                  generalize ptg L i = p at *
                  generalize ptg L k = q at *
                  go_upto_region 10 with fail
                  cases hE : eqB p q with
                  | true =>
                    have hx : p.x = q.x ∧ p.y = q.y := by unfold eqB at hE; simpa using hE
                    obtain ⟨hx, hy⟩ := hx
                    have HF : Hid (R = false) := Lib.hid (HN.out i k hlt hlt2 (by rw [Hb.out, hE]; rfl))
                    clear hE
                    refine wp_region_ex (fun _ w => Chg [] W w) (fun _ => Chg []) [] [(0, 0, false), (0, 0, false), (0, 0, false), (0, 0, false), (0, 0, false), (0, 0, false), (0, 0, false), (0, 0, false), (0, 0, false), (0, 0, false), (0, 0, false), (0, 0, false), (0, 0, false), (0, 0, false), (0, 0, false), (0, 0, false)] [26, 27, 28, 29, 30, 31, 32, 33, 34, 35, 36, 37, 38, 39, 40, 41] (by kernel_rfl) rfl (by kernel_rfl) (by kernel_rfl) (hX.drew) ?_
                    simp only [List.zip_cons_cons, List.zip_nil_right]
                    refine ex_det 26 [0] rfl rfl (fun _ _ _ _ _ _ _ _ => rfl) ?_
                    apply Exists.intro
                    refine ⟨?_, ?_⟩
                    · intro wx bX kX hk1 hk2 hC hb hd K hK
                      have e0 := hb 0 rfl
                      simp only [exSlot, List.getD_cons_succ, List.getD_cons_zero] at e0
                      simp only [execOp, e0]
                      clear hb hd
                      go_simp
                      exact hK _ hC (Chg.refl _ _)
                    refine ex_det 27 [4] rfl rfl (fun _ _ _ _ _ _ _ _ => rfl) ?_
                    apply Exists.intro
                    refine ⟨?_, ?_⟩
                    · intro wx bX kX hk1 hk2 hC hb hd K hK
                      have e4 := hb 4 rfl
                      simp only [exSlot, List.getD_cons_succ, List.getD_cons_zero] at e4
                      simp only [execOp, e4]
                      clear hb hd
                      go_simp
                      exact hK _ hC (Chg.refl _ _)
                    refine ex_det 28 [26, 27] rfl rfl (fun _ _ _ _ _ _ _ _ => rfl) ?_
                    apply Exists.intro
                    refine ⟨?_, ?_⟩
                    · intro wx bX kX hk1 hk2 hC hb hd K hK
                      have e26 := hd 26 _ _ rfl rfl
                      try dsimp only at e26
                      have e27 := hd 27 _ _ rfl rfl
                      try dsimp only at e27
                      simp only [execOp, e26, e27]
                      clear hb hd
                      go_simp
                      exact hK _ hC (Chg.refl _ _)
                    refine ex_det 29 [28] rfl rfl (fun _ _ _ _ _ _ _ _ => rfl) ?_
                    apply Exists.intro
                    refine ⟨?_, ?_⟩
                    · intro wx bX kX hk1 hk2 hC hb hd K hK
                      have e28 := hd 28 _ _ rfl rfl
                      try dsimp only at e28
                      have d0 := hC.cell (Hc.out i p Hp.out).1 (by simp)
                      have d1 := hC.cell (Hc.out i p Hp.out).2 (by simp)
                      have d2 := hC.cell (Hc.out k q Hq.out).1 (by simp)
                      have d3 := hC.cell (Hc.out k q Hq.out).2 (by simp)
                      simp only [execOp, e28]
                      clear hb hd
                      go_simp
                      exact hK _ hC (Chg.refl _ _)
                    refine ex_det 30 [0] rfl rfl (fun _ _ _ _ _ _ _ _ => rfl) ?_
                    apply Exists.intro
                    refine ⟨?_, ?_⟩
                    · intro wx bX kX hk1 hk2 hC hb hd K hK
                      have e0 := hb 0 rfl
                      simp only [exSlot, List.getD_cons_succ, List.getD_cons_zero] at e0
                      simp only [execOp, e0]
                      clear hb hd
                      go_simp
                      exact hK _ hC (Chg.refl _ _)
                    refine ex_det 31 [5] rfl rfl (fun _ _ _ _ _ _ _ _ => rfl) ?_
                    apply Exists.intro
                    refine ⟨?_, ?_⟩
                    · intro wx bX kX hk1 hk2 hC hb hd K hK
                      have e5 := hb 5 rfl
                      simp only [exSlot, List.getD_cons_succ, List.getD_cons_zero] at e5
                      simp only [execOp, e5]
                      clear hb hd
                      go_simp
                      exact hK _ hC (Chg.refl _ _)
                    refine ex_det 32 [30, 31] rfl rfl (fun _ _ _ _ _ _ _ _ => rfl) ?_
                    apply Exists.intro
                    refine ⟨?_, ?_⟩
                    · intro wx bX kX hk1 hk2 hC hb hd K hK
                      have e30 := hd 30 _ _ rfl rfl
                      try dsimp only at e30
                      have e31 := hd 31 _ _ rfl rfl
                      try dsimp only at e31
                      simp only [execOp, e30, e31]
                      clear hb hd
                      go_simp
                      exact hK _ hC (Chg.refl _ _)
                    refine ex_det 33 [32] rfl rfl (fun _ _ _ _ _ _ _ _ => rfl) ?_
                    apply Exists.intro
                    refine ⟨?_, ?_⟩
                    · intro wx bX kX hk1 hk2 hC hb hd K hK
                      have e32 := hd 32 _ _ rfl rfl
                      try dsimp only at e32
                      have d0 := hC.cell (Hc.out i p Hp.out).1 (by simp)
                      have d1 := hC.cell (Hc.out i p Hp.out).2 (by simp)
                      have d2 := hC.cell (Hc.out k q Hq.out).1 (by simp)
                      have d3 := hC.cell (Hc.out k q Hq.out).2 (by simp)
                      simp only [execOp, e32]
                      clear hb hd
                      go_simp
                      exact hK _ hC (Chg.refl _ _)
                    refine ex_det 34 [29, 33] rfl rfl (fun _ _ _ _ _ _ _ _ => rfl) ?_
                    apply Exists.intro
                    refine ⟨?_, ?_⟩
                    · intro wx bX kX hk1 hk2 hC hb hd K hK
                      have e29 := hd 29 _ _ rfl rfl
                      try dsimp only at e29
                      have e33 := hd 33 _ _ rfl rfl
                      try dsimp only at e33
                      simp only [execOp, e29, e33]
                      clear hb hd
                      go_simp
                      exact hK _ hC (Chg.refl _ _)
                    refine ex_det 35 [34] rfl rfl (fun _ _ _ _ _ _ _ _ => rfl) ?_
                    apply Exists.intro
                    refine ⟨?_, ?_⟩
                    · intro wx bX kX hk1 hk2 hC hb hd K hK
                      have e34 := hd 34 _ _ rfl rfl
                      try dsimp only at e34
                      simp only [execOp, e34]
                      clear hb hd
                      go_simp
                      exact hK _ hC (Chg.refl _ _)
                    refine ex_pass 36 [0, 35] rfl rfl (fun _ _ => Chg.refl _ _) (fun _ b _ _ _ _ hb hd => (wanted_guard b rfl rfl (hd 35 _ _ rfl rfl)).trans rfl) ?_
                    refine ex_pass 37 [5, 35] rfl rfl (fun _ _ => Chg.refl _ _) (fun _ b _ _ _ _ hb hd => (wanted_guard b rfl rfl (hd 35 _ _ rfl rfl)).trans rfl) ?_
                    refine ex_pass 38 [4, 35] rfl rfl (fun _ _ => Chg.refl _ _) (fun _ b _ _ _ _ hb hd => (wanted_guard b rfl rfl (hd 35 _ _ rfl rfl)).trans rfl) ?_
                    refine ex_pass 39 [36, 37, 38, 35] rfl rfl (fun _ _ => Chg.refl _ _) (fun _ b _ _ _ _ hb hd => (wanted_guard b rfl rfl (hd 35 _ _ rfl rfl)).trans rfl) ?_
                    refine ex_pass 40 [39, 35] rfl rfl (fun _ _ => Chg.refl _ _) (fun _ b _ _ _ _ hb hd => (wanted_guard b rfl rfl (hd 35 _ _ rfl rfl)).trans rfl) ?_
                    refine ex_det 41 [35, 40] rfl rfl (fun _ _ _ _ _ _ _ _ => rfl) ?_
                    apply Exists.intro
                    refine ⟨?_, ?_⟩
                    · intro wx bX kX hk1 hk2 hC hb hd K hK
                      have e35 := hd 35 _ _ rfl rfl
                      try dsimp only at e35
                      have e40 := hd 40 _ _ rfl rfl
                      try dsimp only at e40
                      simp only [execOp, e35, e40]
                      clear hb hd
                      go_simp
                      exact hK _ hC (Chg.refl _ _)
                    refine ex_end ?_
                    intro us w2 hus hC hall
                    obtain ⟨v0, us, rfl⟩ := List.exists_cons_of_length_eq_add_one hus
                    replace hus := Nat.succ.inj hus
                    obtain ⟨v1, us, rfl⟩ := List.exists_cons_of_length_eq_add_one hus
                    replace hus := Nat.succ.inj hus
                    obtain ⟨v2, us, rfl⟩ := List.exists_cons_of_length_eq_add_one hus
                    replace hus := Nat.succ.inj hus
                    obtain ⟨v3, us, rfl⟩ := List.exists_cons_of_length_eq_add_one hus
                    replace hus := Nat.succ.inj hus
                    obtain ⟨v4, us, rfl⟩ := List.exists_cons_of_length_eq_add_one hus
                    replace hus := Nat.succ.inj hus
                    obtain ⟨v5, us, rfl⟩ := List.exists_cons_of_length_eq_add_one hus
                    replace hus := Nat.succ.inj hus
                    obtain ⟨v6, us, rfl⟩ := List.exists_cons_of_length_eq_add_one hus
                    replace hus := Nat.succ.inj hus
                    obtain ⟨v7, us, rfl⟩ := List.exists_cons_of_length_eq_add_one hus
                    replace hus := Nat.succ.inj hus
                    obtain ⟨v8, us, rfl⟩ := List.exists_cons_of_length_eq_add_one hus
                    replace hus := Nat.succ.inj hus
                    obtain ⟨v9, us, rfl⟩ := List.exists_cons_of_length_eq_add_one hus
                    replace hus := Nat.succ.inj hus
                    obtain ⟨v10, us, rfl⟩ := List.exists_cons_of_length_eq_add_one hus
                    replace hus := Nat.succ.inj hus
                    obtain ⟨v11, us, rfl⟩ := List.exists_cons_of_length_eq_add_one hus
                    replace hus := Nat.succ.inj hus
                    obtain ⟨v12, us, rfl⟩ := List.exists_cons_of_length_eq_add_one hus
                    replace hus := Nat.succ.inj hus
                    obtain ⟨v13, us, rfl⟩ := List.exists_cons_of_length_eq_add_one hus
                    replace hus := Nat.succ.inj hus
                    obtain ⟨v14, us, rfl⟩ := List.exists_cons_of_length_eq_add_one hus
                    replace hus := Nat.succ.inj hus
                    obtain ⟨v15, us, rfl⟩ := List.exists_cons_of_length_eq_add_one hus
                    replace hus := Nat.succ.inj hus
                    obtain rfl := List.length_eq_zero_iff.1 hus
                    clear hus
                    generalize hbb : exPuts _ _ _ = bb at hall ⊢
                    simp only [exPuts, Act.put, List.setIfInBounds_toArray, List.set_cons_succ, List.set_cons_zero] at hbb
                    subst hbb
                    obtain ⟨h15, h14, h13, h12, h11, h10, h9, h8, h7, h6, h5, h4, h3, h2, h1, h0, -⟩ := hall
                    obtain rfl : v0 = _ := h0
                    obtain rfl : v1 = _ := h1
                    obtain rfl : v2 = _ := h2
                    obtain rfl : v3 = _ := h3
                    obtain rfl : v4 = _ := h4
                    obtain rfl : v5 = _ := h5
                    obtain rfl : v6 = _ := h6
                    obtain rfl : v7 = _ := h7
                    obtain rfl : v8 = _ := h8
                    obtain rfl : v9 = _ := h9
                    obtain rfl : v10 = _ := h10
                    obtain rfl : v11 = _ := h11
                    obtain rfl : v12 = _ := h12
                    obtain rfl : v13 = _ := h13
                    obtain rfl : v14 = _ := h14
                    obtain rfl : v15 = _ := h15
                    go_wp2
                    all_goals go_returns
                    all_goals exact ⟨ret_bool (by rw [HF.out]), hC⟩
                  | false =>
                    have HE := Lib.hid hE
                    cases A with
                    | false =>
                      have HF : Hid (R = false) := Lib.hid (HN.out i k hlt hlt2 (by rw [Hb.out, hE]; rfl))
                      clear hE
                      refine wp_region_ex (fun _ w => Chg [] W w) (fun _ => Chg []) [13] [(0, 0, false), (0, 0, false), (0, 0, false), (0, 0, false), (0, 0, false), (0, 0, false), (0, 0, false), (0, 0, false), (0, 0, false), (0, 0, false), (0, 0, false), (0, 0, false), (0, 0, false), (0, 0, true), (1, 1, false), (1, 1, false)] [26, 27, 28, 29, 30, 31, 32, 33, 34, 35, 36, 37, 38, 39, 40, 41] (by kernel_rfl) rfl (by kernel_rfl) (by kernel_rfl) (hX.drew) ?_
                      simp only [List.zip_cons_cons, List.zip_nil_right]
                      refine ex_det 26 [0] rfl rfl (fun _ _ _ _ _ _ _ _ => rfl) ?_
                      apply Exists.intro
                      refine ⟨?_, ?_⟩
                      · intro wx bX kX hk1 hk2 hC hb hd K hK
                        have e0 := hb 0 rfl
                        simp only [exSlot, List.getD_cons_succ, List.getD_cons_zero] at e0
                        simp only [execOp, e0]
                        clear hb hd
                        go_simp
                        exact hK _ hC (Chg.refl _ _)
                      refine ex_det 27 [4] rfl rfl (fun _ _ _ _ _ _ _ _ => rfl) ?_
                      apply Exists.intro
                      refine ⟨?_, ?_⟩
                      · intro wx bX kX hk1 hk2 hC hb hd K hK
                        have e4 := hb 4 rfl
                        simp only [exSlot, List.getD_cons_succ, List.getD_cons_zero] at e4
                        simp only [execOp, e4]
                        clear hb hd
                        go_simp
                        exact hK _ hC (Chg.refl _ _)
                      refine ex_det 28 [26, 27] rfl rfl (fun _ _ _ _ _ _ _ _ => rfl) ?_
                      apply Exists.intro
                      refine ⟨?_, ?_⟩
                      · intro wx bX kX hk1 hk2 hC hb hd K hK
                        have e26 := hd 26 _ _ rfl rfl
                        try dsimp only at e26
                        have e27 := hd 27 _ _ rfl rfl
                        try dsimp only at e27
                        simp only [execOp, e26, e27]
                        clear hb hd
                        go_simp
                        exact hK _ hC (Chg.refl _ _)
                      refine ex_det 29 [28] rfl rfl (fun _ _ _ _ _ _ _ _ => rfl) ?_
                      apply Exists.intro
                      refine ⟨?_, ?_⟩
                      · intro wx bX kX hk1 hk2 hC hb hd K hK
                        have e28 := hd 28 _ _ rfl rfl
                        try dsimp only at e28
                        have d0 := hC.cell (Hc.out i p Hp.out).1 (by simp)
                        have d1 := hC.cell (Hc.out i p Hp.out).2 (by simp)
                        have d2 := hC.cell (Hc.out k q Hq.out).1 (by simp)
                        have d3 := hC.cell (Hc.out k q Hq.out).2 (by simp)
                        simp only [execOp, e28]
                        clear hb hd
                        go_simp
                        exact hK _ hC (Chg.refl _ _)
                      refine ex_det 30 [0] rfl rfl (fun _ _ _ _ _ _ _ _ => rfl) ?_
                      apply Exists.intro
                      refine ⟨?_, ?_⟩
                      · intro wx bX kX hk1 hk2 hC hb hd K hK
                        have e0 := hb 0 rfl
                        simp only [exSlot, List.getD_cons_succ, List.getD_cons_zero] at e0
                        simp only [execOp, e0]
                        clear hb hd
                        go_simp
                        exact hK _ hC (Chg.refl _ _)
                      refine ex_det 31 [5] rfl rfl (fun _ _ _ _ _ _ _ _ => rfl) ?_
                      apply Exists.intro
                      refine ⟨?_, ?_⟩
                      · intro wx bX kX hk1 hk2 hC hb hd K hK
                        have e5 := hb 5 rfl
                        simp only [exSlot, List.getD_cons_succ, List.getD_cons_zero] at e5
                        simp only [execOp, e5]
                        clear hb hd
                        go_simp
                        exact hK _ hC (Chg.refl _ _)
                      refine ex_det 32 [30, 31] rfl rfl (fun _ _ _ _ _ _ _ _ => rfl) ?_
                      apply Exists.intro
                      refine ⟨?_, ?_⟩
                      · intro wx bX kX hk1 hk2 hC hb hd K hK
                        have e30 := hd 30 _ _ rfl rfl
                        try dsimp only at e30
                        have e31 := hd 31 _ _ rfl rfl
                        try dsimp only at e31
                        simp only [execOp, e30, e31]
                        clear hb hd
                        go_simp
                        exact hK _ hC (Chg.refl _ _)
                      refine ex_det 33 [32] rfl rfl (fun _ _ _ _ _ _ _ _ => rfl) ?_
                      apply Exists.intro
                      refine ⟨?_, ?_⟩
                      · intro wx bX kX hk1 hk2 hC hb hd K hK
                        have e32 := hd 32 _ _ rfl rfl
                        try dsimp only at e32
                        have d0 := hC.cell (Hc.out i p Hp.out).1 (by simp)
                        have d1 := hC.cell (Hc.out i p Hp.out).2 (by simp)
                        have d2 := hC.cell (Hc.out k q Hq.out).1 (by simp)
                        have d3 := hC.cell (Hc.out k q Hq.out).2 (by simp)
                        simp only [execOp, e32]
                        clear hb hd
                        go_simp
                        exact hK _ hC (Chg.refl _ _)
                      refine ex_det 34 [29, 33] rfl rfl (fun _ _ _ _ _ _ _ _ => rfl) ?_
                      apply Exists.intro
                      refine ⟨?_, ?_⟩
                      · intro wx bX kX hk1 hk2 hC hb hd K hK
                        have e29 := hd 29 _ _ rfl rfl
                        try dsimp only at e29
                        have e33 := hd 33 _ _ rfl rfl
                        try dsimp only at e33
                        simp only [execOp, e29, e33]
                        clear hb hd
                        go_simp
                        rw [ite_ne HE.out]; exact hK _ hC (Chg.refl _ _)
                      refine ex_det 35 [34] rfl rfl (fun _ _ _ _ _ _ _ _ => rfl) ?_
                      apply Exists.intro
                      refine ⟨?_, ?_⟩
                      · intro wx bX kX hk1 hk2 hC hb hd K hK
                        have e34 := hd 34 _ _ rfl rfl
                        try dsimp only at e34
                        simp only [execOp, e34]
                        clear hb hd
                        go_simp
                        exact hK _ hC (Chg.refl _ _)
                      refine ex_det 36 [0, 35] rfl rfl (fun _ b _ _ _ _ hb hd => (wanted_guard b rfl rfl (hd 35 _ _ rfl rfl)).trans rfl) ?_
                      apply Exists.intro
                      refine ⟨?_, ?_⟩
                      · intro wx bX kX hk1 hk2 hC hb hd K hK
                        have e0 := hb 0 rfl
                        simp only [exSlot, List.getD_cons_succ, List.getD_cons_zero] at e0
                        simp only [execOp, e0]
                        clear hb hd
                        go_simp
                        exact hK _ hC (Chg.refl _ _)
                      refine ex_det 37 [5, 35] rfl rfl (fun _ b _ _ _ _ hb hd => (wanted_guard b rfl rfl (hd 35 _ _ rfl rfl)).trans rfl) ?_
                      apply Exists.intro
                      refine ⟨?_, ?_⟩
                      · intro wx bX kX hk1 hk2 hC hb hd K hK
                        have e5 := hb 5 rfl
                        simp only [exSlot, List.getD_cons_succ, List.getD_cons_zero] at e5
                        simp only [execOp, e5]
                        clear hb hd
                        go_simp
                        exact hK _ hC (Chg.refl _ _)
                      refine ex_det 38 [4, 35] rfl rfl (fun _ b _ _ _ _ hb hd => (wanted_guard b rfl rfl (hd 35 _ _ rfl rfl)).trans rfl) ?_
                      apply Exists.intro
                      refine ⟨?_, ?_⟩
                      · intro wx bX kX hk1 hk2 hC hb hd K hK
                        have e4 := hb 4 rfl
                        simp only [exSlot, List.getD_cons_succ, List.getD_cons_zero] at e4
                        simp only [execOp, e4]
                        clear hb hd
                        go_simp
                        exact hK _ hC (Chg.refl _ _)
                      refine ex_det 39 [36, 37, 38, 35] rfl rfl (fun _ b _ _ _ _ hb hd => (wanted_guard b rfl rfl (hd 35 _ _ rfl rfl)).trans rfl) ?_
                      apply Exists.intro
                      refine ⟨?_, ?_⟩
                      · intro wx bX kX hk1 hk2 hC hb hd K hK
                        have e36 := hd 36 _ _ rfl rfl
                        try dsimp only at e36
                        have e37 := hd 37 _ _ rfl rfl
                        try dsimp only at e37
                        have e38 := hd 38 _ _ rfl rfl
                        try dsimp only at e38
                        simp only [execOp, resolve, List.map_toArray, List.map_cons, List.map_nil, e36, e37, e38]
                        clear hb hd
                        go_simp
                        refine ((HA _ hC)).mono ?_; rintro e w' ⟨rfl, hX⟩
                        exact ⟨_, rfl, hK _ (hC.trans hX) hX⟩
                      refine ex_det 40 [39, 35] rfl rfl (fun _ b _ _ _ _ hb hd => (wanted_guard b rfl rfl (hd 35 _ _ rfl rfl)).trans rfl) ?_
                      apply Exists.intro
                      refine ⟨?_, ?_⟩
                      · intro wx bX kX hk1 hk2 hC hb hd K hK
                        have e39 := hd 39 _ _ rfl rfl
                        try dsimp only at e39
                        simp only [execOp, e39]
                        clear hb hd
                        go_simp
                        exact hK _ hC (Chg.refl _ _)
                      refine ex_det 41 [35, 40] rfl rfl (fun _ _ _ _ _ _ _ _ => rfl) ?_
                      apply Exists.intro
                      refine ⟨?_, ?_⟩
                      · intro wx bX kX hk1 hk2 hC hb hd K hK
                        have e35 := hd 35 _ _ rfl rfl
                        try dsimp only at e35
                        have e40 := hd 40 _ _ rfl rfl
                        try dsimp only at e40
                        simp only [execOp, e35, e40]
                        clear hb hd
                        go_simp
                        exact hK _ hC (Chg.refl _ _)
                      refine ex_end ?_
                      intro us w2 hus hC hall
                      obtain ⟨v0, us, rfl⟩ := List.exists_cons_of_length_eq_add_one hus
                      replace hus := Nat.succ.inj hus
                      obtain ⟨v1, us, rfl⟩ := List.exists_cons_of_length_eq_add_one hus
                      replace hus := Nat.succ.inj hus
                      obtain ⟨v2, us, rfl⟩ := List.exists_cons_of_length_eq_add_one hus
                      replace hus := Nat.succ.inj hus
                      obtain ⟨v3, us, rfl⟩ := List.exists_cons_of_length_eq_add_one hus
                      replace hus := Nat.succ.inj hus
                      obtain ⟨v4, us, rfl⟩ := List.exists_cons_of_length_eq_add_one hus
                      replace hus := Nat.succ.inj hus
                      obtain ⟨v5, us, rfl⟩ := List.exists_cons_of_length_eq_add_one hus
                      replace hus := Nat.succ.inj hus
                      obtain ⟨v6, us, rfl⟩ := List.exists_cons_of_length_eq_add_one hus
                      replace hus := Nat.succ.inj hus
                      obtain ⟨v7, us, rfl⟩ := List.exists_cons_of_length_eq_add_one hus
                      replace hus := Nat.succ.inj hus
                      obtain ⟨v8, us, rfl⟩ := List.exists_cons_of_length_eq_add_one hus
                      replace hus := Nat.succ.inj hus
                      obtain ⟨v9, us, rfl⟩ := List.exists_cons_of_length_eq_add_one hus
                      replace hus := Nat.succ.inj hus
                      obtain ⟨v10, us, rfl⟩ := List.exists_cons_of_length_eq_add_one hus
                      replace hus := Nat.succ.inj hus
                      obtain ⟨v11, us, rfl⟩ := List.exists_cons_of_length_eq_add_one hus
                      replace hus := Nat.succ.inj hus
                      obtain ⟨v12, us, rfl⟩ := List.exists_cons_of_length_eq_add_one hus
                      replace hus := Nat.succ.inj hus
                      obtain ⟨v13, us, rfl⟩ := List.exists_cons_of_length_eq_add_one hus
                      replace hus := Nat.succ.inj hus
                      obtain ⟨v14, us, rfl⟩ := List.exists_cons_of_length_eq_add_one hus
                      replace hus := Nat.succ.inj hus
                      obtain ⟨v15, us, rfl⟩ := List.exists_cons_of_length_eq_add_one hus
                      replace hus := Nat.succ.inj hus
                      obtain rfl := List.length_eq_zero_iff.1 hus
                      clear hus
                      generalize hbb : exPuts _ _ _ = bb at hall ⊢
                      simp only [exPuts, Act.put, List.setIfInBounds_toArray, List.set_cons_succ, List.set_cons_zero] at hbb
                      subst hbb
                      obtain ⟨h15, h14, h13, h12, h11, h10, h9, h8, h7, h6, h5, h4, h3, h2, h1, h0, -⟩ := hall
                      obtain rfl : v0 = _ := h0
                      obtain rfl : v1 = _ := h1
                      obtain rfl : v2 = _ := h2
                      obtain rfl : v3 = _ := h3
                      obtain rfl : v4 = _ := h4
                      obtain rfl : v5 = _ := h5
                      obtain rfl : v6 = _ := h6
                      obtain rfl : v7 = _ := h7
                      obtain rfl : v8 = _ := h8
                      obtain rfl : v9 = _ := h9
                      obtain rfl : v10 = _ := h10
                      obtain rfl : v11 = _ := h11
                      obtain rfl : v12 = _ := h12
                      obtain rfl : v13 = _ := h13
                      obtain rfl : v14 = _ := h14
                      obtain rfl : v15 = _ := h15
                      go_wp2
                      all_goals go_returns
                      all_goals exact ⟨ret_bool (by rw [HF.out]), hC⟩
                    | true =>
                      have HQ2 : Hid (∀ k', k' < k + 1 → pairB L k' i = true) := Lib.hid (fun k' hk' => by
                        by_cases e : k' = k
                        · subst e; rw [Hb.out, hE]; rfl
                        · exact HQ.out k' (by omega))
                      clear hE
                      refine wp_region_ex (fun _ w => Chg [] W w) (fun _ => Chg []) [13] [(0, 0, false), (0, 0, false), (0, 0, false), (0, 0, false), (0, 0, false), (0, 0, false), (0, 0, false), (0, 0, false), (0, 0, false), (0, 0, false), (0, 0, false), (0, 0, false), (0, 0, false), (0, 0, true), (1, 1, false), (1, 1, false)] [26, 27, 28, 29, 30, 31, 32, 33, 34, 35, 36, 37, 38, 39, 40, 41] (by kernel_rfl) rfl (by kernel_rfl) (by kernel_rfl) (hX.drew) ?_
                      simp only [List.zip_cons_cons, List.zip_nil_right]
                      refine ex_det 26 [0] rfl rfl (fun _ _ _ _ _ _ _ _ => rfl) ?_
                      apply Exists.intro
                      refine ⟨?_, ?_⟩
                      · intro wx bX kX hk1 hk2 hC hb hd K hK
                        have e0 := hb 0 rfl
                        simp only [exSlot, List.getD_cons_succ, List.getD_cons_zero] at e0
                        simp only [execOp, e0]
                        clear hb hd
                        go_simp
                        exact hK _ hC (Chg.refl _ _)
                      refine ex_det 27 [4] rfl rfl (fun _ _ _ _ _ _ _ _ => rfl) ?_
                      apply Exists.intro
                      refine ⟨?_, ?_⟩
                      · intro wx bX kX hk1 hk2 hC hb hd K hK
                        have e4 := hb 4 rfl
                        simp only [exSlot, List.getD_cons_succ, List.getD_cons_zero] at e4
                        simp only [execOp, e4]
                        clear hb hd
                        go_simp
                        exact hK _ hC (Chg.refl _ _)
                      refine ex_det 28 [26, 27] rfl rfl (fun _ _ _ _ _ _ _ _ => rfl) ?_
                      apply Exists.intro
                      refine ⟨?_, ?_⟩
                      · intro wx bX kX hk1 hk2 hC hb hd K hK
                        have e26 := hd 26 _ _ rfl rfl
                        try dsimp only at e26
                        have e27 := hd 27 _ _ rfl rfl
                        try dsimp only at e27
                        simp only [execOp, e26, e27]
                        clear hb hd
                        go_simp
                        exact hK _ hC (Chg.refl _ _)
                      refine ex_det 29 [28] rfl rfl (fun _ _ _ _ _ _ _ _ => rfl) ?_
                      apply Exists.intro
                      refine ⟨?_, ?_⟩
                      · intro wx bX kX hk1 hk2 hC hb hd K hK
                        have e28 := hd 28 _ _ rfl rfl
                        try dsimp only at e28
                        have d0 := hC.cell (Hc.out i p Hp.out).1 (by simp)
                        have d1 := hC.cell (Hc.out i p Hp.out).2 (by simp)
                        have d2 := hC.cell (Hc.out k q Hq.out).1 (by simp)
                        have d3 := hC.cell (Hc.out k q Hq.out).2 (by simp)
                        simp only [execOp, e28]
                        clear hb hd
                        go_simp
                        exact hK _ hC (Chg.refl _ _)
                      refine ex_det 30 [0] rfl rfl (fun _ _ _ _ _ _ _ _ => rfl) ?_
                      apply Exists.intro
                      refine ⟨?_, ?_⟩
                      · intro wx bX kX hk1 hk2 hC hb hd K hK
                        have e0 := hb 0 rfl
                        simp only [exSlot, List.getD_cons_succ, List.getD_cons_zero] at e0
                        simp only [execOp, e0]
                        clear hb hd
                        go_simp
                        exact hK _ hC (Chg.refl _ _)
                      refine ex_det 31 [5] rfl rfl (fun _ _ _ _ _ _ _ _ => rfl) ?_
                      apply Exists.intro
                      refine ⟨?_, ?_⟩
                      · intro wx bX kX hk1 hk2 hC hb hd K hK
                        have e5 := hb 5 rfl
                        simp only [exSlot, List.getD_cons_succ, List.getD_cons_zero] at e5
                        simp only [execOp, e5]
                        clear hb hd
                        go_simp
                        exact hK _ hC (Chg.refl _ _)
                      refine ex_det 32 [30, 31] rfl rfl (fun _ _ _ _ _ _ _ _ => rfl) ?_
                      apply Exists.intro
                      refine ⟨?_, ?_⟩
                      · intro wx bX kX hk1 hk2 hC hb hd K hK
                        have e30 := hd 30 _ _ rfl rfl
                        try dsimp only at e30
                        have e31 := hd 31 _ _ rfl rfl
                        try dsimp only at e31
                        simp only [execOp, e30, e31]
                        clear hb hd
                        go_simp
                        exact hK _ hC (Chg.refl _ _)
                      refine ex_det 33 [32] rfl rfl (fun _ _ _ _ _ _ _ _ => rfl) ?_
                      apply Exists.intro
                      refine ⟨?_, ?_⟩
                      · intro wx bX kX hk1 hk2 hC hb hd K hK
                        have e32 := hd 32 _ _ rfl rfl
                        try dsimp only at e32
                        have d0 := hC.cell (Hc.out i p Hp.out).1 (by simp)
                        have d1 := hC.cell (Hc.out i p Hp.out).2 (by simp)
                        have d2 := hC.cell (Hc.out k q Hq.out).1 (by simp)
                        have d3 := hC.cell (Hc.out k q Hq.out).2 (by simp)
                        simp only [execOp, e32]
                        clear hb hd
                        go_simp
                        exact hK _ hC (Chg.refl _ _)
                      refine ex_det 34 [29, 33] rfl rfl (fun _ _ _ _ _ _ _ _ => rfl) ?_
                      apply Exists.intro
                      refine ⟨?_, ?_⟩
                      · intro wx bX kX hk1 hk2 hC hb hd K hK
                        have e29 := hd 29 _ _ rfl rfl
                        try dsimp only at e29
                        have e33 := hd 33 _ _ rfl rfl
                        try dsimp only at e33
                        simp only [execOp, e29, e33]
                        clear hb hd
                        go_simp
                        rw [ite_ne HE.out]; exact hK _ hC (Chg.refl _ _)
                      refine ex_det 35 [34] rfl rfl (fun _ _ _ _ _ _ _ _ => rfl) ?_
                      apply Exists.intro
                      refine ⟨?_, ?_⟩
                      · intro wx bX kX hk1 hk2 hC hb hd K hK
                        have e34 := hd 34 _ _ rfl rfl
                        try dsimp only at e34
                        simp only [execOp, e34]
                        clear hb hd
                        go_simp
                        exact hK _ hC (Chg.refl _ _)
                      refine ex_det 36 [0, 35] rfl rfl (fun _ b _ _ _ _ hb hd => (wanted_guard b rfl rfl (hd 35 _ _ rfl rfl)).trans rfl) ?_
                      apply Exists.intro
                      refine ⟨?_, ?_⟩
                      · intro wx bX kX hk1 hk2 hC hb hd K hK
                        have e0 := hb 0 rfl
                        simp only [exSlot, List.getD_cons_succ, List.getD_cons_zero] at e0
                        simp only [execOp, e0]
                        clear hb hd
                        go_simp
                        exact hK _ hC (Chg.refl _ _)
                      refine ex_det 37 [5, 35] rfl rfl (fun _ b _ _ _ _ hb hd => (wanted_guard b rfl rfl (hd 35 _ _ rfl rfl)).trans rfl) ?_
                      apply Exists.intro
                      refine ⟨?_, ?_⟩
                      · intro wx bX kX hk1 hk2 hC hb hd K hK
                        have e5 := hb 5 rfl
                        simp only [exSlot, List.getD_cons_succ, List.getD_cons_zero] at e5
                        simp only [execOp, e5]
                        clear hb hd
                        go_simp
                        exact hK _ hC (Chg.refl _ _)
                      refine ex_det 38 [4, 35] rfl rfl (fun _ b _ _ _ _ hb hd => (wanted_guard b rfl rfl (hd 35 _ _ rfl rfl)).trans rfl) ?_
                      apply Exists.intro
                      refine ⟨?_, ?_⟩
                      · intro wx bX kX hk1 hk2 hC hb hd K hK
                        have e4 := hb 4 rfl
                        simp only [exSlot, List.getD_cons_succ, List.getD_cons_zero] at e4
                        simp only [execOp, e4]
                        clear hb hd
                        go_simp
                        exact hK _ hC (Chg.refl _ _)
                      refine ex_det 39 [36, 37, 38, 35] rfl rfl (fun _ b _ _ _ _ hb hd => (wanted_guard b rfl rfl (hd 35 _ _ rfl rfl)).trans rfl) ?_
                      apply Exists.intro
                      refine ⟨?_, ?_⟩
                      · intro wx bX kX hk1 hk2 hC hb hd K hK
                        have e36 := hd 36 _ _ rfl rfl
                        try dsimp only at e36
                        have e37 := hd 37 _ _ rfl rfl
                        try dsimp only at e37
                        have e38 := hd 38 _ _ rfl rfl
                        try dsimp only at e38
                        simp only [execOp, resolve, List.map_toArray, List.map_cons, List.map_nil, e36, e37, e38]
                        clear hb hd
                        go_simp
                        refine ((HA _ hC)).mono ?_; rintro e w' ⟨rfl, hX⟩
                        exact ⟨_, rfl, hK _ (hC.trans hX) hX⟩
                      refine ex_det 40 [39, 35] rfl rfl (fun _ b _ _ _ _ hb hd => (wanted_guard b rfl rfl (hd 35 _ _ rfl rfl)).trans rfl) ?_
                      apply Exists.intro
                      refine ⟨?_, ?_⟩
                      · intro wx bX kX hk1 hk2 hC hb hd K hK
                        have e39 := hd 39 _ _ rfl rfl
                        try dsimp only at e39
                        simp only [execOp, e39]
                        clear hb hd
                        go_simp
                        exact hK _ hC (Chg.refl _ _)
                      refine ex_det 41 [35, 40] rfl rfl (fun _ _ _ _ _ _ _ _ => rfl) ?_
                      apply Exists.intro
                      refine ⟨?_, ?_⟩
                      · intro wx bX kX hk1 hk2 hC hb hd K hK
                        have e35 := hd 35 _ _ rfl rfl
                        try dsimp only at e35
                        have e40 := hd 40 _ _ rfl rfl
                        try dsimp only at e40
                        simp only [execOp, e35, e40]
                        clear hb hd
                        go_simp
                        exact hK _ hC (Chg.refl _ _)
                      refine ex_end ?_
                      intro us w2 hus hC hall
                      obtain ⟨v0, us, rfl⟩ := List.exists_cons_of_length_eq_add_one hus
                      replace hus := Nat.succ.inj hus
                      obtain ⟨v1, us, rfl⟩ := List.exists_cons_of_length_eq_add_one hus
                      replace hus := Nat.succ.inj hus
                      obtain ⟨v2, us, rfl⟩ := List.exists_cons_of_length_eq_add_one hus
                      replace hus := Nat.succ.inj hus
                      obtain ⟨v3, us, rfl⟩ := List.exists_cons_of_length_eq_add_one hus
                      replace hus := Nat.succ.inj hus
                      obtain ⟨v4, us, rfl⟩ := List.exists_cons_of_length_eq_add_one hus
                      replace hus := Nat.succ.inj hus
                      obtain ⟨v5, us, rfl⟩ := List.exists_cons_of_length_eq_add_one hus
                      replace hus := Nat.succ.inj hus
                      obtain ⟨v6, us, rfl⟩ := List.exists_cons_of_length_eq_add_one hus
                      replace hus := Nat.succ.inj hus
                      obtain ⟨v7, us, rfl⟩ := List.exists_cons_of_length_eq_add_one hus
                      replace hus := Nat.succ.inj hus
                      obtain ⟨v8, us, rfl⟩ := List.exists_cons_of_length_eq_add_one hus
                      replace hus := Nat.succ.inj hus
                      obtain ⟨v9, us, rfl⟩ := List.exists_cons_of_length_eq_add_one hus
                      replace hus := Nat.succ.inj hus
                      obtain ⟨v10, us, rfl⟩ := List.exists_cons_of_length_eq_add_one hus
                      replace hus := Nat.succ.inj hus
                      obtain ⟨v11, us, rfl⟩ := List.exists_cons_of_length_eq_add_one hus
                      replace hus := Nat.succ.inj hus
                      obtain ⟨v12, us, rfl⟩ := List.exists_cons_of_length_eq_add_one hus
                      replace hus := Nat.succ.inj hus
                      obtain ⟨v13, us, rfl⟩ := List.exists_cons_of_length_eq_add_one hus
                      replace hus := Nat.succ.inj hus
                      obtain ⟨v14, us, rfl⟩ := List.exists_cons_of_length_eq_add_one hus
                      replace hus := Nat.succ.inj hus
                      obtain ⟨v15, us, rfl⟩ := List.exists_cons_of_length_eq_add_one hus
                      replace hus := Nat.succ.inj hus
                      obtain rfl := List.length_eq_zero_iff.1 hus
                      clear hus
                      generalize hbb : exPuts _ _ _ = bb at hall ⊢
                      simp only [exPuts, Act.put, List.setIfInBounds_toArray, List.set_cons_succ, List.set_cons_zero] at hbb
                      subst hbb
                      obtain ⟨h15, h14, h13, h12, h11, h10, h9, h8, h7, h6, h5, h4, h3, h2, h1, h0, -⟩ := hall
                      obtain rfl : v0 = _ := h0
                      obtain rfl : v1 = _ := h1
                      obtain rfl : v2 = _ := h2
                      obtain rfl : v3 = _ := h3
                      obtain rfl : v4 = _ := h4
                      obtain rfl : v5 = _ := h5
                      obtain rfl : v6 = _ := h6
                      obtain rfl : v7 = _ := h7
                      obtain rfl : v8 = _ := h8
                      obtain rfl : v9 = _ := h9
                      obtain rfl : v10 = _ := h10
                      obtain rfl : v11 = _ := h11
                      obtain rfl : v12 = _ := h12
                      obtain rfl : v13 = _ := h13
                      obtain rfl : v14 = _ := h14
                      obtain rfl : v15 = _ := h15
                      go_wp2_with fail
                      go_roundg (gk - 1)
                      case rel => exact ⟨k + 1, by omega, by go_num, hC, HQ2⟩
                      case measure => omega
                · obtain rfl : gk = 0 := by omega
                  obtain rfl : k = i := by omega
                  have HP2 : Hid (∀ i', i' < k + 1 → ∀ k', k' < i' → pairB L k' i' = true) := Lib.hid (fun i' hi' => by
                    by_cases e : i' = k
                    · subst e; exact HQ.out
                    · exact HP.out i' (by omega))
                  go_wp2_with fail
                  go_roundg (n - k - 1)
                  case rel => exact ⟨k + 1, by omega, by go_num, hX, HP2⟩
                  case measure => omega
            · obtain rfl : gk = 0 := by omega
              obtain rfl : i = n := by omega
              have HT : Hid (R = true) := Lib.hid (by rw [HI.out]; exact ⟨h3, h8, Hok.out, HP.out⟩)
              go_wp2
              all_goals go_returns
              all_goals exact ⟨ret_bool (by rw [HT.out]), hX⟩
    · have HRf : Hid (simpleB L = false) := Lib.hid (by cases hs : simpleB L; rfl; rw [HI.out] at hs; exact absurd hs.2.1 h8)
      obtain ⟨_, ad, cap, rfl⟩ := h.len
      clear h HI HN HA0 HR
      generalize simpleB L = R at *
      generalize L.length = n at *
      go_enter Tryz.func100, Tryz.ntmps100
      go_wp2
      all_goals go_returns
      all_goals exact ⟨ret_bool (by rw [HRf.out]), hX⟩
  · have HRf : Hid (simpleB L = false) := Lib.hid (by cases hs : simpleB L; rfl; rw [HI.out] at hs; exact absurd hs.1 h3)
    obtain ⟨_, ad, cap, rfl⟩ := h.len
    clear h HI HN HA0 HR
    generalize simpleB L = R at *
    generalize L.length = n at *
    go_enter Tryz.func100, Tryz.ntmps100
    go_wp2
    all_goals go_returns
    all_goals exact ⟨ret_bool (by rw [HRf.out]), hX⟩
end Go.Proofs.YtpfglmlpodjneaaGreat
namespace Go.Proofs.YtpfglmlpodjneaaGreat
open Go.RowKit

def polyB (L : List PtV) : Bool := simpleB L && !(L.any PtV.far)
set_option maxHeartbeats 1000000 in
theorem pright_any (W : World) (v : Value) (L : List PtV) (h : PtsR W v L) : Calls Tryz.prog 90 #[v] W fun e w' => e = .returned (.bool (polyB L)) ∧ Chg [] W w' := by
  have HS := psimple_any W v L h
  have HF := fun w (hw : Chg [] W w) => has_far w v L (h.keep hw)
  rw [show (L.any fun p => p.far) = L.any PtV.far from rfl] at HF
  have Ho := Lib.hid (show polyB L = (simpleB L && !(L.any PtV.far)) from rfl)
  clear h
  generalize polyB L = R at *
  generalize simpleB L = s at *
  generalize L.any PtV.far = t at *
  cases s with
  | false =>
    go_enter Tryz.func90, Tryz.ntmps90
    go_wp2_with fail
    refine HS.mono ?_; rintro e w' ⟨rfl, hX⟩
    go_wp2
    go_returns
    exact ⟨ret_bool (by rw [Ho.out]; rfl), hX⟩
  | true =>
    go_enter Tryz.func90, Tryz.ntmps90
    go_wp2_with fail
    refine HS.mono ?_; rintro e w' ⟨rfl, hX⟩
    go_wp2_with fail
    refine (HF _ hX).mono ?_; rintro e w2 ⟨rfl, hX2⟩
    go_wp2
    go_returns
    exact ⟨ret_bool (by rw [Ho.out]; rfl), hX.trans hX2⟩
set_option maxHeartbeats 1000000 in
theorem rnext_any (W : World) (v : Value) (L : List PtV) (h : PtsR W v L) (i j : Nat) (q : PtV) (hi : i < L.length) (hq : L[j]? = some q) (hj : j = (i + 1) % L.length) :
    Calls Tryz.prog 78 #[v, .int .i64 i] W fun e w' => e = .returned (.agg #[.int .i64 q.x, .int .i64 q.y]) ∧ Chg [] W w' := by
  have hjl : j < L.length := (List.getElem?_eq_some_iff.1 hq).1
  obtain ⟨hm, h⟩ := h
  rcases h with ⟨rfl, a, cap, rfl⟩ | ⟨b, off, cap, rfl, h0, hc⟩
  · simp at hi
  · have hA := At.new W #[.int .i64 0, .int .i64 0] 53
    have hX := (Chg.refl [] W).alloc (.cells #[.int .i64 0, .int .i64 0] 53)
    have d0 := hX.cell (hc j q hq).1 (by simp)
    have d1 := hX.cell (hc j q hq).2 (by simp)
    clear hc hq
    generalize L.length = n at *
    have hjm : ((i : Int) + 1).tmod (n : Int) = (j : Int) := by rw [hj, Int.tmod_eq_emod_of_nonneg (by omega)]; simp
    have hw1 : IntKind.i64.wrap ((i : Int) + 1) = (i : Int) + 1 := i64_in _ (by omega) (by omega)
    have hn0 : n ≠ 0 := by omega
    have k0 : (0 : Int) ≤ (j : Int) := by omega
    have k1 : (j : Int) < (n : Int) := by omega
    have k2 : (j : Int).toNat = j := by omega
    clear hj
    go_enter Tryz.func78, Tryz.ntmps78
    go_wp2_with (refine wpList_put rfl rfl rfl rfl hA rfl (by kernel_rfl) (by simp [Value.oneCell']) ?_; intro w' hA' hX'; refine Hid.out ?_)
    refine Lib.hid ?_
    go_wp2_with (with_reducible refine hold_post ?_)
    refine Lib.hid ?_
    exact bodyPost_ret (res_c rfl hA' (by kernel_rfl) rfl) rfl ⟨rfl, hX.then hX' (fun x hx hl => by simp at hx; omega)⟩
end Go.Proofs.YtpfglmlpodjneaaGreat
namespace Go.Proofs.YtpfglmlpodjneaaGreat
open Go.RowKit

def inB (n lo hi : Int) : Bool := decide (lo ≤ n) && decide (n ≤ hi)
theorem within3_any (w : World) (n lo hi : Int) : Calls Tryz.prog 71 #[.int .i64 n, .int .i64 lo, .int .i64 hi] w fun e w' => e = .returned (.bool (inB n lo hi)) ∧ w = w' := by
  by_cases h1 : lo ≤ n
  · by_cases h2 : n ≤ hi
    · go_enter Tryz.func71, Tryz.ntmps71
      go_wp2
      go_returns
      exact ⟨ret_bool (by simp [inB, h1, h2]), rfl⟩
    · go_enter Tryz.func71, Tryz.ntmps71
      go_wp2
      go_returns
      exact ⟨ret_bool (by simp [inB, h1, h2]), rfl⟩
  · go_enter Tryz.func71, Tryz.ntmps71
    go_wp2
    go_returns
    exact ⟨ret_bool (by simp [inB]; omega), rfl⟩
theorem within2_any (w : World) (n lo hi : Int) : Calls Tryz.prog 76 #[.int .i64 n, .int .i64 lo, .int .i64 hi] w fun e w' => e = .returned (.bool (inB n lo hi)) ∧ w = w' := by
  by_cases h1 : lo ≤ n
  · by_cases h2 : n ≤ hi
    · go_enter Tryz.func76, Tryz.ntmps76
      go_wp2
      go_returns
      exact ⟨ret_bool (by simp [inB, h1, h2]), rfl⟩
    · go_enter Tryz.func76, Tryz.ntmps76
      go_wp2
      go_returns
      exact ⟨ret_bool (by simp [inB, h1, h2]), rfl⟩
  · go_enter Tryz.func76, Tryz.ntmps76
    go_wp2
    go_returns
    exact ⟨ret_bool (by simp [inB]; omega), rfl⟩
def phaseB (L : List PtV) (g v m u : Int) : Bool := polyB L && (inB g 1 100 && (inB v 1 65536 && (inB m 1 1000000 && inB u 0 1073741824)))
set_option maxHeartbeats 1000000 in
theorem rightphase_any (w : World) (a : Value) (L : List PtV) (h : PtsR w a L) (g v m u : Int) : Calls Tryz.prog 74 #[.agg #[a, .int .i64 g, .int .i64 v, .int .i64 m, .int .i64 u]] w fun e w' => e = .returned (.bool (phaseB L g v m u)) ∧ Chg [] w w' := by
  have hX := (Chg.refl [] w).alloc (.cells #[a, .int .i64 g, .int .i64 v, .int .i64 m, .int .i64 u] 51)
  have hA := At.new w #[a, .int .i64 g, .int .i64 v, .int .i64 m, .int .i64 u] 51
  have HP := fun w' (hw : Chg [] w w') => pright_any w' a L (h.keep hw)
  have H1 := fun w => within2_any w g 1 100
  have H2 := fun w => within2_any w v 1 65536
  have H3 := fun w => within3_any w m 1 1000000
  have H4 := fun w => within2_any w u 0 1073741824
  have Ho := Lib.hid (show phaseB L g v m u = (polyB L && (inB g 1 100 && (inB v 1 65536 && (inB m 1 1000000 && inB u 0 1073741824)))) from rfl)
  clear h
  generalize phaseB L g v m u = R at *
  generalize polyB L = b0 at *
  generalize inB g 1 100 = b1 at *
  generalize inB v 1 65536 = b2 at *
  generalize inB m 1 1000000 = b3 at *
  generalize inB u 0 1073741824 = b4 at *
  go_enter Tryz.func74, Tryz.ntmps74
  go_wp2_with fail
  refine (HP _ hX).mono ?_; rintro e w1 ⟨rfl, hY⟩
  replace hA := hY.at hA (by simp)
  replace hX := hX.trans hY
  have c1 := hA.cell 1
  have c2 := hA.cell 2
  have c3 := hA.cell 3
  have c4 := hA.cell 4
  clear hY
  cases b0 with
  | false =>
    go_wp2
    go_returns
    exact ⟨ret_bool (by rw [Ho.out]; rfl), hX⟩
  | true =>
    go_wp2_with fail
    refine (H1 _).mono ?_; rintro e w' ⟨rfl, rfl⟩
    cases b1 with
    | false =>
      go_wp2
      go_returns
      exact ⟨ret_bool (by rw [Ho.out]; rfl), hX⟩
    | true =>
      go_wp2_with fail
      refine (H2 _).mono ?_; rintro e w' ⟨rfl, rfl⟩
      cases b2 with
      | false =>
        go_wp2
        go_returns
        exact ⟨ret_bool (by rw [Ho.out]; rfl), hX⟩
      | true =>
        go_wp2_with fail
        refine (H3 _).mono ?_; rintro e w' ⟨rfl, rfl⟩
        cases b3 with
        | false =>
          go_wp2
          go_returns
          exact ⟨ret_bool (by rw [Ho.out]; rfl), hX⟩
        | true =>
          go_wp2_with fail
          refine (H4 _).mono ?_; rintro e w' ⟨rfl, rfl⟩
          go_wp2
          go_returns
          exact ⟨ret_bool (by rw [Ho.out]; rfl), hX⟩
end Go.Proofs.YtpfglmlpodjneaaGreat
