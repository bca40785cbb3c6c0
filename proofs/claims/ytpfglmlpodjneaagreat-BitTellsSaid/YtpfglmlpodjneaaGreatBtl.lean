import Derived.Test.YtpfglmlpodjneaaGreatZ25
set_option linter.unusedSimpArgs false
set_option linter.unusedVariables false
namespace Go.Proofs.YtpfglmlpodjneaaGreat
open Go.RowKit

theorem fault_nil (e port : Int) : faultN e port = 0 ↔ e = 0 ∧ port % 4 = 0 := by
  unfold faultN bitN
  by_cases h : e = 0
  · rw [if_pos h]
    by_cases h1 : port / 1 % 2 = 1
    · rw [if_pos (by simpa using h1)]
      constructor
      · intro hh; split at hh <;> omega
      · rintro ⟨_, h4⟩; omega
    · rw [if_neg (by simpa using h1)]
      by_cases h2 : port / 2 % 2 = 1
      · rw [if_pos (by simpa using h2)]
        constructor
        · intro hh; omega
        · rintro ⟨_, h4⟩; omega
      · rw [if_neg (by simpa using h2)]
        constructor
        · intro _; exact ⟨h, by omega⟩
        · intro _; rfl
  · rw [if_neg h]
    constructor
    · intro hh; split at hh <;> split at hh <;> omega
    · rintro ⟨h0, _⟩; exact absurd h0 h
set_option maxRecDepth 100000 in
set_option maxHeartbeats 4000000 in
theorem BitTells_walk (W : World) (s : ByteArray) (_hs : s.size ≤ maxLen) (port : Int) (_w : (Lit.int .i64 port).wf = true) :
    Calls Tryz.prog 3 #[.string s, .int .i64 port] W fun e w' => e = .returned (.bool true) ∧ Below W.heap.size W w' := by
  by_cases h : 3000 < s.size
  · have hg : (3000 : Int) < (s.size : Int) := by omega
    clear h
    go_enter Tryz.func3, Tryz.ntmps3
    go_wp2_with fail
    refine (awake23 _).mono ?_; rintro e w1 ⟨rfl, hX0⟩
    go_wp2_with fail
    refine (awake23 _).mono ?_; rintro e w2 ⟨rfl, hX⟩
    go_wp2
    go_returns
    exact ⟨rfl, (hX0.trans hX).to_below⟩
  · have HB := Lib.hid (fun w => btest_any w s port (by omega))
    have HR := Lib.hid (fun w => rtest_any w s port (by omega))
    have HQ := Lib.hid (fun w => qread_any w s (by omega))
    have h3 := mask2 port
    have HF := fault_nil (readV s).2 port
    rw [show testV s port = ((readV s).1, faultN (readV s).2 port) from rfl] at HB HR
    generalize hfn : faultN (readV s).2 port = n at *
    clear hfn
    generalize readV s = rv at *
    obtain ⟨⟨ph, rn, rd, rg, re, rs, ra, rl, rf⟩, er⟩ := rv
    dsimp only at HF
    replace HB : Hid (∀ w, Calls Tryz.prog 8 #[.string s, .int .i64 port] w fun e w' => ∃ va, e = .returned (.tuple #[.agg #[va, .int .i64 rn, .int .i64 rd, .int .i64 rg, .int .i64 re, .int .i64 rs, .int .i64 ra, .int .i64 rl, .int .i64 rf], .int .i64 n]) ∧ (∀ (S : List Nat) (w2 : World), (∀ b ∈ S, b < w.heap.size) → Chg S w' w2 → PhsR w2 va ph) ∧ Chg [] w w') := HB
    replace HR : Hid (∀ w, Calls Tryz.prog 9 #[.string s, .int .i64 port] w fun e w' => ∃ va, e = .returned (.tuple #[.agg #[va, .int .i64 rn, .int .i64 rd, .int .i64 rg, .int .i64 re, .int .i64 rs, .int .i64 ra, .int .i64 rl, .int .i64 rf], .int .i64 n]) ∧ (∀ (S : List Nat) (w2 : World), (∀ b ∈ S, b < w.heap.size) → Chg S w' w2 → PhsR w2 va ph) ∧ Chg [] w w') := HR
    replace HQ : Hid (∀ w, Calls Tryz.prog 10 #[.string s] w fun e w' => ∃ va, e = .returned (.tuple #[.agg #[va, .int .i64 rn, .int .i64 rd, .int .i64 rg, .int .i64 re, .int .i64 rs, .int .i64 ra, .int .i64 rl, .int .i64 rf], .int .i64 er]) ∧ (∀ (S : List Nat) (w2 : World), (∀ b ∈ S, b < w.heap.size) → Chg S w' w2 → PhsR w2 va ph) ∧ Chg [] w w') := HQ
    have hg : ¬((3000 : Int) < (s.size : Int)) := by omega
    clear h
    go_enter Tryz.func3, Tryz.ntmps3
    go_wp2_with fail
    refine (awake23 _).mono ?_; rintro e w1 ⟨rfl, hX0⟩
    go_wp2_with fail
    refine (HB.out w1).mono ?_; rintro e w2 ⟨va, rfl, hD, hX⟩
    replace hX0 := hX0.trans hX
    clear hX
    have P1 := hD [] w2 (by simp) (Chg.refl _ _)
    clear hD
    have hone : va.oneCell' = true := by obtain ⟨_, ad, cap, rfl⟩ := P1.len; rfl
    have hN := At.new w2 #[.slice none 0 0, .int .i64 0, .int .i64 0, .int .i64 0, .int .i64 0, .int .i64 0, .int .i64 0, .int .i64 0, .int .i64 0] 25
    have hXn := (Chg.refl [] w2).alloc (.cells #[.slice none 0 0, .int .i64 0, .int .i64 0, .int .i64 0, .int .i64 0, .int .i64 0, .int .i64 0, .int .i64 0, .int .i64 0] 25)
    go_wp2_with (refine wpList_put rfl rfl rfl rfl hN rfl (by kernel_rfl) (by simp [hone, one_int]) ?_; intro w3 A1 hX3; refine Hid.out ?_)
    refine Lib.hid ?_
    have hXr : Chg [] w2 w3 := hXn.then hX3 (fun x hx hl => by simp at hx; omega)
    replace P1 := P1.keep hXr
    replace hX0 := hX0.trans hXr
    generalize w2.heap.size = y1 at *
    clear hN hXn hX3 hXr hone
    go_wp2_with fail
    refine (HR.out w3).mono ?_; rintro e w4 ⟨vb, rfl, hD, hX⟩
    replace P1 := P1.keep hX
    replace A1 := hX.at A1 (by simp)
    replace hX0 := hX0.trans hX
    clear hX
    have P2 := hD [] w4 (by simp) (Chg.refl _ _)
    clear hD
    have hone : vb.oneCell' = true := by obtain ⟨_, ad, cap, rfl⟩ := P2.len; rfl
    have hN := At.new w4 #[.slice none 0 0, .int .i64 0, .int .i64 0, .int .i64 0, .int .i64 0, .int .i64 0, .int .i64 0, .int .i64 0, .int .i64 0] 25
    have hXn := (Chg.refl [] w4).alloc (.cells #[.slice none 0 0, .int .i64 0, .int .i64 0, .int .i64 0, .int .i64 0, .int .i64 0, .int .i64 0, .int .i64 0, .int .i64 0] 25)
    go_wp2_with (refine wpList_put rfl rfl rfl rfl hN rfl (by kernel_rfl) (by simp [hone, one_int]) ?_; intro w5 A2 hX3; refine Hid.out ?_)
    refine Lib.hid ?_
    have hXr : Chg [] w4 w5 := hXn.then hX3 (fun x hx hl => by simp at hx; omega)
    replace P2 := P2.keep hXr
    replace P1 := P1.keep hXr
    replace A1 := hXr.at A1 (by simp)
    replace hX0 := hX0.trans hXr
    generalize w4.heap.size = y2 at *
    clear hN hXn hX3 hXr hone
    go_wp2_with fail
    refine (HQ.out w5).mono ?_; rintro e w6 ⟨vc, rfl, hD, hX⟩
    replace P1 := P1.keep hX
    replace A1 := hX.at A1 (by simp)
    replace P2 := P2.keep hX
    replace A2 := hX.at A2 (by simp)
    replace hX0 := hX0.trans hX
    clear hX
    have P3 := hD [] w6 (by simp) (Chg.refl _ _)
    clear hD
    have hone : vc.oneCell' = true := by obtain ⟨_, ad, cap, rfl⟩ := P3.len; rfl
    have hN := At.new w6 #[.slice none 0 0, .int .i64 0, .int .i64 0, .int .i64 0, .int .i64 0, .int .i64 0, .int .i64 0, .int .i64 0, .int .i64 0] 25
    have hXn := (Chg.refl [] w6).alloc (.cells #[.slice none 0 0, .int .i64 0, .int .i64 0, .int .i64 0, .int .i64 0, .int .i64 0, .int .i64 0, .int .i64 0, .int .i64 0] 25)
    go_wp2_with (refine wpList_put rfl rfl rfl rfl hN rfl (by kernel_rfl) (by simp [hone, one_int]) ?_; intro w7 A3 hX3; refine Hid.out ?_)
    refine Lib.hid ?_
    have hXr : Chg [] w6 w7 := hXn.then hX3 (fun x hx hl => by simp at hx; omega)
    replace P3 := P3.keep hXr
    replace P1 := P1.keep hXr
    replace A1 := hXr.at A1 (by simp)
    replace P2 := P2.keep hXr
    replace A2 := hXr.at A2 (by simp)
    replace hX0 := hX0.trans hXr
    generalize w6.heap.size = y3 at *
    clear hN hXn hX3 hXr hone
    clear P3 A3
    have HS := same_self w7 va vb ⟨ph, rn, rd, rg, re, rs, ra, rl, rf⟩ P1 P2
    unfold RuV.cells at HS
    dsimp only at HS
    clear P1 P2
    by_cases he : er = 0
    · subst he
      by_cases hp : port % 4 = 0
      · have hn : n = 0 := HF.2 ⟨rfl, hp⟩
        subst hn
        rw [hp] at h3
        clear HF hp
        have c0 := A1.cell 0
        have c1 := A1.cell 1
        have c2 := A1.cell 2
        have c3 := A1.cell 3
        have c4 := A1.cell 4
        have c5 := A1.cell 5
        have c6 := A1.cell 6
        have c7 := A1.cell 7
        have c8 := A1.cell 8
        have d0 := A2.cell 0
        have d1 := A2.cell 1
        have d2 := A2.cell 2
        have d3 := A2.cell 3
        have d4 := A2.cell 4
        have d5 := A2.cell 5
        have d6 := A2.cell 6
        have d7 := A2.cell 7
        have d8 := A2.cell 8
        go_wp2_with fail
        refine HS.mono ?_; rintro e w8 ⟨rfl, hX8⟩
        go_wp2_with fail
        refine (bhealthy_any _ 0).mono ?_; rintro e w9 ⟨rfl, rfl⟩
        go_wp2
        go_returns
        exact ⟨rfl, (hX0.trans hX8).to_below⟩
      · have hn : ¬ (n = 0) := fun h => hp (HF.1 h).2
        have hn2 : (n == 0) = false := by simpa using hn
        have hp2 : (port % 4 == 0) = false := by simpa using hp
        clear HF
        have c0 := A1.cell 0
        have c1 := A1.cell 1
        have c2 := A1.cell 2
        have c3 := A1.cell 3
        have c4 := A1.cell 4
        have c5 := A1.cell 5
        have c6 := A1.cell 6
        have c7 := A1.cell 7
        have c8 := A1.cell 8
        have d0 := A2.cell 0
        have d1 := A2.cell 1
        have d2 := A2.cell 2
        have d3 := A2.cell 3
        have d4 := A2.cell 4
        have d5 := A2.cell 5
        have d6 := A2.cell 6
        have d7 := A2.cell 7
        have d8 := A2.cell 8
        go_wp2_with fail
        refine HS.mono ?_; rintro e w8 ⟨rfl, hX8⟩
        go_wp2_with fail
        refine (bhealthy_any _ n).mono ?_; rintro e w9 ⟨rfl, rfl⟩
        rw [hn2]
        go_wp2
        go_returns
        exact ⟨rfl, (hX0.trans hX8).to_below⟩
    · have hn : ¬ (n = 0) := fun h => he (HF.1 h).1
      have hn2 : (n == 0) = false := by simpa using hn
      have he2 : (er == 0) = false := by simpa using he
      clear HF
      have c0 := A1.cell 0
      have c1 := A1.cell 1
      have c2 := A1.cell 2
      have c3 := A1.cell 3
      have c4 := A1.cell 4
      have c5 := A1.cell 5
      have c6 := A1.cell 6
      have c7 := A1.cell 7
      have c8 := A1.cell 8
      have d0 := A2.cell 0
      have d1 := A2.cell 1
      have d2 := A2.cell 2
      have d3 := A2.cell 3
      have d4 := A2.cell 4
      have d5 := A2.cell 5
      have d6 := A2.cell 6
      have d7 := A2.cell 7
      have d8 := A2.cell 8
      go_wp2_with fail
      refine HS.mono ?_; rintro e w8 ⟨rfl, hX8⟩
      go_wp2_with fail
      refine (bhealthy_any _ n).mono ?_; rintro e w9 ⟨rfl, rfl⟩
      rw [hn2]
      go_wp2
      go_returns
      exact ⟨rfl, (hX0.trans hX8).to_below⟩
end Go.Proofs.YtpfglmlpodjneaaGreat
