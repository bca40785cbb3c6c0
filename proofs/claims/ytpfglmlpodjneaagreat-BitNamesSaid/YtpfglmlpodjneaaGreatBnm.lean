import Derived.Test.YtpfglmlpodjneaaGreatZ25
set_option linter.unusedSimpArgs false
set_option linter.unusedVariables false
namespace Go.Proofs.YtpfglmlpodjneaaGreat
open Go.RowKit

theorem names_nil (f : Int) : (namesN f 5).length = 0 ↔ f % 32 = 0 := by
  have h : (namesN f 5).length = (if f % 2 = 1 then 1 else 0) + (if f / 2 % 2 = 1 then 1 else 0) + (if f / 4 % 2 = 1 then 1 else 0) + (if f / 8 % 2 = 1 then 1 else 0) + (if f / 16 % 2 = 1 then 1 else 0) := by
    have e0 : (if bitN f ((2 ^ 0 : Nat) : Int) = true then 1 else 0) = (if f % 2 = 1 then 1 else 0) := by unfold bitN; simp
    have key : ∀ (c : Bool) (x : ByteArray), (if c = true then [x] else []).length = (if c = true then 1 else 0) := by intro c x; cases c <;> rfl
    simp only [namesN, List.length_append, key, List.length_nil]
    rw [e0]
    unfold bitN
    simp only [decide_eq_true_eq]
    simp
  rw [h]
  have key2 : ∀ (a : Int), (a = 1 ∧ (if a = 1 then 1 else 0) = (1 : Nat)) ∨ (¬ a = 1 ∧ (if a = 1 then 1 else 0) = (0 : Nat)) := by
    intro a
    by_cases h : a = 1
    · exact .inl ⟨h, if_pos h⟩
    · exact .inr ⟨h, if_neg h⟩
  rcases key2 (f % 2) with ⟨q0, e0⟩ | ⟨q0, e0⟩ <;> rcases key2 (f / 2 % 2) with ⟨q1, e1⟩ | ⟨q1, e1⟩ <;> rcases key2 (f / 4 % 2) with ⟨q2, e2⟩ | ⟨q2, e2⟩ <;> rcases key2 (f / 8 % 2) with ⟨q3, e3⟩ | ⟨q3, e3⟩ <;> rcases key2 (f / 16 % 2) with ⟨q4, e4⟩ | ⟨q4, e4⟩ <;> rw [e0, e1, e2, e3, e4] <;> omega
set_option maxRecDepth 100000 in
set_option maxHeartbeats 4000000 in
theorem BitNames_walk (W : World) (f : Int) (_w0 : (Lit.int .i64 f).wf = true) :
    Calls Tryz.prog 4 #[.int .i64 f] W fun e w' => e = .returned (.bool true) ∧ Below W.heap.size W w' := by
  have hm := mask5 f
  have hnn := names_nil f
  have hL5 := namesN_len f 5
  have HB := Lib.hid (fun w => bnames_any w f)
  have HR := Lib.hid (fun w => rnames_any w f)
  have HH := Lib.hid (fun w => bhealthy_any w (f % 32))
  generalize namesN f 5 = L at *
  go_enter Tryz.func4, Tryz.ntmps4
  go_wp2_with fail
  refine (HB.out _).mono ?_; rintro e w1 ⟨v1, rfl, N1, hX1⟩
  go_wp2_with fail
  refine (HR.out _).mono ?_; rintro e w2 ⟨v2, rfl, N2, hX2⟩
  replace N1 := N1.keep hX2
  have hX := hX1.trans hX2
  clear hX1 hX2
  obtain ⟨a1, c1, rfl, H1⟩ := N1
  obtain ⟨a2, c2, rfl, H2⟩ := N2
  have H1 := Lib.hid H1
  have H2 := Lib.hid H2
  generalize hn : L.length = n at *
  have Hn := Lib.hid hn
  clear hn
  go_wp2_with fail
  refine (awake23 _).mono ?_; rintro e w3 ⟨rfl, hX3⟩
  go_wp2_with fail
  go_loopg [21] n (fun gk ii wr => ∃ k : Nat, k + gk = n ∧ ii = .int .i64 k ∧ Chg [] w2 wr)
  case atStart => exact ⟨0, by omega, rfl, hX3⟩
  case round =>
    clear hX3
    obtain ⟨k, hk, rfl, hY⟩ := hrel
    by_cases hlt : k < n
    · obtain ⟨s, hs⟩ : ∃ s, L[k]? = some s := ⟨L[k]'(by rw [Hn.out]; exact hlt), List.getElem?_eq_getElem _⟩
      have k0 : (0 : Int) ≤ (k : Int) := by omega
      have k1 : (k : Int) < (n : Int) := by omega
      have k2 : (k : Int).toNat = k := by omega
      obtain ⟨g1, rfl, d1⟩ := H1.out k s hs
      obtain ⟨g2, rfl, d2⟩ := H2.out k s hs
      have d1 := hY.cell d1 (by simp)
      have d2 := hY.cell d2 (by simp)
      clear hs
      go_upto_region 7 with fail
      go_quiet (fail)
      go_wp2_with fail
      go_roundg (gk - 1)
      case rel => exact ⟨k + 1, by omega, by go_num, hY.drewN _⟩
      case measure => omega
    · obtain rfl : gk = 0 := by omega
      have hkn : n = k := by omega
      subst hkn
      by_cases h0 : n = 0
      · have hf : f % 32 = 0 := hnn.1 h0
        have hb : ((n : Int) == 0) = true := by rw [h0]; rfl
        rw [hf] at HH hm
        clear hnn hf
        go_wp2_with fail
        refine (HH.out _).mono ?_; rintro e w5 ⟨rfl, rfl⟩
        subst h0
        go_wp2
        go_returns
        exact ⟨rfl, (hX.trans hY).to_below⟩
      · have hf : ¬(f % 32 = 0) := fun h => h0 (hnn.2 h)
        have hb : ((n : Int) == 0) = false := by simpa using h0
        have hfb : (f % 32 == 0) = false := by simpa using hf
        rw [hfb] at HH
        clear hnn hf hfb
        have h00 : ¬ ((n : Int) = 0) := by omega
        go_wp2_with fail
        refine (HH.out _).mono ?_; rintro e w5 ⟨rfl, rfl⟩
        go_wp2
        go_returns
        exact ⟨rfl, (hX.trans hY).to_below⟩
end Go.Proofs.YtpfglmlpodjneaaGreat
