/- Package fix and its reference: Sum. -/
import Derived.Test.YthdjanjlpgcmoaaFir
import Derived.Test.YthdjanjlpgcmoaaSh
import Derived.Deep.LoopGhost
namespace Go.Proofs.Ythdjanjlpgcmoaa
open Go.RowKit

/-- The value v is a slice of the numbers L (somebody's). -/
def ISl (w : World) (v : Value) (L : List Int) : Prop :=
  (L = [] ∧ ∃ a cap, v = .slice a 0 cap) ∨ ∃ (b off cap : Nat), v = .slice (some ⟨b, off, none⟩) L.length cap ∧ ∀ i n, L[i]? = some n → w.cell? ⟨b, off + i, none⟩ = some (.int .i64 n)
theorem ISl.keep {w w' : World} {v : Value} {L : List Int} (h : ISl w v L) (hX : Chg [] w w') : ISl w' v L := by
  rcases h with h | ⟨b, off, cap, e, h⟩
  · exact .inl h
  · exact .inr ⟨b, off, cap, e, fun i n hn => hX.cell (h i n hn) (by simp)⟩
theorem ISl.form {w : World} {v : Value} {L : List Int} (h : ISl w v L) : ∃ a cap, v = .slice a L.length cap := by
  rcases h with ⟨rfl, a, cap, rfl⟩ | ⟨b, off, cap, rfl, _⟩
  · exact ⟨a, cap, rfl⟩
  · exact ⟨_, cap, rfl⟩
/-- What a sum of many is. -/
def sumL : Int → List Int → Int × Bool
  | s, [] => (s, true)
  | s, n :: l => if fits64 (s + n) then sumL (s + n) l else (0, false)
theorem sumL_sum (l : List Int) : ∀ s t, sumL s l = (t, true) → t = s + l.sum := by
  induction l with
  | nil => intro s t h; simp [sumL] at h; simp [h]
  | cons n l ih =>
    intro s t h
    unfold sumL at h
    split at h
    · rw [ih _ _ h, List.sum_cons]; omega
    · simp at h
theorem sumL_no (l : List Int) : ∀ s t, sumL s l = (t, false) → t = 0 := by
  induction l with
  | nil => intro s t h; simp [sumL] at h
  | cons n l ih =>
    intro s t h
    unfold sumL at h
    split at h
    · exact ih _ _ h
    · simp at h; exact h.symm
theorem wf_all_bd {L : List Int} (h : ∀ n ∈ L, -9223372036854775808 ≤ n ∧ n ≤ 9223372036854775807) (k : Nat) (n : Int) (hn : L[k]? = some n) : -9223372036854775808 ≤ n ∧ n ≤ 9223372036854775807 := h n (List.mem_of_getElem? hn)
theorem drop_cons {L : List Int} {k : Nat} {n : Int} (h : L[k]? = some n) : L.drop k = n :: L.drop (k + 1) := by
  have hk : k < L.length := (List.getElem?_eq_some_iff.1 h).1
  rw [List.drop_eq_getElem_cons hk]
  rw [List.getElem?_eq_getElem hk] at h
  rw [Option.some.inj h]

set_option maxHeartbeats 1000000 in
theorem fsum_any (w : World) (v : Value) (L : List Int) (h : ISl w v L) (hw : ∀ n ∈ L, -9223372036854775808 ≤ n ∧ n ≤ 9223372036854775807) (hl : L.length ≤ 1000000) :
    Calls Try.prog 15 #[v] w fun e w' => e = .returned (.tuple #[.int .i64 (sumL 0 L).1, .bool (sumL 0 L).2]) ∧ Chg [] w w' := by
  obtain ⟨a, cap, rfl⟩ := h.form
  have HW := Lib.hid hw
  clear hw
  go_enter Try.func15, Try.ntmps15
  go_wp2_with fail
  have hd0 : L.drop 0 = L := rfl
  obtain ⟨res, hr⟩ : ∃ r, sumL 0 L = r := ⟨_, rfl⟩
  have HRes := Lib.hid hr
  go_loopg [2, 8] (L.length + 1) (fun g s i wr => ∃ (k : Nat) (t : Int), g + k = L.length + 1 ∧ k ≤ L.length ∧ i = .int .i64 k ∧ s = .int .i64 t ∧ -9223372036854775808 ≤ t ∧ t ≤ 9223372036854775807 ∧ Hid (sumL t (L.drop k) = res) ∧ Chg [] w wr)
  case atStart => exact ⟨0, 0, by omega, by omega, rfl, rfl, by omega, by omega, Lib.hid hr, Chg.refl _ _⟩
  case round =>
    clear hr hd0
    obtain ⟨k, t, hg, hk, rfl, rfl, t0, t1, HR, hX⟩ := hrel
    by_cases hlt : k < L.length
    · obtain ⟨n, hn⟩ : ∃ n, L[k]? = some n := ⟨L[k], List.getElem?_eq_getElem hlt⟩
      obtain ⟨n0, n1⟩ := wf_all_bd HW.out k n hn
      have hs := HR.out
      rw [drop_cons hn] at hs
      unfold sumL at hs
      have hcell : ∃ (b off : Nat), a = some ⟨b, off, none⟩ ∧ wr.cell? ⟨b, off + k, none⟩ = some (.int .i64 n) := by
        rcases h with ⟨rfl, _⟩ | ⟨b, off, cap', e, hc⟩
        · simp at hlt
        · cases e
          exact ⟨b, off, rfl, hX.cell (hc k n hn) (by simp)⟩
      obtain ⟨b, off, rfl, c0⟩ := hcell
      have P1 := Lib.hid (fun w => fadd_any w t n t0 t1 n0 n1)
      rcases Bool.eq_false_or_eq_true (fits64 (t + n)) with hf | hf
      · rw [if_pos hf] at hs
        rw [hf, int64V_fits hf] at P1
        have hb := (fits64_iff _).1 hf
        replace HR := Lib.hid hs
        clear hs hf hn
        generalize t + n = u at *
        go_wp2_with fail
        refine (P1.out _).mono ?_; rintro e w1 ⟨rfl, hX1⟩
        go_wp2_with fail
        go_roundg (gk - 1)
        case rel => exact ⟨k + 1, u, by omega, by omega, by go_num, rfl, hb.1, hb.2, HR, hX.trans hX1⟩
        case measure => omega
      · rw [if_neg (by rw [hf]; decide)] at hs
        rw [hf] at P1
        replace HR := Lib.hid hs
        clear hs hf hn
        generalize int64V (t + n) = u at *
        go_wp2_with fail
        refine (P1.out _).mono ?_; rintro e w1 ⟨rfl, hX1⟩
        go_wp2_with fail
        go_returns
        exact ⟨by rw [HRes.out, ← HR.out] <;> rfl, hX.trans hX1⟩
    · obtain rfl : k = L.length := by omega
      have hs := HR.out
      rw [List.drop_length] at hs
      unfold sumL at hs
      replace HR := Lib.hid hs
      clear hs
      go_wp2_with fail
      go_returns
      exact ⟨by rw [HRes.out, ← HR.out] <;> rfl, hX⟩
set_option maxHeartbeats 1000000 in
theorem rsum2_any (w : World) (v : Value) (L : List Int) (h : ISl w v L) (hw : ∀ n ∈ L, -9223372036854775808 ≤ n ∧ n ≤ 9223372036854775807) (hl : L.length ≤ 1000000) :
    Calls Try.prog 16 #[v] w fun e w' => e = .returned (.tuple #[.int .i64 (sumL 0 L).1, .bool (sumL 0 L).2]) ∧ Chg [] w w' := by
  obtain ⟨a, cap, rfl⟩ := h.form
  have HW := Lib.hid hw
  clear hw
  go_enter Try.func16, Try.ntmps16
  go_wp2_with fail
  obtain ⟨res, hr⟩ : ∃ r, sumL 0 L = r := ⟨_, rfl⟩
  have HRes := Lib.hid hr
  go_loopg [4, 5] (L.length + 1) (fun g s i wr => ∃ (k : Nat) (t : Int), g + k = L.length + 1 ∧ k ≤ L.length ∧ i = .int .i64 k ∧ s = .int .i64 t ∧ -9223372036854775808 ≤ t ∧ t ≤ 9223372036854775807 ∧ Hid (sumL t (L.drop k) = res) ∧ Chg [] w wr)
  case atStart => exact ⟨0, 0, by omega, by omega, rfl, rfl, by omega, by omega, Lib.hid hr, Chg.refl _ _⟩
  case round =>
    clear hr
    obtain ⟨k, t, hg, hk, rfl, rfl, t0, t1, HR, hX⟩ := hrel
    by_cases hlt : k < L.length
    · obtain ⟨n, hn⟩ : ∃ n, L[k]? = some n := ⟨L[k], List.getElem?_eq_getElem hlt⟩
      obtain ⟨n0, n1⟩ := wf_all_bd HW.out k n hn
      have hs := HR.out
      rw [drop_cons hn] at hs
      unfold sumL at hs
      have hcell : ∃ (b off : Nat), a = some ⟨b, off, none⟩ ∧ wr.cell? ⟨b, off + k, none⟩ = some (.int .i64 n) := by
        rcases h with ⟨rfl, _⟩ | ⟨b, off, cap', e, hc⟩
        · simp at hlt
        · cases e
          exact ⟨b, off, rfl, hX.cell (hc k n hn) (by simp)⟩
      obtain ⟨b, off, rfl, c0⟩ := hcell
      have P1 := Lib.hid (fun w => radd2_any w t n t0 t1 n0 n1)
      rcases Bool.eq_false_or_eq_true (fits64 (t + n)) with hf | hf
      · rw [if_pos hf] at hs
        rw [hf, int64V_fits hf] at P1
        have hb := (fits64_iff _).1 hf
        replace HR := Lib.hid hs
        clear hs hf hn
        generalize t + n = u at *
        go_wp2_with fail
        refine (P1.out _).mono ?_; rintro e w1 ⟨rfl, hX1⟩
        go_wp2_with fail
        go_roundg (gk - 1)
        case rel => exact ⟨k + 1, u, by omega, by omega, by go_num, rfl, hb.1, hb.2, HR, hX.trans hX1⟩
        case measure => omega
      · rw [if_neg (by rw [hf]; decide)] at hs
        rw [hf] at P1
        replace HR := Lib.hid hs
        clear hs hf hn
        generalize int64V (t + n) = u at *
        go_wp2_with fail
        refine (P1.out _).mono ?_; rintro e w1 ⟨rfl, hX1⟩
        go_wp2_with fail
        go_returns
        exact ⟨by rw [HRes.out, ← HR.out] <;> rfl, hX.trans hX1⟩
    · obtain rfl : k = L.length := by omega
      have hs := HR.out
      rw [List.drop_length] at hs
      unfold sumL at hs
      replace HR := Lib.hid hs
      clear hs
      go_wp2_with fail
      go_returns
      exact ⟨by rw [HRes.out, ← HR.out] <;> rfl, hX⟩
end Go.Proofs.Ythdjanjlpgcmoaa
