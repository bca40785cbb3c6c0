/- Latch and flash together: what Save does to both. -/
import Derived.Test.YtjneidmkllhbjaaLaq
namespace Go.Proofs.Ytjneidmkllhbjaa
open Go.RowKit

/-- A latch at b over a flash at f (its bytes at r, its counter at c). -/
structure LaA (w : World) (b f r c : Nat) (s : FL) (l : LtV) : Prop where
  fl : FlA w f r c s
  lt : At w b (l.cells f)
  bf : b ≠ f
  br : b ≠ r
  bc : b ≠ c
/-- What a latch and its flash may be. -/
structure LaOk (s : FL) (l : LtV) (n : Nat) : Prop where
  B : s.B.size ≤ 4096
  base0 : 0 ≤ l.base
  base1 : l.base + 48 ≤ s.B.size
  slot0 : 0 ≤ l.slot
  slot1 : l.slot ≤ 1
  seq0 : 0 ≤ l.last.seq
  seq1 : l.last.seq ≤ 2147483648
  wr0 : 0 ≤ s.wr
  wr1 : s.wr ≤ n
theorem LaA.keep {S : List Nat} {w w' : World} {b f r c : Nat} {s : FL} {l : LtV} (h : LaA w b f r c s l) (hX : Chg S w w') (hb : b ∉ S) (hf : f ∉ S) (hr : r ∉ S) (hc : c ∉ S) : LaA w' b f r c s l :=
  ⟨h.fl.keep hX hf hr hc, hX.at h.lt hb, h.bf, h.br, h.bc⟩
def FL.place (l : LtV) : Nat := (l.base + (l.slot + 1) % 2 * 24).toNat
/-- Save: the error, the flash, the latch. -/
def saveE (s : FL) (l : LtV) (q : RcV) : Int := if (q.next l).right = false then 1 else if s.off = true ∨ s.tears = true then 11 else 0
def saveF (s : FL) (l : LtV) (q : RcV) : FL := if (q.next l).right = false ∨ s.off = true then s else
  if s.tears = true then ⟨over s.B (FL.place l) ((strOfNums (q.next l).all).extract 0 (min s.tear 24).toNat), false, s.tear, true, s.wr + 1⟩
  else ⟨over s.B (FL.place l) (strOfNums (q.next l).all), false, s.tear, false, s.wr + 1⟩
def saveL (s : FL) (l : LtV) (q : RcV) : LtV := if (q.next l).right = false ∨ s.off = true ∨ s.tears = true then l else ⟨l.base, (l.slot + 1) % 2, q.next l, true⟩

theorem lsave_any (w : World) (b f r c : Nat) (s : FL) (l : LtV) (q : RcV) (h : LaA w b f r c s l) (hk : LaOk s l 1000) (ht : 0 ≤ s.tear) :
    Calls Try.prog 20 #[.pointer (some ⟨b, 0, none⟩), .agg q.cells] w fun e w' => e = .returned (.int .i64 (saveE s l q)) ∧ LaA w' b f r c (saveF s l q) (saveL s l q) ∧ Chg [b, f, r, c] w w' := by
  obtain ⟨k1, k2, k3, k4, k5, k6, k7, k8, k9⟩ := hk
  obtain ⟨hF, hL, bf, br, bc⟩ := h
  have hbl := hL.lt
  have hfl := hF.at_.lt
  have hcl := hF.ctr.lt
  have hrl : r < w.heap.size := hF.row.lt
  have hz24 : (strOfNums (q.next l).all).size = 24 := by rw [strOfNums_size, RcV.all_len]
  have hpl : l.base + (l.slot + 1) % 2 * 24 = ((FL.place l : Nat) : Int) := by unfold FL.place; omega
  have hpn : FL.place l + 24 ≤ s.B.size := by omega
  cases hr : (q.next l).right with
  | false =>
    refine (lsave_bad w b f l q hL k6 (by omega) hr).mono ?_
    rintro e w' ⟨rfl, hX⟩
    refine ⟨by simp [saveE, hr], ?_, hX.mono (by simp)⟩
    simp only [saveF, saveL, hr, true_or, if_true]
    exact LaA.keep ⟨hF, hL, bf, br, bc⟩ hX (by simp) (by simp) (by simp) (by simp)
  | true =>
    cases ho : s.off with
    | true =>
      refine (lsave_fail w b f l q hL k6 (by omega) k4 k5 k2 (by omega) hr 11 (by decide) [] (fun w2 => FlA w2 f r c s) (fun w1 hX => ?_)).mono ?_
      · refine (fl_write_off w1 f r c s (hF.keep hX (by simp) (by simp) (by simp)) ho _ _).mono ?_
        rintro e w2 ⟨rfl, rfl⟩
        exact ⟨rfl, hF.keep hX (by simp) (by simp) (by simp), hX⟩
      · rintro e w' ⟨rfl, hP, hX⟩
        refine ⟨by simp [saveE, hr, ho], ?_, hX.mono (by simp)⟩
        simp only [saveF, saveL, hr, ho, true_or, or_true, if_true]
        exact ⟨hP, hX.at hL (by simp), bf, br, bc⟩
    | false =>
      cases hte : s.tears with
      | true =>
        obtain ⟨m, hm⟩ : ∃ m : Nat, min s.tear 24 = m := ⟨(min s.tear 24).toNat, by omega⟩
        refine (lsave_fail w b f l q hL k6 (by omega) k4 k5 k2 (by omega) hr 11 (by decide) [f, r, c] (fun w2 => FlA w2 f r c ⟨over s.B (FL.place l) ((strOfNums (q.next l).all).extract 0 m), false, s.tear, true, s.wr + 1⟩) (fun w1 hX => ?_)).mono ?_
        · rw [hpl]
          refine (fl_write_torn w1 f r c s (hF.keep hX (by simp) (by simp) (by simp)) ho hte (FL.place l) _ k1 (by omega) k8 (by omega) m (by rw [hz24]; exact hm) (by omega)).mono ?_
          rintro e w2 ⟨rfl, h1, h2⟩
          exact ⟨rfl, h1, (hX.mono (by simp)).trans h2⟩
        · rintro e w' ⟨rfl, hP, hX⟩
          refine ⟨by simp [saveE, hr, hte], ?_, hX.mono (by simp)⟩
          simp only [saveF, saveL, hr, ho, hte, or_true, if_true, hm]
          simp only [Bool.true_eq_false, Bool.false_eq_true, or_self, if_false, Int.toNat_natCast]
          exact ⟨hP, hX.at hL (by simp [bf, br, bc]), bf, br, bc⟩
      | false =>
        refine (lsave_ok w b f l q hL k6 (by omega) k4 k5 k2 (by omega) hr [r, c] (by simp [br, bc]) (by simp; omega) (fun w2 => FlA w2 f r c ⟨over s.B (FL.place l) (strOfNums (q.next l).all), false, s.tear, false, s.wr + 1⟩)
          (fun w1 w2 h1 h2 => h1.keep h2 (by simpa using Ne.symm bf) (by simpa using Ne.symm br) (by simpa using Ne.symm bc)) (fun w1 h1 => h1.keep ((Chg.refl [] _).drew) (by simp) (by simp) (by simp)) (fun w1 hX => ?_)).mono ?_
        · rw [hpl]
          refine (fl_write w1 f r c s (hF.keep hX (by simp) (by simp) (by simp)) ho hte (FL.place l) _ k1 (by omega) k8 (by omega)).mono ?_
          rintro e w2 ⟨rfl, h1, h2⟩
          exact ⟨rfl, h1, h2⟩
        · rintro e w' ⟨rfl, hA, hP, hX⟩
          refine ⟨by simp [saveE, hr, ho, hte], ?_, hX.mono (by simp)⟩
          simp only [saveF, saveL, hr, ho, hte, Bool.true_eq_false, Bool.false_eq_true, or_self, if_false]
          exact ⟨hP, hA, bf, br, bc⟩
end Go.Proofs.Ytjneidmkllhbjaa
