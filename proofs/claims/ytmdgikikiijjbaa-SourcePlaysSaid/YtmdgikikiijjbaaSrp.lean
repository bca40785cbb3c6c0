/- Package apogeelaw15: rows of rows of navs that came in; few; a source that is none. -/
import Derived.Test.YtmdgikikiijjbaaSrn
import Derived.LoopTactic
import Derived.Deep.LoopGhost
namespace Go.Proofs.Ytmdgikikiijjbaa
open Go.RowKit

/-- The value v' is a slice of the navs L that was there in the world W. -/
structure Came (W : World) (v' : Value) (L : List NV) : Prop where
  sl : NSl W v' L
  ok : Okl L
  len : L.length ≤ maxLen
  form : ∃ a c, v' = .slice a L.length c ∧ (a = none → c = 0) ∧ ∀ p, a = some p → 0 < L.length → p.block < W.heap.size
/-- The value v is a slice of n slices of navs, the k-th being L k. -/
structure Rows2 (W : World) (v : Value) (n : Nat) (L : Nat → List NV) : Prop where
  intro ::
  out : ∃ ad cap, v = .slice ad n cap ∧ n ≤ maxLen ∧ ∀ k, k < n → ∃ b off v', ad = some ⟨b, off, none⟩ ∧ b < W.heap.size ∧ W.cell? ⟨b, off + k, none⟩ = some v' ∧ Came W v' (L k)
theorem came_of {W : World} {v : Value} {l : List shNV.T} (h : (Sh.slice shNV).rep W l [v]) : Came W v (l.map toNV) := by
  rcases h with ⟨rfl, a, cap, h, hc⟩ | ⟨b, off, cap, h, h0, h1, h2, h3, h4⟩
  · obtain rfl := (List.cons.inj h).1
    exact ⟨.inl ⟨rfl, a, cap, rfl⟩, fun _ hn => absurd hn (by simp), Nat.zero_le _, a, cap, rfl, hc, fun _ _ hh => absurd hh (by simp)⟩
  · obtain rfl := (List.cons.inj h).1
    have hlen : (l.map toNV).length = List.length (α := shNV.T) l := List.length_map _
    have key : ∀ (i : Nat) (hi : i < List.length (α := shNV.T) l), (∀ k, k < 8 → W.cell? ⟨b, off + i * 8 + k, none⟩ = (toNV (List.get (α := shNV.T) l ⟨i, hi⟩)).cells[k]?) ∧ (toNV (List.get (α := shNV.T) l ⟨i, hi⟩)).bd := by
      intro i hi
      obtain ⟨cs, hcl, hcc, hr⟩ := h4 i hi
      obtain ⟨e, hb⟩ := nv_of (c := cs.toArray) hr
      refine ⟨fun k hk => ?_, hb⟩
      rw [← e]
      have hk2 := hcc k hk
      have e8 : shNV.sz = 8 := rfl
      rw [e8] at hk2
      simpa using hk2
    refine ⟨.inr ⟨b, off, cap, by rw [hlen], fun i n hn k hk => ?_⟩, fun n hn => ?_, by rw [hlen]; omega, some ⟨b, off, none⟩, cap, by rw [hlen], fun hh => (by cases hh), fun p hp _ => (by cases hp; exact h3)⟩
    · have hi : i < List.length (α := shNV.T) l := by have := (List.getElem?_eq_some_iff.1 hn).1; rw [hlen] at this; exact this
      have e : n = toNV (List.get (α := shNV.T) l ⟨i, hi⟩) := by
        rw [List.getElem?_map, List.getElem?_eq_getElem hi] at hn
        simpa using hn.symm
      rw [e]
      exact (key i hi).1 k hk
    · obtain ⟨i, hi, e⟩ := List.getElem_of_mem hn
      have hi' : i < List.length (α := shNV.T) l := by rw [hlen] at hi; exact hi
      rw [← e, List.getElem_map]
      exact (key i hi').2
theorem rows2_of {W : World} {v : Value} {l : List (List shNV.T)} (h : (Sh.slice (Sh.slice shNV)).rep W l [v]) : Rows2 W v l.length (fun k => (l.getD k []).map toNV) := by
  rcases h with ⟨rfl, a, cap, h, _⟩ | ⟨b, off, cap, h, h0, h1, h2, h3, h4⟩
  · exact ⟨a, cap, (List.cons.inj h).1, Nat.zero_le _, fun k hk => absurd hk (Nat.not_lt_zero _)⟩
  · refine ⟨some ⟨b, off, none⟩, cap, (List.cons.inj h).1, by have : l.length ≤ cap := h1; omega, fun k hk => ?_⟩
    obtain ⟨cs, hl, hc, hr⟩ := h4 k hk
    have e : l.getD k [] = List.get (α := List shNV.T) l ⟨k, hk⟩ := by simp [List.getD, hk]
    obtain ⟨v', rfl⟩ : ∃ v', cs = [v'] := by
      have hl1 : cs.length = 1 := hl
      match cs, hl1 with
      | [v'], _ => exact ⟨v', rfl⟩
    have g := hc 0 (by decide)
    refine ⟨b, off, v', rfl, h3, ?_, ?_⟩
    · simpa [Sh.sz] using g
    · simp only [e]
      exact came_of hr

theorem few_any (w : World) (v : Value) (n : Nat) (L : Nat → List NV) (h : Rows2 w v n L) :
    Calls Try.prog 8 #[v] w fun e w' => ∃ r : Bool, e = .returned (.bool r) ∧ w = w' ∧ (r = true → n ≤ 100 ∧ ∀ k, k < n → (L k).length ≤ 5) := by
  obtain ⟨ad, cap, rfl, hlen, hcell⟩ := h.out
  clear h
  unfold maxLen at hlen
  go_enter Try.func8, Try.ntmps8
  go_wp2_with fail
  go_loopg [4, 7] n (fun gk r4 idx wr => ∃ k : Nat, k + gk = n ∧ idx = .int .i64 k ∧ wr = w ∧ (∀ j, j < k → (L j).length ≤ 5))
  case atStart => exact ⟨0, by omega, rfl, rfl, fun j hj => absurd hj (Nat.not_lt_zero _)⟩
  case round =>
    obtain ⟨k, hk, rfl, rfl, hL⟩ := hrel
    by_cases hlt : k < n
    · obtain ⟨b, off, v', rfl, hb, hc, hC⟩ := hcell k hlt
      obtain ⟨a, c, rfl, _, _⟩ := hC.form
      have hlb := hC.len
      unfold maxLen at hlb
      have Hk := Lib.hid hk
      have HL := Lib.hid hL
      have Hc := Lib.hid hcell
      clear hcell hk hL hC
      by_cases h5 : 5 < (L k).length
      · go_wp2
        go_ret
        exact ⟨false, rfl, rfl, fun h => absurd h (by simp)⟩
      · go_wp2_with fail
        go_roundg (gk - 1)
        case measure => have := Hk.out; omega
        case rel =>
          refine ⟨k + 1, by have := Hk.out; omega, by go_num, rfl, fun j hj => ?_⟩
          by_cases hjk : j = k
          · subst hjk; omega
          · exact HL.out j (by omega)
    · clear hcell
      have Hk := Lib.hid hk
      have HL := Lib.hid hL
      clear hk hL
      go_wp2
      go_ret
      exact ⟨_, rfl, rfl, fun h => ⟨by have := of_decide_eq_true h; omega, fun j hj => HL.out j (by omega)⟩⟩

theorem sCyc_nilp (w : World) (v : Value) : Calls Try.prog 10 #[.pointer none, v] w fun e w' => e = .returned (.tuple #[.agg NV.zero.cells, .int .i64 1]) ∧ Chg [] w w' := by
  go_enter Try.func10, Try.ntmps10
  go_wp2
  go_returns
  exact ⟨rfl, (Chg.refl _ _).alloc _⟩
theorem next_cases (s : SV) (o : Option NV) : (∃ n, o = some n ∧ s.faults n = 0 ∧ s.wrongN o = 0 ∧ s.tellN o = n ∧ s.nextN o = s.good n) ∨ (s.wrongN o ≠ 0 ∧ s.tellN o = NV.zero ∧ s.nextN o = s.bad) := by
  cases o with
  | none => exact .inr ⟨by show (1 : Int) ≠ 0; decide, rfl, rfl⟩
  | some n =>
    by_cases h : s.faults n = 0
    · exact .inl ⟨n, rfl, h, h, if_pos h, if_pos h⟩
    · exact .inr ⟨h, if_neg h, if_neg h⟩
end Go.Proofs.Ytmdgikikiijjbaa
