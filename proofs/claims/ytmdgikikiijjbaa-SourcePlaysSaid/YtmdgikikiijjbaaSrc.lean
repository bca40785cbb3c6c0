/- Package source and its reference: the small functions. -/
import Derived.Test.YtmdgikikiijjbaaFms
import Derived.Test.YtmdgikikiijjbaaNv
import Derived.Test.YtmdgikikiijjbaaCount
import Derived.Deep.LoopGhost
import Derived.Laws.Closers25
namespace Go.Proofs.Ytmdgikikiijjbaa
open Go.RowKit

def bey1 (m n : Int) : Bool := decide (n < -m) || decide (m < n)
def bey (m : Int) (L : List Int) : Bool := L.any (bey1 m)
theorem dropc {L : List Int} {k : Nat} {n : Int} (h : L[k]? = some n) : L.drop k = n :: L.drop (k + 1) := by
  have hk : k < L.length := (List.getElem?_eq_some_iff.1 h).1
  rw [List.drop_eq_getElem_cons hk]
  rw [List.getElem?_eq_getElem hk] at h
  rw [Option.some.inj h]

theorem at_row {w : World} {g : Nat} {L : List Int} {cs : Array Value} (h : At w g cs) (hc : cs = (L.map (Value.int .i64)).toArray) (j : Nat) (v : Int) (hj : L[j]? = some v) : w.cell? ⟨g, j, none⟩ = some (.int .i64 v) := by
  rw [h.cell, hc]; simp [hj]
theorem beyond_any (w : World) (m : Int) (hm0 : 0 ≤ m) (hm1 : m ≤ 9223372036854775807) (g n cap : Nat) (L : List Int) (hL : L.length = n) (hn : n ≤ 1000000) (hc : ∀ j v, L[j]? = some v → w.cell? ⟨g, j, none⟩ = some (.int .i64 v)) :
    Calls Try.prog 23 #[.int .i64 m, .slice (some ⟨g, 0, none⟩) n cap] w fun e w' => e = .returned (.bool (bey m L)) ∧ w = w' := by
  subst hL
  have HC := Lib.hid hc
  clear hc
  go_enter Try.func23, Try.ntmps23
  go_wp2_with fail
  obtain ⟨res, hr⟩ : ∃ r, bey m L = r := ⟨_, rfl⟩
  have HRes := Lib.hid hr
  go_loopg [9] (L.length + 1) (fun g' i wr => ∃ (k : Nat), g' + k = L.length + 1 ∧ k ≤ L.length ∧ i = .int .i64 k ∧ Hid (bey m (L.drop k) = res) ∧ w = wr)
  case atStart => exact ⟨0, by omega, by omega, rfl, Lib.hid hr, rfl⟩
  case round =>
    clear hr
    obtain ⟨k, hg, hk, rfl, HR, rfl⟩ := hrel
    by_cases hlt : k < L.length
    · obtain ⟨v, hv⟩ : ∃ n, L[k]? = some n := ⟨L[k], List.getElem?_eq_getElem hlt⟩
      have c0 := HC.out k v hv
      have hs := HR.out
      rw [dropc hv] at hs
      simp only [bey, List.any_cons] at hs
      have HV := Lib.hid hv
      clear hv
      by_cases h1 : v < -m
      · have hb : bey1 m v = true := by simp [bey1, h1]
        rw [hb, Bool.true_or] at hs
        subst hs
        go_wp2_with fail
        go_returns
        exact ⟨ret_bool HRes.out.symm, rfl⟩
      · by_cases h2 : m < v
        · have hb : bey1 m v = true := by simp [bey1, h2]
          rw [hb, Bool.true_or] at hs
          subst hs
          go_wp2_with fail
          go_returns
          exact ⟨ret_bool HRes.out.symm, rfl⟩
        · have hb : bey1 m v = false := by simp [bey1, h1, h2]
          rw [hb, Bool.false_or] at hs
          replace HR := Lib.hid hs
          clear hs
          go_wp2_with fail
          go_roundg (gk - 1)
          case rel => exact ⟨k + 1, by omega, by omega, by go_num, HR, rfl⟩
          case measure => omega
    · obtain rfl : k = L.length := by omega
      have hs := HR.out
      rw [List.drop_length] at hs
      replace hs : false = res := hs
      subst hs
      go_wp2_with fail
      go_returns
      exact ⟨ret_bool HRes.out.symm, rfl⟩

theorem out_any (w : World) (n m : Int) (hm0 : 0 ≤ m) (hm1 : m ≤ 9223372036854775807) : Calls Try.prog 20 #[.int .i64 n, .int .i64 m] w fun e w' => e = .returned (.bool (bey1 m n)) ∧ w = w' := by
  go_enter Try.func20, Try.ntmps20
  by_cases h1 : n < -m
  · go_wp2
    go_returns
    exact ⟨ret_bool (by simp [bey1, h1]), rfl⟩
  · by_cases h2 : m < n
    · go_wp2
      go_returns
      exact ⟨ret_bool (by simp [bey1, h2]), rfl⟩
    · go_wp2
      go_returns
      exact ⟨ret_bool (by simp [bey1, h1, h2]), rfl⟩
end Go.Proofs.Ytmdgikikiijjbaa
