import Derived.Test.YtpfglmlpodjneaaGreatZ25
import Derived.Test.YtpfglmlpodjneaaGreatZ02
set_option linter.unusedSimpArgs false
set_option linter.unusedVariables false
namespace Go.Proofs.YtpfglmlpodjneaaGreat
open Go.RowKit

abbrev shPt : Sh := .prod (.int .i64) (.prod (.int .i64) .unit)
abbrev shPh : Sh := .prod (.slice shPt) (.prod (.int .i64) (.prod (.int .i64) (.prod (.int .i64) (.prod (.int .i64) .unit))))
abbrev shRu : Sh := .prod (.slice shPh) (.prod (.int .i64) (.prod (.int .i64) (.prod (.int .i64) (.prod (.int .i64) (.prod (.int .i64) (.prod (.int .i64) (.prod (.int .i64) (.prod (.int .i64) .unit))))))))
def toPt (x : shPt.T) : PtV := ⟨x.1, x.2.1⟩
def toPh (x : shPh.T) : PhV := ⟨List.map toPt x.1, x.2.1, x.2.2.1, x.2.2.2.1, x.2.2.2.2.1⟩
def toRu (x : shRu.T) : RuV := ⟨List.map toPh x.1, x.2.1, x.2.2.1, x.2.2.2.1, x.2.2.2.2.1, x.2.2.2.2.2.1, x.2.2.2.2.2.2.1, x.2.2.2.2.2.2.2.1, x.2.2.2.2.2.2.2.2.1⟩
theorem pts_of {W : World} {l : List shPt.T} {cs : List Value} (h : (Sh.slice shPt).rep W l cs) : ∃ v, cs = [v] ∧ PtsR W v (List.map toPt l) := by
  rcases h with ⟨rfl, a, cap, rfl, _⟩ | ⟨b, off, cap, rfl, h0, h1, h2, _, hc⟩
  · exact ⟨_, rfl, by simp, .inl ⟨rfl, a, cap, rfl⟩⟩
  · refine ⟨_, rfl, by unfold maxLen at h2; rw [List.length_map]; omega, .inr ⟨b, off, cap, by rw [List.length_map], by rw [List.length_map]; exact h0, fun i p hp => ?_⟩⟩
    rw [List.getElem?_map] at hp
    obtain ⟨x, hx, rfl⟩ := Option.map_eq_some_iff.1 hp
    have hi : i < List.length l := (List.getElem?_eq_some_iff.1 hx).1
    have e : List.get l ⟨i, hi⟩ = x := (List.getElem?_eq_some_iff.1 hx).2
    obtain ⟨cs', _, hcell, hr⟩ := hc i hi
    rw [e] at hr
    obtain ⟨c1, c2, rfl, _, ⟨rfl, _⟩, c3, c4, rfl, _, ⟨rfl, _⟩, hu⟩ := hr
    have q0 := hcell 0 (by decide)
    have q1 := hcell 1 (by decide)
    exact ⟨q0, q1⟩
theorem phs_of {W : World} {l : List shPh.T} {cs : List Value} (h : (Sh.slice shPh).rep W l cs) : ∃ v, cs = [v] ∧ PhsR W v (List.map toPh l) := by
  rcases h with ⟨rfl, a, cap, rfl, _⟩ | ⟨b, off, cap, rfl, h0, h1, h2, _, hc⟩
  · exact ⟨_, rfl, by simp, .inl ⟨rfl, a, cap, rfl⟩⟩
  · refine ⟨_, rfl, by unfold maxLen at h2; rw [List.length_map]; omega, .inr ⟨b, off, cap, by rw [List.length_map], by rw [List.length_map]; exact h0, fun i p hp => ?_⟩⟩
    rw [List.getElem?_map] at hp
    obtain ⟨x, hx, rfl⟩ := Option.map_eq_some_iff.1 hp
    have hi : i < List.length l := (List.getElem?_eq_some_iff.1 hx).1
    have e : List.get l ⟨i, hi⟩ = x := (List.getElem?_eq_some_iff.1 hx).2
    obtain ⟨cs', _, hcell, hr⟩ := hc i hi
    rw [e] at hr
    obtain ⟨c1, c2, rfl, _, ha, c3, c4, rfl, _, ⟨rfl, _⟩, c5, c6, rfl, _, ⟨rfl, _⟩, c7, c8, rfl, _, ⟨rfl, _⟩, c9, c10, rfl, _, ⟨rfl, _⟩, hu⟩ := hr
    obtain ⟨va, rfl, hp⟩ := pts_of ha
    have q0 := hcell 0 (by decide)
    have q1 := hcell 1 (by decide)
    have q2 := hcell 2 (by decide)
    have q3 := hcell 3 (by decide)
    have q4 := hcell 4 (by decide)
    exact ⟨va, hp, q0, q1, q2, q3, q4⟩
theorem rules_of {W : World} {x : shRu.T} {c : Array Value} (h : shRu.rep W x c.toList) : ∃ va, c = (toRu x).cells va ∧ PhsR W va (toRu x).phs := by
  obtain ⟨c1, c2, hc, _, ha, c3, c4, rfl, _, ⟨rfl, _⟩, c5, c6, rfl, _, ⟨rfl, _⟩, c7, c8, rfl, _, ⟨rfl, _⟩, c9, c10, rfl, _, ⟨rfl, _⟩, c11, c12, rfl, _, ⟨rfl, _⟩, c13, c14, rfl, _, ⟨rfl, _⟩, c15, c16, rfl, _, ⟨rfl, _⟩, c17, c18, rfl, _, ⟨rfl, _⟩, hu⟩ := h
  obtain ⟨va, rfl, hp⟩ := phs_of ha
  have hu : c18 = [] := hu
  subst hu
  refine ⟨va, ?_, hp⟩
  cases c
  simp only [List.append_nil, List.singleton_append, List.cons_append, List.nil_append] at hc
  subst hc
  rfl
theorem read_err (s : ByteArray) (h : (readV s).2 ≠ 0) : (readV s).1 = zRu := by
  revert h
  unfold readV
  split
  · exact fun _ => rfl
  · split
    · exact fun _ => rfl
    · split
      · exact fun _ => rfl
      · split
        · exact fun _ => rfl
        · split
          · exact fun _ => rfl
          · split
            · exact fun _ => rfl
            · split
              · exact fun h => absurd rfl h
              · exact fun _ => rfl
theorem few_fit {r : RuV} (h : fewB r = true) : r.phs.length ≤ 255 ∧ ∀ p ∈ r.phs, p.area.length ≤ 255 := by
  unfold fewB at h
  simp only [Bool.and_eq_true, decide_eq_true_eq] at h
  refine ⟨by omega, fun p hp => ?_⟩
  have := List.all_eq_true.1 h.1 p hp
  simp only [decide_eq_true_eq] at this
  omega
theorem print_size {r : RuV} (h : fewB r = true) : (printV r).size ≤ 1000000 := by
  obtain ⟨h1, h2⟩ := few_fit h
  have := bodyL_len r h1 h2
  unfold printV allL
  rw [strOfNums_size, List.length_append]
  have : (be4 ((sum32 (strOfNums (bodyL r))).toNat : Int)).length = 4 := rfl
  omega
end Go.Proofs.YtpfglmlpodjneaaGreat
