/- Package source: a cycle with any row of navs; what stays so. -/
import Derived.Test.YtmdgikikiijjbaaSri
import Derived.Test.YtmdgikikiijjbaaMis
namespace Go.Proofs.Ytmdgikikiijjbaa
open Go.RowKit

/-- What a cycle tells, what is wrong, and what the source is behind it; of a nav, or of none. -/
def SV.tellN (s : SV) : Option NV → NV
  | none => NV.zero
  | some n => if s.faults n = 0 then n else NV.zero
def SV.wrongN (s : SV) : Option NV → Int
  | none => 1
  | some n => s.faults n
def SV.nextN (s : SV) : Option NV → SV
  | none => s.bad
  | some n => if s.faults n = 0 then s.good n else s.bad
theorem last_at {L : List NV} {m : Nat} (h : L.length = m + 1) : ∃ n, L.getLast? = some n ∧ L[m]? = some n := by
  obtain ⟨n, hn⟩ : ∃ n, L[m]? = some n := ⟨L[m]'(by omega), List.getElem?_eq_getElem (by omega)⟩
  exact ⟨n, by rw [List.getLast?_eq_getElem?, h, Nat.add_sub_cancel]; exact hn, hn⟩
def Okl (L : List NV) : Prop := ∀ n ∈ L, n.bd
theorem okl_at {L : List NV} {m : Nat} {n : NV} (h : Okl L) (hn : L[m]? = some n) : n.bd := h n (List.mem_of_getElem? hn)
theorem sCyc_any (w : World) (b c : Nat) (s : SV) (hs : s.ok) (h : Src w b c s) (v : Value) (L : List NV) (hv : NSl w v L) (hl : Okl L) (hL : L.length ≤ 1000000) :
    Calls Try.prog 10 #[.pointer (some ⟨b, 0, none⟩), v] w fun e w' =>
      e = .returned (.tuple #[.agg (s.tellN L.getLast?).cells, .int .i64 (s.wrongN L.getLast?)]) ∧ Src w' b c (s.nextN L.getLast?) ∧ Chg [b, c] w w' := by
  rcases hv with ⟨rfl, a, cap, rfl⟩ | ⟨g, off, cap, rfl, hc⟩
  · exact cyc_nil w b c s hs h a cap
  · rcases Nat.eq_zero_or_pos L.length with h0 | h0
    · obtain rfl := List.length_eq_zero_iff.1 h0
      exact cyc_nil w b c s hs h _ cap
    · obtain ⟨m, hm⟩ : ∃ m, L.length = m + 1 := ⟨L.length - 1, by omega⟩
      obtain ⟨n, h1, h2⟩ := last_at hm
      rw [h1, hm]
      unfold SV.tellN SV.wrongN SV.nextN
      by_cases hf : s.faults n = 0
      · simp only [hf, if_true]; exact cyc_good w b c s n hs (okl_at hl h2) h g off m cap (by omega) (hc m n h2) hf
      · simp only [if_neg hf]; exact cyc_bad w b c s n hs (okl_at hl h2) h g off m cap (by omega) (hc m n h2) _ rfl hf
/-- A right nav isn't far. -/
theorem bey1_false {m n : Int} (h : bey1 m n = false) : -m ≤ n ∧ n ≤ m := by
  unfold bey1 at h
  simp only [Bool.or_eq_false_iff, decide_eq_false_iff_not] at h
  omega
theorem faults_zero {s : SV} {n : NV} (h : s.faults n = 0) : (s.has && n.cnt == s.last.cnt) = false ∧ n.flg = 0 ∧
    (bey1 1073741824 n.x = false ∧ bey1 1073741824 n.y = false ∧ bey1 1073741824 n.z = false) ∧ (bey1 65536 n.vx = false ∧ bey1 65536 n.vy = false ∧ bey1 65536 n.vz = false) ∧ (s.has && s.jumps n) = false := by
  unfold SV.faults at h
  have e1 : (bey 1073741824 [n.x, n.y, n.z] || bey 65536 [n.vx, n.vy, n.vz]) = false := by
    rw [Bool.eq_false_iff]
    intro hh
    rw [if_pos hh] at h
    split at h <;> split at h <;> split at h <;> omega
  have e2 : (s.has && n.cnt == s.last.cnt) = false := by
    rw [Bool.eq_false_iff]
    intro hh
    rw [if_pos hh] at h
    split at h <;> split at h <;> split at h <;> omega
  have e3 : (s.has && s.jumps n) = false := by
    rw [Bool.eq_false_iff]
    intro hh
    rw [if_pos hh] at h
    split at h <;> split at h <;> split at h <;> omega
  have e4 : (n.flg == 0) = true := by
    cases hq : n.flg == 0 with
    | true => rfl
    | false =>
      rw [hq] at h
      simp only [Bool.false_eq_true, if_false] at h
      split at h <;> split at h <;> split at h <;> omega
  simp only [bey, List.any_cons, List.any_nil, Bool.or_false, Bool.or_eq_false_iff] at e1
  exact ⟨e2, by simpa using e4, ⟨e1.1.1, e1.1.2.1, e1.1.2.2⟩, ⟨e1.2.1, e1.2.2.1, e1.2.2.2⟩, e3⟩
theorem SV.bad_cases (s : SV) : s.bad.step = s.step ∧ s.bad.most = s.most ∧ s.bad.old = cAdd s.old 1000000 1 ∧ ((s.most < cAdd s.old 1000000 1 ∧ s.bad.last = NV.zero ∧ s.bad.has = false) ∨ (cAdd s.old 1000000 1 ≤ s.most ∧ s.bad.last = s.last ∧ s.bad.has = s.has)) := by
  unfold SV.bad
  split
  · exact ⟨rfl, rfl, rfl, .inl ⟨by omega, rfl, rfl⟩⟩
  · exact ⟨rfl, rfl, rfl, .inr ⟨by omega, rfl, rfl⟩⟩
theorem SV.ok.bad {s : SV} (h : s.ok) : s.bad.ok := by
  obtain ⟨a, b, c, d⟩ := s.bad_cases
  have := cAdd_bd s.old 1000000 1 h.o1
  have := h.o0
  refine ⟨a ▸ h.s0, a ▸ h.s1, b ▸ h.m, ?_, by omega, by omega⟩
  rcases d with ⟨_, d, _⟩ | ⟨_, d, _⟩
  · rw [d]; exact NV.zero_bd
  · rw [d]; exact h.l
theorem SV.ok.good {s : SV} (h : s.ok) {n : NV} (hn : n.bd) : (s.good n).ok := ⟨h.s0, h.s1, h.m, hn, Int.le_refl 0, show (0 : Int) ≤ 1000000 by decide⟩
theorem SV.ok.next {s : SV} (h : s.ok) (o : Option NV) (ho : ∀ n, o = some n → n.bd) : (s.nextN o).ok := by
  cases o with
  | none => exact h.bad
  | some n =>
    show (if s.faults n = 0 then s.good n else s.bad).ok
    split
    · exact h.good (ho n rfl)
    · exact h.bad
theorem SV.okr.bad {s : SV} (h : s.okr) : s.bad.okr := by
  obtain ⟨a, b, c, d⟩ := s.bad_cases
  rcases d with ⟨_, d, _⟩ | ⟨_, d, _⟩
  · exact ⟨a ▸ h.s1, by rw [d]; decide, by rw [d]; decide, by rw [d]; decide, by rw [d]; decide, by rw [d]; decide, by rw [d]; decide⟩
  · exact ⟨a ▸ h.s1, by rw [d]; exact h.x0, by rw [d]; exact h.x1, by rw [d]; exact h.y0, by rw [d]; exact h.y1, by rw [d]; exact h.z0, by rw [d]; exact h.z1⟩
theorem SV.okr.next {s : SV} (h : s.okr) (o : Option NV) : (s.nextN o).okr := by
  cases o with
  | none => exact h.bad
  | some n =>
    show (if s.faults n = 0 then s.good n else s.bad).okr
    split
    · rename_i hf
      obtain ⟨_, _, _, ⟨v1, v2, v3⟩, _⟩ := faults_zero hf
      have := bey1_false v1
      have := bey1_false v2
      have := bey1_false v3
      exact ⟨h.s1, by show -65536 ≤ n.vx; omega, by show n.vx ≤ 65536; omega, by show -65536 ≤ n.vy; omega, by show n.vy ≤ 65536; omega, by show -65536 ≤ n.vz; omega, by show n.vz ≤ 65536; omega⟩
    · exact h.bad
theorem SV.nextN_step (s : SV) (o : Option NV) : (s.nextN o).step = s.step ∧ (s.nextN o).most = s.most := by
  obtain ⟨a, b, _⟩ := s.bad_cases
  cases o with
  | none => exact ⟨a, b⟩
  | some n =>
    show (if s.faults n = 0 then s.good n else s.bad).step = _ ∧ (if s.faults n = 0 then s.good n else s.bad).most = _
    split
    · exact ⟨rfl, rfl⟩
    · exact ⟨a, b⟩
theorem SV.new_ok (step most : Int) (h0 : 1 ≤ step) (h1 : step ≤ 9223372036854775807) (h2 : i64b most) : (SV.new step most).ok := ⟨h0, h1, h2, NV.zero_bd, Int.le_refl 0, show (0 : Int) ≤ 1000000 by decide⟩
theorem SV.new_okr (step most : Int) (h1 : step ≤ 1099511627776) : (SV.new step most).okr := ⟨h1, show -65536 ≤ (0 : Int) by decide, show (0 : Int) ≤ 65536 by decide, show -65536 ≤ (0 : Int) by decide, show (0 : Int) ≤ 65536 by decide, show -65536 ≤ (0 : Int) by decide, show (0 : Int) ≤ 65536 by decide⟩
end Go.Proofs.Ytmdgikikiijjbaa
