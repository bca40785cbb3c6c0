/- The reference of package source: a cycle with any row of navs. -/
import Derived.Test.YtmdgikikiijjbaaSrm
import Derived.Test.YtmdgikikiijjbaaSrj
import Derived.Test.YtmdgikikiijjbaaSrka
import Derived.Test.YtmdgikikiijjbaaSrkb
import Derived.Test.YtmdgikikiijjbaaSrkc
import Derived.Test.YtmdgikikiijjbaaSrl
namespace Go.Proofs.Ytmdgikikiijjbaa
open Go.RowKit

theorem rcyc_t (w : World) (b : Nat) (s : SV) (n : NV) (hs : s.ok) (hr : s.okr) (hn : n.bd) (h : At w b s.rcells) (g off m cap : Nat) (hm : m < 1000000) (hc : ∀ k, k < 8 → w.cell? ⟨g, off + m * 8 + k, none⟩ = n.cells[k]?)
    (Q : Ending → World → Prop) (hQ0 : s.faults n = 0 → ∀ w', At w' b (s.good n).rcells → Chg [b] w w' → Q (.returned (.tuple #[.agg n.cells, .int .i64 0])) w')
    (hQ1 : s.faults n ≠ 0 → ∀ w', At w' b s.bad.rcells → Chg [b] w w' → Q (.returned (.tuple #[.agg NV.zero.cells, .int .i64 (s.faults n)])) w') :
    Calls Try.prog 11 #[.pointer (some ⟨b, 0, none⟩), .slice (some ⟨g, off, none⟩) (m + 1 : Nat) cap] w Q := by
  cases hh : s.has with
  | false => exact rcyc_f w b s n hs hr hn h g off m cap hm hc hh Q hQ0 hQ1
  | true =>
    cases h0 : jmp1 (s.step * (s.old + 1)) n.vx s.last.vx with
    | true => exact rcyc_ta w b s n hs hr hn h g off m cap hm hc hh h0 Q hQ0 hQ1
    | false =>
      cases h1 : jmp1 (s.step * (s.old + 1)) n.vy s.last.vy with
      | true => exact rcyc_tb w b s n hs hr hn h g off m cap hm hc hh h0 h1 Q hQ0 hQ1
      | false => exact rcyc_tc w b s n hs hr hn h g off m cap hm hc hh h0 h1 Q hQ0 hQ1
theorem rCyc_any (w : World) (b : Nat) (s : SV) (hs : s.ok) (hr : s.okr) (h : At w b s.rcells) (v : Value) (L : List NV) (hv : NSl w v L) (hl : Okl L) (hL : L.length ≤ 1000000) :
    Calls Try.prog 11 #[.pointer (some ⟨b, 0, none⟩), v] w fun e w' =>
      e = .returned (.tuple #[.agg (s.tellN L.getLast?).cells, .int .i64 (s.wrongN L.getLast?)]) ∧ At w' b (s.nextN L.getLast?).rcells ∧ Chg [b] w w' := by
  rcases hv with ⟨rfl, a, cap, rfl⟩ | ⟨g, off, cap, rfl, hc⟩
  · exact rcyc_nil w b s hs h a cap
  · rcases Nat.eq_zero_or_pos L.length with h0 | h0
    · obtain rfl := List.length_eq_zero_iff.1 h0
      exact rcyc_nil w b s hs h _ cap
    · obtain ⟨m, hm⟩ : ∃ m, L.length = m + 1 := ⟨L.length - 1, by omega⟩
      obtain ⟨n, h1, h2⟩ := last_at hm
      rw [h1, hm]
      unfold SV.tellN SV.wrongN SV.nextN
      refine rcyc_t w b s n hs hr (okl_at hl h2) h g off m cap (by omega) (hc m n h2) _ (fun hf w' hA hX => ?_) (fun hf w' hA hX => ?_)
      · simp only [hf, if_true]; exact ⟨trivial, hA, hX⟩
      · simp only [if_neg hf]; exact ⟨trivial, hA, hX⟩
end Go.Proofs.Ytmdgikikiijjbaa
