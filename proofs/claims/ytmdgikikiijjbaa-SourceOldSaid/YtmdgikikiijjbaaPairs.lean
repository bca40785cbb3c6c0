/- A list of pairs of numbers that came in as an argument, by its cells; and what is left of a division by a small number. -/
import Derived.Test.YtmdgikikiijjbaaSh
import Derived.Test.YtmdgikikiijjbaaHeap
import Derived.WalkSpells
namespace Go.Proofs.Ytmdgikikiijjbaa
open Go.RowKit

/-- The value v is a slice of 'len' pairs: K k and N k. -/
structure Pairs (W : World) (v : Value) (len : Nat) (K N : Nat → Int) : Prop where
  intro ::
  out : ∃ ad cap, v = .slice ad len cap ∧ len ≤ maxLen ∧ ∀ k, k < len → ∃ b off, ad = some ⟨b, off, none⟩ ∧ b < W.heap.size ∧
    W.cell? ⟨b, off + k * 2, none⟩ = some (.int .i64 (K k)) ∧ W.cell? ⟨b, off + k * 2 + 1, none⟩ = some (.int .i64 (N k)) ∧
    (-9223372036854775808 ≤ K k ∧ K k ≤ 9223372036854775807) ∧ (-9223372036854775808 ≤ N k ∧ N k ≤ 9223372036854775807)

theorem pairs_of {W : World} {v : Value} {l : List (Int × Int × Unit)} (h : (Sh.slice (.prod (.int .i64) (.prod (.int .i64) .unit))).rep W l [v]) :
    Pairs W v l.length (fun k => (l.getD k (0, 0, ())).1) (fun k => (l.getD k (0, 0, ())).2.1) := by
  rcases h with ⟨rfl, a, cap, h, _⟩ | ⟨b, off, cap, h, h0, h1, h2, h3, h4⟩
  · exact ⟨a, cap, (List.cons.inj h).1, Nat.zero_le _, fun k hk => absurd hk (Nat.not_lt_zero _)⟩
  · refine ⟨some ⟨b, off, none⟩, cap, (List.cons.inj h).1, by have : l.length ≤ cap := h1; omega, fun k hk => ⟨b, off, rfl, h3, ?_⟩⟩
    obtain ⟨cs, hl, hc, c1, c2, rfl, _, ⟨rfl, hw1⟩, c3, c4, rfl, _, ⟨rfl, hw2⟩, rfl⟩ := h4 k hk
    have e : l.getD k (0, 0, ()) = List.get (α := Int × Int × Unit) l ⟨k, hk⟩ := by simp [List.getD, hk]
    simp only [e]
    have g0 := hc 0 (by decide)
    have g1 := hc 1 (by decide)
    exact ⟨g0, g1, bounds_i64 hw1, bounds_i64 hw2⟩

theorem u64_bd (a : Int) : 0 ≤ IntKind.u64.wrap a ∧ IntKind.u64.wrap a ≤ 18446744073709551615 := Go.bounds_u64 (wf_wrap .u64 a)
theorem umod_bd (a d : Int) (h0 : 0 < d) (h1 : d ≤ 1000000) : 0 ≤ wrap64 ((IntKind.u64.wrap a).tmod d) ∧ wrap64 ((IntKind.u64.wrap a).tmod d) < d := by
  obtain ⟨h2, h3⟩ := u64_bd a
  have e : (IntKind.u64.wrap a).tmod d = IntKind.u64.wrap a % d := Int.tmod_eq_emod_of_nonneg h2
  have h4 := Int.emod_nonneg (IntKind.u64.wrap a) (show d ≠ 0 by omega)
  have h5 := Int.emod_lt_of_pos (IntKind.u64.wrap a) h0
  rw [e, IntWalk.wrap64_in _ ⟨by omega, by omega⟩]
  exact ⟨h4, h5⟩
end Go.Proofs.Ytmdgikikiijjbaa
