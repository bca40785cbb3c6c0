/- Rows of structs that a function builds itself: append, of navs and of phases. -/
import Derived.Test.YtmdgikikiijjbaaRows
import Derived.Test.YtmdgikikiijjbaaHeap
import Derived.Test.YtmdgikikiijjbaaNv
import Derived.OwnWalk
import Derived.Laws.BytesArg
import Derived.Lib.SmallJoins
import Derived.Laws.AppendOwnNone
namespace Go.Proofs.Ytmdgikikiijjbaa
open Go.RowKit

theorem und_navs : Try.prog.underlying 35 = some (.slice 32) := by kernel_rfl
theorem info_nav : (Try.prog.info? 32).map (fun i => (i.zero, i.size, i.bytes)) = some (some (.agg NV.zero.cells), 8, 64) := by kernel_rfl
def navs : List NV → List Value
  | [] => []
  | n :: l => n.cells.toList ++ navs l
theorem navs_len (L : List NV) : (navs L).length = L.length * 8 := by
  induction L with
  | nil => rfl
  | cons n l ih => simp [navs, ih, NV.cells]; omega
theorem navs_app (L M : List NV) : navs (L ++ M) = navs L ++ navs M := by
  induction L with
  | nil => rfl
  | cons n l ih => simp [navs, ih]
theorem navs_get (L : List NV) : ∀ (i : Nat) (n : NV), L[i]? = some n → ∀ k, k < 8 → (navs L)[i * 8 + k]? = n.cells[k]? := by
  induction L with
  | nil => intro i n h; simp at h
  | cons m l ih =>
    intro i n h k hk
    have h8 : m.cells.toList.length = 8 := rfl
    cases i with
    | zero =>
      simp only [List.getElem?_cons_zero, Option.some.injEq] at h
      subst h
      rw [navs, List.getElem?_append_left (by rw [h8]; omega)]
      simp
    | succ i =>
      simp only [List.getElem?_cons_succ] at h
      rw [navs, List.getElem?_append_right (by rw [h8]; omega), h8, show (i + 1) * 8 + k - 8 = i * 8 + k by omega]
      exact ih i n h k hk
/-- The value v is a slice of the call's own, of the navs L; it lies at 'base' or behind. -/
def NRow (w : World) (base : Nat) (v : Value) (L : List NV) : Prop := w.ownsRow base 32 8 v L.length (navs L)
/-- The value v is a slice of the navs L (somebody's). -/
def NSl (w : World) (v : Value) (L : List NV) : Prop :=
  (L = [] ∧ ∃ a cap, v = .slice a 0 cap) ∨ ∃ (b off cap : Nat), v = .slice (some ⟨b, off, none⟩) L.length cap ∧ ∀ i n, L[i]? = some n → ∀ k, k < 8 → w.cell? ⟨b, off + i * 8 + k, none⟩ = n.cells[k]?
theorem cells_some (n : NV) (k : Nat) (hk : k < 8) : ∃ v, n.cells[k]? = some v := ⟨n.cells[k]'(by simpa [NV.cells] using hk), by simp⟩
theorem NSl.keep {S : List Nat} {w w' : World} {v : Value} {L : List NV} (h : NSl w v L) (hX : Chg S w w') (hS : ∀ b off cap, v = .slice (some ⟨b, off, none⟩) L.length cap → 0 < L.length → b ∉ S) : NSl w' v L := by
  rcases h with h | ⟨b, off, cap, e, h⟩
  · exact .inl h
  · refine .inr ⟨b, off, cap, e, fun i n hn k hk => ?_⟩
    obtain ⟨u, hu⟩ := cells_some n k hk
    have := h i n hn k hk
    rw [hu] at this ⊢
    exact hX.cell this (hS b off cap e (by have := (List.getElem?_eq_some_iff.1 hn).1; omega))
theorem NRow.isl {w : World} {base : Nat} {v : Value} {L : List NV} (h : NRow w base v L) : NSl w v L := by
  rcases Nat.eq_zero_or_pos L.length with h0 | h0
  · obtain rfl := List.length_eq_zero_iff.1 h0
    left
    refine ⟨rfl, ?_⟩
    rcases h.2 with ⟨rfl, _⟩ | ⟨g, cap, cur, rfl, _⟩
    · exact ⟨_, _, rfl⟩
    · exact ⟨_, _, rfl⟩
  · obtain ⟨g, cap, rfl⟩ := Joins.ownsRow_form h h0
    right
    refine ⟨g, 0, cap, rfl, fun i n hn k hk => ?_⟩
    have hi : i < L.length := (List.getElem?_eq_some_iff.1 hn).1
    rw [Nat.zero_add, World.ownsRow.cellAt h (i * 8 + k) (by omega)]
    exact navs_get L i n hn k hk
theorem NRow.lit0 (w : World) (base : Nat) (hb : base ≤ w.heap.size) : NRow (w.alloc (.cells #[] 32)) base (.slice (some ⟨w.heap.size, 0, none⟩) 0 0) [] := by
  have := World.ownsRow_lit (base := base) (e := 32) (size := 8) w #[] 0 hb (by unfold maxLen; omega) (by simp)
  simpa [NRow, navs] using this
theorem NRow.grown {S : List Nat} {a w w' : World} {base : Nat} {v : Value} {L : List NV} (h : NRow w base v L) (hX : Chg S a w) (g : w.grownBy w' v.ownBlock) (hb : a.heap.size ≤ base) : Chg S a w' :=
  ⟨g.os.trans hX.os, g.tape.trans hX.tape, g.output.trans hX.output, Nat.le_trans hX.size g.size,
    fun k hk hn => (g.block k (Nat.lt_of_lt_of_le hk hX.size) (fun e => by have := (World.ownsRow.lt h k e.symm).1; omega)).trans (hX.block k hk hn)⟩
theorem nav_one (n : NV) : ∀ u ∈ n.cells.toList, u.oneCell' = true := by
  intro u hu
  simp only [NV.cells, List.mem_cons, List.not_mem_nil, or_false] at hu
  rcases hu with rfl | rfl | rfl | rfl | rfl | rfl | rfl | rfl <;> rfl
theorem navs_one (L : List NV) : ∀ u ∈ navs L, u.oneCell' = true := by
  induction L with
  | nil => intro u hu; simp [navs] at hu
  | cons n l ih =>
    intro u hu
    rw [navs, List.mem_append] at hu
    rcases hu with h | h
    · exact nav_one n u h
    · exact ih u h
/-- Somebody's navs behind a slice of the call's own. -/
theorem wpList_appNs {ops : Array Oper} {rest : List Oper} {o : Oper} {a : Act} {Q : Exit → Act → World → Prop} {w : World} (hgd : o.guard = none) (s x : Operand)
    (ho : o.op = .call { callee := .builtin .append, args := #[s, x], argTypes := #[35, 35] })
    {base : Nat} {v : Value} {L : List NV} (hs : a.eval s = v) (hr : NRow w base v L) {v1 : Value} {M : List NV} (hx : a.eval x = v1) (hm : NSl w v1 M) (hnil : ∀ ad n c, v1 = .slice ad n c → ad = none → c = 0)
    (h63 : L.length + M.length ≤ 1000000) (hb : base ≤ w.heap.size)
    (h : ∀ v' w', NRow w' base v' (L ++ M) → w.grownBy w' v.ownBlock → wpList Try.prog ops Q rest (a.put o.dst v') w') : wpList Try.prog ops Q (o :: rest) a w := by
  obtain ⟨i, hi, hz, hz1, hz2⟩ := info_parts info_nav
  rcases hm with ⟨rfl, ad, cap, rfl⟩ | ⟨b, off, cap, rfl, hc⟩
  · have hcap : (ad = none ∧ cap = 0) ∨ ∃ ad', ad = some ad' := by
      rcases ad with _ | ad
      · exact .inl ⟨rfl, hnil _ _ _ rfl rfl⟩
      · exact .inr ⟨ad, rfl⟩
    rcases hcap with ⟨rfl, rfl⟩ | ⟨ad, rfl⟩
    · refine wpList_append_own_none hgd s x 35 ho base 32 i 8 und_navs hi v L.length (navs L) hs hr hx ?_
      refine h v w ?_ ⟨rfl, rfl, rfl, Nat.le_refl _, fun _ _ _ => rfl⟩
      rw [List.append_nil]
      exact hr
    · refine wpList_append_own w hgd s x 35 ho base 32 i _ 8 64 und_navs hi hz hz1 hz2 rfl (by decide) v L.length (navs L) hs hr ad 0 cap [] hx rfl (by simp) (by simp) (by unfold maxLen; simp at h63; omega) (by simp at h63; omega) hb ?_
      intro v' w' h1 h2 _
      refine h v' w' ?_ h2
      rw [List.append_nil]
      rw [List.append_nil] at h1
      exact h1
  · refine wpList_append_own w hgd s x 35 ho base 32 i _ 8 64 und_navs hi hz hz1 hz2 rfl (by decide) v L.length (navs L) hs hr ⟨b, off, none⟩ M.length cap (navs M) hx (by rw [navs_len]) ?_ (navs_one M) (by unfold maxLen; omega) (by omega) hb ?_
    · intro j u hu
      have hj : j < M.length * 8 := by rw [← navs_len]; exact (List.getElem?_eq_some_iff.1 hu).1
      obtain ⟨n, hn⟩ : ∃ n, M[j / 8]? = some n := ⟨M[j / 8]'(by omega), List.getElem?_eq_getElem (by omega)⟩
      have h2 := navs_get M (j / 8) n hn (j % 8) (by omega)
      rw [show j / 8 * 8 + j % 8 = j by omega, hu] at h2
      have h3 := hc (j / 8) n hn (j % 8) (by omega)
      rw [← h2, show off + j / 8 * 8 + j % 8 = off + j by omega] at h3
      unfold Addr.add
      split
      · simp_all
      · exact h3
    · intro v' w' h1 h2 _
      refine h v' w' ?_ h2
      unfold NRow
      rw [List.length_append, navs_app]
      exact h1
end Go.Proofs.Ytmdgikikiijjbaa
