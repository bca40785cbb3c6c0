/- Strings as bytes (what package nav's texts lack). -/
import Derived.Test.YtilgjjkppioblaaN06
import Derived.Laws.IdiomStrings
import Derived.Laws.DeepStrings4
namespace Go.Proofs.Ytilgjjkppioblaa
open Go.RowKit

theorem by_app_l (a b : ByteArray) (k : Nat) (h : k < a.size) : by_ (a ++ b) k = by_ a k := by
  unfold by_
  rw [ByteArray.data_append, Array.toList_append, List.getD_eq_getElem?_getD, List.getD_eq_getElem?_getD, List.getElem?_append_left (by simpa using h)]
theorem by_app_r (a b : ByteArray) (k : Nat) (h : a.size ≤ k) : by_ (a ++ b) k = by_ b (k - a.size) := by
  unfold by_
  rw [ByteArray.data_append, Array.toList_append, List.getD_eq_getElem?_getD, List.getD_eq_getElem?_getD, List.getElem?_append_right (by simpa using h)]
  rfl
/-- Two strings of one length with the same bytes are one. -/
theorem by_ext {a b : ByteArray} (hs : a.size = b.size) (h : ∀ k, k < a.size → by_ a k = by_ b k) : a = b := by
  apply ByteArray.ext_getElem hs
  intro i h1 h2
  have := h i h1
  rw [← by_get a i h1, ← by_get b i h2] at this
  exact UInt8.toNat_inj.1 (by omega)
theorem str_beq (a b : ByteArray) : (a.toList == b.toList) = true ↔ a = b := by
  rw [beq_iff_eq, ByteArray.toList_eq, ByteArray.toList_eq]
  constructor
  · intro h
    exact ByteArray.ext (Array.toList_inj.1 h)
  · rintro rfl
    rfl
theorem str_empty (a : ByteArray) : a.toList.isEmpty = decide (a.size = 0) := by
  rw [ByteArray.toList_eq, Bool.eq_iff_iff]
  simp
  exact ⟨fun h => ByteArray.ext h, fun h => by rw [h]; rfl⟩
theorem Chg.undrew {S : List Nat} {w w' : World} (h : Chg S w.drew w') : Chg S w w' := ⟨h.os, h.tape, h.output, h.size, h.block⟩
theorem Chg.undrewN {S : List Nat} {w w' : World} {n : Nat} (h : Chg S (w.drewN n) w') : Chg S w w' := ⟨h.os, h.tape, h.output, h.size, h.block⟩
/-- A piece of a string. -/
theorem slice_at (w : World) (s : ByteArray) {i j : Int} {a b : Nat} (hi : i = a) (hj : j = b) (hab : a ≤ b) (hb : b ≤ s.size) : (Instr.slice 9 (.string s) (some (.int .i64 i)) (some (.int .i64 j)) none).run Try.prog w = .ok (.string (s.extract a b)) w := by
  subst hi hj
  rw [run_slice_string w 9 s .i64 .i64 _ _ und_str (by omega) (by omega) (by omega)]
  simp
theorem slice_from (w : World) (s : ByteArray) {i : Int} {a : Nat} (hi : i = a) (ha : a ≤ s.size) : (Instr.slice 9 (.string s) (some (.int .i64 i)) none none).run Try.prog w = .ok (.string (s.extract a s.size)) w := by
  subst hi
  rw [run_slice_string_from_if w 9 s .i64 _ und_str, if_pos (by omega)]
  simp
theorem slice_to (w : World) (s : ByteArray) {j : Int} {b : Nat} (hj : j = b) (hb : b ≤ s.size) : (Instr.slice 9 (.string s) none (some (.int .i64 j)) none).run Try.prog w = .ok (.string (s.extract 0 b)) w := by
  subst hj
  rw [run_slice_string_to_if w 9 s .i64 _ und_str, if_pos (by omega)]
  simp
end Go.Proofs.Ytilgjjkppioblaa
