/- Strings as bytes: the conversion to a row of bytes, byte i of a string. -/
import Derived.Test.YtjneidmkllhbjaaBytes
import Derived.Laws.IdiomStrings
import Derived.Laws.DeepStrings4
namespace Go.Proofs.Ytjneidmkllhbjaa
open Go.RowKit

/-- '[]byte(s)': a new row of the string's bytes. -/
theorem bytes_conv (w : World) (r : ByteArray) : ∃ w' cap, (convert 9 52 (.string r)).run Try.prog w = .ok (.slice (some ⟨w.heap.size, 0, none⟩) r.size cap) w' ∧
    (∀ j (h : j < r.size), w'.cell? ⟨w.heap.size, j, none⟩ = some (.int .u8 (r[j].toNat : Int))) ∧ Chg [] w w' := by
  refine ⟨_, _, run_bytes_of_string w 9 52 5 r und_str und_bytes und_u8, fun j h => ?_, (Chg.refl _ _).drew.alloc _⟩
  have h1 := World.cell?_alloc_mark w.drew (bytesRow r (grownCap w r.size 0 5)) 5 ((bytesRow r (grownCap w r.size 0 5)).size, (bytesRow r (grownCap w r.size 0 5)).size + 1) j
  have h2 := bytesRow_at r (grownCap w r.size 0 5) j h
  exact h1.trans h2

/-- Byte i of a string (0 behind its end). -/
def by_ (s : ByteArray) (i : Nat) : Int := ((s.data.toList.getD i 0).toNat : Int)
theorem by_get (s : ByteArray) (k : Nat) (h : k < s.size) : ((s[k]'h).toNat : Int) = by_ s k := by
  have hj2 : k < s.data.toList.length := by simpa using h
  unfold by_
  rw [List.getD_eq_getElem?_getD, List.getElem?_eq_getElem hj2]
  simp
  rfl
theorem by_bd (s : ByteArray) (k : Nat) : 0 ≤ by_ s k ∧ by_ s k ≤ 255 := by
  unfold by_
  have := (s.data.toList.getD k 0).toNat_lt
  omega
theorem by_extract (s : ByteArray) (a b j : Nat) (h : a + j < b) (hb : b ≤ s.size) : by_ (s.extract a b) j = by_ s (a + j) := by
  have hj : j < (s.extract a b).size := by simp; omega
  rw [← by_get _ j hj, ← by_get s (a + j) (by omega), ByteArray.getElem_extract]
theorem by_nums (L : List Int) (k : Nat) (v : Int) (hk : L[k]? = some v) (h0 : 0 ≤ v) (h1 : v ≤ 255) : by_ (strOfNums L) k = v := by
  unfold by_
  rw [strOfNums_data, List.getD_eq_getElem?_getD, List.getElem?_map, hk]
  simp
  omega
theorem by_app_l (a b : ByteArray) (k : Nat) (h : k < a.size) : by_ (a ++ b) k = by_ a k := by
  unfold by_
  rw [ByteArray.data_append, Array.toList_append, List.getD_eq_getElem?_getD, List.getD_eq_getElem?_getD, List.getElem?_append_left (by simpa using h)]
theorem by_app_r (a b : ByteArray) (k : Nat) (h : a.size ≤ k) : by_ (a ++ b) k = by_ b (k - a.size) := by
  unfold by_
  rw [ByteArray.data_append, Array.toList_append, List.getD_eq_getElem?_getD, List.getD_eq_getElem?_getD, List.getElem?_append_right (by simpa using h)]
  rfl
/-- Two strings of one length with the same bytes are one. -/
theorem by_ext {a b : ByteArray} (hs : a.size = b.size) (h : ∀ k, k < a.size → by_ a k = by_ b k) : a = b := by
  apply ByteArray.ext_getElem hs
  intro i h1 h2
  have := h i h1
  rw [← by_get a i h1, ← by_get b i h2] at this
  exact UInt8.toNat_inj.1 (by omega)
theorem i64_in (x : Int) (h0 : -9223372036854775808 ≤ x) (h1 : x ≤ 9223372036854775807) : IntKind.i64.wrap x = x := by
  simp [IntKind.wrap, IntKind.bits, IntKind.signed]
  omega
theorem str_beq (a b : ByteArray) : (a.toList == b.toList) = true ↔ a = b := by
  rw [beq_iff_eq, ByteArray.toList_eq, ByteArray.toList_eq]
  constructor
  · intro h
    exact ByteArray.ext (Array.toList_inj.1 h)
  · rintro rfl
    rfl
theorem str_empty (a : ByteArray) : a.toList.isEmpty = decide (a.size = 0) := by
  rw [ByteArray.toList_eq, Bool.eq_iff_iff]
  simp
  exact ⟨fun h => ByteArray.ext h, fun h => by rw [h]; rfl⟩
theorem Chg.undrew {S : List Nat} {w w' : World} (h : Chg S w.drew w') : Chg S w w' := ⟨h.os, h.tape, h.output, h.size, h.block⟩
theorem Chg.undrewN {S : List Nat} {w w' : World} {n : Nat} (h : Chg S (w.drewN n) w') : Chg S w w' := ⟨h.os, h.tape, h.output, h.size, h.block⟩
/-- A piece of a string. -/
theorem slice_at (w : World) (s : ByteArray) {i j : Int} {a b : Nat} (hi : i = a) (hj : j = b) (hab : a ≤ b) (hb : b ≤ s.size) : (Instr.slice 9 (.string s) (some (.int .i64 i)) (some (.int .i64 j)) none).run Try.prog w = .ok (.string (s.extract a b)) w := by
  subst hi hj
  rw [run_slice_string w 9 s .i64 .i64 _ _ und_str (by omega) (by omega) (by omega)]
  simp
theorem slice_from (w : World) (s : ByteArray) {i : Int} {a : Nat} (hi : i = a) (ha : a ≤ s.size) : (Instr.slice 9 (.string s) (some (.int .i64 i)) none none).run Try.prog w = .ok (.string (s.extract a s.size)) w := by
  subst hi
  rw [run_slice_string_from_if w 9 s .i64 _ und_str, if_pos (by omega)]
  simp
theorem slice_to (w : World) (s : ByteArray) {j : Int} {b : Nat} (hj : j = b) (hb : b ≤ s.size) : (Instr.slice 9 (.string s) none (some (.int .i64 j)) none).run Try.prog w = .ok (.string (s.extract 0 b)) w := by
  subst hj
  rw [run_slice_string_to_if w 9 s .i64 _ und_str, if_pos (by omega)]
  simp
end Go.Proofs.Ytjneidmkllhbjaa
