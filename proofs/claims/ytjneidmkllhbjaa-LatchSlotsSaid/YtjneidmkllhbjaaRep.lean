/- bytes.Repeat of one byte, as flash.New uses it. -/
import Derived.Test.YtjneidmkllhbjaaStr
import Derived.Laws.CopyOwn
import Derived.Lib.BufferWrite
import Derived.Lib.MakeNoZero
import Derived.LoopTactic
import Derived.Handy
import Derived.Deep.LoopGhost
import Derived.RegionTactic
import Derived.BigRegion
namespace Go.Proofs.Ytjneidmkllhbjaa
open Go.RowKit

theorem and_mask (x : Int) (h0 : 0 ≤ x) (h1 : x ≤ 4294967295) : bits .and .u64 x 4294967295 = x := by
  obtain ⟨m, rfl⟩ : ∃ m : Nat, x = (m : Int) := ⟨x.toNat, by omega⟩
  have e1 : (BitVec.ofInt 64 (m : Int)).toNat = m := by
    rw [BitVec.ofInt_natCast, BitVec.toNat_ofNat]; exact Nat.mod_eq_of_lt (by omega)
  show IntKind.u64.wrap ((BitVec.ofInt 64 (m : Int) &&& BitVec.ofInt 64 4294967295).toNat : Int) = _
  rw [BitVec.toNat_and, e1, show (BitVec.ofInt 64 4294967295).toNat = 2 ^ 32 - 1 from rfl, Nat.and_two_pow_sub_one_eq_mod]
  simp [IntKind.wrap, IntKind.bits, IntKind.signed]
  omega

theorem mul64_one (w : World) (n : Int) (h0 : 0 ≤ n) (h1 : n ≤ 4294967295) : Calls Try.prog 44 #[.int .u64 1, .int .u64 n] w fun e w' => e = .returned (.tuple #[.int .u64 0, .int .u64 n]) ∧ w = w' := by
  have a1 := and_mask n h0 h1
  have a2 := and_mask 1 (by omega) (by omega)
  have a3 := and_mask 0 (by omega) (by omega)
  have d1 : n / 4294967296 = 0 := by omega
  go_enter Try.func44, Try.ntmps44
  go_wp2
  go_returns
  exact ⟨rfl, rfl⟩
theorem mul_one' (w : World) (n : Int) (h0 : 0 ≤ n) (h1 : n ≤ 4294967295) : Calls Try.prog 40 #[.int .u64 1, .int .u64 n] w fun e w' => e = .returned (.tuple #[.int .u64 0, .int .u64 n]) ∧ w = w' := by
  go_enter Try.func40, Try.ntmps40
  go_wp2_with fail
  refine (mul64_one _ n h0 h1).mono ?_; rintro e w' ⟨rfl, rfl⟩
  go_wp2
  go_returns
  exact ⟨rfl, rfl⟩

/-- Row r begins with these bytes. -/
def Fr (w : World) (r : Nat) (B : ByteArray) : Prop := ∃ cur T, w.heap[r]? = some (.cells cur T (0, 0)) ∧ B.size ≤ cur.size ∧ ∀ j, j < B.size → cur[j]? = some (.int .u8 (by_ B j))
theorem Fr.lt {w : World} {r : Nat} {B : ByteArray} (h : Fr w r B) : r < w.heap.size := by
  obtain ⟨cur, T, h, -, -⟩ := h
  exact (Array.getElem?_eq_some_iff.1 h).1
theorem Fr.keep {S : List Nat} {w w' : World} {r : Nat} {B : ByteArray} (h : Fr w r B) (hX : Chg S w w') (hn : r ∉ S) : Fr w' r B := by
  have hl := h.lt
  obtain ⟨cur, T, h, h2, h3⟩ := h
  exact ⟨cur, T, (hX.block r hl hn).trans h, h2, h3⟩
theorem Fr.alloc {w : World} {r : Nat} {B : ByteArray} (h : Fr w r B) (o : Obj) : Fr (w.alloc o) r B := h.keep ((Chg.refl [] w).alloc o) (by simp)
theorem Fr.set {w : World} {r : Nat} {B : ByteArray} (h : Fr w r B) {a : Addr} (ha : r ≠ a.block) (v : Value) : Fr (w.setCell a v) r B := h.keep (S := [a.block]) ((Chg.refl _ _).setCell (by simp) v) (by simpa using ha)
theorem Fr.cell {w : World} {r : Nat} {B : ByteArray} (h : Fr w r B) (j : Nat) (hj : j < B.size) : w.cell? ⟨r, j, none⟩ = some (.int .u8 (by_ B j)) := by
  obtain ⟨cur, T, h, h2, h3⟩ := h
  simp [World.cell?, h, h3 j hj]
/-- Bytes laid over others from a place on. -/
def over (B : ByteArray) (off : Nat) (t : ByteArray) : ByteArray := B.extract 0 off ++ t ++ B.extract (off + t.size) B.size
theorem over_size (B : ByteArray) (off : Nat) (t : ByteArray) (h : off + t.size ≤ B.size) : (over B off t).size = B.size := by
  unfold over
  rw [ByteArray.size_append, ByteArray.size_append]
  simp
  omega
theorem over_by (B : ByteArray) (off : Nat) (t : ByteArray) (h : off + t.size ≤ B.size) (j : Nat) (hj : j < B.size) : by_ (over B off t) j = if j < off then by_ B j else if j < off + t.size then by_ t (j - off) else by_ B j := by
  have z0 : (B.extract 0 off).size = off := by simp; omega
  have z1 : (B.extract 0 off ++ t).size = off + t.size := by rw [ByteArray.size_append, z0]
  unfold over
  split
  · rw [by_app_l _ _ _ (by omega), by_app_l _ _ _ (by omega), by_extract _ _ _ _ (by omega) (by omega), Nat.zero_add]
  · split
    · rw [by_app_l _ _ _ (by omega), by_app_r _ _ _ (by omega), z0]
    · rw [by_app_r _ _ _ (by omega), z1, by_extract _ _ _ _ (by omega) (Nat.le_refl _)]
      congr 1
      omega
theorem Fr.over {w : World} {r : Nat} {B : ByteArray} {cur : Array Value} {T : TypeId} (hg : w.heap[r]? = some (.cells cur T (0, 0))) (hz : B.size ≤ cur.size) (hc : ∀ j, j < B.size → cur[j]? = some (.int .u8 (by_ B j))) (off : Nat) (t : ByteArray) (h : off + t.size ≤ B.size)
    (cs : List Value) (hcs : cs.length = t.size) (hcb : ∀ j, j < t.size → cs[j]? = some (.int .u8 (by_ t j))) :
    Fr (w.setRow r (cur.toList.take off ++ cs ++ cur.toList.drop (off + t.size)).toArray) r (over B off t) := by
  refine ⟨_, T, setRow_heap w r cur _ T _ hg, ?_, fun j hj => ?_⟩
  · rw [over_size B off t h]
    simp
    omega
  · rw [over_size B off t h] at hj
    rw [over_by B off t h j hj]
    have hl : cur.toList.length = cur.size := by simp
    rw [List.getElem?_toArray]
    by_cases h1 : j < off
    · rw [if_pos h1, List.append_assoc, List.getElem?_append_left (by simp; omega), List.getElem?_take_of_lt h1]
      simpa using hc j hj
    · rw [if_neg h1]
      by_cases h2 : j < off + t.size
      · rw [if_pos h2, List.append_assoc, List.getElem?_append_right (by simp; omega), List.getElem?_append_left (by simp; omega)]
        rw [show j - (cur.toList.take off).length = j - off by simp; omega]
        exact hcb _ (by omega)
      · rw [if_neg h2, List.getElem?_append_right (by simp; omega), List.getElem?_drop]
        rw [show off + t.size + (j - (cur.toList.take off ++ cs).length) = j by simp; omega]
        simpa using hc j hj
theorem Chg.setRow {S : List Nat} {a w : World} (h : Chg S a w) {r : Nat} (hr : r ∈ S ∨ a.heap.size ≤ r) (cs : Array Value) : Chg S a (w.setRow r cs) :=
  ⟨h.os, h.tape, h.output, by simpa [World.setRow] using h.size, fun k hk hn => by
    rw [setRow_other w r k cs (by rintro rfl; rcases hr with hr | hr; exact hn hr; omega)]
    exact h.block k hk hn⟩
theorem info_u8s : (Try.prog.info? 5).map (·.size) = some 1 := by kernel_rfl
end Go.Proofs.Ytjneidmkllhbjaa
