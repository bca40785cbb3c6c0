/- Records of a latch: numbers of four bytes, the bytes of a record, and what they are read as. -/
import Derived.Test.YtjneidmkllhbjaaCr3
import Derived.Lib.EndianBits
namespace Go.Proofs.Ytjneidmkllhbjaa
open Go.RowKit

def be4 (n : Int) : List Int := [n / 16777216, n / 65536 % 256, n / 256 % 256, n % 256]
def num4 (s : ByteArray) (k : Nat) : Int := by_ s k * 16777216 + by_ s (k + 1) * 65536 + by_ s (k + 2) * 256 + by_ s (k + 3)
theorem num4_bd (s : ByteArray) (k : Nat) : 0 ≤ num4 s k ∧ num4 s k ≤ 4294967295 := by
  have := by_bd s k; have := by_bd s (k + 1); have := by_bd s (k + 2); have := by_bd s (k + 3)
  unfold num4; omega
theorem be4_num4 (s : ByteArray) (k : Nat) : be4 (num4 s k) = [by_ s k, by_ s (k + 1), by_ s (k + 2), by_ s (k + 3)] := by
  have := by_bd s k; have := by_bd s (k + 1); have := by_bd s (k + 2); have := by_bd s (k + 3)
  unfold be4 num4
  congr 1
  · omega
  congr 1
  · omega
  congr 1
  · omega
  congr 1
  omega
theorem be4_inj {a b : Int} (ha0 : 0 ≤ a) (ha1 : a ≤ 4294967295) (hb0 : 0 ≤ b) (hb1 : b ≤ 4294967295) (h : be4 a = be4 b) : a = b := by
  unfold be4 at h
  simp only [List.cons.injEq, and_true] at h
  omega
theorem be4_len (n : Int) : (be4 n).length = 4 := rfl
theorem be4_bd {n : Int} (h0 : 0 ≤ n) (h1 : n ≤ 4294967295) : ∀ x ∈ be4 n, 0 ≤ x ∧ x ≤ 255 := by
  unfold be4; intro x hx
  simp only [List.mem_cons, List.not_mem_nil, or_false] at hx
  omega
/-- A string is the list of its bytes. -/
theorem nums_eq {L : List Int} {s : ByteArray} (hl : L.length = s.size) (hb : ∀ x ∈ L, 0 ≤ x ∧ x ≤ 255) (h : ∀ k, k < L.length → L[k]? = some (by_ s k)) : strOfNums L = s := by
  refine by_ext (by rw [strOfNums_size]; exact hl) (fun k hk => ?_)
  rw [strOfNums_size] at hk
  have hv := h k hk
  have hm := hb _ (List.mem_of_getElem? hv)
  exact by_nums L k _ hv hm.1 hm.2
theorem nums_inj {L M : List Int} (hL : ∀ x ∈ L, 0 ≤ x ∧ x ≤ 255) (hM : ∀ x ∈ M, 0 ≤ x ∧ x ≤ 255) (h : strOfNums L = strOfNums M) : L = M := by
  have hz : L.length = M.length := by have := congrArg ByteArray.size h; rwa [strOfNums_size, strOfNums_size] at this
  apply List.ext_getElem? 
  intro k
  by_cases hk : k < L.length
  · have h1 : L[k]? = some L[k] := List.getElem?_eq_getElem hk
    have h2 : M[k]? = some (M[k]'(by omega)) := List.getElem?_eq_getElem (by omega)
    have b1 := hL _ (List.getElem_mem hk)
    have b2 := hM _ (List.getElem_mem (show k < M.length by omega))
    have e1 := by_nums L k _ h1 b1.1 b1.2
    have e2 := by_nums M k _ h2 b2.1 b2.2
    rw [h1, h2, ← e1, ← e2, h]
  · rw [List.getElem?_eq_none (by omega), List.getElem?_eq_none (by omega)]

structure RcV where (seq cyc ph st fl vi di inv inph : Int)
def RcV.zero : RcV := ⟨0, 0, 0, 0, 0, 0, 0, 0, 0⟩
def RcV.cells (r : RcV) : Array Value := #[.int .i64 r.seq, .int .i64 r.cyc, .int .i64 r.ph, .int .i64 r.st, .int .i64 r.fl, .int .i64 r.vi, .int .i64 r.di, .int .i64 r.inv, .int .i64 r.inph]
def RcV.right (r : RcV) : Bool := decide ((0 ≤ r.vi ∧ r.vi ≤ 255) ∧ (0 ≤ r.di ∧ r.di ≤ 255) ∧ (0 ≤ r.inv ∧ r.inv ≤ 255) ∧ (1 ≤ r.seq ∧ r.seq ≤ 2147483648) ∧ (0 ≤ r.cyc ∧ r.cyc ≤ 1000000) ∧ (0 ≤ r.inph ∧ r.inph ≤ 1000000) ∧ (0 ≤ r.ph ∧ r.ph ≤ 3) ∧ (0 ≤ r.st ∧ r.st ≤ 2) ∧ (0 ≤ r.fl ∧ r.fl ≤ 1))
theorem RcV.right_iff (r : RcV) : r.right = true ↔ ((0 ≤ r.vi ∧ r.vi ≤ 255) ∧ (0 ≤ r.di ∧ r.di ≤ 255) ∧ (0 ≤ r.inv ∧ r.inv ≤ 255) ∧ (1 ≤ r.seq ∧ r.seq ≤ 2147483648) ∧ (0 ≤ r.cyc ∧ r.cyc ≤ 1000000) ∧ (0 ≤ r.inph ∧ r.inph ≤ 1000000) ∧ (0 ≤ r.ph ∧ r.ph ≤ 3) ∧ (0 ≤ r.st ∧ r.st ≤ 2) ∧ (0 ≤ r.fl ∧ r.fl ≤ 1)) := by unfold RcV.right; exact decide_eq_true_iff
def RcV.head (r : RcV) : List Int := be4 r.seq ++ be4 r.cyc ++ [r.ph + 4 * r.fl + 16 * r.st, r.vi, r.di, r.inv] ++ be4 r.inph
def RcV.all (r : RcV) : List Int := r.head ++ be4 (sum32 (strOfNums r.head)).toNat ++ be4 r.seq
def RcV.print (r : RcV) : ByteArray := if r.right then strOfNums r.all else ByteArray.empty
def RcV.of (s : ByteArray) : RcV := ⟨num4 s 0, num4 s 4, by_ s 8 % 4, by_ s 8 / 16, by_ s 8 % 16 / 4, by_ s 9, by_ s 10, by_ s 11, num4 s 12⟩
/-- Are 24 bytes a record's? -/
def isRec (s : ByteArray) : Bool := decide (s.size = 24) && decide (((sum32 (s.extract 0 16)).toNat : Int) = num4 s 16) && decide (num4 s 0 = num4 s 20) && (RcV.of s).right
def lread (s : ByteArray) : RcV := if isRec s then RcV.of s else RcV.zero

theorem RcV.head_len (r : RcV) : r.head.length = 16 := rfl
theorem RcV.all_len (r : RcV) : r.all.length = 24 := rfl
theorem sum32_bd (s : ByteArray) : 0 ≤ ((sum32 s).toNat : Int) ∧ ((sum32 s).toNat : Int) ≤ 4294967295 := bv32_bd _
theorem RcV.head_bd {r : RcV} (h : r.right = true) : ∀ x ∈ r.head, 0 ≤ x ∧ x ≤ 255 := by
  have hr := r.right_iff.1 h
  intro x hx
  unfold RcV.head at hx
  simp only [List.mem_append, List.mem_cons, List.not_mem_nil, or_false] at hx
  rcases hx with ((hx | hx) | hx) | hx
  · exact be4_bd (by omega) (by omega) x hx
  · exact be4_bd (by omega) (by omega) x hx
  · omega
  · exact be4_bd (by omega) (by omega) x hx
theorem RcV.all_bd {r : RcV} (h : r.right = true) : ∀ x ∈ r.all, 0 ≤ x ∧ x ≤ 255 := by
  have hr := r.right_iff.1 h
  have hs := sum32_bd (strOfNums r.head)
  intro x hx
  unfold RcV.all at hx
  simp only [List.mem_append] at hx
  rcases hx with (hx | hx) | hx
  · exact RcV.head_bd h x hx
  · exact be4_bd hs.1 hs.2 x hx
  · exact be4_bd (by omega) (by omega) x hx
/-- The first 16 bytes say the record. -/
theorem head_of (s : ByteArray) : (RcV.of s).head = [by_ s 0, by_ s 1, by_ s 2, by_ s 3, by_ s 4, by_ s 5, by_ s 6, by_ s 7, by_ s 8, by_ s 9, by_ s 10, by_ s 11, by_ s 12, by_ s 13, by_ s 14, by_ s 15] := by
  have h8 := by_bd s 8
  unfold RcV.head RcV.of
  dsimp only
  rw [be4_num4, be4_num4, be4_num4]
  have e : by_ s 8 % 4 + 4 * (by_ s 8 % 16 / 4) + 16 * (by_ s 8 / 16) = by_ s 8 := by omega
  rw [e]
  rfl
theorem head_str (s : ByteArray) (hs : 16 ≤ s.size) : strOfNums (RcV.of s).head = s.extract 0 16 := by
  refine nums_eq (by rw [RcV.head_len]; simp; omega) ?_ ?_
  · rw [head_of]; intro x hx
    simp only [List.mem_cons, List.not_mem_nil, or_false] at hx
    rcases hx with rfl | rfl | rfl | rfl | rfl | rfl | rfl | rfl | rfl | rfl | rfl | rfl | rfl | rfl | rfl | rfl <;> exact by_bd s _
  · intro k hk
    rw [RcV.head_len] at hk
    rw [by_extract s 0 16 k (by omega) hs, Nat.zero_add, head_of]
    match k, hk with
    | 0, _ | 1, _ | 2, _ | 3, _ | 4, _ | 5, _ | 6, _ | 7, _ | 8, _ | 9, _ | 10, _ | 11, _ | 12, _ | 13, _ | 14, _ | 15, _ => rfl
    | k + 16, h => omega
/-- It is a record's just if it is printed so. -/
theorem isRec_iff (s : ByteArray) (hs : s.size = 24) : isRec s = true ↔ (RcV.of s).print = s := by
  have hall : ∀ q : Int, (RcV.of s).head ++ be4 q ++ be4 (RcV.of s).seq = [by_ s 0, by_ s 1, by_ s 2, by_ s 3, by_ s 4, by_ s 5, by_ s 6, by_ s 7, by_ s 8, by_ s 9, by_ s 10, by_ s 11, by_ s 12, by_ s 13, by_ s 14, by_ s 15] ++ be4 q ++ be4 (num4 s 0) := fun q => by rw [head_of]; rfl
  constructor
  · intro h
    unfold isRec at h
    simp only [Bool.and_eq_true, decide_eq_true_eq] at h
    obtain ⟨⟨⟨_, h1⟩, h2⟩, h3⟩ := h
    unfold RcV.print
    rw [if_pos h3]
    refine nums_eq (by rw [RcV.all_len, hs]) (RcV.all_bd h3) ?_
    intro k hk
    rw [RcV.all_len] at hk
    unfold RcV.all
    rw [head_str s (by omega), hall, h1, h2, be4_num4, be4_num4]
    match k, hk with
    | 0, _ | 1, _ | 2, _ | 3, _ | 4, _ | 5, _ | 6, _ | 7, _ | 8, _ | 9, _ | 10, _ | 11, _ | 12, _ | 13, _ | 14, _ | 15, _ | 16, _ | 17, _ | 18, _ | 19, _ | 20, _ | 21, _ | 22, _ | 23, _ => rfl
    | k + 24, h => omega
  · intro h
    have hr : (RcV.of s).right = true := by
      cases hh : (RcV.of s).right with
      | true => rfl
      | false =>
        unfold RcV.print at h
        rw [hh] at h
        simp only [Bool.false_eq_true, if_false] at h
        rw [← h] at hs
        exact absurd hs (by decide)
    unfold RcV.print at h
    rw [if_pos hr] at h
    have hb := RcV.all_bd hr
    have hs32 := sum32_bd (s.extract 0 16)
    have key : ∀ k v, (RcV.of s).all[k]? = some v → v = by_ s k := by
      intro k v hv
      have hm := hb _ (List.mem_of_getElem? hv)
      rw [← by_nums _ k v hv hm.1 hm.2, h]
    unfold RcV.all at key
    rw [head_str s (by omega), hall] at key
    have k16 := key 16 _ rfl; have k17 := key 17 _ rfl; have k18 := key 18 _ rfl; have k19 := key 19 _ rfl
    have k20 := key 20 _ rfl; have k21 := key 21 _ rfl; have k22 := key 22 _ rfl; have k23 := key 23 _ rfl
    have hn := num4_bd s 0
    have e1 : ((sum32 (s.extract 0 16)).toNat : Int) = num4 s 16 := by
      generalize ((sum32 (s.extract 0 16)).toNat : Int) = q at *
      unfold num4
      rw [← k16, ← k17, ← k18, ← k19]; omega
    have e2 : num4 s 0 = num4 s 20 := by
      generalize num4 s 0 = q at *
      unfold num4
      rw [← k20, ← k21, ← k22, ← k23]; omega
    unfold isRec
    simp only [Bool.and_eq_true, decide_eq_true_eq]
    exact ⟨⟨⟨hs, e1⟩, e2⟩, hr⟩
/-- What is printed is read as it was. -/
theorem of_print {r : RcV} (h : r.right = true) : RcV.of (strOfNums r.all) = r := by
  have hr := r.right_iff.1 h
  have hb := RcV.all_bd h
  have key : ∀ k v, r.all[k]? = some v → by_ (strOfNums r.all) k = v := fun k v hv => by_nums _ k v hv (hb _ (List.mem_of_getElem? hv)).1 (hb _ (List.mem_of_getElem? hv)).2
  have k0 := key 0 _ rfl; have k1 := key 1 _ rfl; have k2 := key 2 _ rfl; have k3 := key 3 _ rfl
  have k4 := key 4 _ rfl; have k5 := key 5 _ rfl; have k6 := key 6 _ rfl; have k7 := key 7 _ rfl
  have k8 := key 8 _ rfl; have k9 := key 9 _ rfl; have k10 := key 10 _ rfl; have k11 := key 11 _ rfl
  have k12 := key 12 _ rfl; have k13 := key 13 _ rfl; have k14 := key 14 _ rfl; have k15 := key 15 _ rfl
  generalize strOfNums r.all = s at *
  unfold RcV.of num4
  rw [k0, k1, k2, k3, k4, k5, k6, k7, k8, k9, k10, k11, k12, k13, k14, k15]
  obtain ⟨a, b, c, d, e, f, g, i, j⟩ := r
  dsimp only at hr ⊢
  congr 1 <;> omega
theorem isRec_print {r : RcV} (h : r.right = true) : isRec (strOfNums r.all) = true ∧ RcV.of (strOfNums r.all) = r := by
  have e := of_print h
  refine ⟨(isRec_iff _ (by rw [strOfNums_size, RcV.all_len])).2 ?_, e⟩
  rw [e]
  unfold RcV.print
  rw [if_pos h]
end Go.Proofs.Ytjneidmkllhbjaa
