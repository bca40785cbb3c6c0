/- Cr3, Ltp, Rfg, Rph. -/
import Derived.Test.YtpfglmlpodjneaaGreatZ05
import Derived.Lib.EndianBits
import Derived.Test.YtpfglmlpodjneaaGreatZ06
import Derived.LoopTactic
import Derived.Handy
import Derived.Deep.LoopGhost
import Derived.Deep.AppendLies
import Derived.OwnWalk
import Derived.Laws.OwnMore
set_option linter.unusedSimpArgs false
set_option linter.unusedVariables false
namespace Go.Proofs.YtpfglmlpodjneaaGreat
open Go.RowKit

theorem ge_top {n k : Nat} {x : BitVec n} (h : x.getLsbD k = true) : x ≠ 0#n := by
  rintro rfl; simp at h
theorem st32_lsb (x : BitVec 32) : st32 x = if x.getLsbD 0 then (x >>> 1) ^^^ 3988292384#32 else x >>> 1 := by
  unfold st32
  have : x.getLsbD 0 = decide (x.toNat % 2 = 1) := by
    rw [BitVec.getLsbD, Nat.testBit_zero]
  rw [this]
  simp
theorem st32_xor (a b : BitVec 32) : st32 (a ^^^ b) = st32 a ^^^ st32 b := by
  rw [st32_lsb, st32_lsb, st32_lsb, BitVec.getLsbD_xor, BitVec.ushiftRight_xor_distrib]
  cases a.getLsbD 0 <;> cases b.getLsbD 0
  · simp
  · simp [BitVec.xor_assoc]
  · simp only [Bool.xor_false, if_true, Bool.false_eq_true, if_false]
    rw [BitVec.xor_assoc, BitVec.xor_assoc, BitVec.xor_comm (b >>> 1)]
  · simp only [Bool.false_eq_true, if_false, if_true, Bool.xor_self]
    rw [BitVec.xor_assoc (a >>> 1), BitVec.xor_comm (3988292384#32), BitVec.xor_assoc (b >>> 1), BitVec.xor_self, BitVec.xor_zero]
theorem st32_zero : st32 0#32 = 0#32 := rfl
theorem st32_inj {x : BitVec 32} (h : st32 x = 0#32) : x = 0#32 := by
  rw [st32_lsb] at h
  cases hb : x.getLsbD 0 with
  | true =>
    exfalso
    rw [hb, if_pos rfl] at h
    have h31 := congrArg (fun y : BitVec 32 => y.getLsbD 31) h
    simp at h31
  | false =>
    rw [hb] at h
    simp only [Bool.false_eq_true, if_false] at h
    apply BitVec.eq_of_getLsbD_eq
    intro i hi
    cases i with
    | zero => rw [hb]; simp
    | succ i =>
      have := congrArg (fun y : BitVec 32 => y.getLsbD i) h
      simp only [BitVec.getLsbD_ushiftRight] at this
      rw [Nat.add_comm] at this
      rw [this]; simp
theorem stn_xor : ∀ n (a b : BitVec 32), stn n (a ^^^ b) = stn n a ^^^ stn n b
  | 0, _, _ => rfl
  | n + 1, a, b => by show stn n (st32 (a ^^^ b)) = _; rw [st32_xor]; exact stn_xor n _ _
theorem stn_zero : ∀ n, stn n 0#32 = 0#32
  | 0 => rfl
  | n + 1 => by show stn n (st32 0#32) = _; rw [st32_zero]; exact stn_zero n
theorem stn_inj : ∀ n {x : BitVec 32}, stn n x = 0#32 → x = 0#32
  | 0, _, h => h
  | n + 1, x, h => st32_inj (stn_inj n (x := st32 x) h)
/-- The sums of two rows of bytes as far as they differ. -/
theorem c32L_xor : ∀ (l m : List UInt8) (x y : BitVec 32), l.length = m.length → c32L l x ^^^ c32L m y = c32L (List.zipWith (· ^^^ ·) l m) (x ^^^ y)
  | [], [], _, _, _ => rfl
  | a :: l, b :: m, x, y, h => by
    show c32L l _ ^^^ c32L m _ = c32L (List.zipWith _ l m) _
    rw [c32L_xor l m _ _ (by simpa using h), ← stn_xor]
    congr 2
    have e : BitVec.ofNat 32 (a ^^^ b).toNat = BitVec.ofNat 32 a.toNat ^^^ BitVec.ofNat 32 b.toNat := by
      rw [UInt8.toNat_xor]
      apply BitVec.eq_of_toNat_eq
      have h1 := a.toNat_lt; have h2 := b.toNat_lt
      rw [BitVec.toNat_xor, BitVec.toNat_ofNat, BitVec.toNat_ofNat, BitVec.toNat_ofNat, Nat.mod_eq_of_lt (a := a.toNat) (by omega), Nat.mod_eq_of_lt (a := b.toNat) (by omega)]
      exact Nat.mod_eq_of_lt (Nat.lt_of_lt_of_le (Nat.xor_lt_two_pow (n := 8) h1 h2) (by decide))
    rw [e, BitVec.xor_assoc, BitVec.xor_assoc, ← BitVec.xor_assoc (BitVec.ofNat 32 a.toNat), BitVec.xor_comm (BitVec.ofNat 32 a.toNat) y, BitVec.xor_assoc y]
theorem c32L_inj : ∀ (l : List UInt8) (x : BitVec 32), (∀ b ∈ l, b = 0) → c32L l x = 0#32 → x = 0#32
  | [], _, _, h => h
  | b :: l, x, hl, h => by
    have hb : b = 0 := hl b (by simp)
    subst hb
    have h2 := c32L_inj l _ (fun b hb => hl b (by simp [hb])) h
    have h3 := stn_inj 8 h2
    simpa using h3
theorem c32L_app (l m : List UInt8) : ∀ x, c32L (l ++ m) x = c32L m (c32L l x) := by
  induction l with
  | nil => intro x; rfl
  | cons b l ih => intro x; exact ih _
theorem c32L_zeros : ∀ l : List UInt8, (∀ b ∈ l, b = 0) → c32L l 0#32 = 0#32
  | [], _ => rfl
  | b :: l, h => by
    have hb : b = 0 := h b (by simp)
    subst hb
    show c32L l (stn 8 (0#32 ^^^ 0#32)) = _
    have e : stn 8 (0#32 ^^^ 0#32) = 0#32 := by decide
    rw [e]
    exact c32L_zeros l (fun b hb => h b (by simp [hb]))
/-- Two rows of bytes that differ in one byte alone have different sums. -/
theorem c32_one (l r : List UInt8) (a b : UInt8) (x : BitVec 32) (hab : a ≠ b) : c32L (l ++ a :: r) x ≠ c32L (l ++ b :: r) x := by
  intro h
  have h1 : c32L (l ++ a :: r) x ^^^ c32L (l ++ b :: r) x = 0#32 := by rw [h, BitVec.xor_self]
  rw [c32L_app, c32L_app] at h1
  have h2 := c32L_xor (a :: r) (b :: r) (c32L l x) (c32L l x) rfl
  rw [h1, BitVec.xor_self] at h2
  have hz : List.zipWith (fun x y : UInt8 => x ^^^ y) r r = List.replicate r.length 0 := by
    apply List.ext_getElem <;> simp
  have h3 : c32L (List.replicate r.length 0) (stn 8 (0#32 ^^^ BitVec.ofNat 32 (a ^^^ b).toNat)) = 0#32 := by
    rw [← hz]; exact h2.symm
  have h4 := stn_inj 8 (c32L_inj _ _ (fun b hb => (List.mem_replicate.1 hb).2) h3)
  rw [BitVec.zero_xor] at h4
  have h5 := congrArg BitVec.toNat h4
  have h6 := (a ^^^ b).toNat_lt
  rw [BitVec.toNat_ofNat, Nat.mod_eq_of_lt (by omega)] at h5
  have h7 : a ^^^ b = 0 := UInt8.toNat_inj.1 (by simpa using h5)
  exact hab (by simpa using h7)
end Go.Proofs.YtpfglmlpodjneaaGreat
namespace Go.Proofs.YtpfglmlpodjneaaGreat
open Go.RowKit

def be4 (n : Int) : List Int := [n / 16777216, n / 65536 % 256, n / 256 % 256, n % 256]
def num4 (s : ByteArray) (k : Nat) : Int := by_ s k * 16777216 + by_ s (k + 1) * 65536 + by_ s (k + 2) * 256 + by_ s (k + 3)
theorem num4_bd (s : ByteArray) (k : Nat) : 0 ≤ num4 s k ∧ num4 s k ≤ 4294967295 := by
  have := by_bd s k; have := by_bd s (k + 1); have := by_bd s (k + 2); have := by_bd s (k + 3)
  unfold num4; omega
theorem be4_num4 (s : ByteArray) (k : Nat) : be4 (num4 s k) = [by_ s k, by_ s (k + 1), by_ s (k + 2), by_ s (k + 3)] := by
  have := by_bd s k; have := by_bd s (k + 1); have := by_bd s (k + 2); have := by_bd s (k + 3)
  unfold be4 num4
  congr 1
  · omega
  congr 1
  · omega
  congr 1
  · omega
  congr 1
  omega
theorem be4_inj {a b : Int} (ha0 : 0 ≤ a) (ha1 : a ≤ 4294967295) (hb0 : 0 ≤ b) (hb1 : b ≤ 4294967295) (h : be4 a = be4 b) : a = b := by
  unfold be4 at h
  simp only [List.cons.injEq, and_true] at h
  omega
theorem be4_len (n : Int) : (be4 n).length = 4 := rfl
theorem be4_bd {n : Int} (h0 : 0 ≤ n) (h1 : n ≤ 4294967295) : ∀ x ∈ be4 n, 0 ≤ x ∧ x ≤ 255 := by
  unfold be4; intro x hx
  simp only [List.mem_cons, List.not_mem_nil, or_false] at hx
  omega
/-- A string is the list of its bytes. -/
theorem nums_eq {L : List Int} {s : ByteArray} (hl : L.length = s.size) (hb : ∀ x ∈ L, 0 ≤ x ∧ x ≤ 255) (h : ∀ k, k < L.length → L[k]? = some (by_ s k)) : strOfNums L = s := by
  refine by_ext (by rw [strOfNums_size]; exact hl) (fun k hk => ?_)
  rw [strOfNums_size] at hk
  have hv := h k hk
  have hm := hb _ (List.mem_of_getElem? hv)
  exact by_nums L k _ hv hm.1 hm.2
theorem nums_inj {L M : List Int} (hL : ∀ x ∈ L, 0 ≤ x ∧ x ≤ 255) (hM : ∀ x ∈ M, 0 ≤ x ∧ x ≤ 255) (h : strOfNums L = strOfNums M) : L = M := by
  have hz : L.length = M.length := by have := congrArg ByteArray.size h; rwa [strOfNums_size, strOfNums_size] at this
  apply List.ext_getElem? 
  intro k
  by_cases hk : k < L.length
  · have h1 : L[k]? = some L[k] := List.getElem?_eq_getElem hk
    have h2 : M[k]? = some (M[k]'(by omega)) := List.getElem?_eq_getElem (by omega)
    have b1 := hL _ (List.getElem_mem hk)
    have b2 := hM _ (List.getElem_mem (show k < M.length by omega))
    have e1 := by_nums L k _ h1 b1.1 b1.2
    have e2 := by_nums M k _ h2 b2.1 b2.2
    rw [h1, h2, ← e1, ← e2, h]
  · rw [List.getElem?_eq_none (by omega), List.getElem?_eq_none (by omega)]

structure RcV where (seq cyc ph st fl vi di inv inph : Int)
def RcV.zero : RcV := ⟨0, 0, 0, 0, 0, 0, 0, 0, 0⟩
def RcV.cells (r : RcV) : Array Value := #[.int .i64 r.seq, .int .i64 r.cyc, .int .i64 r.ph, .int .i64 r.st, .int .i64 r.fl, .int .i64 r.vi, .int .i64 r.di, .int .i64 r.inv, .int .i64 r.inph]
def RcV.right (r : RcV) : Bool := decide ((0 ≤ r.vi ∧ r.vi ≤ 255) ∧ (0 ≤ r.di ∧ r.di ≤ 255) ∧ (0 ≤ r.inv ∧ r.inv ≤ 255) ∧ (1 ≤ r.seq ∧ r.seq ≤ 2147483648) ∧ (0 ≤ r.cyc ∧ r.cyc ≤ 1000000) ∧ (0 ≤ r.inph ∧ r.inph ≤ 1000000) ∧ (0 ≤ r.ph ∧ r.ph ≤ 3) ∧ (0 ≤ r.st ∧ r.st ≤ 2) ∧ (0 ≤ r.fl ∧ r.fl ≤ 1))
theorem RcV.right_iff (r : RcV) : r.right = true ↔ ((0 ≤ r.vi ∧ r.vi ≤ 255) ∧ (0 ≤ r.di ∧ r.di ≤ 255) ∧ (0 ≤ r.inv ∧ r.inv ≤ 255) ∧ (1 ≤ r.seq ∧ r.seq ≤ 2147483648) ∧ (0 ≤ r.cyc ∧ r.cyc ≤ 1000000) ∧ (0 ≤ r.inph ∧ r.inph ≤ 1000000) ∧ (0 ≤ r.ph ∧ r.ph ≤ 3) ∧ (0 ≤ r.st ∧ r.st ≤ 2) ∧ (0 ≤ r.fl ∧ r.fl ≤ 1)) := by unfold RcV.right; exact decide_eq_true_iff
def RcV.head (r : RcV) : List Int := be4 r.seq ++ be4 r.cyc ++ [r.ph + 4 * r.fl + 16 * r.st, r.vi, r.di, r.inv] ++ be4 r.inph
def RcV.all (r : RcV) : List Int := r.head ++ be4 (sum32 (strOfNums r.head)).toNat ++ be4 r.seq
def RcV.print (r : RcV) : ByteArray := if r.right then strOfNums r.all else ByteArray.empty
def RcV.of (s : ByteArray) : RcV := ⟨num4 s 0, num4 s 4, by_ s 8 % 4, by_ s 8 / 16, by_ s 8 % 16 / 4, by_ s 9, by_ s 10, by_ s 11, num4 s 12⟩
/-- Are 24 bytes a record's? -/
def isRec (s : ByteArray) : Bool := decide (s.size = 24) && decide (((sum32 (s.extract 0 16)).toNat : Int) = num4 s 16) && decide (num4 s 0 = num4 s 20) && (RcV.of s).right
def lread (s : ByteArray) : RcV := if isRec s then RcV.of s else RcV.zero

theorem RcV.head_len (r : RcV) : r.head.length = 16 := rfl
theorem RcV.all_len (r : RcV) : r.all.length = 24 := rfl
theorem sum32_bd (s : ByteArray) : 0 ≤ ((sum32 s).toNat : Int) ∧ ((sum32 s).toNat : Int) ≤ 4294967295 := bv32_bd _
theorem RcV.head_bd {r : RcV} (h : r.right = true) : ∀ x ∈ r.head, 0 ≤ x ∧ x ≤ 255 := by
  have hr := r.right_iff.1 h
  intro x hx
  unfold RcV.head at hx
  simp only [List.mem_append, List.mem_cons, List.not_mem_nil, or_false] at hx
  rcases hx with ((hx | hx) | hx) | hx
  · exact be4_bd (by omega) (by omega) x hx
  · exact be4_bd (by omega) (by omega) x hx
  · omega
  · exact be4_bd (by omega) (by omega) x hx
theorem RcV.all_bd {r : RcV} (h : r.right = true) : ∀ x ∈ r.all, 0 ≤ x ∧ x ≤ 255 := by
  have hr := r.right_iff.1 h
  have hs := sum32_bd (strOfNums r.head)
  intro x hx
  unfold RcV.all at hx
  simp only [List.mem_append] at hx
  rcases hx with (hx | hx) | hx
  · exact RcV.head_bd h x hx
  · exact be4_bd hs.1 hs.2 x hx
  · exact be4_bd (by omega) (by omega) x hx
/-- The first 16 bytes say the record. -/
theorem head_of (s : ByteArray) : (RcV.of s).head = [by_ s 0, by_ s 1, by_ s 2, by_ s 3, by_ s 4, by_ s 5, by_ s 6, by_ s 7, by_ s 8, by_ s 9, by_ s 10, by_ s 11, by_ s 12, by_ s 13, by_ s 14, by_ s 15] := by
  have h8 := by_bd s 8
  unfold RcV.head RcV.of
  dsimp only
  rw [be4_num4, be4_num4, be4_num4]
  have e : by_ s 8 % 4 + 4 * (by_ s 8 % 16 / 4) + 16 * (by_ s 8 / 16) = by_ s 8 := by omega
  rw [e]
  rfl
theorem head_str (s : ByteArray) (hs : 16 ≤ s.size) : strOfNums (RcV.of s).head = s.extract 0 16 := by
  refine nums_eq (by rw [RcV.head_len]; simp; omega) ?_ ?_
  · rw [head_of]; intro x hx
    simp only [List.mem_cons, List.not_mem_nil, or_false] at hx
    rcases hx with rfl | rfl | rfl | rfl | rfl | rfl | rfl | rfl | rfl | rfl | rfl | rfl | rfl | rfl | rfl | rfl <;> exact by_bd s _
  · intro k hk
    rw [RcV.head_len] at hk
    rw [by_extract s 0 16 k (by omega) hs, Nat.zero_add, head_of]
    match k, hk with
    | 0, _ | 1, _ | 2, _ | 3, _ | 4, _ | 5, _ | 6, _ | 7, _ | 8, _ | 9, _ | 10, _ | 11, _ | 12, _ | 13, _ | 14, _ | 15, _ => rfl
    | k + 16, h => omega
/-- It is a record's just if it is printed so. -/
theorem isRec_iff (s : ByteArray) (hs : s.size = 24) : isRec s = true ↔ (RcV.of s).print = s := by
  have hall : ∀ q : Int, (RcV.of s).head ++ be4 q ++ be4 (RcV.of s).seq = [by_ s 0, by_ s 1, by_ s 2, by_ s 3, by_ s 4, by_ s 5, by_ s 6, by_ s 7, by_ s 8, by_ s 9, by_ s 10, by_ s 11, by_ s 12, by_ s 13, by_ s 14, by_ s 15] ++ be4 q ++ be4 (num4 s 0) := fun q => by rw [head_of]; rfl
  constructor
  · intro h
    unfold isRec at h
    simp only [Bool.and_eq_true, decide_eq_true_eq] at h
    obtain ⟨⟨⟨_, h1⟩, h2⟩, h3⟩ := h
    unfold RcV.print
    rw [if_pos h3]
    refine nums_eq (by rw [RcV.all_len, hs]) (RcV.all_bd h3) ?_
    intro k hk
    rw [RcV.all_len] at hk
    unfold RcV.all
    rw [head_str s (by omega), hall, h1, h2, be4_num4, be4_num4]
    match k, hk with
    | 0, _ | 1, _ | 2, _ | 3, _ | 4, _ | 5, _ | 6, _ | 7, _ | 8, _ | 9, _ | 10, _ | 11, _ | 12, _ | 13, _ | 14, _ | 15, _ | 16, _ | 17, _ | 18, _ | 19, _ | 20, _ | 21, _ | 22, _ | 23, _ => rfl
    | k + 24, h => omega
  · intro h
    have hr : (RcV.of s).right = true := by
      cases hh : (RcV.of s).right with
      | true => rfl
      | false =>
        unfold RcV.print at h
        rw [hh] at h
        simp only [Bool.false_eq_true, if_false] at h
        rw [← h] at hs
        exact absurd hs (by decide)
    unfold RcV.print at h
    rw [if_pos hr] at h
    have hb := RcV.all_bd hr
    have hs32 := sum32_bd (s.extract 0 16)
    have key : ∀ k v, (RcV.of s).all[k]? = some v → v = by_ s k := by
      intro k v hv
      have hm := hb _ (List.mem_of_getElem? hv)
      rw [← by_nums _ k v hv hm.1 hm.2, h]
    unfold RcV.all at key
    rw [head_str s (by omega), hall] at key
    have k16 := key 16 _ rfl; have k17 := key 17 _ rfl; have k18 := key 18 _ rfl; have k19 := key 19 _ rfl
    have k20 := key 20 _ rfl; have k21 := key 21 _ rfl; have k22 := key 22 _ rfl; have k23 := key 23 _ rfl
    have hn := num4_bd s 0
    have e1 : ((sum32 (s.extract 0 16)).toNat : Int) = num4 s 16 := by
      generalize ((sum32 (s.extract 0 16)).toNat : Int) = q at *
      unfold num4
      rw [← k16, ← k17, ← k18, ← k19]; omega
    have e2 : num4 s 0 = num4 s 20 := by
      generalize num4 s 0 = q at *
      unfold num4
      rw [← k20, ← k21, ← k22, ← k23]; omega
    unfold isRec
    simp only [Bool.and_eq_true, decide_eq_true_eq]
    exact ⟨⟨⟨hs, e1⟩, e2⟩, hr⟩
/-- What is printed is read as it was. -/
theorem of_print {r : RcV} (h : r.right = true) : RcV.of (strOfNums r.all) = r := by
  have hr := r.right_iff.1 h
  have hb := RcV.all_bd h
  have key : ∀ k v, r.all[k]? = some v → by_ (strOfNums r.all) k = v := fun k v hv => by_nums _ k v hv (hb _ (List.mem_of_getElem? hv)).1 (hb _ (List.mem_of_getElem? hv)).2
  have k0 := key 0 _ rfl; have k1 := key 1 _ rfl; have k2 := key 2 _ rfl; have k3 := key 3 _ rfl
  have k4 := key 4 _ rfl; have k5 := key 5 _ rfl; have k6 := key 6 _ rfl; have k7 := key 7 _ rfl
  have k8 := key 8 _ rfl; have k9 := key 9 _ rfl; have k10 := key 10 _ rfl; have k11 := key 11 _ rfl
  have k12 := key 12 _ rfl; have k13 := key 13 _ rfl; have k14 := key 14 _ rfl; have k15 := key 15 _ rfl
  generalize strOfNums r.all = s at *
  unfold RcV.of num4
  rw [k0, k1, k2, k3, k4, k5, k6, k7, k8, k9, k10, k11, k12, k13, k14, k15]
  obtain ⟨a, b, c, d, e, f, g, i, j⟩ := r
  dsimp only at hr ⊢
  congr 1 <;> omega
theorem isRec_print {r : RcV} (h : r.right = true) : isRec (strOfNums r.all) = true ∧ RcV.of (strOfNums r.all) = r := by
  have e := of_print h
  refine ⟨(isRec_iff _ (by rw [strOfNums_size, RcV.all_len])).2 ?_, e⟩
  rw [e]
  unfold RcV.print
  rw [if_pos h]
end Go.Proofs.YtpfglmlpodjneaaGreat
namespace Go.Proofs.YtpfglmlpodjneaaGreat
open Go.RowKit

theorem or_byte (x b : Int) (h0 : 0 ≤ x) (h1 : x ≤ 16777215) (hb0 : 0 ≤ b) (hb1 : b ≤ 255) : bits .or .u32 (x * 256) b = x * 256 + b :=
  bits_join .u32 32 (by decide) wraps_u32 8 (x * 256) b (by omega) (by omega) (by omega) hb0 (by omega) (by omega)
theorem rget_any (w : World) (s : ByteArray) (h4 : 4 ≤ s.size) (hs : s.size ≤ 1000000) : Calls Tryz.prog 38 #[.string s] w fun e w' => e = .returned (.int .u32 (num4 s 0)) ∧ Chg [] w w' := by
  have hsl := slice_to w s (j := 4) (b := 4) rfl h4
  have hz : (s.extract 0 4).size = 4 := by simp; omega
  obtain ⟨w1, cap, hcv, hcell, hX⟩ := bytes_conv w (s.extract 0 4)
  rw [hz] at hcv
  have c0 := hcell 0 (by omega); have c1 := hcell 1 (by omega); have c2 := hcell 2 (by omega); have c3 := hcell 3 (by omega)
  rw [by_get _ _ (by omega), by_extract _ _ _ _ (by omega) h4] at c0 c1 c2 c3
  simp only [Nat.zero_add] at c0 c1 c2 c3
  clear hcell
  have b0 := by_bd s 0; have b1 := by_bd s 1; have b2 := by_bd s 2; have b3 := by_bd s 3
  have Hn := Lib.hid (show num4 s 0 = by_ s 0 * 16777216 + by_ s 1 * 65536 + by_ s 2 * 256 + by_ s 3 from rfl)
  generalize num4 s 0 = res at *
  generalize by_ s 0 = x0 at *
  generalize by_ s 1 = x1 at *
  generalize by_ s 2 = x2 at *
  generalize by_ s 3 = x3 at *
  have o0 : bits .or .u32 0 x0 = x0 := by have := or_byte 0 x0 (by omega) (by omega) b0.1 b0.2; simpa using this
  have o1 := or_byte x0 x1 (by omega) (by omega) b1.1 b1.2
  have o2 := or_byte (x0 * 256 + x1) x2 (by omega) (by omega) b2.1 b2.2
  have o3 := or_byte ((x0 * 256 + x1) * 256 + x2) x3 (by omega) (by omega) b3.1 b3.2
  generalize hzz : w.heap.size = z at *
  generalize s.extract 0 4 = t at *
  go_enter Tryz.func38, Tryz.ntmps38
  go_wp2_with fail
  refine wp_loop_rounds 5 ?_
  rw [rounds_succ]; go_wp2_with fail
  rw [rounds_succ]; go_wp2_with fail
  rw [rounds_succ]; go_wp2_with fail
  rw [rounds_succ]; go_wp2_with fail
  rw [rounds_succ]; go_wp2
  go_returns
  exact ⟨ret_int (by rw [Hn.out]; omega), hX⟩
/-- Does s begin with p? -/
def beginsB (s p : ByteArray) : Bool := decide (p.size ≤ s.size) && ((s.extract 0 p.size).toList == p.toList)
theorem slhas_any (w : World) (s p : ByteArray) (hs : s.size ≤ maxLen) (hp : p.size ≤ maxLen) : Calls Tryz.prog 56 #[.string s, .string p] w fun e w' => e = .returned (.bool (beginsB s p)) ∧ w = w' := by
  unfold maxLen at hs hp
  by_cases h : p.size ≤ s.size
  · have hg : ((p.size : Int)) ≤ (s.size : Int) := by omega
    have hsl := slice_to w s (j := (p.size : Int)) (b := p.size) rfl h
    have Hb := Lib.hid (show beginsB s p = ((s.extract 0 p.size).toList == p.toList) by unfold beginsB; rw [decide_eq_true h, Bool.true_and])
    generalize beginsB s p = r at *
    generalize s.extract 0 p.size = t at *
    clear h
    go_enter Tryz.func56, Tryz.ntmps56
    go_wp2
    go_returns
    exact ⟨ret_bool Hb.out.symm, rfl⟩
  · have hg : ((s.size : Int)) < (p.size : Int) := by omega
    have Hb := Lib.hid (show beginsB s p = false by unfold beginsB; rw [decide_eq_false h, Bool.false_and])
    generalize beginsB s p = r at *
    clear h
    go_enter Tryz.func56, Tryz.ntmps56
    go_wp2
    go_returns
    exact ⟨ret_bool Hb.out.symm, rfl⟩
theorem has_any (w : World) (s p : ByteArray) (hs : s.size ≤ maxLen) (hp : p.size ≤ maxLen) : Calls Tryz.prog 37 #[.string s, .string p] w fun e w' => e = .returned (.bool (beginsB s p)) ∧ w = w' := by
  go_enter Tryz.func37, Tryz.ntmps37
  go_wp2_with fail
  refine (slhas_any w s p hs hp).mono ?_; rintro e w' ⟨rfl, rfl⟩
  go_wp2
  go_returns
  exact ⟨rfl, rfl⟩
end Go.Proofs.YtpfglmlpodjneaaGreat
namespace Go.Proofs.YtpfglmlpodjneaaGreat
open Go.RowKit

structure PtV where (x y : Int)
structure PhV where
  area : List PtV
  (g mv mn up : Int)
def ptCells (L : List PtV) : List Value := L.flatMap fun p => [.int .i64 p.x, .int .i64 p.y]
def sg32 (n : Int) : Int := if 2147483648 ≤ n then n - 4294967296 else n
/-- The points in s from place a on. -/
def ptsAt (s : ByteArray) (a : Nat) : Nat → List PtV
  | 0 => []
  | n + 1 => ptsAt s a n ++ [⟨sg32 (num4 s (a + 8 * n)), sg32 (num4 s (a + 8 * n + 4))⟩]
theorem ptsAt_len (s : ByteArray) (a n : Nat) : (ptsAt s a n).length = n := by
  induction n with
  | zero => rfl
  | succ n ih => simp [ptsAt, ih]
theorem ptCells_app (L M : List PtV) : ptCells (L ++ M) = ptCells L ++ ptCells M := by simp [ptCells]

theorem ext_ext (s : ByteArray) (a b : Nat) (h : a + b ≤ s.size) : (s.extract a s.size).extract b (s.size - a) = s.extract (a + b) s.size := by
  refine by_ext (by simp; omega) (fun i hi => ?_)
  have hi2 : i < s.size - (a + b) := by simp at hi; omega
  rw [by_extract _ _ _ _ (by omega) (by simp), by_extract _ _ _ _ (by omega) (by omega), by_extract _ _ _ _ (by omega) (by omega)]
  congr 1; omega
theorem num4_tail2 (s : ByteArray) (a b : Nat) (h : a + b + 4 ≤ s.size) : num4 (s.extract a s.size) b = num4 s (a + b) := by
  unfold num4
  rw [by_extract s a s.size b (by omega) (by omega), by_extract s a s.size (b + 1) (by omega) (by omega), by_extract s a s.size (b + 2) (by omega) (by omega), by_extract s a s.size (b + 3) (by omega) (by omega)]
  rfl
theorem sg32_conv (n : Int) (h0 : 0 ≤ n) (h1 : n ≤ 4294967295) : IntKind.i32.wrap n = sg32 n ∧ IntKind.i64.wrap (sg32 n) = sg32 n := by
  unfold sg32
  constructor
  · simp [IntKind.wrap, IntKind.bits, IntKind.signed]
    split <;> omega
  · rw [IntKind.wrap_i64]; split <;> omega
theorem one_int (k : IntKind) (n : Int) : (Value.int k n).oneCell' = true := rfl
theorem row_one {w : World} {base : Nat} {T : TypeId} {k : Nat} {v : Value} {n : Nat} {xs : List Value} (h : w.ownsRow base T k v n xs) : v.oneCell' = true := by
  rcases h.2 with ⟨rfl, _⟩ | ⟨g, cap, cur, rfl, _⟩ <;> rfl
theorem res_ctt {fn : Func} {p u u2 : Tmp} {T : TypeId} (hr : fn.results = #[.cell p T, .tmp u, .tmp u2]) {tmps : Array Value} {w : World} {b : Nat} {cs : Array Value} (h : At w b cs) (hT : isRowB Tryz.prog T cs.size = true) (hp : tmps.getD p undef = .pointer (some ⟨b, 0, none⟩)) :
    (results fn tmps).run Tryz.prog w = .ok (.tuple #[.agg cs, tmps.getD u undef, tmps.getD u2 undef]) w := by
  have hl := h.loadVar T hT
  simp only [results, hr]
  simp [Sem.run_bind, Result.andThen, -Array.getD_eq_getD_getElem?, hp, run_asAddr, hl]
theorem num4_tail (s : ByteArray) (a : Nat) (h : a + 4 ≤ s.size) : num4 (s.extract a s.size) 0 = num4 s a := by
  unfold num4
  rw [show by_ s a = by_ s (a + 0) from rfl, by_extract s a s.size 0 (by omega) (by omega), by_extract s a s.size 1 (by omega) (by omega), by_extract s a s.size 2 (by omega) (by omega), by_extract s a s.size 3 (by omega) (by omega)]
theorem row_keep {S : List Nat} {w w' : World} {base : Nat} {T : TypeId} {k : Nat} {v : Value} {n : Nat} {xs : List Value} (h : w.ownsRow base T k v n xs) (hX : Chg S w w') (hS : ∀ b ∈ S, b < base) : w'.ownsRow base T k v n xs := by
  refine ⟨h.1, ?_⟩
  rcases h.2 with hn | ⟨g, cap, cur, rfl, hb, hgg, rest⟩
  · exact .inl hn
  · refine .inr ⟨g, cap, cur, rfl, hb, ?_, rest⟩
    rw [hX.block g (Array.getElem?_eq_some_iff.1 hgg).1 (fun hm => by have := hS g hm; omega)]
    exact hgg
theorem row_grown {S : List Nat} {a w w' : World} {base : Nat} {T : TypeId} {k : Nat} {v : Value} {n : Nat} {xs : List Value} (h : w.ownsRow base T k v n xs) (hX : Chg S a w) (g : w.grownBy w' v.ownBlock) (hb : a.heap.size ≤ base) : Chg S a w' :=
  ⟨g.os.trans hX.os, g.tape.trans hX.tape, g.output.trans hX.output, Nat.le_trans hX.size g.size,
    fun k hk hn => (g.block k (Nat.lt_of_lt_of_le hk hX.size) (fun e => by have := (World.ownsRow.lt h k e.symm).1; omega)).trans (hX.block k hk hn)⟩
theorem row_far {w w' : World} {base : Nat} {T : TypeId} {k : Nat} {v : Value} {n : Nat} {xs : List Value} (h : w.ownsRow base T k v n xs) (g : w.grownBy w' v.ownBlock) {b : Nat} {cs : Array Value} (hA : At w b cs) (hb : b < base) : At w' b cs := by
  have hl := hA.lt
  obtain ⟨T, hA⟩ := hA
  exact ⟨T, (g.block b hl (fun e => by have := (World.ownsRow.lt h b e.symm).1; omega)).trans hA⟩
/-- What an operation of a round may do: to the phase's own cell (late), to its row. -/
structure RelP (va : Value) (z k : Nat) (w w' : World) : Prop where
  keep : ∀ b, b ≠ z → va.ownBlock ≠ some b → b < w.heap.size → w'.heap[b]? = w.heap[b]?
  size : w.heap.size ≤ w'.heap.size
  late : 1 ≤ k → Chg [z] w w'
theorem RelP.of {w w' : World} (h : Chg [] w w') (va : Value) (z k : Nat) : RelP va z k w w' := ⟨fun b _ _ hl => h.block b hl (by simp), h.size, fun _ => h.mono (by simp)⟩
theorem RelP.at_ {va : Value} {z k : Nat} {w w' : World} (h : RelP va z k w w') {b : Nat} {cs : Array Value} (hA : At w b cs) (h1 : b ≠ z) (h2 : va.ownBlock ≠ some b) : At w' b cs := by
  have hl := hA.lt
  obtain ⟨T, hA⟩ := hA
  exact ⟨T, (h.keep b h1 h2 hl).trans hA⟩
theorem und_pts : Tryz.prog.underlying 49 = some (.slice 53) := by kernel_rfl
theorem info_pt : (Tryz.prog.info? 53).map (fun i => (i.zero, i.size, i.bytes)) = some (some (.agg #[.int .i64 0, .int .i64 0]), 2, 16) := by kernel_rfl
theorem app_pt (w : World) (z : Nat) (va : Value) (k : Nat) (XS : List Value) (h : w.ownsRow (z + 1) 53 2 va k XS) (yb : Nat) (x y : Int) (hK : At w yb #[.int .i64 x, .int .i64 y]) (hk : k ≤ 1000) (hz : z + 1 ≤ w.heap.size) :
    ∃ v' w', (Builtin.append_ #[49, 49] 49 #[va, .slice (some ⟨yb, 0, none⟩) 1 1]).run Tryz.prog w = .ok v' w' ∧ w'.ownsRow (z + 1) 53 2 v' (k + 1) (XS ++ [.int .i64 x, .int .i64 y]) ∧ w.grownBy w' va.ownBlock := by
  obtain ⟨i, hi, hz0, hz1, hz2⟩ := info_parts info_pt
  have hnews : ∀ j u, ([.int .i64 x, .int .i64 y] : List Value)[j]? = some u → w.cell? ((⟨yb, 0, none⟩ : Addr).add j) = some u := by
    intro j u hu
    have hadd : (⟨yb, 0, none⟩ : Addr).add j = ⟨yb, j, none⟩ := by unfold Addr.add; split <;> simp_all
    rw [hadd, hK.cell j]
    simpa using hu
  have hone : ∀ u ∈ ([.int .i64 x, .int .i64 y] : List Value), u.oneCell' = true := by
    intro u hu
    simp only [List.mem_cons, List.not_mem_nil, or_false] at hu
    rcases hu with rfl | rfl <;> rfl
  obtain ⟨v', w', h1, h2, h3, _⟩ := run_append_own (P := Tryz.prog) (w := w) (z + 1) 49 49 53 i (.agg #[.int .i64 0, .int .i64 0]) 2 16 und_pts hi hz0 hz1 hz2 rfl (by decide) va k XS h ⟨yb, 0, none⟩ 1 1 [.int .i64 x, .int .i64 y] rfl hnews hone (by unfold maxLen; omega) (by omega) hz
  exact ⟨v', w', h1, h2, h3⟩
set_option maxRecDepth 100000 in
set_option maxHeartbeats 4000000 in
theorem phase_ok (W : World) (s : ByteArray) (hs : s.size ≤ 1000000) (h14 : 14 ≤ s.size) (hn : 8 * by_ s 0 ≤ (s.size : Int) - 14) :
    Calls Tryz.prog 57 #[.string s] W fun e w' => ∃ va, e = .returned (.tuple #[.agg #[va, .int .i64 (by_ s 1), .int .i64 (num4 s 2), .int .i64 (num4 s 6), .int .i64 (num4 s 10)], .string (s.extract (14 + 8 * (by_ s 0).toNat) s.size), .int .i64 0]) ∧
      w'.ownsRow (W.heap.size + 1) 53 2 va (by_ s 0).toNat (ptCells (ptsAt s 14 (by_ s 0).toNat)) ∧ Chg [] W w' := by
  have hb0 := by_bd s 0
  have hb1 := by_bd s 1
  have n2 := num4_bd s 2
  have n6 := num4_bd s 6
  have n10 := num4_bd s 10
  have q2 := num4_tail s 2 (by omega)
  have q6 := num4_tail s 6 (by omega)
  have q10 := num4_tail s 10 (by omega)
  have g0 := by_get s 0 (by omega)
  have g1 := by_get s 1 (by omega)
  have j0 : (0 : Int) < (s.size : Int) := by omega
  have j1 : (1 : Int) < (s.size : Int) := by omega
  have i0 : IntKind.i64.wrap (by_ s 0) = by_ s 0 := IntWalk.i64_in _ (by omega)
  have i1 : IntKind.i64.wrap (by_ s 1) = by_ s 1 := IntWalk.i64_in _ (by omega)
  have i2 : IntKind.i64.wrap (num4 s 2) = num4 s 2 := IntWalk.i64_in _ (by omega)
  have i6 : IntKind.i64.wrap (num4 s 6) = num4 s 6 := IntWalk.i64_in _ (by omega)
  have i10 : IntKind.i64.wrap (num4 s 10) = num4 s 10 := IntWalk.i64_in _ (by omega)
  have hz5 : ((14 : Int) ≤ (s.size : Int)) := by omega
  obtain ⟨n, hnn⟩ : ∃ n : Nat, by_ s 0 = (n : Int) := ⟨(by_ s 0).toNat, by omega⟩
  rw [hnn, Int.toNat_natCast]
  rw [hnn] at hn hb0 g0 i0
  clear hnn
  have C0 := (CL.new W 0).push #[.slice none 0 0, .int .i64 0, .int .i64 0, .int .i64 0, .int .i64 0] 51
  go_enter Tryz.func57, Tryz.ntmps57
  go_upto_region 3 with fail
  have hC0 := C0
  generalize hz : W.heap.size = z at *
  have hWz : W.heap.size ≤ z := by omega
  have Hzz := Lib.hid hz
  clear hz C0
  generalize W.alloc (.cells #[.slice none 0 0, .int .i64 0, .int .i64 0, .int .i64 0, .int .i64 0] 51) = w1 at *
  refine wp_region_ex (fun q w => (q = 0 → CL W [(z, #[.slice none 0 0, .int .i64 0, .int .i64 0, .int .i64 0, .int .i64 0])] 0 w) ∧ (q = 1 → At w z #[.slice none 0 0, .int .i64 (by_ s 1), .int .i64 (num4 s 2), .int .i64 (num4 s 6), .int .i64 (num4 s 10)] ∧ Chg [] W w)) (fun _ _ _ => True) [16] [(0, 0, false), (0, 0, false), (0, 0, false), (0, 0, false), (0, 0, false), (0, 0, false), (0, 0, false), (0, 0, false), (0, 0, false), (0, 0, false), (0, 0, false), (0, 0, false), (0, 0, false), (0, 0, false), (0, 0, false), (0, 0, false), (0, 0, true)] [21, 22, 23, 24, 25, 26, 27, 28, 29, 30, 31, 32, 33, 34, 35, 36] (by kernel_rfl) rfl (by kernel_rfl) (by kernel_rfl) (⟨fun _ => hC0.drew, fun h => absurd h (by decide)⟩) ?_
  simp only [List.zip_cons_cons, List.zip_nil_right]
  refine ex_det 21 [0] rfl rfl (fun _ _ _ _ _ _ _ _ => rfl) ?_
  apply Exists.intro
  refine ⟨?_, ?_⟩
  · intro wx bX kX hk1 hk2 hC hb hd K hK
    have e0 := hb 0 rfl
    simp only [exSlot, List.getD_cons_succ, List.getD_cons_zero] at e0
    simp only [execOp, e0]
    clear hb hd
    go_simp
    exact hK _ hC (trivial)
  refine ex_det 22 [21] rfl rfl (fun _ _ _ _ _ _ _ _ => rfl) ?_
  apply Exists.intro
  refine ⟨?_, ?_⟩
  · intro wx bX kX hk1 hk2 hC hb hd K hK
    have e21 := hd 21 _ _ rfl rfl
    try dsimp only at e21
    simp only [execOp, e21]
    clear hb hd
    go_simp
    exact hK _ hC (trivial)
  refine ex_det 23 [22] rfl rfl (fun _ _ _ _ _ _ _ _ => rfl) ?_
  apply Exists.intro
  refine ⟨?_, ?_⟩
  · intro wx bX kX hk1 hk2 hC hb hd K hK
    have e22 := hd 22 _ _ rfl rfl
    try dsimp only at e22
    simp only [execOp, e22]
    clear hb hd
    go_simp
    exact hK _ hC (trivial)
  refine ex_det 24 [0] rfl rfl (fun _ _ _ _ _ _ _ _ => rfl) ?_
  apply Exists.intro
  refine ⟨?_, ?_⟩
  · intro wx bX kX hk1 hk2 hC hb hd K hK
    have e0 := hb 0 rfl
    simp only [exSlot, List.getD_cons_succ, List.getD_cons_zero] at e0
    simp only [execOp, e0]
    clear hb hd
    go_simp
    exact hK _ hC (trivial)
  refine ex_det 25 [24] rfl rfl (fun _ _ _ _ _ _ _ _ => rfl) ?_
  apply Exists.intro
  refine ⟨?_, ?_⟩
  · intro wx bX kX hk1 hk2 hC hb hd K hK
    have e24 := hd 24 _ _ rfl rfl
    try dsimp only at e24
    have sq := slice_from wx s (i := 2) (a := 2) rfl (by omega)
    simp only [execOp, Option.map_some, Option.map_none, e24]
    clear hb hd
    go_simp
    exact hK _ hC (trivial)
  refine ex_det 26 [25] rfl rfl (fun _ _ _ _ _ _ _ _ => rfl) ?_
  apply Exists.intro
  refine ⟨?_, ?_⟩
  · intro wx bX kX hk1 hk2 hC hb hd K hK
    have e25 := hd 25 _ _ rfl rfl
    try dsimp only at e25
    simp only [execOp, resolve, List.map_toArray, List.map_cons, List.map_nil, e25]
    clear hb hd
    go_simp
    refine (rget_any wx (s.extract 2 s.size) (by simp; omega) (by simp; omega)).mono ?_; rintro e w' ⟨rfl, hX⟩
    rw [q2]
    exact ⟨_, rfl, hK _ ⟨fun h => (hC.1 h).step hX, fun h => ⟨hX.at (hC.2 h).1 (by simp), (hC.2 h).2.trans hX⟩⟩ trivial⟩
  refine ex_det 27 [26] rfl rfl (fun _ _ _ _ _ _ _ _ => rfl) ?_
  apply Exists.intro
  refine ⟨?_, ?_⟩
  · intro wx bX kX hk1 hk2 hC hb hd K hK
    have e26 := hd 26 _ _ rfl rfl
    try dsimp only at e26
    simp only [execOp, e26]
    clear hb hd
    go_simp
    exact hK _ hC (trivial)
  refine ex_det 28 [0] rfl rfl (fun _ _ _ _ _ _ _ _ => rfl) ?_
  apply Exists.intro
  refine ⟨?_, ?_⟩
  · intro wx bX kX hk1 hk2 hC hb hd K hK
    have e0 := hb 0 rfl
    simp only [exSlot, List.getD_cons_succ, List.getD_cons_zero] at e0
    simp only [execOp, e0]
    clear hb hd
    go_simp
    exact hK _ hC (trivial)
  refine ex_det 29 [28] rfl rfl (fun _ _ _ _ _ _ _ _ => rfl) ?_
  apply Exists.intro
  refine ⟨?_, ?_⟩
  · intro wx bX kX hk1 hk2 hC hb hd K hK
    have e28 := hd 28 _ _ rfl rfl
    try dsimp only at e28
    have sq := slice_from wx s (i := 6) (a := 6) rfl (by omega)
    simp only [execOp, Option.map_some, Option.map_none, e28]
    clear hb hd
    go_simp
    exact hK _ hC (trivial)
  refine ex_det 30 [29] rfl rfl (fun _ _ _ _ _ _ _ _ => rfl) ?_
  apply Exists.intro
  refine ⟨?_, ?_⟩
  · intro wx bX kX hk1 hk2 hC hb hd K hK
    have e29 := hd 29 _ _ rfl rfl
    try dsimp only at e29
    simp only [execOp, resolve, List.map_toArray, List.map_cons, List.map_nil, e29]
    clear hb hd
    go_simp
    refine (rget_any wx (s.extract 6 s.size) (by simp; omega) (by simp; omega)).mono ?_; rintro e w' ⟨rfl, hX⟩
    rw [q6]
    exact ⟨_, rfl, hK _ ⟨fun h => (hC.1 h).step hX, fun h => ⟨hX.at (hC.2 h).1 (by simp), (hC.2 h).2.trans hX⟩⟩ trivial⟩
  refine ex_det 31 [30] rfl rfl (fun _ _ _ _ _ _ _ _ => rfl) ?_
  apply Exists.intro
  refine ⟨?_, ?_⟩
  · intro wx bX kX hk1 hk2 hC hb hd K hK
    have e30 := hd 30 _ _ rfl rfl
    try dsimp only at e30
    simp only [execOp, e30]
    clear hb hd
    go_simp
    exact hK _ hC (trivial)
  refine ex_det 32 [0] rfl rfl (fun _ _ _ _ _ _ _ _ => rfl) ?_
  apply Exists.intro
  refine ⟨?_, ?_⟩
  · intro wx bX kX hk1 hk2 hC hb hd K hK
    have e0 := hb 0 rfl
    simp only [exSlot, List.getD_cons_succ, List.getD_cons_zero] at e0
    simp only [execOp, e0]
    clear hb hd
    go_simp
    exact hK _ hC (trivial)
  refine ex_det 33 [32] rfl rfl (fun _ _ _ _ _ _ _ _ => rfl) ?_
  apply Exists.intro
  refine ⟨?_, ?_⟩
  · intro wx bX kX hk1 hk2 hC hb hd K hK
    have e32 := hd 32 _ _ rfl rfl
    try dsimp only at e32
    have sq := slice_from wx s (i := 10) (a := 10) rfl (by omega)
    simp only [execOp, Option.map_some, Option.map_none, e32]
    clear hb hd
    go_simp
    exact hK _ hC (trivial)
  refine ex_det 34 [33] rfl rfl (fun _ _ _ _ _ _ _ _ => rfl) ?_
  apply Exists.intro
  refine ⟨?_, ?_⟩
  · intro wx bX kX hk1 hk2 hC hb hd K hK
    have e33 := hd 33 _ _ rfl rfl
    try dsimp only at e33
    simp only [execOp, resolve, List.map_toArray, List.map_cons, List.map_nil, e33]
    clear hb hd
    go_simp
    refine (rget_any wx (s.extract 10 s.size) (by simp; omega) (by simp; omega)).mono ?_; rintro e w' ⟨rfl, hX⟩
    rw [q10]
    exact ⟨_, rfl, hK _ ⟨fun h => (hC.1 h).step hX, fun h => ⟨hX.at (hC.2 h).1 (by simp), (hC.2 h).2.trans hX⟩⟩ trivial⟩
  refine ex_det 35 [34] rfl rfl (fun _ _ _ _ _ _ _ _ => rfl) ?_
  apply Exists.intro
  refine ⟨?_, ?_⟩
  · intro wx bX kX hk1 hk2 hC hb hd K hK
    have e34 := hd 34 _ _ rfl rfl
    try dsimp only at e34
    simp only [execOp, e34]
    clear hb hd
    go_simp
    exact hK _ hC (trivial)
  refine ex_det 36 [23, 27, 31, 35] rfl rfl (fun _ _ _ _ _ _ _ _ => rfl) ?_
  apply Exists.intro
  refine ⟨?_, ?_⟩
  · intro wx bX kX hk1 hk2 hC hb hd K hK
    have e23 := hd 23 _ _ rfl rfl
    try dsimp only at e23
    have e27 := hd 27 _ _ rfl rfl
    try dsimp only at e27
    have e31 := hd 31 _ _ rfl rfl
    try dsimp only at e31
    have e35 := hd 35 _ _ rfl rfl
    try dsimp only at e35
    simp only [execOp, List.map_toArray, List.map_cons, List.map_nil, e23, e27, e31, e35]
    clear hb hd
    go_simp
    exact hK _ hC (trivial)
  refine ex_unit (fun _ _ => True) [2, 36] rfl rfl (fun _ _ _ _ _ _ _ _ => rfl) (fun _ _ _ _ _ _ _ => trivial) ?_ ?_
  · intro wx bX kX hk1 hk2 hC hb hd K hK
    have e2 := hb 2 rfl
    simp only [exSlot, List.getD_cons_succ, List.getD_cons_zero] at e2
    have e36 := hd 36 _ _ rfl rfl
    try dsimp only at e36
    simp only [execOp, e2, e36]
    clear hb hd
    have hAA := (hC.1 (by omega)).get 0 rfl
    obtain ⟨wy, hrun, hA2, hX2⟩ := hAA.store_ 51 #[.slice none 0 0, .int .i64 (by_ s 1), .int .i64 (num4 s 2), .int .i64 (num4 s 6), .int .i64 (num4 s 10)] rfl (by kernel_rfl) (by simp [Value.oneCell'])
    simp only [Sem.run_bind, hrun, Result.andThen_ok, Sem.run_pure, invUpon]
    exact hK _ trivial (⟨fun h => absurd h (by simp), fun _ => ⟨hA2, (hC.1 (by omega)).x.then hX2 (fun x hx hl => by simp at hx; omega)⟩⟩) (trivial)
  refine ex_end ?_
  intro us w2 hus hC hall
  obtain ⟨v0, us, rfl⟩ := List.exists_cons_of_length_eq_add_one hus
  replace hus := Nat.succ.inj hus
  obtain ⟨v1, us, rfl⟩ := List.exists_cons_of_length_eq_add_one hus
  replace hus := Nat.succ.inj hus
  obtain ⟨v2, us, rfl⟩ := List.exists_cons_of_length_eq_add_one hus
  replace hus := Nat.succ.inj hus
  obtain ⟨v3, us, rfl⟩ := List.exists_cons_of_length_eq_add_one hus
  replace hus := Nat.succ.inj hus
  obtain ⟨v4, us, rfl⟩ := List.exists_cons_of_length_eq_add_one hus
  replace hus := Nat.succ.inj hus
  obtain ⟨v5, us, rfl⟩ := List.exists_cons_of_length_eq_add_one hus
  replace hus := Nat.succ.inj hus
  obtain ⟨v6, us, rfl⟩ := List.exists_cons_of_length_eq_add_one hus
  replace hus := Nat.succ.inj hus
  obtain ⟨v7, us, rfl⟩ := List.exists_cons_of_length_eq_add_one hus
  replace hus := Nat.succ.inj hus
  obtain ⟨v8, us, rfl⟩ := List.exists_cons_of_length_eq_add_one hus
  replace hus := Nat.succ.inj hus
  obtain ⟨v9, us, rfl⟩ := List.exists_cons_of_length_eq_add_one hus
  replace hus := Nat.succ.inj hus
  obtain ⟨v10, us, rfl⟩ := List.exists_cons_of_length_eq_add_one hus
  replace hus := Nat.succ.inj hus
  obtain ⟨v11, us, rfl⟩ := List.exists_cons_of_length_eq_add_one hus
  replace hus := Nat.succ.inj hus
  obtain ⟨v12, us, rfl⟩ := List.exists_cons_of_length_eq_add_one hus
  replace hus := Nat.succ.inj hus
  obtain ⟨v13, us, rfl⟩ := List.exists_cons_of_length_eq_add_one hus
  replace hus := Nat.succ.inj hus
  obtain ⟨v14, us, rfl⟩ := List.exists_cons_of_length_eq_add_one hus
  replace hus := Nat.succ.inj hus
  obtain ⟨v15, us, rfl⟩ := List.exists_cons_of_length_eq_add_one hus
  replace hus := Nat.succ.inj hus
  obtain ⟨v16, us, rfl⟩ := List.exists_cons_of_length_eq_add_one hus
  replace hus := Nat.succ.inj hus
  obtain rfl := List.length_eq_zero_iff.1 hus
  clear hus
  generalize hbb : exPuts _ _ _ = bb at hall ⊢
  simp only [exPuts, Act.put, List.setIfInBounds_toArray, List.set_cons_succ, List.set_cons_zero] at hbb
  subst hbb
  obtain ⟨h16, h15, h14, h13, h12, h11, h10, h9, h8, h7, h6, h5, h4, h3, h2, h1, h0, -⟩ := hall
  obtain rfl : v0 = _ := h0
  obtain rfl : v1 = _ := h1
  obtain rfl : v2 = _ := h2
  obtain rfl : v3 = _ := h3
  obtain rfl : v4 = _ := h4
  obtain rfl : v5 = _ := h5
  obtain rfl : v6 = _ := h6
  obtain rfl : v7 = _ := h7
  obtain rfl : v8 = _ := h8
  obtain rfl : v9 = _ := h9
  obtain rfl : v10 = _ := h10
  obtain rfl : v11 = _ := h11
  obtain rfl : v12 = _ := h12
  obtain rfl : v13 = _ := h13
  obtain rfl : v14 = _ := h14
  obtain rfl : v15 = _ := h15
  clear v16
  obtain ⟨hA, hX⟩ := hC.2 rfl
  clear hC hC0 h16 q2 q6 q10 n2 n6 n10 i1 i2 i6 i10 g1 j1
  have sq14 := slice_from w2 s (i := 14) (a := 14) rfl (by omega)
  have hbn : n ≤ 255 := by omega
  have hsn : 14 + 8 * n ≤ s.size := by omega
  have hzs2 : z + 1 ≤ w2.heap.size := hA.lt
  generalize hg : by_ s 1 = g at *
  have Hg := Lib.hid hg
  clear hg
  generalize hmv : num4 s 2 = mv at *
  have Hmv := Lib.hid hmv
  clear hmv
  generalize hmn : num4 s 6 = mn at *
  have Hmn := Lib.hid hmn
  clear hmn
  generalize hup : num4 s 10 = up at *
  have Hup := Lib.hid hup
  clear hup
  go_wp2_with fail
  clear sq14 g0 j0 i0
  go_loopg [0, 43] n (fun gg a i wr => ∃ (k : Nat) (va : Value), k + gg = n ∧ i = .int .i64 k ∧ a = .string (s.extract (14 + 8 * k) s.size) ∧ At wr z #[va, .int .i64 g, .int .i64 mv, .int .i64 mn, .int .i64 up] ∧ wr.ownsRow (z + 1) 53 2 va k (ptCells (ptsAt s 14 k)) ∧ Chg [] W wr ∧ z + 1 ≤ wr.heap.size)
  case atStart => exact ⟨0, .slice none 0 0, by omega, rfl, rfl, hA, World.ownsRow_nil _ _ _ _, hX, hzs2⟩
  case round =>
    obtain ⟨k, va, hk, rfl, rfl, hA, hR, hX, hzs⟩ := hrel
    by_cases hlt : k < n
    · have hgk : (k : Int) < (n : Int) := by omega
      have hXS : ptCells (ptsAt s 14 k) ++ [.int .i64 (sg32 (num4 s (14 + 8 * k))), .int .i64 (sg32 (num4 s (14 + 8 * k + 4)))] = ptCells (ptsAt s 14 (k + 1)) := by
        rw [ptsAt, ptCells_app]; rfl
      have htz : (s.extract (14 + 8 * k) s.size).size = s.size - (14 + 8 * k) := by simp
      have ht8 : (s.extract (14 + 8 * k) s.size).extract 8 (s.extract (14 + 8 * k) s.size).size = s.extract (14 + 8 * (k + 1)) s.size := by
        rw [htz]; exact ext_ext s _ 8 (by omega)
      have HG1 := fun w => rget_any w (s.extract (14 + 8 * k) s.size) (by omega) (by omega)
      rw [num4_tail s (14 + 8 * k) (by omega)] at HG1
      have HG2 := fun w => rget_any w ((s.extract (14 + 8 * k) s.size).extract 4 (s.extract (14 + 8 * k) s.size).size) (by simp; omega) (by simp; omega)
      rw [num4_tail _ 4 (by omega), num4_tail2 s (14 + 8 * k) 4 (by omega)] at HG2
      have bx := num4_bd s (14 + 8 * k)
      have by' := num4_bd s (14 + 8 * k + 4)
      have cx := sg32_conv _ bx.1 bx.2
      have cy := sg32_conv _ by'.1 by'.2
      generalize ptCells (ptsAt s 14 k) = XS at *
      generalize hXS1 : ptCells (ptsAt s 14 (k + 1)) = XS1 at *
      have HXS1 := Lib.hid hXS1
      clear hXS1
      generalize num4 s (14 + 8 * k) = nx at *
      generalize num4 s (14 + 8 * k + 4) = ny at *
      obtain ⟨cx1, cx2⟩ := cx
      obtain ⟨cy1, cy2⟩ := cy
      generalize sg32 nx = x at *
      generalize sg32 ny = y at *
      generalize ht : s.extract (14 + 8 * k) s.size = t at *
      have ht4 : 8 ≤ t.size := by omega
      have hti : (8 : Int) ≤ (t.size : Int) := by omega
      have Ht8 := Lib.hid ht8
      have Htz := Lib.hid htz
      have Ht := Lib.hid ht
      have HXS := Lib.hid hXS
      clear ht8 htz ht hXS
      replace HG1 := Lib.hid HG1
      replace HG2 := Lib.hid HG2
      have sq8 := fun w => slice_from w t (i := 8) (a := 8) rfl (by omega)
      go_upto_region 8 with fail
      refine wp_region_ex (fun q w => (q = 0 → At w z #[va, .int .i64 g, .int .i64 mv, .int .i64 mn, .int .i64 up] ∧ w.ownsRow (z + 1) 53 2 va k XS ∧ Chg [] W w ∧ z + 1 ≤ w.heap.size) ∧ (q = 1 → At w z #[va, .int .i64 g, .int .i64 mv, .int .i64 mn, .int .i64 up] ∧ Chg [] W w) ∧ (q = 2 → ∃ v9, At w z #[v9, .int .i64 g, .int .i64 mv, .int .i64 mn, .int .i64 up] ∧ w.ownsRow (z + 1) 53 2 v9 (k + 1) (XS ++ [.int .i64 x, .int .i64 y]) ∧ Chg [] W w)) (fun k w w' => RelP va z k w w') [13, 15] [(0, 0, false), (0, 0, false), (0, 0, false), (0, 0, false), (0, 0, false), (0, 0, false), (0, 0, false), (0, 0, false), (0, 0, false), (0, 0, false), (0, 0, false), (0, 0, false), (0, 0, false), (0, 0, true), (1, 1, false), (1, 1, true)] [45, 46, 47, 48, 49, 50, 51, 52, 53, 54, 55, 56, 57, 58, 59] (by kernel_rfl) rfl (by kernel_rfl) (by kernel_rfl) (⟨fun _ => ⟨hA.drew, hR.drew, hX.drew, hzs⟩, fun h => absurd h (by decide), fun h => absurd h (by decide)⟩) ?_
      simp only [List.zip_cons_cons, List.zip_nil_right]
      refine ex_det 45 [2] rfl rfl (fun _ _ _ _ _ _ _ _ => rfl) ?_
      apply Exists.intro
      refine ⟨?_, ?_⟩
      · intro wx bX kX hk1 hk2 hC hb hd K hK
        have e2 := hb 2 rfl
        simp only [exSlot, List.getD_cons_succ, List.getD_cons_zero] at e2
        simp only [execOp, e2]
        clear hb hd
        go_simp
        exact hK _ hC (RelP.of (Chg.refl _ _) _ _ _)
      refine ex_det 46 [45] rfl rfl (fun _ _ _ _ _ _ _ _ => rfl) ?_
      apply Exists.intro
      refine ⟨?_, ?_⟩
      · intro wx bX kX hk1 hk2 hC hb hd K hK
        have e45 := hd 45 _ _ rfl rfl
        try dsimp only at e45
        have hcz := (hC.1 (by omega)).1.cell 0
        try dsimp only at hcz
        simp only [execOp, e45]
        clear hb hd
        go_simp
        exact hK _ hC (RelP.of (Chg.refl _ _) _ _ _)
      refine ex_det 47 [0] rfl rfl (fun _ _ _ _ _ _ _ _ => rfl) ?_
      apply Exists.intro
      refine ⟨?_, ?_⟩
      · intro wx bX kX hk1 hk2 hC hb hd K hK
        have e0 := hb 0 rfl
        simp only [exSlot, List.getD_cons_succ, List.getD_cons_zero] at e0
        simp only [execOp, e0]
        clear hb hd
        go_simp
        exact hK _ hC (RelP.of (Chg.refl _ _) _ _ _)
      refine ex_det 48 [47] rfl rfl (fun _ _ _ _ _ _ _ _ => rfl) ?_
      apply Exists.intro
      refine ⟨?_, ?_⟩
      · intro wx bX kX hk1 hk2 hC hb hd K hK
        have e47 := hd 47 _ _ rfl rfl
        try dsimp only at e47
        simp only [execOp, resolve, List.map_toArray, List.map_cons, List.map_nil, e47]
        clear hb hd
        go_simp
        refine (HG1.out wx).mono ?_; rintro e w' ⟨rfl, hX⟩
        exact ⟨_, rfl, hK _ ⟨fun h => by obtain ⟨a1, a2, a3, a4⟩ := hC.1 h; exact ⟨hX.at a1 (by simp), row_keep a2 hX (by simp), a3.trans hX, Nat.le_trans a4 hX.size⟩, fun h => ⟨hX.at (hC.2.1 h).1 (by simp), (hC.2.1 h).2.trans hX⟩, fun h => absurd h (by simp; omega)⟩ (RelP.of hX _ _ _)⟩
      refine ex_det 49 [48] rfl rfl (fun _ _ _ _ _ _ _ _ => rfl) ?_
      apply Exists.intro
      refine ⟨?_, ?_⟩
      · intro wx bX kX hk1 hk2 hC hb hd K hK
        have e48 := hd 48 _ _ rfl rfl
        try dsimp only at e48
        simp only [execOp, e48]
        clear hb hd
        go_simp
        exact hK _ hC (RelP.of (Chg.refl _ _) _ _ _)
      refine ex_det 50 [49] rfl rfl (fun _ _ _ _ _ _ _ _ => rfl) ?_
      apply Exists.intro
      refine ⟨?_, ?_⟩
      · intro wx bX kX hk1 hk2 hC hb hd K hK
        have e49 := hd 49 _ _ rfl rfl
        try dsimp only at e49
        simp only [execOp, e49]
        clear hb hd
        go_simp
        exact hK _ hC (RelP.of (Chg.refl _ _) _ _ _)
      refine ex_det 51 [0] rfl rfl (fun _ _ _ _ _ _ _ _ => rfl) ?_
      apply Exists.intro
      refine ⟨?_, ?_⟩
      · intro wx bX kX hk1 hk2 hC hb hd K hK
        have e0 := hb 0 rfl
        simp only [exSlot, List.getD_cons_succ, List.getD_cons_zero] at e0
        simp only [execOp, e0]
        clear hb hd
        go_simp
        exact hK _ hC (RelP.of (Chg.refl _ _) _ _ _)
      refine ex_det 52 [51] rfl rfl (fun _ _ _ _ _ _ _ _ => rfl) ?_
      apply Exists.intro
      refine ⟨?_, ?_⟩
      · intro wx bX kX hk1 hk2 hC hb hd K hK
        have e51 := hd 51 _ _ rfl rfl
        try dsimp only at e51
        have sq := slice_from wx t (i := 4) (a := 4) rfl (by omega)
        simp only [execOp, Option.map_some, Option.map_none, e51]
        clear hb hd
        go_simp
        exact hK _ hC (RelP.of (Chg.refl _ _) _ _ _)
      refine ex_det 53 [52] rfl rfl (fun _ _ _ _ _ _ _ _ => rfl) ?_
      apply Exists.intro
      refine ⟨?_, ?_⟩
      · intro wx bX kX hk1 hk2 hC hb hd K hK
        have e52 := hd 52 _ _ rfl rfl
        try dsimp only at e52
        simp only [execOp, resolve, List.map_toArray, List.map_cons, List.map_nil, e52]
        clear hb hd
        go_simp
        refine (HG2.out wx).mono ?_; rintro e w' ⟨rfl, hX⟩
        exact ⟨_, rfl, hK _ ⟨fun h => by obtain ⟨a1, a2, a3, a4⟩ := hC.1 h; exact ⟨hX.at a1 (by simp), row_keep a2 hX (by simp), a3.trans hX, Nat.le_trans a4 hX.size⟩, fun h => ⟨hX.at (hC.2.1 h).1 (by simp), (hC.2.1 h).2.trans hX⟩, fun h => absurd h (by simp; omega)⟩ (RelP.of hX _ _ _)⟩
      refine ex_det 54 [53] rfl rfl (fun _ _ _ _ _ _ _ _ => rfl) ?_
      apply Exists.intro
      refine ⟨?_, ?_⟩
      · intro wx bX kX hk1 hk2 hC hb hd K hK
        have e53 := hd 53 _ _ rfl rfl
        try dsimp only at e53
        simp only [execOp, e53]
        clear hb hd
        go_simp
        exact hK _ hC (RelP.of (Chg.refl _ _) _ _ _)
      refine ex_det 55 [54] rfl rfl (fun _ _ _ _ _ _ _ _ => rfl) ?_
      apply Exists.intro
      refine ⟨?_, ?_⟩
      · intro wx bX kX hk1 hk2 hC hb hd K hK
        have e54 := hd 54 _ _ rfl rfl
        try dsimp only at e54
        simp only [execOp, e54]
        clear hb hd
        go_simp
        exact hK _ hC (RelP.of (Chg.refl _ _) _ _ _)
      refine ex_det 56 [50, 55] rfl rfl (fun _ _ _ _ _ _ _ _ => rfl) ?_
      apply Exists.intro
      refine ⟨?_, ?_⟩
      · intro wx bX kX hk1 hk2 hC hb hd K hK
        have e50 := hd 50 _ _ rfl rfl
        try dsimp only at e50
        have e55 := hd 55 _ _ rfl rfl
        try dsimp only at e55
        simp only [execOp, List.map_toArray, List.map_cons, List.map_nil, e50, e55]
        clear hb hd
        go_simp
        exact hK _ hC (RelP.of (Chg.refl _ _) _ _ _)
      refine ex_any (fun _ v w => ∃ yb, v = .slice (some ⟨yb, 0, none⟩) 1 1 ∧ At w yb #[.int .i64 x, .int .i64 y] ∧ yb ≠ z ∧ va.ownBlock ≠ some yb) 57 [56] rfl rfl (fun _ _ _ _ _ _ _ _ => rfl) (fun k hk g v w w' ⟨yb, h1, h2, h3, h4⟩ hR => ⟨yb, h1, hR.at_ h2 h3 h4, h3, h4⟩) ?_ ?_
      · intro wx bX kX hk1 hk2 hC hb hd K hK
        have e56 := hd 56 _ _ rfl rfl
        try dsimp only at e56
        simp only [execOp, List.map_toArray, List.map_cons, List.map_nil, e56]
        clear hb hd
        go_simp
        obtain ⟨a1, a2, a3, a4⟩ := hC.1 (by omega)
        have hzl := a1.lt
        exact hK _ _ ⟨_, rfl, At.new _ _ _, by omega, fun hh => by have := (World.ownsRow.lt a2 _ hh).2; omega⟩ ⟨fun h => ⟨a1.alloc _, World.ownsRow.alloc a2 _, a3.alloc _, by simp; omega⟩, fun h => absurd h (by simp; omega), fun h => absurd h (by simp; omega)⟩ (RelP.of ((Chg.refl _ _).alloc _) _ _ _)
      refine ex_any (fun _ v w => ∃ g9 cap9, v = .slice (some ⟨g9, 0, none⟩) (k + 1) cap9 ∧ w.ownsRow (z + 1) 53 2 (.slice (some ⟨g9, 0, none⟩) (k + 1) cap9) (k + 1) (XS ++ [.int .i64 x, .int .i64 y])) 58 [46, 57] rfl rfl (fun _ _ _ _ _ _ _ _ => rfl) (fun k hk g v w w' ⟨g9, cap9, h1, h2⟩ hR => ⟨g9, cap9, h1, row_keep h2 (hR.late (by simpa using hk)) (by simp)⟩) ?_ ?_
      · intro wx bX kX hk1 hk2 hC hb hd K hK
        have e46 := hd 46 _ _ rfl rfl
        try dsimp only at e46
        have e57 := hd 57 _ _ rfl rfl
        try dsimp only at e57
        obtain ⟨yb, e57, K57, -, -⟩ := e57
        simp only [execOp, resolve, List.map_toArray, List.map_cons, List.map_nil, e46, e57]
        clear hb hd
        obtain ⟨a1, a2, a3, a4⟩ := hC.1 (by omega)
        obtain ⟨v9, w9, hrun, h9, hg9⟩ := app_pt wx z va k XS a2 yb x y K57 (by omega) a4
        obtain ⟨g9, cap9, rfl, -, -⟩ := World.ownsRow.form h9 (by omega)
        simp only [Go.invoke, builtin, Sem.run_bind, hrun, Result.andThen_ok, Sem.run_pure, invUpon]
        have hfar := row_far a2 hg9 a1 (by omega)
        exact hK _ _ ⟨g9, cap9, rfl, h9⟩ ⟨fun h => absurd h (by simp), fun _ => ⟨hfar, row_grown a2 a3 hg9 (by omega)⟩, fun h => absurd h (by simp; omega)⟩ ⟨fun b hb hv hl => hg9.block b hl (fun e => hv e.symm), hg9.size, fun h => absurd h (by omega)⟩
      refine ex_det 59 [2] rfl rfl (fun _ _ _ _ _ _ _ _ => rfl) ?_
      apply Exists.intro
      refine ⟨?_, ?_⟩
      · intro wx bX kX hk1 hk2 hC hb hd K hK
        have e2 := hb 2 rfl
        simp only [exSlot, List.getD_cons_succ, List.getD_cons_zero] at e2
        simp only [execOp, e2]
        clear hb hd
        go_simp
        exact hK _ hC (RelP.of (Chg.refl _ _) _ _ _)
      refine ex_unit (fun _ _ => True) [59, 58] rfl rfl (fun _ _ _ _ _ _ _ _ => rfl) (fun _ _ => (fun _ _ _ _ _ => trivial)) ?_ ?_
      · intro wx bX kX hk1 hk2 hC hb hd K hK
        have e59 := hd 59 _ _ rfl rfl
        try dsimp only at e59
        have e58 := hd 58 _ _ rfl rfl
        try dsimp only at e58
        obtain ⟨g9, cap9, e58, K58⟩ := e58
        simp only [execOp, e59, e58]
        clear hb hd
        obtain ⟨a1, a3⟩ := hC.2.1 (by omega)
        have hcz := a1.cell 0
        have hfz := a1.frozen 0
        try dsimp only at hcz
        go_simp
        exact hK _ trivial ⟨fun h => absurd h (by simp), fun h => absurd h (by simp; omega), fun _ => ⟨_, a1.set 0 _ rfl, row_keep K58 ((Chg.refl [z] wx).setCell (.inl (by simp)) _) (by simp), a3.setCell (.inr hWz) _⟩⟩ ⟨fun b hb hv hl => ((Chg.refl [z] wx).setCell (p := ⟨z, 0, none⟩) (.inl (by simp)) _).block b hl (by simpa using hb), by simp [World.setCell], fun _ => (Chg.refl [z] wx).setCell (.inl (by simp)) _⟩
      refine ex_end ?_
      intro us w2 hus hC hall
      obtain ⟨v0, us, rfl⟩ := List.exists_cons_of_length_eq_add_one hus
      replace hus := Nat.succ.inj hus
      obtain ⟨v1, us, rfl⟩ := List.exists_cons_of_length_eq_add_one hus
      replace hus := Nat.succ.inj hus
      obtain ⟨v2, us, rfl⟩ := List.exists_cons_of_length_eq_add_one hus
      replace hus := Nat.succ.inj hus
      obtain ⟨v3, us, rfl⟩ := List.exists_cons_of_length_eq_add_one hus
      replace hus := Nat.succ.inj hus
      obtain ⟨v4, us, rfl⟩ := List.exists_cons_of_length_eq_add_one hus
      replace hus := Nat.succ.inj hus
      obtain ⟨v5, us, rfl⟩ := List.exists_cons_of_length_eq_add_one hus
      replace hus := Nat.succ.inj hus
      obtain ⟨v6, us, rfl⟩ := List.exists_cons_of_length_eq_add_one hus
      replace hus := Nat.succ.inj hus
      obtain ⟨v7, us, rfl⟩ := List.exists_cons_of_length_eq_add_one hus
      replace hus := Nat.succ.inj hus
      obtain ⟨v8, us, rfl⟩ := List.exists_cons_of_length_eq_add_one hus
      replace hus := Nat.succ.inj hus
      obtain ⟨v9, us, rfl⟩ := List.exists_cons_of_length_eq_add_one hus
      replace hus := Nat.succ.inj hus
      obtain ⟨v10, us, rfl⟩ := List.exists_cons_of_length_eq_add_one hus
      replace hus := Nat.succ.inj hus
      obtain ⟨v11, us, rfl⟩ := List.exists_cons_of_length_eq_add_one hus
      replace hus := Nat.succ.inj hus
      obtain ⟨v12, us, rfl⟩ := List.exists_cons_of_length_eq_add_one hus
      replace hus := Nat.succ.inj hus
      obtain ⟨v13, us, rfl⟩ := List.exists_cons_of_length_eq_add_one hus
      replace hus := Nat.succ.inj hus
      obtain ⟨v14, us, rfl⟩ := List.exists_cons_of_length_eq_add_one hus
      replace hus := Nat.succ.inj hus
      obtain ⟨v15, us, rfl⟩ := List.exists_cons_of_length_eq_add_one hus
      replace hus := Nat.succ.inj hus
      obtain rfl := List.length_eq_zero_iff.1 hus
      clear hus
      generalize hbb : exPuts _ _ _ = bb at hall ⊢
      simp only [exPuts, Act.put, List.setIfInBounds_toArray, List.set_cons_succ, List.set_cons_zero] at hbb
      subst hbb
      obtain ⟨h15, h14, h13, h12, h11, h10, h9, h8, h7, h6, h5, h4, h3, h2, h1, h0, -⟩ := hall
      obtain rfl : v0 = _ := h0
      obtain rfl : v1 = _ := h1
      obtain rfl : v2 = _ := h2
      obtain rfl : v3 = _ := h3
      obtain rfl : v4 = _ := h4
      obtain rfl : v5 = _ := h5
      obtain rfl : v6 = _ := h6
      obtain rfl : v7 = _ := h7
      obtain rfl : v8 = _ := h8
      obtain rfl : v9 = _ := h9
      obtain rfl : v10 = _ := h10
      obtain rfl : v11 = _ := h11
      obtain ⟨yb, e57, K57, -, -⟩ := h12
      obtain rfl : v12 = _ := e57
      obtain ⟨g9, cap9, e58, K58⟩ := h13
      obtain rfl : v13 = _ := e58
      obtain rfl : v14 = _ := h14
      clear v15
      obtain ⟨v9, hA9, hR9, hX9⟩ := hC.2.2 rfl
      clear hC K58 HG1 HG2 cx1 cx2 cy1 cy2 hR hA hX h15
      rw [HXS.out] at hR9
      have hzs9 : z + 1 ≤ w2.heap.size := hA9.lt
      have sq := sq8 w2
      clear sq8
      go_wp2_with fail
      go_roundg (gk - 1)
      case rel => exact ⟨k + 1, v9, by omega, by go_num, by rw [Ht8.out], hA9, by rw [HXS1.out]; exact hR9, hX9, hzs9⟩
      case measure => omega
    · obtain rfl : gk = 0 := by omega
      obtain rfl : k = n := by omega
      have hone := row_one hR
      generalize ht : s.extract (14 + 8 * k) s.size = t at *
      have Ht := Lib.hid ht
      clear ht
      go_wp2_with (first | (refine wpList_get rfl rfl rfl hA (by kernel_rfl) ?_) | (refine wpList_put rfl rfl rfl rfl hA rfl (by kernel_rfl) (by simp [hone, one_int]) ?_; intro w5 hA5 hX5; refine Hid.out ?_))
      refine Lib.hid ?_
      go_wp2_with (with_reducible refine hold_post ?_)
      refine Lib.hid ?_
      exact bodyPost_ret (res_ctt rfl hA5 (by kernel_rfl) rfl) rfl ⟨va, by rw [Ht.out, Hg.out, Hmv.out, Hmn.out, Hup.out]; rfl, by rw [Hzz.out]; exact row_keep hR hX5 (by simp), hX.then hX5 (fun x hx hl => by simp at hx; omega)⟩
end Go.Proofs.YtpfglmlpodjneaaGreat
