import Derived.Test.YtpfglmlpodjneaaGreatTrp
set_option linter.unusedSimpArgs false
set_option linter.unusedVariables false
namespace Go.Proofs.YtpfglmlpodjneaaGreat
open Go.RowKit

theorem split4 (L : List Int) (q : Nat) (h : q + 4 ≤ L.length) : ∃ a0 a1 a2 a3, L = L.take q ++ (a0 :: a1 :: a2 :: a3 :: L.drop (q + 4)) ∧ L[q]? = some a0 ∧ L[q + 1]? = some a1 ∧ L[q + 2]? = some a2 ∧ L[q + 3]? = some a3 := by
  refine ⟨L[q], L[q + 1], L[q + 2], L[q + 3], ?_, List.getElem?_eq_getElem _, List.getElem?_eq_getElem _, List.getElem?_eq_getElem _, List.getElem?_eq_getElem _⟩
  conv => lhs; rw [← List.take_append_drop q L]
  congr 1
  rw [List.drop_eq_getElem_cons (by omega : q < L.length), List.drop_eq_getElem_cons (by omega : q + 1 < L.length), List.drop_eq_getElem_cons (by omega : q + 1 + 1 < L.length), List.drop_eq_getElem_cons (by omega : q + 1 + 1 + 1 < L.length)]
theorem flip_take (L : List Int) (q D : Nat) : (flipL L q D).take q = L.take q := by
  apply List.ext_getElem?
  intro j
  rw [List.getElem?_take, List.getElem?_take]
  by_cases h : j < q
  · rw [if_pos h, if_pos h]
    by_cases hl : j < L.length
    · have hx : L[j]? = some L[j] := List.getElem?_eq_getElem hl
      rw [flipL_get L q D j _ hx, hx, if_neg (by omega)]
    · rw [List.getElem?_eq_none (by rw [flipL_len]; omega), List.getElem?_eq_none (by omega)]
  · rw [if_neg h, if_neg h]
theorem flip_drop (L : List Int) (q D n : Nat) (hn : q + 4 ≤ n) : (flipL L q D).drop n = L.drop n := by
  apply List.ext_getElem?
  intro j
  rw [List.getElem?_drop, List.getElem?_drop]
  by_cases hl : n + j < L.length
  · have hx : L[n + j]? = some L[n + j] := List.getElem?_eq_getElem hl
    rw [flipL_get L q D (n + j) _ hx, hx, if_neg (by omega)]
  · rw [List.getElem?_eq_none (by rw [flipL_len]; omega), List.getElem?_eq_none (by omega)]
theorem flip_app (H R : List Int) (q D : Nat) (h : q + 4 ≤ H.length) : flipL (H ++ R) q D = flipL H q D ++ R := by
  apply List.ext_getElem?
  intro j
  by_cases hl : j < (H ++ R).length
  · have hx : (H ++ R)[j]? = some (H ++ R)[j] := List.getElem?_eq_getElem hl
    rw [flipL_get _ q D j _ hx]
    by_cases hj : j < H.length
    · have hx2 : H[j]? = some H[j] := List.getElem?_eq_getElem hj
      rw [List.getElem?_append_left (by rw [flipL_len]; exact hj), flipL_get H q D j _ hx2]
      rw [List.getElem_append_left hj]
    · rw [List.getElem?_append_right (by rw [flipL_len]; omega), flipL_len, if_neg (by omega), ← hx, List.getElem?_append_right (by omega)]
  · rw [List.getElem?_eq_none (by rw [flipL_len]; omega), List.getElem?_eq_none (by rw [List.length_append, flipL_len]; simpa using hl)]
def u8L (L : List Int) : List UInt8 := (strOfNums L).data.toList
theorem u8L_app (A B : List Int) : u8L (A ++ B) = u8L A ++ u8L B := by unfold u8L; rw [nums_app]; simp
theorem u8L_cons (a : Int) (B : List Int) : u8L (a :: B) = UInt8.ofNat a.toNat :: u8L B := by
  unfold u8L strOfNums; simp
theorem u8_inj {a b : Int} (ha : 0 ≤ a ∧ a ≤ 255) (hb : 0 ≤ b ∧ b ≤ 255) (h : UInt8.ofNat a.toNat = UInt8.ofNat b.toNat) : a = b := by
  have := congrArg UInt8.toNat h
  simp only [UInt8.toNat_ofNat'] at this
  omega
theorem x8_same {a : Int} {d : Nat} (hd : d < 256) (h : a = x8 a d) (ha : 0 ≤ a ∧ a ≤ 255) : d = 0 := by
  rw [x8_nat, bv8_int d hd] at h
  obtain ⟨n, rfl⟩ := Int.eq_ofNat_of_zero_le ha.1
  have h3 : n < 256 := by omega
  rw [bv8_int n h3] at h
  have h1 : BitVec.ofNat 8 n ^^^ BitVec.ofNat 8 d = BitVec.ofNat 8 n := by
    apply BitVec.eq_of_toNat_eq
    rw [BitVec.toNat_ofNat (w := 8) n]
    omega
  have h2 := congrArg (fun y => BitVec.ofNat 8 n ^^^ y) h1
  simp only [← BitVec.xor_assoc, BitVec.xor_self, BitVec.zero_xor] at h2
  have h3 := congrArg BitVec.toNat h2
  simp only [BitVec.toNat_ofNat, Nat.zero_mod] at h3
  omega
theorem four_bytes {t : Nat} (ht : t < 2 ^ 32) (h0 : t / 256 ^ 0 % 256 = 0) (h1 : t / 256 ^ 1 % 256 = 0) (h2 : t / 256 ^ 2 % 256 = 0) (h3 : t / 256 ^ 3 % 256 = 0) : t = 0 := by
  simp only [Nat.pow_zero, Nat.pow_one, Nat.div_one, show 256 ^ 2 = 65536 from rfl, show 256 ^ 3 = 16777216 from rfl] at *
  have : (2 : Nat) ^ 32 = 4294967296 := by decide
  omega
theorem sum_flip (L : List Int) (hb : byteL L) (q t : Nat) (hq : q + 4 ≤ L.length) (ht : t < 2 ^ 32) (h : sum32 (strOfNums (flipL L q t)) = sum32 (strOfNums L)) : t = 0 := by
  unfold sum32 at h
  have h' : c32L (u8L (flipL L q t)) 4294967295#32 = c32L (u8L L) 4294967295#32 := by
    have := congrArg (fun y => y ^^^ 4294967295#32) h
    simpa [BitVec.xor_assoc, u8L] using this
  obtain ⟨a0, a1, a2, a3, e, g0, g1, g2, g3⟩ := split4 L q hq
  obtain ⟨b0, b1, b2, b3, e', k0, k1, k2, k3⟩ := split4 (flipL L q t) q (by rw [flipL_len]; exact hq)
  rw [flip_take, flip_drop L q t (q + 4) (Nat.le_refl _)] at e'
  have hl : u8L L = u8L (L.take q) ++ (UInt8.ofNat a0.toNat :: UInt8.ofNat a1.toNat :: UInt8.ofNat a2.toNat :: UInt8.ofNat a3.toNat :: u8L (L.drop (q + 4))) := by
    conv => lhs; rw [e]
    rw [u8L_app, u8L_cons, u8L_cons, u8L_cons, u8L_cons]
  rw [e', u8L_app, u8L_cons, u8L_cons, u8L_cons, u8L_cons, hl] at h'
  obtain ⟨r0, r1, r2, r3⟩ := c32_four _ _ _ _ _ _ _ _ _ _ _ h'
  have w : ∀ j a b, j < 4 → L[q + j]? = some a → (flipL L q t)[q + j]? = some b → UInt8.ofNat b.toNat = UInt8.ofNat a.toNat → t / 256 ^ j % 256 = 0 := by
    intro j a b hj ha hb2 hu
    have hab := hb a (List.mem_of_getElem? ha)
    rw [flipL_get L q t (q + j) a ha, if_pos (by omega), show q + j - q = j by omega] at hb2
    obtain rfl := Option.some.inj hb2
    have hbb := x8_bd a ((t / 256 ^ j % 256 : Nat) : Int)
    exact x8_same (Nat.mod_lt _ (by omega)) (u8_inj hab hbb hu.symm) hab
  exact four_bytes ht (w 0 a0 b0 (by omega) g0 k0 r0) (w 1 a1 b1 (by omega) g1 k1 r1) (w 2 a2 b2 (by omega) g2 k2 r2) (w 3 a3 b3 (by omega) g3 k3 r3)
/-- The image of rules, some bits turned: refused by its sum. -/
theorem read_turned (r : RuV) (h : r.fit) (q t : Nat) (h5 : 5 ≤ q) (h18 : q ≤ 18) (ht : t < 2 ^ 32) (h0 : t ≠ 0) : readV (strOfNums (flipL (allL r) q t)) = (zRu, 4) := by
  have hall : allL r = headL r ++ (r.phs.flatMap phL ++ be4 ((sum32 (strOfNums (headL r ++ r.phs.flatMap phL))).toNat : Int)) := by unfold allL bodyL; rw [List.append_assoc]
  have hl22 := headL_len r
  rw [hall, flip_app _ _ _ _ (by omega)]
  have keep : ∀ j v, j < 5 → (headL r)[j]? = some v → (flipL (headL r) q t)[j]? = some v := by
    intro j v hj hv
    rw [flipL_get _ _ _ j v hv, if_neg (by omega)]
  have hl4 : (headL r)[4]? = some ((r.phs.length : Int)) := by
    rw [show (headL r)[4]? = some ((r.phs.length : Int) % 256) from rfl, Int.emod_eq_of_lt (by omega) (by have := h.len; omega)]
  rw [read_nums (flipL (headL r) q t) r.phs _ (flipL_byte (headL_byte r) q t) (be4_byte _) (by rw [flipL_len]; exact hl22) (keep 0 _ (by omega) rfl) (keep 1 _ (by omega) rfl) (keep 2 _ (by omega) rfl) (keep 3 _ (by omega) rfl) (keep 4 _ (by omega) hl4) rfl h.phs, num4_be4, if_pos]
  intro he
  apply h0
  have hb : byteL (headL r ++ r.phs.flatMap phL) := (headL_byte r).app (phs_byte _)
  refine sum_flip (headL r ++ r.phs.flatMap phL) hb q t (by rw [List.length_append]; omega) ht ?_
  rw [flip_app _ _ _ _ (by omega)]
  apply BitVec.eq_of_toNat_eq
  omega
end Go.Proofs.YtpfglmlpodjneaaGreat
