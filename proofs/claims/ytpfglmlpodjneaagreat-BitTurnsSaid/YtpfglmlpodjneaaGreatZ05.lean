/- Str, Crc, Cr2, Tab, Tas, Fxp. -/
import Derived.Test.YtpfglmlpodjneaaGreatZ04
import Derived.Laws.IdiomStrings
import Derived.Laws.DeepStrings4
import Derived.LoopTactic
import Derived.Handy
import Derived.Deep.LoopGhost
import Derived.Laws.BitsAllLaws
import Derived.Deep.CutBlock
import Derived.Test.YtpfglmlpodjneaaGreatZ03
set_option linter.unusedSimpArgs false
set_option linter.unusedVariables false
namespace Go.Proofs.YtpfglmlpodjneaaGreat
open Go.RowKit

/-- '[]byte(s)': a new row of the string's bytes. -/
theorem bytes_conv (w : World) (r : ByteArray) : ∃ w' cap, (convert 9 37 (.string r)).run Tryz.prog w = .ok (.slice (some ⟨w.heap.size, 0, none⟩) r.size cap) w' ∧
    (∀ j (h : j < r.size), w'.cell? ⟨w.heap.size, j, none⟩ = some (.int .u8 (r[j].toNat : Int))) ∧ Chg [] w w' := by
  refine ⟨_, _, run_bytes_of_string w 9 37 5 r und_str und_bytes und_u8, fun j h => ?_, (Chg.refl _ _).drew.alloc _⟩
  have h1 := World.cell?_alloc_mark w.drew (bytesRow r (grownCap w r.size 0 5)) 5 ((bytesRow r (grownCap w r.size 0 5)).size, (bytesRow r (grownCap w r.size 0 5)).size + 1) j
  have h2 := bytesRow_at r (grownCap w r.size 0 5) j h
  exact h1.trans h2

/-- Byte i of a string (0 behind its end). -/
def by_ (s : ByteArray) (i : Nat) : Int := ((s.data.toList.getD i 0).toNat : Int)
theorem by_get (s : ByteArray) (k : Nat) (h : k < s.size) : ((s[k]'h).toNat : Int) = by_ s k := by
  have hj2 : k < s.data.toList.length := by simpa using h
  unfold by_
  rw [List.getD_eq_getElem?_getD, List.getElem?_eq_getElem hj2]
  simp
  rfl
theorem by_bd (s : ByteArray) (k : Nat) : 0 ≤ by_ s k ∧ by_ s k ≤ 255 := by
  unfold by_
  have := (s.data.toList.getD k 0).toNat_lt
  omega
theorem by_extract (s : ByteArray) (a b j : Nat) (h : a + j < b) (hb : b ≤ s.size) : by_ (s.extract a b) j = by_ s (a + j) := by
  have hj : j < (s.extract a b).size := by simp; omega
  rw [← by_get _ j hj, ← by_get s (a + j) (by omega), ByteArray.getElem_extract]
theorem by_nums (L : List Int) (k : Nat) (v : Int) (hk : L[k]? = some v) (h0 : 0 ≤ v) (h1 : v ≤ 255) : by_ (strOfNums L) k = v := by
  unfold by_
  rw [strOfNums_data, List.getD_eq_getElem?_getD, List.getElem?_map, hk]
  simp
  omega
theorem by_app_l (a b : ByteArray) (k : Nat) (h : k < a.size) : by_ (a ++ b) k = by_ a k := by
  unfold by_
  rw [ByteArray.data_append, Array.toList_append, List.getD_eq_getElem?_getD, List.getD_eq_getElem?_getD, List.getElem?_append_left (by simpa using h)]
theorem by_app_r (a b : ByteArray) (k : Nat) (h : a.size ≤ k) : by_ (a ++ b) k = by_ b (k - a.size) := by
  unfold by_
  rw [ByteArray.data_append, Array.toList_append, List.getD_eq_getElem?_getD, List.getD_eq_getElem?_getD, List.getElem?_append_right (by simpa using h)]
  rfl
/-- Two strings of one length with the same bytes are one. -/
theorem by_ext {a b : ByteArray} (hs : a.size = b.size) (h : ∀ k, k < a.size → by_ a k = by_ b k) : a = b := by
  apply ByteArray.ext_getElem hs
  intro i h1 h2
  have := h i h1
  rw [← by_get a i h1, ← by_get b i h2] at this
  exact UInt8.toNat_inj.1 (by omega)
theorem i64_in (x : Int) (h0 : -9223372036854775808 ≤ x) (h1 : x ≤ 9223372036854775807) : IntKind.i64.wrap x = x := by
  simp [IntKind.wrap, IntKind.bits, IntKind.signed]
  omega
theorem str_beq (a b : ByteArray) : (a.toList == b.toList) = true ↔ a = b := by
  rw [beq_iff_eq, ByteArray.toList_eq, ByteArray.toList_eq]
  constructor
  · intro h
    exact ByteArray.ext (Array.toList_inj.1 h)
  · rintro rfl
    rfl
theorem str_empty (a : ByteArray) : a.toList.isEmpty = decide (a.size = 0) := by
  rw [ByteArray.toList_eq, Bool.eq_iff_iff]
  simp
  exact ⟨fun h => ByteArray.ext h, fun h => by rw [h]; rfl⟩
theorem Chg.undrew {S : List Nat} {w w' : World} (h : Chg S w.drew w') : Chg S w w' := ⟨h.os, h.tape, h.output, h.size, h.block⟩
theorem Chg.undrewN {S : List Nat} {w w' : World} {n : Nat} (h : Chg S (w.drewN n) w') : Chg S w w' := ⟨h.os, h.tape, h.output, h.size, h.block⟩
/-- A piece of a string. -/
theorem slice_at (w : World) (s : ByteArray) {i j : Int} {a b : Nat} (hi : i = a) (hj : j = b) (hab : a ≤ b) (hb : b ≤ s.size) : (Instr.slice 9 (.string s) (some (.int .i64 i)) (some (.int .i64 j)) none).run Tryz.prog w = .ok (.string (s.extract a b)) w := by
  subst hi hj
  rw [run_slice_string w 9 s .i64 .i64 _ _ und_str (by omega) (by omega) (by omega)]
  simp
theorem slice_from (w : World) (s : ByteArray) {i : Int} {a : Nat} (hi : i = a) (ha : a ≤ s.size) : (Instr.slice 9 (.string s) (some (.int .i64 i)) none none).run Tryz.prog w = .ok (.string (s.extract a s.size)) w := by
  subst hi
  rw [run_slice_string_from_if w 9 s .i64 _ und_str, if_pos (by omega)]
  simp
theorem slice_to (w : World) (s : ByteArray) {j : Int} {b : Nat} (hj : j = b) (hb : b ≤ s.size) : (Instr.slice 9 (.string s) none (some (.int .i64 j)) none).run Tryz.prog w = .ok (.string (s.extract 0 b)) w := by
  subst hj
  rw [run_slice_string_to_if w 9 s .i64 _ und_str, if_pos (by omega)]
  simp
end Go.Proofs.YtpfglmlpodjneaaGreat
namespace Go.Proofs.YtpfglmlpodjneaaGreat
open Go.RowKit

/-- One step of the sum. -/
def cst (x : Int) : Int := if 32768 ≤ x then bits .xor .u16 (IntKind.u16.wrap (x * 2)) 4129 else IntKind.u16.wrap (x * 2)
def stp : Nat → Int → Int
  | 0, x => x
  | n + 1, x => stp n (cst x)
/-- The sum over bytes. -/
def crcL : List UInt8 → Int → Int
  | [], x => x
  | b :: l, x => crcL l (stp 8 (bits .xor .u16 x ((b.toNat : Int) * 256)))
def sum16 (s : ByteArray) : Int := crcL s.data.toList 65535
theorem u16_wrap_bd (a : Int) : 0 ≤ IntKind.u16.wrap a ∧ IntKind.u16.wrap a ≤ 65535 := by
  simp [IntKind.wrap, IntKind.bits, IntKind.signed]
  omega
theorem xor16_bd (a b : Int) : 0 ≤ bits .xor .u16 a b ∧ bits .xor .u16 a b ≤ 65535 := u16_wrap_bd _
theorem cst_bd (x : Int) : 0 ≤ cst x ∧ cst x ≤ 65535 := by
  unfold cst
  split
  · exact xor16_bd _ _
  · exact u16_wrap_bd _
theorem stp_bd : ∀ n x, 0 ≤ x ∧ x ≤ 65535 → 0 ≤ stp n x ∧ stp n x ≤ 65535
  | 0, _, h => h
  | n + 1, x, _ => stp_bd n _ (cst_bd x)
theorem crcL_bd : ∀ l x, 0 ≤ x ∧ x ≤ 65535 → 0 ≤ crcL l x ∧ crcL l x ≤ 65535
  | [], _, h => h
  | _ :: l, _, _ => crcL_bd l _ (stp_bd 8 _ (xor16_bd _ _))
theorem sum16_bd (s : ByteArray) : 0 ≤ sum16 s ∧ sum16 s ≤ 65535 := crcL_bd _ _ (by omega)
theorem and_top (x : Int) (h0 : 0 ≤ x) (h1 : x ≤ 65535) : bits .and .u16 x 32768 = if 32768 ≤ x then 32768 else 0 := by
  obtain ⟨m, rfl⟩ : ∃ m : Nat, x = (m : Int) := ⟨x.toNat, by omega⟩
  have e1 : (BitVec.ofInt 16 (m : Int)).toNat = m := by
    rw [BitVec.ofInt_natCast, BitVec.toNat_ofNat]; exact Nat.mod_eq_of_lt (by omega)
  show IntKind.u16.wrap ((BitVec.ofInt 16 (m : Int) &&& BitVec.ofInt 16 32768).toNat : Int) = _
  have e2 : m &&& 2 ^ 15 = if m.testBit 15 then 2 ^ 15 else 0 := by
    apply Nat.eq_of_testBit_eq
    intro i
    rw [Nat.testBit_and, Nat.testBit_two_pow]
    by_cases hi : 15 = i
    · subst hi
      cases h : m.testBit 15
      · simp
      · rfl
    · have hf : (m.testBit i && decide (15 = i)) = false := by simp [hi]
      rw [hf]
      cases h : m.testBit 15
      · simp
      · rw [if_pos rfl, Nat.testBit_two_pow]; simp [hi]
  rw [BitVec.toNat_and, e1, show (BitVec.ofInt 16 32768).toNat = 2 ^ 15 from rfl, e2]
  have : m.testBit 15 = decide (32768 ≤ m) := by
    rw [Nat.testBit_eq_decide_div_mod_eq]
    rw [Bool.eq_iff_iff]; simp; omega
  rw [this]
  by_cases h : 32768 ≤ m
  · rw [if_pos (show (32768 : Int) ≤ (m : Int) by omega)]
    simp [h]
    rfl
  · rw [if_neg (show ¬(32768 : Int) ≤ (m : Int) by omega)]
    simp [h]
    rfl

theorem cst_yes {x : Int} (h : 32768 ≤ x) : cst x = bits .xor .u16 (IntKind.u16.wrap (x * 2)) 4129 := if_pos h
theorem cst_no {x : Int} (h0 : 0 ≤ x) (h : x < 32768) : cst x = x * 2 := by
  refine (if_neg (by omega)).trans ?_
  simp [IntKind.wrap, IntKind.bits, IntKind.signed]
  omega

theorem step16_any (w : World) (x : Int) (h0 : 0 ≤ x) (h1 : x ≤ 65535) : Calls Tryz.prog 60 #[.int .u16 x] w fun e w' => e = .returned (.int .u16 (stp 8 x)) ∧ w = w' := by
  generalize hr : stp 8 x = r
  have Hr := Lib.hid hr
  clear hr
  go_enter Tryz.func60, Tryz.ntmps60
  go_wp2_with fail
  go_loopg [0, 4] 8 (fun g a i wr => ∃ (k : Nat) (y : Int), k + g = 8 ∧ i = .int .i64 k ∧ a = .int .u16 y ∧ 0 ≤ y ∧ y ≤ 65535 ∧ Hid (stp g y = r) ∧ wr = w)
  case atStart => exact ⟨0, x, by omega, rfl, rfl, h0, h1, Hr, rfl⟩
  case round =>
    obtain ⟨k, y, hk, rfl, rfl, y0, y1, Hy, rfl⟩ := hrel
    by_cases hlt : k < 8
    · obtain ⟨j, rfl⟩ : ∃ j, gk = j + 1 := ⟨gk - 1, by omega⟩
      have hc := cst_bd y
      by_cases ht : 32768 ≤ y
      · have ha := (and_top y y0 y1).trans (if_pos ht)
        have Hc := Lib.hid (cst_yes ht)
        go_wp2_with fail
        go_roundg j
        case rel => exact ⟨k + 1, cst y, by omega, by go_num, by rw [Hc.out], hc.1, hc.2, Hy, rfl⟩
        case measure => omega
      · have ha := (and_top y y0 y1).trans (if_neg ht)
        have Hc := Lib.hid (cst_no y0 (by omega : y < 32768))
        go_wp2_with fail
        go_roundg j
        case rel => exact ⟨k + 1, cst y, by omega, by go_num, by rw [Hc.out], hc.1, hc.2, Hy, rfl⟩
        case measure => omega
    · obtain rfl : gk = 0 := by omega
      obtain rfl : k = 8 := by omega
      go_wp2
      go_returns
      exact ⟨ret_int Hy.out, rfl⟩

theorem by_u16 (s : ByteArray) (k : Nat) : IntKind.u16.wrap (IntKind.u16.wrap (by_ s k) * 256) = by_ s k * 256 := by
  have := by_bd s k
  simp [IntKind.wrap, IntKind.bits, IntKind.signed]
  omega
theorem crcL_cons (s : ByteArray) (k : Nat) (h : k < s.size) (x : Int) : crcL (s.data.toList.drop k) x = crcL (s.data.toList.drop (k + 1)) (stp 8 (bits .xor .u16 x (by_ s k * 256))) := by
  have hl : k < s.data.toList.length := by simpa using h
  rw [List.drop_eq_getElem_cons hl]
  show crcL _ (stp 8 (bits .xor .u16 x _)) = _
  unfold by_
  rw [List.getD_eq_getElem?_getD, List.getElem?_eq_getElem hl]
  rfl
theorem crcL_end (s : ByteArray) (x : Int) : crcL (s.data.toList.drop s.size) x = x := by
  rw [List.drop_eq_nil_of_le (by simp)]
  rfl

theorem more16_any (w : World) (s : ByteArray) (x : Int) (h0 : 0 ≤ x) (h1 : x ≤ 65535) (hs : s.size ≤ maxLen) : Calls Tryz.prog 44 #[.int .u16 x, .string s] w fun e w' => e = .returned (.int .u16 (crcL s.data.toList x)) ∧ Chg [] w w' := by
  unfold maxLen at hs
  obtain ⟨w1, cap, hcv, hcell, hX⟩ := bytes_conv w s
  have Hr := Lib.hid (show crcL (s.data.toList.drop 0) x = crcL s.data.toList x from rfl)
  generalize crcL s.data.toList x = r at *
  go_enter Tryz.func44, Tryz.ntmps44
  go_wp2_with fail
  generalize hz : w.heap.size = z at *
  go_loopg [0, 6, 10] s.size (fun g a b i wr => ∃ (k : Nat) (y : Int), k + g = s.size ∧ i = .int .i64 k ∧ a = .int .u16 y ∧ 0 ≤ y ∧ y ≤ 65535 ∧ Hid (crcL (s.data.toList.drop k) y = r) ∧ wr = w1)
  case atStart => exact ⟨0, x, by omega, rfl, rfl, h0, h1, Hr, rfl⟩
  case round =>
    obtain ⟨k, y, hk, rfl, rfl, y0, y1, Hy, rfl⟩ := hrel
    by_cases hlt : k < s.size
    · have hb := by_bd s k
      have hcl := hcell k hlt
      rw [by_get s k hlt] at hcl
      clear hcell
      have hx := xor16_bd y (by_ s k * 256)
      have hst := stp_bd 8 _ hx
      have Hc := Lib.hid (crcL_cons s k hlt y)
      go_wp2_with fail
      refine (step16_any _ _ hx.1 hx.2).mono ?_; rintro e w' ⟨rfl, rfl⟩
      go_wp2_with fail
      go_roundg (gk - 1)
      case rel => exact ⟨k + 1, _, by omega, by go_num, rfl, hst.1, hst.2, Lib.hid (Hc.out.symm.trans Hy.out), rfl⟩
      case measure => omega
    · obtain rfl : gk = 0 := by omega
      obtain rfl : k = s.size := by omega
      go_wp2
      go_returns
      exact ⟨ret_int (by rw [← Hy.out, crcL_end]), hX⟩

theorem sum16_any (w : World) (s : ByteArray) (hs : s.size ≤ maxLen) : Calls Tryz.prog 30 #[.string s] w fun e w' => e = .returned (.int .u16 (sum16 s)) ∧ Chg [] w w' := by
  go_enter Tryz.func30, Tryz.ntmps30
  go_wp2_with fail
  refine (more16_any w s 65535 (by omega) (by omega) hs).mono ?_; rintro e w' ⟨rfl, hX⟩
  go_wp2
  go_returns
  exact ⟨rfl, hX⟩

end Go.Proofs.YtpfglmlpodjneaaGreat
namespace Go.Proofs.YtpfglmlpodjneaaGreat
open Go.RowKit

/-- One step of the sum. -/
def st32 (x : BitVec 32) : BitVec 32 := if x.toNat % 2 = 1 then (x >>> 1) ^^^ 3988292384#32 else x >>> 1
def stn : Nat → BitVec 32 → BitVec 32
  | 0, x => x
  | n + 1, x => stn n (st32 x)
/-- The sum over bytes. -/
def c32L : List UInt8 → BitVec 32 → BitVec 32
  | [], x => x
  | b :: l, x => c32L l (stn 8 (x ^^^ BitVec.ofNat 32 b.toNat))
def sum32 (s : ByteArray) : BitVec 32 := c32L s.data.toList 4294967295#32 ^^^ 4294967295#32

theorem bv32_int (x : BitVec 32) : BitVec.ofInt 32 (x.toNat : Int) = x := by
  rw [BitVec.ofInt_natCast, BitVec.ofNat_toNat]; simp
theorem u32_nat (v : BitVec 32) : IntKind.u32.wrap (v.toNat : Int) = v.toNat := by
  have := v.isLt
  simp [IntKind.wrap, IntKind.bits, IntKind.signed]
  omega
theorem xor_u32 (a b : BitVec 32) : bits .xor .u32 (a.toNat : Int) (b.toNat : Int) = ((a ^^^ b).toNat : Int) := by
  show IntKind.u32.wrap ((BitVec.ofInt 32 (a.toNat : Int) ^^^ BitVec.ofInt 32 (b.toNat : Int)).toNat : Int) = _
  rw [bv32_int, bv32_int, u32_nat]
theorem and1_u32 (a : BitVec 32) : bits .and .u32 (a.toNat : Int) 1 = (a.toNat : Int) % 2 := by
  show IntKind.u32.wrap ((BitVec.ofInt 32 (a.toNat : Int) &&& BitVec.ofInt 32 1).toNat : Int) = _
  rw [bv32_int]
  have e : (a &&& BitVec.ofInt 32 1).toNat = a.toNat % 2 := by
    rw [BitVec.toNat_and, show (BitVec.ofInt 32 1).toNat = 2 ^ 1 - 1 from rfl, Nat.and_two_pow_sub_one_eq_mod]
  rw [e, show ((a.toNat % 2 : Nat) : Int) = (a.toNat : Int) % 2 from Int.natCast_emod ..]
  simp [IntKind.wrap, IntKind.bits, IntKind.signed]
  omega
theorem half_u32 (a : BitVec 32) : ((a >>> 1).toNat : Int) = (a.toNat : Int) / 2 := by
  rw [BitVec.toNat_ushiftRight, Nat.shiftRight_eq_div_pow]; rfl
theorem st32_odd (a : BitVec 32) (h : (a.toNat : Int) % 2 = 1) : ((st32 a).toNat : Int) = bits .xor .u32 ((a.toNat : Int) / 2) 3988292384 := by
  unfold st32
  rw [if_pos (by omega), ← half_u32]
  exact (xor_u32 (a >>> 1) 3988292384#32).symm
theorem st32_even (a : BitVec 32) (h : (a.toNat : Int) % 2 = 0) : ((st32 a).toNat : Int) = (a.toNat : Int) / 2 := by
  unfold st32
  rw [if_neg (by omega), half_u32]
theorem bv32_bd (a : BitVec 32) : 0 ≤ (a.toNat : Int) ∧ (a.toNat : Int) ≤ 4294967295 := by have := a.isLt; omega

theorem step32_any (w : World) (x : BitVec 32) : Calls Tryz.prog 45 #[.int .u32 x.toNat] w fun e w' => e = .returned (.int .u32 (stn 8 x).toNat) ∧ w = w' := by
  generalize hr : stn 8 x = r
  have Hr := Lib.hid hr
  clear hr
  go_enter Tryz.func45, Tryz.ntmps45
  go_wp2_with fail
  go_loopg [0, 4] 8 (fun g a i wr => ∃ (k : Nat) (y : BitVec 32), k + g = 8 ∧ i = .int .i64 k ∧ a = .int .u32 y.toNat ∧ Hid (stn g y = r) ∧ wr = w)
  case atStart => exact ⟨0, x, by omega, rfl, rfl, Hr, rfl⟩
  case round =>
    obtain ⟨k, y, hk, rfl, rfl, Hy, rfl⟩ := hrel
    by_cases hlt : k < 8
    · obtain ⟨j, rfl⟩ : ∃ j, gk = j + 1 := ⟨gk - 1, by omega⟩
      have hb := bv32_bd y
      have ha := and1_u32 y
      rcases (by omega : (y.toNat : Int) % 2 = 0 ∨ (y.toNat : Int) % 2 = 1) with ht | ht
      · rw [ht] at ha
        have Hc := Lib.hid (st32_even y ht)
        clear ht
        generalize hyn : (y.toNat : Int) = yn at *
        go_wp2_with fail
        go_roundg j
        case rel => exact ⟨k + 1, st32 y, by omega, by go_num, by rw [Hc.out], Hy, rfl⟩
        case measure => omega
      · rw [ht] at ha
        have Hc := Lib.hid (st32_odd y ht)
        clear ht
        generalize hyn : (y.toNat : Int) = yn at *
        go_wp2_with fail
        go_roundg j
        case rel => exact ⟨k + 1, st32 y, by omega, by go_num, by rw [Hc.out], Hy, rfl⟩
        case measure => omega
    · obtain rfl : gk = 0 := by omega
      obtain rfl : k = 8 := by omega
      go_wp2
      go_returns
      exact ⟨by rw [← Hy.out]; rfl, rfl⟩

theorem rstep32_any (w : World) (x : BitVec 32) : Calls Tryz.prog 41 #[.int .u32 x.toNat] w fun e w' => e = .returned (.int .u32 (stn 8 x).toNat) ∧ w = w' := by
  generalize hr : stn 8 x = r
  have Hr := Lib.hid hr
  clear hr
  go_enter Tryz.func41, Tryz.ntmps41
  go_wp2_with fail
  go_loopg [0, 3] 8 (fun g a i wr => ∃ (k : Nat) (y : BitVec 32), k + g = 8 ∧ i = .int .i64 k ∧ a = .int .u32 y.toNat ∧ Hid (stn g y = r) ∧ wr = w)
  case atStart => exact ⟨0, x, by omega, rfl, rfl, Hr, rfl⟩
  case round =>
    obtain ⟨k, y, hk, rfl, rfl, Hy, rfl⟩ := hrel
    by_cases hlt : k < 8
    · obtain ⟨j, rfl⟩ : ∃ j, gk = j + 1 := ⟨gk - 1, by omega⟩
      have hb := bv32_bd y
      rcases (by omega : (y.toNat : Int) % 2 = 0 ∨ (y.toNat : Int) % 2 = 1) with ht | ht
      · have Hc := Lib.hid (st32_even y ht)
        have hm : (y.toNat : Int).tmod 2 = 0 := by rw [Int.tmod_eq_emod_of_nonneg (by omega)]; exact ht
        have hd : (y.toNat : Int).tdiv 2 = (y.toNat : Int) / 2 := Int.tdiv_eq_ediv_of_nonneg (by omega)
        clear ht
        generalize hyn : (y.toNat : Int) = yn at *
        go_wp2_with fail
        go_roundg j
        case rel => exact ⟨k + 1, st32 y, by omega, by go_num, by rw [Hc.out], Hy, rfl⟩
        case measure => omega
      · have Hc := Lib.hid (st32_odd y ht)
        have hm : (y.toNat : Int).tmod 2 = 1 := by rw [Int.tmod_eq_emod_of_nonneg (by omega)]; exact ht
        have hd : (y.toNat : Int).tdiv 2 = (y.toNat : Int) / 2 := Int.tdiv_eq_ediv_of_nonneg (by omega)
        clear ht
        generalize hyn : (y.toNat : Int) = yn at *
        go_wp2_with fail
        go_roundg j
        case rel => exact ⟨k + 1, st32 y, by omega, by go_num, by rw [Hc.out], Hy, rfl⟩
        case measure => omega
    · obtain rfl : gk = 0 := by omega
      obtain rfl : k = 8 := by omega
      go_wp2
      go_returns
      exact ⟨by rw [← Hy.out]; rfl, rfl⟩

theorem c32_cons (s : ByteArray) (k : Nat) (h : k < s.size) (x : BitVec 32) : c32L (s.data.toList.drop k) x = c32L (s.data.toList.drop (k + 1)) (stn 8 (x ^^^ BitVec.ofInt 32 (by_ s k))) := by
  have hl : k < s.data.toList.length := by simpa using h
  rw [List.drop_eq_getElem_cons hl]
  show c32L _ (stn 8 (x ^^^ BitVec.ofNat 32 _)) = _
  unfold by_
  rw [List.getD_eq_getElem?_getD, List.getElem?_eq_getElem hl, BitVec.ofInt_natCast]
  rfl
theorem c32_end (s : ByteArray) (x : BitVec 32) : c32L (s.data.toList.drop s.size) x = x := by
  rw [List.drop_eq_nil_of_le (by simp)]
  rfl
theorem xor_by (x : BitVec 32) (s : ByteArray) (k : Nat) : bits .xor .u32 (x.toNat : Int) (by_ s k) = ((x ^^^ BitVec.ofInt 32 (by_ s k)).toNat : Int) := by
  have hb := by_bd s k
  rw [← xor_u32]
  congr 1
  obtain ⟨m, hm⟩ : ∃ m : Nat, by_ s k = (m : Int) := ⟨(by_ s k).toNat, by omega⟩
  rw [hm, BitVec.ofInt_natCast, BitVec.toNat_ofNat, Nat.mod_eq_of_lt (by omega)]

theorem sum32_any (w : World) (s : ByteArray) (hs : s.size ≤ maxLen) : Calls Tryz.prog 31 #[.string s] w fun e w' => e = .returned (.int .u32 (sum32 s).toNat) ∧ Chg [] w w' := by
  unfold maxLen at hs
  obtain ⟨w1, cap, hcv, hcell, hX⟩ := bytes_conv w s
  have Hr := Lib.hid (show c32L (s.data.toList.drop 0) 4294967295#32 = c32L s.data.toList 4294967295#32 from rfl)
  unfold sum32
  generalize c32L s.data.toList 4294967295#32 = r at *
  have e0 : (4294967295 : Int) = ((4294967295#32 : BitVec 32).toNat : Int) := rfl
  go_enter Tryz.func31, Tryz.ntmps31
  go_wp2_with fail
  generalize hz : w.heap.size = z at *
  go_loopg [3, 5, 9] s.size (fun g a b i wr => ∃ (k : Nat) (y : BitVec 32), k + g = s.size ∧ i = .int .i64 k ∧ a = .int .u32 y.toNat ∧ Hid (c32L (s.data.toList.drop k) y = r) ∧ wr = w1)
  case atStart => exact ⟨0, 4294967295#32, by omega, rfl, rfl, Hr, rfl⟩
  case round =>
    clear e0
    obtain ⟨k, y, hk, rfl, rfl, Hy, rfl⟩ := hrel
    by_cases hlt : k < s.size
    · have hb := by_bd s k
      have hcl := hcell k hlt
      rw [by_get s k hlt] at hcl
      clear hcell
      have hx := xor_by y s k
      have Hc := Lib.hid (c32_cons s k hlt y)
      have hyb := bv32_bd y
      obtain ⟨q, hq⟩ : ∃ q : BitVec 32, q = y ^^^ BitVec.ofInt 32 (by_ s k) := ⟨_, rfl⟩
      rw [← hq] at hx Hc
      clear hq
      generalize hyn : (y.toNat : Int) = yn at *
      have Hyn := Lib.hid hyn
      clear hyn
      go_wp2_with fail
      refine (step32_any _ q).mono ?_; rintro e w' ⟨rfl, rfl⟩
      go_wp2_with fail
      go_roundg (gk - 1)
      case rel => exact ⟨k + 1, _, by omega, by go_num, rfl, Lib.hid (Hc.out.symm.trans Hy.out), rfl⟩
      case measure => omega
    · obtain rfl : gk = 0 := by omega
      obtain rfl : k = s.size := by omega
      have hx : bits .xor .u32 (y.toNat : Int) 4294967295 = ((y ^^^ 4294967295#32).toNat : Int) := xor_u32 y 4294967295#32
      have Hz := Lib.hid (Hy.out.symm.trans (c32_end s y))
      obtain ⟨q, hq⟩ : ∃ q : BitVec 32, q = y ^^^ 4294967295#32 := ⟨_, rfl⟩
      rw [← hq] at hx
      have Hq := Lib.hid hq
      clear hq
      generalize (y.toNat : Int) = yn at *
      go_wp2
      go_returns
      exact ⟨by rw [Hz.out, Hq.out]; rfl, hX⟩

theorem rsum32_any (w : World) (s : ByteArray) (hs : s.size ≤ maxLen) : Calls Tryz.prog 24 #[.string s] w fun e w' => e = .returned (.int .u32 (sum32 s).toNat) ∧ w = w' := by
  unfold maxLen at hs
  have Hr := Lib.hid (show c32L (s.data.toList.drop 0) 4294967295#32 = c32L s.data.toList 4294967295#32 from rfl)
  unfold sum32
  generalize c32L s.data.toList 4294967295#32 = r at *
  go_enter Tryz.func24, Tryz.ntmps24
  go_wp2_with fail
  go_loopg [3, 4] s.size (fun g a i wr => ∃ (k : Nat) (y : BitVec 32), k + g = s.size ∧ i = .int .i64 k ∧ a = .int .u32 y.toNat ∧ Hid (c32L (s.data.toList.drop k) y = r) ∧ wr = w)
  case atStart => exact ⟨0, 4294967295#32, by omega, rfl, rfl, Hr, rfl⟩
  case round =>
    obtain ⟨k, y, hk, rfl, rfl, Hy, rfl⟩ := hrel
    by_cases hlt : k < s.size
    · have hb := by_bd s k
      have hg := by_get s k hlt
      have hx := xor_by y s k
      have Hc := Lib.hid (c32_cons s k hlt y)
      have hyb := bv32_bd y
      obtain ⟨q, hq⟩ : ∃ q : BitVec 32, q = y ^^^ BitVec.ofInt 32 (by_ s k) := ⟨_, rfl⟩
      rw [← hq] at hx Hc
      clear hq
      generalize hyn : (y.toNat : Int) = yn at *
      have Hyn := Lib.hid hyn
      clear hyn
      go_wp2_with fail
      refine (rstep32_any _ q).mono ?_; rintro e w' ⟨rfl, rfl⟩
      go_wp2_with fail
      go_roundg (gk - 1)
      case rel => exact ⟨k + 1, _, by omega, by go_num, rfl, Lib.hid (Hc.out.symm.trans Hy.out), rfl⟩
      case measure => omega
    · obtain rfl : gk = 0 := by omega
      obtain rfl : k = s.size := by omega
      have hx : bits .xor .u32 (y.toNat : Int) 4294967295 = ((y ^^^ 4294967295#32).toNat : Int) := xor_u32 y 4294967295#32
      have Hz := Lib.hid (Hy.out.symm.trans (c32_end s y))
      obtain ⟨q, hq⟩ : ∃ q : BitVec 32, q = y ^^^ 4294967295#32 := ⟨_, rfl⟩
      rw [← hq] at hx
      have Hq := Lib.hid hq
      clear hq
      generalize (y.toNat : Int) = yn at *
      go_wp2
      go_returns
      exact ⟨by rw [Hz.out, Hq.out]; rfl, rfl⟩
end Go.Proofs.YtpfglmlpodjneaaGreat
namespace Go.Proofs.YtpfglmlpodjneaaGreat
open Go.RowKit

def t16 (k : Nat) : Int := stp 8 ((k : Int) * 256)
def t32 (k : Nat) : Int := ((stn 8 (BitVec.ofNat 32 k)).toNat : Int)
/-- A table's cells, of which so many rows are filled. -/
structure TabP (n : Nat) (cs : Array Value) : Prop where
  size : cs.size = 516
  r16 : ∀ i, i < n → cs[4 + i]? = some (.int .u16 (t16 i))
  r32 : ∀ i, i < n → cs[260 + i]? = some (.int .u32 (t32 i))
def tab0 : Array Value := (([Value.int .u32 0, Value.int .i32 0, Value.int .u32 0, Value.int .i64 0] ++ List.replicate 256 (Value.int .u16 0)) ++ List.replicate 256 (Value.int .u32 0) : List Value).toArray
theorem tab0_size : tab0.size = 516 := by kernel_rfl
theorem TabP.put {n : Nat} {cs : Array Value} (h : TabP n cs) (hn : n < 256) : TabP (n + 1) ((cs.setIfInBounds (4 + n) (.int .u16 (t16 n))).setIfInBounds (260 + n) (.int .u32 (t32 n))) := by
  obtain ⟨h1, h3, h4⟩ := h
  refine ⟨by simpa using h1, fun i hi => ?_, fun i hi => ?_⟩
  · rw [Array.getElem?_setIfInBounds_ne (by omega)]
    by_cases he : i = n
    · subst he; rw [Array.getElem?_setIfInBounds_self_of_lt (by omega)]
    · rw [Array.getElem?_setIfInBounds_ne (by omega)]; exact h3 i (by omega)
  · by_cases he : i = n
    · subst he; rw [Array.getElem?_setIfInBounds_self_of_lt (by simp; omega)]
    · rw [Array.getElem?_setIfInBounds_ne (by omega), Array.getElem?_setIfInBounds_ne (by omega)]; exact h4 i (by omega)
theorem TabP.one {n : Nat} {cs : Array Value} (h : TabP n cs) (i : Nat) (hi : i ≤ 2) (v : Value) : TabP n (cs.setIfInBounds i v) := by
  obtain ⟨h1, h3, h4⟩ := h
  refine ⟨by simpa using h1, fun j hj => ?_, fun j hj => ?_⟩
  · rw [Array.getElem?_setIfInBounds_ne (by omega)]; exact h3 j hj
  · rw [Array.getElem?_setIfInBounds_ne (by omega)]; exact h4 j hj
/-- The cells' kinds: all that a store asks for. -/
theorem some_cell {cs : Array Value} {i : Nat} (h : i < cs.size) : cs[i]? = some cs[i] := by simp [h]

theorem int64_add (w : World) (a : Addr) (x : Int) (h0 : 0 ≤ x) (h1 : x ≤ 1000) (hc : w.cell? a = some (.int .i64 x)) (hz : w.frozen? a = false)  : Calls Tryz.prog 63 #[.pointer (some a), .int .i64 1] w fun e w' => e = .returned (.int .i64 (x + 1)) ∧ w' = w.setCell a (.int .i64 (x + 1)) := by
  have hadd := run_call_add (P := Tryz.prog) Tryz.func85 (by kernel_rfl) (by kernel_rfl) (by kernel_rfl) .i64 (by kernel_rfl) (y := 1) (s := x + 1) hc hz (by simp [go_sem]; rw [IntKind.wrap_i64]; omega)
  go_enter Tryz.func63, Tryz.ntmps63
  go_wp2
  go_returns
  exact ⟨rfl, rfl⟩

set_option maxRecDepth 100000 in
set_option maxHeartbeats 4000000 in
theorem fill_any (W : World) (b : Nat) (cs : Array Value) (hA : At W b cs) (hT : TabP 0 cs) (e0 : cs[0]? = some (.int .u32 0)) (e1 : cs[1]? = some (.int .i32 1)) (e3 : cs[3]? = some (.int .i64 0)) :
    Calls Tryz.prog 47 #[.pointer (some ⟨b, 0, none⟩)] W fun e w' => e = .returned (.tuple #[]) ∧ ∃ cs2, At w' b cs2 ∧ TabP 256 cs2 ∧ cs2[0]? = some (.int .u32 0) ∧ cs2[1]? = some (.int .i32 1) ∧ Chg [b] W w' := by
  obtain ⟨m, hm⟩ : ∃ m : Int, m = 0 := ⟨0, rfl⟩
  rw [← hm] at e3
  have m0 : 0 ≤ m := by omega
  have m1 : m ≤ 1000 := by omega
  clear hm
  have c3 := (hA.cell 3).trans e3
  have f3 := hA.frozen 3
  go_enter Tryz.func47, Tryz.ntmps47
  go_wp2_with fail
  refine (int64_add W ⟨b, 3, none⟩ m m0 m1 c3 f3).mono ?_; rintro e w1 ⟨rfl, rfl⟩
  have hA1 := hA.set 3 (.int .i64 (m + 1)) rfl
  have hX1 : Chg [b] W (W.setCell ⟨b, 3, none⟩ (.int .i64 (m + 1))) := (Chg.refl _ _).setCell (.inl (by simp)) _
  have hT1 : TabP 0 (cs.setIfInBounds 3 (.int .i64 (m + 1))) := ⟨by simpa using hT.size, fun i hi => absurd hi (by omega), fun i hi => absurd hi (by omega)⟩
  have k0 : (cs.setIfInBounds 3 (.int .i64 (m + 1)))[0]? = some (.int .u32 0) := by rw [Array.getElem?_setIfInBounds_ne (show (3 : Nat) ≠ 0 by decide)]; exact e0
  have k1 : (cs.setIfInBounds 3 (.int .i64 (m + 1)))[1]? = some (.int .i32 1) := by rw [Array.getElem?_setIfInBounds_ne (show (3 : Nat) ≠ 1 by decide)]; exact e1
  generalize cs.setIfInBounds 3 (.int .i64 (m + 1)) = cs0 at *
  generalize W.setCell ⟨b, 3, none⟩ (.int .i64 (m + 1)) = w1 at *
  clear hA hT e0 e1 e3 m0 m1 c3 f3
  go_wp2_with fail
  go_loopg [2, 7] 256 (fun g a i wr => ∃ (k : Nat) (cs : Array Value), k + g = 256 ∧ i = .int .i64 k ∧ At wr b cs ∧ TabP k cs ∧ Hid (cs[0]? = some (.int .u32 0)) ∧ Hid (cs[1]? = some (.int .i32 1)) ∧ Chg [b] W wr)
  case atStart => exact ⟨0, cs0, by omega, rfl, hA1, hT1, Lib.hid k0, Lib.hid k1, hX1⟩
  case round =>
    obtain ⟨k, cs, hk, rfl, hA, hT, Hk0, Hk1, hX⟩ := hrel
    clear k0 k1 hA1 hT1 hX1
    by_cases hlt : k < 256
    · have g1 : (k : Int) < 256 := by omega
      have g0 : (0 : Int) ≤ (k : Int) := by omega
      have gn : (k : Int).toNat = k := by omega
      have q1 : IntKind.u16.wrap (k : Int) = (k : Int) := by simp [IntKind.wrap, IntKind.bits, IntKind.signed]; omega
      have q2 : IntKind.u16.wrap ((k : Int) * 256) = (k : Int) * 256 := by simp [IntKind.wrap, IntKind.bits, IntKind.signed]; omega
      have q3 : IntKind.u32.wrap (k : Int) = (k : Int) := by simp [IntKind.wrap, IntKind.bits, IntKind.signed]; omega
      have H16 := fun w => step16_any w ((k : Int) * 256) (by omega) (by omega)
      have H32 := fun w => step32_any w (BitVec.ofNat 32 k)
      rw [show ((BitVec.ofNat 32 k).toNat : Int) = (k : Int) by rw [BitVec.toNat_ofNat, Nat.mod_eq_of_lt (by omega)]] at H32
      rw [show stp 8 ((k : Int) * 256) = t16 k from rfl] at H16
      rw [show ((stn 8 (BitVec.ofNat 32 k)).toNat : Int) = t32 k from rfl] at H32
      have hT2 := hT.put hlt
      have hz := hT.size
      obtain ⟨v16, hv16⟩ : ∃ v, cs[4 + k]? = some v := ⟨_, some_cell (by omega)⟩
      obtain ⟨v32, hv32⟩ : ∃ v, (cs.setIfInBounds (4 + k) (.int .u16 (t16 k)))[260 + k]? = some v := ⟨_, some_cell (by simp; omega)⟩
      have hs16 := Lib.hid hv16
      have hs32 := Lib.hid hv32
      clear hv16 hv32
      replace H16 := Lib.hid H16
      replace H32 := Lib.hid H32
      have Hz := Lib.hid hz
      clear hz hT
      go_upto_region 4 with fail
      refine wp_region_ex (fun q w => (q = 0 → At w b cs ∧ Chg [b] W w) ∧ (q = 1 → At w b (cs.setIfInBounds (4 + k) (.int .u16 (t16 k))) ∧ Chg [b] W w) ∧ (q = 2 → At w b ((cs.setIfInBounds (4 + k) (.int .u16 (t16 k))).setIfInBounds (260 + k) (.int .u32 (t32 k))) ∧ Chg [b] W w)) (fun _ _ _ => True) [14, 18] [(0, 0, false), (0, 0, false), (0, 1, false), (0, 1, false), (0, 0, false), (0, 0, false), (0, 0, false), (0, 0, false), (0, 0, false), (0, 0, false), (0, 0, false), (0, 0, false), (0, 0, false), (0, 0, false), (0, 0, true), (0, 1, false), (0, 1, false), (1, 1, false), (1, 1, true)] [10, 11, 12, 13, 14, 15, 16, 17, 18, 19, 20, 21, 22, 23, 24, 25, 26] (by kernel_rfl) rfl (by kernel_rfl) (by kernel_rfl) (⟨fun _ => ⟨hA.drew, hX.drew⟩, fun h => absurd h (by decide), fun h => absurd h (by decide)⟩) ?_
      simp only [List.zip_cons_cons, List.zip_nil_right]
      refine ex_det 10 [0] rfl rfl (fun _ _ _ _ _ _ _ _ => rfl) ?_
      apply Exists.intro
      refine ⟨?_, ?_⟩
      · intro wx bX kX hk1 hk2 hC hb hd K hK
        have e0 := hb 0 rfl
        simp only [exSlot, List.getD_cons_succ, List.getD_cons_zero] at e0
        simp only [execOp, e0]
        clear hb hd
        go_simp
        exact hK _ hC (trivial)
      refine ex_det 11 [2] rfl rfl (fun _ _ _ _ _ _ _ _ => rfl) ?_
      apply Exists.intro
      refine ⟨?_, ?_⟩
      · intro wx bX kX hk1 hk2 hC hb hd K hK
        have e2 := hb 2 rfl
        simp only [exSlot, List.getD_cons_succ, List.getD_cons_zero] at e2
        simp only [execOp, e2]
        clear hb hd
        go_simp
        exact hK _ hC (trivial)
      refine ex_det 12 [0] rfl rfl (fun _ _ _ _ _ _ _ _ => rfl) ?_
      apply Exists.intro
      refine ⟨?_, ?_⟩
      · intro wx bX kX hk1 hk2 hC hb hd K hK
        have e0 := hb 0 rfl
        simp only [exSlot, List.getD_cons_succ, List.getD_cons_zero] at e0
        simp only [execOp, e0]
        clear hb hd
        go_simp
        exact hK _ hC (trivial)
      refine ex_det 13 [2] rfl rfl (fun _ _ _ _ _ _ _ _ => rfl) ?_
      apply Exists.intro
      refine ⟨?_, ?_⟩
      · intro wx bX kX hk1 hk2 hC hb hd K hK
        have e2 := hb 2 rfl
        simp only [exSlot, List.getD_cons_succ, List.getD_cons_zero] at e2
        simp only [execOp, e2]
        clear hb hd
        go_simp
        exact hK _ hC (trivial)
      refine ex_det 14 [2] rfl rfl (fun _ _ _ _ _ _ _ _ => rfl) ?_
      apply Exists.intro
      refine ⟨?_, ?_⟩
      · intro wx bX kX hk1 hk2 hC hb hd K hK
        have e2 := hb 2 rfl
        simp only [exSlot, List.getD_cons_succ, List.getD_cons_zero] at e2
        simp only [execOp, e2]
        clear hb hd
        go_simp
        exact hK _ hC (trivial)
      refine ex_det 15 [14] rfl rfl (fun _ _ _ _ _ _ _ _ => rfl) ?_
      apply Exists.intro
      refine ⟨?_, ?_⟩
      · intro wx bX kX hk1 hk2 hC hb hd K hK
        have e14 := hd 14 _ _ rfl rfl
        try dsimp only at e14
        simp only [execOp, e14]
        clear hb hd
        go_simp
        exact hK _ hC (trivial)
      refine ex_det 16 [15] rfl rfl (fun _ _ _ _ _ _ _ _ => rfl) ?_
      apply Exists.intro
      refine ⟨?_, ?_⟩
      · intro wx bX kX hk1 hk2 hC hb hd K hK
        have e15 := hd 15 _ _ rfl rfl
        try dsimp only at e15
        simp only [execOp, e15]
        clear hb hd
        go_simp
        exact hK _ hC (trivial)
      refine ex_det 17 [16] rfl rfl (fun _ _ _ _ _ _ _ _ => rfl) ?_
      apply Exists.intro
      refine ⟨?_, ?_⟩
      · intro wx bX kX hk1 hk2 hC hb hd K hK
        have e16 := hd 16 _ _ rfl rfl
        try dsimp only at e16
        simp only [execOp, resolve, List.map_toArray, List.map_cons, List.map_nil, e16]
        clear hb hd
        go_simp
        refine (H16.out wx).mono ?_; rintro e w' ⟨rfl, rfl⟩
        exact ⟨_, rfl, hK _ hC trivial⟩
      refine ex_det 18 [2] rfl rfl (fun _ _ _ _ _ _ _ _ => rfl) ?_
      apply Exists.intro
      refine ⟨?_, ?_⟩
      · intro wx bX kX hk1 hk2 hC hb hd K hK
        have e2 := hb 2 rfl
        simp only [exSlot, List.getD_cons_succ, List.getD_cons_zero] at e2
        simp only [execOp, e2]
        clear hb hd
        go_simp
        exact hK _ hC (trivial)
      refine ex_det 19 [18] rfl rfl (fun _ _ _ _ _ _ _ _ => rfl) ?_
      apply Exists.intro
      refine ⟨?_, ?_⟩
      · intro wx bX kX hk1 hk2 hC hb hd K hK
        have e18 := hd 18 _ _ rfl rfl
        try dsimp only at e18
        simp only [execOp, e18]
        clear hb hd
        go_simp
        exact hK _ hC (trivial)
      refine ex_det 20 [19] rfl rfl (fun _ _ _ _ _ _ _ _ => rfl) ?_
      apply Exists.intro
      refine ⟨?_, ?_⟩
      · intro wx bX kX hk1 hk2 hC hb hd K hK
        have e19 := hd 19 _ _ rfl rfl
        try dsimp only at e19
        simp only [execOp, resolve, List.map_toArray, List.map_cons, List.map_nil, e19]
        clear hb hd
        go_simp
        refine (H32.out wx).mono ?_; rintro e w' ⟨rfl, rfl⟩
        exact ⟨_, rfl, hK _ hC trivial⟩
      refine ex_det 21 [10] rfl rfl (fun _ _ _ _ _ _ _ _ => rfl) ?_
      apply Exists.intro
      refine ⟨?_, ?_⟩
      · intro wx bX kX hk1 hk2 hC hb hd K hK
        have e10 := hd 10 _ _ rfl rfl
        try dsimp only at e10
        simp only [execOp, e10]
        clear hb hd
        go_simp
        exact hK _ hC (trivial)
      refine ex_det 22 [21] rfl rfl (fun _ _ _ _ _ _ _ _ => rfl) ?_
      apply Exists.intro
      refine ⟨?_, ?_⟩
      · intro wx bX kX hk1 hk2 hC hb hd K hK
        have e21 := hd 21 _ _ rfl rfl
        try dsimp only at e21
        simp only [execOp, e21]
        clear hb hd
        go_simp
        exact hK _ hC (trivial)
      refine ex_det 23 [22, 11] rfl rfl (fun _ _ _ _ _ _ _ _ => rfl) ?_
      apply Exists.intro
      refine ⟨?_, ?_⟩
      · intro wx bX kX hk1 hk2 hC hb hd K hK
        have e22 := hd 22 _ _ rfl rfl
        try dsimp only at e22
        have e11 := hd 11 _ _ rfl rfl
        try dsimp only at e11
        simp only [execOp, e22, e11]
        clear hb hd
        go_simp
        exact hK _ hC (trivial)
      refine ex_unit (fun _ _ => True) [23, 17] rfl rfl (fun _ _ _ _ _ _ _ _ => rfl) (fun _ _ => (fun _ _ _ _ _ => trivial)) ?_ ?_
      · intro wx bX kX hk1 hk2 hC hb hd K hK
        have e23 := hd 23 _ _ rfl rfl
        try dsimp only at e23
        have e17 := hd 17 _ _ rfl rfl
        try dsimp only at e17
        simp only [execOp, e23, e17]
        clear hb hd
        obtain ⟨hA0, hX0⟩ := hC.1 (by omega)
        have hcK := (hA0.cell (4 + k)).trans hs16.out
        have hfK := hA0.frozen (4 + k)
        go_simp
        exact hK _ trivial ⟨fun h => absurd h (by simp), fun _ => ⟨hA0.set _ _ rfl, hX0.setCell (.inl (by simp)) _⟩, fun h => absurd h (by simp; omega)⟩ trivial
      refine ex_det 24 [12] rfl rfl (fun _ _ _ _ _ _ _ _ => rfl) ?_
      apply Exists.intro
      refine ⟨?_, ?_⟩
      · intro wx bX kX hk1 hk2 hC hb hd K hK
        have e12 := hd 12 _ _ rfl rfl
        try dsimp only at e12
        simp only [execOp, e12]
        clear hb hd
        go_simp
        exact hK _ hC (trivial)
      refine ex_det 25 [24] rfl rfl (fun _ _ _ _ _ _ _ _ => rfl) ?_
      apply Exists.intro
      refine ⟨?_, ?_⟩
      · intro wx bX kX hk1 hk2 hC hb hd K hK
        have e24 := hd 24 _ _ rfl rfl
        try dsimp only at e24
        simp only [execOp, e24]
        clear hb hd
        go_simp
        exact hK _ hC (trivial)
      refine ex_det 26 [25, 13] rfl rfl (fun _ _ _ _ _ _ _ _ => rfl) ?_
      apply Exists.intro
      refine ⟨?_, ?_⟩
      · intro wx bX kX hk1 hk2 hC hb hd K hK
        have e25 := hd 25 _ _ rfl rfl
        try dsimp only at e25
        have e13 := hd 13 _ _ rfl rfl
        try dsimp only at e13
        simp only [execOp, e25, e13]
        clear hb hd
        go_simp
        exact hK _ hC (trivial)
      refine ex_unit (fun _ _ => True) [26, 20] rfl rfl (fun _ _ _ _ _ _ _ _ => rfl) (fun _ _ => (fun _ _ _ _ _ => trivial)) ?_ ?_
      · intro wx bX kX hk1 hk2 hC hb hd K hK
        have e26 := hd 26 _ _ rfl rfl
        try dsimp only at e26
        have e20 := hd 20 _ _ rfl rfl
        try dsimp only at e20
        simp only [execOp, e26, e20]
        clear hb hd
        obtain ⟨hA0, hX0⟩ := hC.2.1 (by omega)
        have hcK := (hA0.cell (260 + k)).trans hs32.out
        have hfK := hA0.frozen (260 + k)
        go_simp
        exact hK _ trivial ⟨fun h => absurd h (by simp), fun h => absurd h (by simp; omega), fun _ => ⟨hA0.set _ _ rfl, hX0.setCell (.inl (by simp)) _⟩⟩ trivial
      refine ex_end ?_
      intro us w2 hus hC hall
      obtain ⟨v0, us, rfl⟩ := List.exists_cons_of_length_eq_add_one hus
      replace hus := Nat.succ.inj hus
      obtain ⟨v1, us, rfl⟩ := List.exists_cons_of_length_eq_add_one hus
      replace hus := Nat.succ.inj hus
      obtain ⟨v2, us, rfl⟩ := List.exists_cons_of_length_eq_add_one hus
      replace hus := Nat.succ.inj hus
      obtain ⟨v3, us, rfl⟩ := List.exists_cons_of_length_eq_add_one hus
      replace hus := Nat.succ.inj hus
      obtain ⟨v4, us, rfl⟩ := List.exists_cons_of_length_eq_add_one hus
      replace hus := Nat.succ.inj hus
      obtain ⟨v5, us, rfl⟩ := List.exists_cons_of_length_eq_add_one hus
      replace hus := Nat.succ.inj hus
      obtain ⟨v6, us, rfl⟩ := List.exists_cons_of_length_eq_add_one hus
      replace hus := Nat.succ.inj hus
      obtain ⟨v7, us, rfl⟩ := List.exists_cons_of_length_eq_add_one hus
      replace hus := Nat.succ.inj hus
      obtain ⟨v8, us, rfl⟩ := List.exists_cons_of_length_eq_add_one hus
      replace hus := Nat.succ.inj hus
      obtain ⟨v9, us, rfl⟩ := List.exists_cons_of_length_eq_add_one hus
      replace hus := Nat.succ.inj hus
      obtain ⟨v10, us, rfl⟩ := List.exists_cons_of_length_eq_add_one hus
      replace hus := Nat.succ.inj hus
      obtain ⟨v11, us, rfl⟩ := List.exists_cons_of_length_eq_add_one hus
      replace hus := Nat.succ.inj hus
      obtain ⟨v12, us, rfl⟩ := List.exists_cons_of_length_eq_add_one hus
      replace hus := Nat.succ.inj hus
      obtain ⟨v13, us, rfl⟩ := List.exists_cons_of_length_eq_add_one hus
      replace hus := Nat.succ.inj hus
      obtain ⟨v14, us, rfl⟩ := List.exists_cons_of_length_eq_add_one hus
      replace hus := Nat.succ.inj hus
      obtain ⟨v15, us, rfl⟩ := List.exists_cons_of_length_eq_add_one hus
      replace hus := Nat.succ.inj hus
      obtain ⟨v16, us, rfl⟩ := List.exists_cons_of_length_eq_add_one hus
      replace hus := Nat.succ.inj hus
      obtain ⟨v17, us, rfl⟩ := List.exists_cons_of_length_eq_add_one hus
      replace hus := Nat.succ.inj hus
      obtain ⟨v18, us, rfl⟩ := List.exists_cons_of_length_eq_add_one hus
      replace hus := Nat.succ.inj hus
      obtain rfl := List.length_eq_zero_iff.1 hus
      clear hus
      generalize hbb : exPuts _ _ _ = bb at hall ⊢
      simp only [exPuts, Act.put, List.setIfInBounds_toArray, List.set_cons_succ, List.set_cons_zero] at hbb
      subst hbb
      obtain ⟨h18, h17, h16, h15, h14, h13, h12, h11, h10, h9, h8, h7, h6, h5, h4, h3, h2, h1, h0, -⟩ := hall
      obtain rfl : v0 = _ := h0
      obtain rfl : v1 = _ := h1
      obtain rfl : v2 = _ := h2
      obtain rfl : v3 = _ := h3
      obtain rfl : v4 = _ := h4
      obtain rfl : v5 = _ := h5
      obtain rfl : v6 = _ := h6
      obtain rfl : v7 = _ := h7
      obtain rfl : v8 = _ := h8
      obtain rfl : v9 = _ := h9
      obtain rfl : v10 = _ := h10
      obtain rfl : v11 = _ := h11
      obtain rfl : v12 = _ := h12
      obtain rfl : v13 = _ := h13
      obtain rfl : v15 = _ := h15
      obtain rfl : v16 = _ := h16
      obtain rfl : v17 = _ := h17
      clear v14 v18
      obtain ⟨hA2, hX2⟩ := hC.2.2 rfl
      clear hC hA hX q1 q2 q3 H16 H32 hs16 hs32
      have k0' : ((cs.setIfInBounds (4 + k) (.int .u16 (t16 k))).setIfInBounds (260 + k) (.int .u32 (t32 k)))[0]? = some (.int .u32 0) := by
        rw [Array.getElem?_setIfInBounds_ne (show 260 + k ≠ 0 by omega), Array.getElem?_setIfInBounds_ne (show 4 + k ≠ 0 by omega)]; exact Hk0.out
      have k1' : ((cs.setIfInBounds (4 + k) (.int .u16 (t16 k))).setIfInBounds (260 + k) (.int .u32 (t32 k)))[1]? = some (.int .i32 1) := by
        rw [Array.getElem?_setIfInBounds_ne (show 260 + k ≠ 1 by omega), Array.getElem?_setIfInBounds_ne (show 4 + k ≠ 1 by omega)]; exact Hk1.out
      generalize (cs.setIfInBounds (4 + k) (.int .u16 (t16 k))).setIfInBounds (260 + k) (.int .u32 (t32 k)) = cs9 at *
      have H0' := Lib.hid k0'
      have H1' := Lib.hid k1'
      clear k0' k1'
      go_wp2_with fail
      go_roundg (gk - 1)
      case rel => exact ⟨k + 1, cs9, by omega, by go_num, hA2, hT2, H0', H1', hX2⟩
      case measure => omega
    · obtain rfl : gk = 0 := by omega
      obtain rfl : k = 256 := by omega
      go_wp2
      go_end0
      exact ⟨rfl, cs, hA, hT, Hk0.out, Hk1.out, hX⟩
theorem wpList_box {ops : Array Oper} {rest : List Oper} {op : Oper} {a : Act} {w : World} {Q : Exit → Act → World → Prop} (hgd : op.guard = none) {T : TypeId} {x : Operand} (ho : op.op = .box T x) (cs : Array Value) (hx : a.eval x = .agg cs)
    (K : wpList Tryz.prog ops Q rest (a.put op.dst (.pointer (some ⟨w.heap.size, 0, none⟩))) (w.alloc (.cells cs T))) : wpList Tryz.prog ops Q (op :: rest) a w :=
  wpList_plain hgd fun K' hK => by
    unfold Oper.wp execOp
    simp only [ho, hx]
    exact hK _ _ K
theorem tab0_ok : TabP 0 tab0 := ⟨tab0_size, fun i hi => absurd hi (by omega), fun i hi => absurd hi (by omega)⟩
theorem tab_new (W : World) : Calls Tryz.prog 29 #[] W fun e w' => ∃ b, e = .returned (.pointer (some ⟨b, 0, none⟩)) ∧ At w' b tab0 ∧ Chg [] W w' ∧ W.heap.size ≤ b := by
  go_enter Tryz.func29, Tryz.ntmps29
  go_upto_region 1 with fail
  refine wp_region_lit ?_
  refine wpList_bld rfl rfl tab0 (by kernel_rfl) ?_
  refine wpList_box rfl rfl tab0 rfl ?_
  have hA := At.new W tab0 90
  have hX : Chg [] W (W.alloc (.cells tab0 90)) := (Chg.refl [] W).alloc _
  generalize W.alloc (.cells tab0 90) = w1 at *
  go_wp2
  go_returns
  exact ⟨_, rfl, hA, hX, Nat.le_refl _⟩
end Go.Proofs.YtpfglmlpodjneaaGreat
namespace Go.Proofs.YtpfglmlpodjneaaGreat
open Go.RowKit

theorem xor8_bd (a b : Int) (h0 : 0 ≤ a) (h1 : a ≤ 255) (h2 : 0 ≤ b) (h3 : b ≤ 255) : 0 ≤ bits .xor .u8 a b ∧ bits .xor .u8 a b ≤ 255 := by
  rw [u8_xor a b h0 (by omega) h2 (by omega)]
  have := Nat.xor_lt_two_pow (n := 8) (x := a.toNat) (y := b.toNat) (by omega) (by omega)
  omega
def tI16 (c b : Int) : Int := bits .xor .u8 (c / 256) b
def tN16 (c b : Int) : Int := bits .xor .u16 (IntKind.u16.wrap (c * 256)) (t16 (tI16 c b).toNat)
def tS16 : List Int → Int → Int
  | [], c => c
  | b :: l, c => tS16 l (tN16 c b)
def tI32 (c b : Int) : Int := bits .xor .u8 (c % 256) b
def tN32 (c b : Int) : Int := bits .xor .u32 (c / 256) (t32 (tI32 c b).toNat)
def tS32 : List Int → Int → Int
  | [], c => c
  | b :: l, c => tS32 l (tN32 c b)
def known9 : ByteArray := ⟨#[49, 50, 51, 52, 53, 54, 55, 56, 57]⟩
def knownL : List Int := [49, 50, 51, 52, 53, 54, 55, 56, 57]
theorem t_known16 : tS16 knownL 65535 = 10673 := by kernel_rfl
theorem t_known32 : bits .xor .u32 (tS32 knownL 4294967295) 4294967295 = 3421780262 := by kernel_rfl
theorem known16 : sum16 known9 = 10673 := by kernel_rfl
theorem known32 : ((sum32 known9).toNat : Int) = 3421780262 := by kernel_rfl

theorem u32_bd (a : Int) : 0 ≤ IntKind.u32.wrap a ∧ IntKind.u32.wrap a ≤ 4294967295 := by
  simp [IntKind.wrap, IntKind.bits, IntKind.signed]; omega
theorem xor32_bd (a b : Int) : 0 ≤ bits .xor .u32 a b ∧ bits .xor .u32 a b ≤ 4294967295 := u32_bd _
theorem and255 (y : Int) (h0 : 0 ≤ y) (h1 : y ≤ 4294967295) : bits .and .u32 y 255 = y % 256 := by
  rw [u32_and y 255 h0 (by omega) (by omega) (by omega)]
  rw [show (255 : Int).toNat = 2 ^ 8 - 1 from rfl, Nat.and_two_pow_sub_one_eq_mod]
  omega
def kB (k : Nat) : Int := knownL.getD k 0
theorem kB_bd (k : Nat) (h : k < 9) : 0 ≤ kB k ∧ kB k ≤ 255 := by
  match k, h with
  | 0, _ | 1, _ | 2, _ | 3, _ | 4, _ | 5, _ | 6, _ | 7, _ | 8, _ => exact ⟨by decide, by decide⟩
theorem kB_get (k : Nat) (h : k < known9.size) : ((known9[k]'h).toNat : Int) = kB k := by
  have h9 : k < 9 := h
  match k, h9 with
  | 0, _ | 1, _ | 2, _ | 3, _ | 4, _ | 5, _ | 6, _ | 7, _ | 8, _ => rfl
theorem kS16 (k : Nat) (h : k < 9) (y : Int) : tS16 (knownL.drop k) y = tS16 (knownL.drop (k + 1)) (tN16 y (kB k)) := by
  match k, h with
  | 0, _ | 1, _ | 2, _ | 3, _ | 4, _ | 5, _ | 6, _ | 7, _ | 8, _ => rfl
theorem kS32 (k : Nat) (h : k < 9) (y : Int) : tS32 (knownL.drop k) y = tS32 (knownL.drop (k + 1)) (tN32 y (kB k)) := by
  match k, h with
  | 0, _ | 1, _ | 2, _ | 3, _ | 4, _ | 5, _ | 6, _ | 7, _ | 8, _ => rfl
set_option maxRecDepth 100000 in
set_option maxHeartbeats 4000000 in
theorem tsum16_known (w : World) (b : Nat) (cs : Array Value) (hA : At w b cs) (hT : TabP 0 cs) (e0 : cs[0]? = some (.int .u32 0)) (e1 : cs[1]? = some (.int .i32 0)) (e3 : cs[3]? = some (.int .i64 0)) :
    Calls Tryz.prog 32 #[.pointer (some ⟨b, 0, none⟩), .string ⟨#[49, 50, 51, 52, 53, 54, 55, 56, 57]⟩] w fun e w' => e = .returned (.int .u16 10673) ∧ ∃ cs2, At w' b cs2 ∧ TabP 256 cs2 ∧ cs2[0]? = some (.int .u32 1) ∧ Chg [b] w w' := by
  have HO := once_do w b cs #[.pointer (some ⟨b, 0, none⟩)] (fun cs2 => TabP 256 cs2 ∧ cs2.size = 516) hA e0 e1 (fun w1 h1 => by
    refine (fill_any w1 b _ h1 (hT.one 1 (by omega) _) (by rw [Array.getElem?_setIfInBounds_ne (show (1 : Nat) ≠ 0 by decide)]; exact e0) (by rw [Array.getElem?_setIfInBounds_self_of_lt (by rw [hT.size]; omega)]) (by rw [Array.getElem?_setIfInBounds_ne (show (1 : Nat) ≠ 3 by decide)]; exact e3)).mono ?_
    rintro e w2 ⟨rfl, cs2, h2, h3, h4, h5, h6⟩
    exact ⟨rfl, cs2, h2, ⟨h3, h3.size⟩, h4, h5, h6⟩)
  have hmf : ∀ (fn : Fn) (first cap : Array Value) (w : World), (Instr.makeFunc fn first cap).run Tryz.prog w = .ok (.func fn first cap) w := fun _ _ _ _ => rfl
  clear hA hT e0 e1 e3
  go_enter Tryz.func32, Tryz.ntmps32
  go_wp2_with fail
  refine HO.mono ?_; rintro e w1 ⟨rfl, cs2, ⟨hT, hz⟩, hA, hX⟩
  have hT1 := (hT.one 0 (by omega) (.int .u32 1)).one 1 (by omega) (.int .i32 0)
  have k0 : ((cs2.setIfInBounds 0 (.int .u32 1)).setIfInBounds 1 (.int .i32 0))[0]? = some (.int .u32 1) := by
    rw [Array.getElem?_setIfInBounds_ne (show (1 : Nat) ≠ 0 by decide), Array.getElem?_setIfInBounds_self_of_lt (by omega)]
  generalize (cs2.setIfInBounds 0 (.int .u32 1)).setIfInBounds 1 (.int .i32 0) = cs9 at *
  clear hT HO
  obtain ⟨w2, cap, hcv, hcell, hX2⟩ := bytes_conv w1 known9
  rw [show known9 = ⟨#[49, 50, 51, 52, 53, 54, 55, 56, 57]⟩ from rfl] at hcv
  have hA2 := hX2.at hA (by simp)
  replace hX := hX.trans (hX2.mono (by simp))
  have hks : known9.size = 9 := rfl
  go_wp2_with fail
  generalize w1.heap.size = z at *
  clear hcv hA
  go_loopg [5, 7, 19] 9 (fun g c bb i wr => ∃ (k : Nat) (y : Int), k + g = 9 ∧ i = .int .i64 k ∧ c = .int .u16 y ∧ 0 ≤ y ∧ y ≤ 65535 ∧ Hid (tS16 (knownL.drop k) y = 10673) ∧ wr = w2)
  case atStart => exact ⟨0, 65535, by omega, rfl, rfl, by omega, by omega, Lib.hid t_known16, rfl⟩
  case round =>
    obtain ⟨k, y, hk, rfl, rfl, y0, y1, Hy, rfl⟩ := hrel
    by_cases hlt : k < 9
    · have hcl := hcell k hlt
      rw [kB_get k hlt] at hcl
      clear hcell
      obtain ⟨b0, b1⟩ := kB_bd k hlt
      have Hc := Lib.hid (kS16 k hlt y)
      obtain ⟨j, hj⟩ : ∃ j : Nat, tI16 y (kB k) = (j : Int) := ⟨(tI16 y (kB k)).toNat, by have := xor8_bd (y / 256) (kB k) (by omega) (by omega) b0 b1; unfold tI16; omega⟩
      have hj2 : j < 256 := by have := xor8_bd (y / 256) (kB k) (by omega) (by omega) b0 b1; unfold tI16 at hj; omega
      have hcj := (hA2.cell (4 + j)).trans (hT1.r16 j hj2)
      have Hn := Lib.hid (show tN16 y (kB k) = bits .xor .u16 (IntKind.u16.wrap (y * 256)) (t16 j) by unfold tN16; rw [hj]; rfl)
      unfold tI16 at hj
      have hN := xor16_bd (IntKind.u16.wrap (y * 256)) (t16 j)
      generalize kB k = β at *
      have q1 : IntKind.u8.wrap (y / 256) = y / 256 := by simp [IntKind.wrap, IntKind.bits, IntKind.signed]; omega
      have g0 : (0 : Int) ≤ (j : Int) := by omega
      have g1 : (j : Int) < 256 := by omega
      have g2 : (j : Int).toNat = j := by omega
      clear hj2
      go_wp2_with fail
      go_roundg (gk - 1)
      case rel => exact ⟨k + 1, _, by omega, by go_num, rfl, hN.1, hN.2, Lib.hid (by rw [← Hn.out, ← Hc.out]; exact Hy.out), rfl⟩
      case measure => omega
    · obtain rfl : gk = 0 := by omega
      obtain rfl : k = 9 := by omega
      go_wp2
      go_returns
      exact ⟨ret_int Hy.out, cs9, hA2, hT1, k0, hX⟩
set_option maxRecDepth 100000 in
set_option maxHeartbeats 4000000 in
theorem tsum32_known (w : World) (b : Nat) (cs9 : Array Value) (hA : At w b cs9) (hT1 : TabP 256 cs9) (k0 : cs9[0]? = some (.int .u32 1)) :
    Calls Tryz.prog 33 #[.pointer (some ⟨b, 0, none⟩), .string ⟨#[49, 50, 51, 52, 53, 54, 55, 56, 57]⟩] w fun e w' => e = .returned (.int .u32 3421780262) ∧ Chg [b] w w' := by
  have HO := fun fv => once_done w b 1 (by decide) fv ((hA.cell 0).trans k0)
  have hmf : ∀ (fn : Fn) (first cap : Array Value) (w : World), (Instr.makeFunc fn first cap).run Tryz.prog w = .ok (.func fn first cap) w := fun _ _ _ _ => rfl
  go_enter Tryz.func33, Tryz.ntmps33
  go_wp2_with fail
  refine (HO _).mono ?_; rintro e w' ⟨rfl, rfl⟩
  clear HO
  obtain ⟨w2, cap, hcv, hcell, hX2⟩ := bytes_conv w known9
  rw [show known9 = ⟨#[49, 50, 51, 52, 53, 54, 55, 56, 57]⟩ from rfl] at hcv
  have hA2 := hX2.at hA (by simp)
  have hX : Chg [b] w w2 := hX2.mono (by simp)
  have hks : known9.size = 9 := rfl
  go_wp2_with fail
  generalize w.heap.size = z at *
  clear hcv hA
  go_loopg [5, 7, 19] 9 (fun g c bb i wr => ∃ (k : Nat) (y : Int), k + g = 9 ∧ i = .int .i64 k ∧ c = .int .u32 y ∧ 0 ≤ y ∧ y ≤ 4294967295 ∧ Hid (bits .xor .u32 (tS32 (knownL.drop k) y) 4294967295 = 3421780262) ∧ wr = w2)
  case atStart => exact ⟨0, 4294967295, by omega, rfl, rfl, by omega, by omega, Lib.hid t_known32, rfl⟩
  case round =>
    obtain ⟨k, y, hk, rfl, rfl, y0, y1, Hy, rfl⟩ := hrel
    by_cases hlt : k < 9
    · have hcl := hcell k hlt
      rw [kB_get k hlt] at hcl
      clear hcell
      obtain ⟨b0, b1⟩ := kB_bd k hlt
      have Hc := Lib.hid (kS32 k hlt y)
      obtain ⟨j, hj⟩ : ∃ j : Nat, tI32 y (kB k) = (j : Int) := ⟨(tI32 y (kB k)).toNat, by have := xor8_bd (y % 256) (kB k) (by omega) (by omega) b0 b1; unfold tI32; omega⟩
      have hj2 : j < 256 := by have := xor8_bd (y % 256) (kB k) (by omega) (by omega) b0 b1; unfold tI32 at hj; omega
      have hcj := (hA2.cell (260 + j)).trans (hT1.r32 j hj2)
      have Hn := Lib.hid (show tN32 y (kB k) = bits .xor .u32 (y / 256) (t32 j) by unfold tN32; rw [hj]; rfl)
      unfold tI32 at hj
      have hN := xor32_bd (y / 256) (t32 j)
      generalize kB k = β at *
      have q0 : bits .and .u32 y 255 = y % 256 := and255 y y0 y1
      have q1 : IntKind.u8.wrap (y % 256) = y % 256 := by simp [IntKind.wrap, IntKind.bits, IntKind.signed]
      have g0 : (0 : Int) ≤ (j : Int) := by omega
      have g1 : (j : Int) < 256 := by omega
      have g2 : (j : Int).toNat = j := by omega
      clear hj2
      go_wp2_with fail
      go_roundg (gk - 1)
      case rel => exact ⟨k + 1, _, by omega, by go_num, rfl, hN.1, hN.2, Lib.hid (by rw [← Hn.out, ← Hc.out]; exact Hy.out), rfl⟩
      case measure => omega
    · obtain rfl : gk = 0 := by omega
      obtain rfl : k = 9 := by omega
      go_wp2
      go_returns
      exact ⟨ret_int Hy.out, hX⟩
end Go.Proofs.YtpfglmlpodjneaaGreat
namespace Go.Proofs.YtpfglmlpodjneaaGreat
open Go.RowKit

/-- The square root, rounded down. -/
def isq : Nat → Nat
  | 0 => 0
  | n + 1 => if (isq n + 1) * (isq n + 1) ≤ n + 1 then isq n + 1 else isq n
theorem isq_spec (n : Nat) : isq n * isq n ≤ n ∧ n < (isq n + 1) * (isq n + 1) := by
  induction n with
  | zero => exact ⟨Nat.le_refl _, by decide⟩
  | succ n ih =>
    unfold isq
    split
    · rename_i h
      refine ⟨h, ?_⟩
      have : (isq n + 1 + 1) * (isq n + 1 + 1) = (isq n + 1) * (isq n + 1) + 2 * (isq n + 1) + 1 := by
        rw [Nat.add_mul (isq n + 1) 1, Nat.mul_add (isq n + 1)]; omega
      omega
    · rename_i h
      exact ⟨by omega, by omega⟩
theorem sq_lt (a b : Nat) (h : a * a < (b + 1) * (b + 1)) : a ≤ b := by
  apply Classical.byContradiction
  intro hn
  have := Nat.mul_le_mul (show b + 1 ≤ a by omega) (show b + 1 ≤ a by omega)
  omega
theorem isq_unique (n r : Nat) (h1 : r * r ≤ n) (h2 : n < (r + 1) * (r + 1)) : r = isq n := by
  obtain ⟨g1, g2⟩ := isq_spec n
  have := sq_lt r (isq n) (by omega)
  have := sq_lt (isq n) r (by omega)
  omega
/-- Of a number from 0 on. -/
def rootV (v : Int) : Int := (isq v.toNat : Int)
theorem rootV_spec (v : Int) (h : 0 ≤ v) : 0 ≤ rootV v ∧ rootV v * rootV v ≤ v ∧ v < (rootV v + 1) * (rootV v + 1) := by
  obtain ⟨n, rfl⟩ : ∃ n : Nat, v = n := ⟨v.toNat, by omega⟩
  obtain ⟨g1, g2⟩ := isq_spec n
  unfold rootV
  simp only [Int.toNat_natCast]
  refine ⟨by omega, ?_, ?_⟩
  · have : ((isq n * isq n : Nat) : Int) ≤ n := by omega
    simpa using this
  · have : (n : Int) < (((isq n + 1) * (isq n + 1) : Nat) : Int) := by omega
    simpa using this
theorem rootV_unique (v r : Int) (h0 : 0 ≤ r) (h1 : r * r ≤ v) (h2 : v < (r + 1) * (r + 1)) : r = rootV v := by
  obtain ⟨n, rfl⟩ : ∃ n : Nat, r = n := ⟨r.toNat, by omega⟩
  obtain ⟨m, rfl⟩ : ∃ m : Nat, v = m := ⟨v.toNat, by have := Int.mul_nonneg h0 h0; omega⟩
  unfold rootV
  simp only [Int.toNat_natCast]
  have e1 : n * n ≤ m := by
    have : ((n * n : Nat) : Int) ≤ m := by simpa using h1
    omega
  have e2 : m < (n + 1) * (n + 1) := by
    have : (m : Int) < (((n + 1) * (n + 1) : Nat) : Int) := by simpa using h2
    omega
  exact congrArg Int.ofNat (isq_unique m n e1 e2)
/-- Whether a product that is divided is rounded up. -/
def mdUp (p c mode : Int) : Bool := (mode == 1 && decide (0 < p % c)) || (mode == 2 && (decide (c - p % c < p % c) || (p % c == c - p % c && decide (0 ≤ p))))
def mdV (p c mode : Int) : Int := p / c + if mdUp p c mode then 1 else 0
def mdOk (c mode : Int) : Bool := decide (0 < c) && decide (0 ≤ mode) && decide (mode ≤ 2)
def mdN (a b c mode : Int) : Int := if mdOk c mode then int64V (mdV (a * b) c mode) else 0
def mdB (a b c mode : Int) : Bool := mdOk c mode && fits64 (mdV (a * b) c mode)
/-- Down, nearest, up: in order, and at most one apart. -/
theorem md_order (p c : Int) (hc : 0 < c) : mdV p c 0 = p / c ∧ mdV p c 0 ≤ mdV p c 2 ∧ mdV p c 2 ≤ mdV p c 1 ∧ mdV p c 1 ≤ mdV p c 0 + 1 ∧ mdV p c 0 * c ≤ p ∧ p ≤ mdV p c 1 * c := by
  have e0 : mdV p c 0 = p / c := by simp [mdV, mdUp]
  have h0 := Int.emod_nonneg p (show c ≠ 0 by omega)
  have h1 := Int.emod_lt_of_pos p hc
  have h2 := Int.emod_add_mul_ediv p c
  have h3 : p / c * c = c * (p / c) := Int.mul_comm _ _
  have e1 : mdV p c 1 = p / c + if 0 < p % c then 1 else 0 := by simp [mdV, mdUp]
  have e2 : mdV p c 2 ≤ p / c + (if 0 < p % c then 1 else 0) ∧ p / c ≤ mdV p c 2 := by
    unfold mdV
    by_cases hp : 0 < p % c
    · rw [if_pos hp]
      split <;> omega
    · rw [if_neg hp]
      have : mdUp p c 2 = false := by
        unfold mdUp
        simp
        omega
      rw [this]
      simp
  rw [e0, e1]
  refine ⟨rfl, by omega, by omega, ?_, by omega, ?_⟩
  · split <;> omega
  · split
    · rw [Int.add_mul]; omega
    · rw [Int.add_zero]; omega
end Go.Proofs.YtpfglmlpodjneaaGreat
