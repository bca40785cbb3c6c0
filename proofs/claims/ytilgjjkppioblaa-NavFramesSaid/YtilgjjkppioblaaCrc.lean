/- Package crc and its reference: the sum of 16 bits. -/
import Derived.Test.YtilgjjkppioblaaStr
import Derived.LoopTactic
import Derived.Handy
import Derived.Deep.LoopGhost
namespace Go.Proofs.Ytilgjjkppioblaa
open Go.RowKit

/-- One step of the sum. -/
def cst (x : Int) : Int := if 32768 ≤ x then bits .xor .u16 (IntKind.u16.wrap (x * 2)) 4129 else IntKind.u16.wrap (x * 2)
def stp : Nat → Int → Int
  | 0, x => x
  | n + 1, x => stp n (cst x)
/-- The sum over bytes. -/
def crcL : List UInt8 → Int → Int
  | [], x => x
  | b :: l, x => crcL l (stp 8 (bits .xor .u16 x ((b.toNat : Int) * 256)))
def sum16 (s : ByteArray) : Int := crcL s.data.toList 65535
theorem u16_wrap_bd (a : Int) : 0 ≤ IntKind.u16.wrap a ∧ IntKind.u16.wrap a ≤ 65535 := by
  simp [IntKind.wrap, IntKind.bits, IntKind.signed]
  omega
theorem xor16_bd (a b : Int) : 0 ≤ bits .xor .u16 a b ∧ bits .xor .u16 a b ≤ 65535 := u16_wrap_bd _
theorem cst_bd (x : Int) : 0 ≤ cst x ∧ cst x ≤ 65535 := by
  unfold cst
  split
  · exact xor16_bd _ _
  · exact u16_wrap_bd _
theorem stp_bd : ∀ n x, 0 ≤ x ∧ x ≤ 65535 → 0 ≤ stp n x ∧ stp n x ≤ 65535
  | 0, _, h => h
  | n + 1, x, _ => stp_bd n _ (cst_bd x)
theorem crcL_bd : ∀ l x, 0 ≤ x ∧ x ≤ 65535 → 0 ≤ crcL l x ∧ crcL l x ≤ 65535
  | [], _, h => h
  | _ :: l, _, _ => crcL_bd l _ (stp_bd 8 _ (xor16_bd _ _))
theorem sum16_bd (s : ByteArray) : 0 ≤ sum16 s ∧ sum16 s ≤ 65535 := crcL_bd _ _ (by omega)
theorem and_top (x : Int) (h0 : 0 ≤ x) (h1 : x ≤ 65535) : bits .and .u16 x 32768 = if 32768 ≤ x then 32768 else 0 := by
  obtain ⟨m, rfl⟩ : ∃ m : Nat, x = (m : Int) := ⟨x.toNat, by omega⟩
  have e1 : (BitVec.ofInt 16 (m : Int)).toNat = m := by
    rw [BitVec.ofInt_natCast, BitVec.toNat_ofNat]; exact Nat.mod_eq_of_lt (by omega)
  show IntKind.u16.wrap ((BitVec.ofInt 16 (m : Int) &&& BitVec.ofInt 16 32768).toNat : Int) = _
  have e2 : m &&& 2 ^ 15 = if m.testBit 15 then 2 ^ 15 else 0 := by
    apply Nat.eq_of_testBit_eq
    intro i
    rw [Nat.testBit_and, Nat.testBit_two_pow]
    by_cases hi : 15 = i
    · subst hi
      cases h : m.testBit 15
      · simp
      · rfl
    · have hf : (m.testBit i && decide (15 = i)) = false := by simp [hi]
      rw [hf]
      cases h : m.testBit 15
      · simp
      · rw [if_pos rfl, Nat.testBit_two_pow]; simp [hi]
  rw [BitVec.toNat_and, e1, show (BitVec.ofInt 16 32768).toNat = 2 ^ 15 from rfl, e2]
  have : m.testBit 15 = decide (32768 ≤ m) := by
    rw [Nat.testBit_eq_decide_div_mod_eq]
    rw [Bool.eq_iff_iff]; simp; omega
  rw [this]
  by_cases h : 32768 ≤ m
  · rw [if_pos (show (32768 : Int) ≤ (m : Int) by omega)]
    simp [h]
    rfl
  · rw [if_neg (show ¬(32768 : Int) ≤ (m : Int) by omega)]
    simp [h]
    rfl

theorem cst_yes {x : Int} (h : 32768 ≤ x) : cst x = bits .xor .u16 (IntKind.u16.wrap (x * 2)) 4129 := if_pos h
theorem cst_no {x : Int} (h0 : 0 ≤ x) (h : x < 32768) : cst x = x * 2 := by
  refine (if_neg (by omega)).trans ?_
  simp [IntKind.wrap, IntKind.bits, IntKind.signed]
  omega

theorem step16_any (w : World) (x : Int) (h0 : 0 ≤ x) (h1 : x ≤ 65535) : Calls Try.prog 37 #[.int .u16 x] w fun e w' => e = .returned (.int .u16 (stp 8 x)) ∧ w = w' := by
  generalize hr : stp 8 x = r
  have Hr := Lib.hid hr
  clear hr
  go_enter Try.func37, Try.ntmps37
  go_wp2_with fail
  go_loopg [0, 4] 8 (fun g a i wr => ∃ (k : Nat) (y : Int), k + g = 8 ∧ i = .int .i64 k ∧ a = .int .u16 y ∧ 0 ≤ y ∧ y ≤ 65535 ∧ Hid (stp g y = r) ∧ wr = w)
  case atStart => exact ⟨0, x, by omega, rfl, rfl, h0, h1, Hr, rfl⟩
  case round =>
    obtain ⟨k, y, hk, rfl, rfl, y0, y1, Hy, rfl⟩ := hrel
    by_cases hlt : k < 8
    · obtain ⟨j, rfl⟩ : ∃ j, gk = j + 1 := ⟨gk - 1, by omega⟩
      have hc := cst_bd y
      by_cases ht : 32768 ≤ y
      · have ha := (and_top y y0 y1).trans (if_pos ht)
        have Hc := Lib.hid (cst_yes ht)
        go_wp2_with fail
        go_roundg j
        case rel => exact ⟨k + 1, cst y, by omega, by go_num, by rw [Hc.out], hc.1, hc.2, Hy, rfl⟩
        case measure => omega
      · have ha := (and_top y y0 y1).trans (if_neg ht)
        have Hc := Lib.hid (cst_no y0 (by omega : y < 32768))
        go_wp2_with fail
        go_roundg j
        case rel => exact ⟨k + 1, cst y, by omega, by go_num, by rw [Hc.out], hc.1, hc.2, Hy, rfl⟩
        case measure => omega
    · obtain rfl : gk = 0 := by omega
      obtain rfl : k = 8 := by omega
      go_wp2
      go_returns
      exact ⟨ret_int Hy.out, rfl⟩

theorem by_u16 (s : ByteArray) (k : Nat) : IntKind.u16.wrap (IntKind.u16.wrap (by_ s k) * 256) = by_ s k * 256 := by
  have := by_bd s k
  simp [IntKind.wrap, IntKind.bits, IntKind.signed]
  omega
theorem crcL_cons (s : ByteArray) (k : Nat) (h : k < s.size) (x : Int) : crcL (s.data.toList.drop k) x = crcL (s.data.toList.drop (k + 1)) (stp 8 (bits .xor .u16 x (by_ s k * 256))) := by
  have hl : k < s.data.toList.length := by simpa using h
  rw [List.drop_eq_getElem_cons hl]
  show crcL _ (stp 8 (bits .xor .u16 x _)) = _
  unfold by_
  rw [List.getD_eq_getElem?_getD, List.getElem?_eq_getElem hl]
  rfl
theorem crcL_end (s : ByteArray) (x : Int) : crcL (s.data.toList.drop s.size) x = x := by
  rw [List.drop_eq_nil_of_le (by simp)]
  rfl

theorem more16_any (w : World) (s : ByteArray) (x : Int) (h0 : 0 ≤ x) (h1 : x ≤ 65535) (hs : s.size ≤ maxLen) : Calls Try.prog 34 #[.int .u16 x, .string s] w fun e w' => e = .returned (.int .u16 (crcL s.data.toList x)) ∧ Chg [] w w' := by
  unfold maxLen at hs
  obtain ⟨w1, cap, hcv, hcell, hX⟩ := bytes_conv w s
  have Hr := Lib.hid (show crcL (s.data.toList.drop 0) x = crcL s.data.toList x from rfl)
  generalize crcL s.data.toList x = r at *
  go_enter Try.func34, Try.ntmps34
  go_wp2_with fail
  generalize hz : w.heap.size = z at *
  go_loopg [0, 6, 10] s.size (fun g a b i wr => ∃ (k : Nat) (y : Int), k + g = s.size ∧ i = .int .i64 k ∧ a = .int .u16 y ∧ 0 ≤ y ∧ y ≤ 65535 ∧ Hid (crcL (s.data.toList.drop k) y = r) ∧ wr = w1)
  case atStart => exact ⟨0, x, by omega, rfl, rfl, h0, h1, Hr, rfl⟩
  case round =>
    obtain ⟨k, y, hk, rfl, rfl, y0, y1, Hy, rfl⟩ := hrel
    by_cases hlt : k < s.size
    · have hb := by_bd s k
      have hcl := hcell k hlt
      rw [by_get s k hlt] at hcl
      clear hcell
      have hx := xor16_bd y (by_ s k * 256)
      have hst := stp_bd 8 _ hx
      have Hc := Lib.hid (crcL_cons s k hlt y)
      go_wp2_with fail
      refine (step16_any _ _ hx.1 hx.2).mono ?_; rintro e w' ⟨rfl, rfl⟩
      go_wp2_with fail
      go_roundg (gk - 1)
      case rel => exact ⟨k + 1, _, by omega, by go_num, rfl, hst.1, hst.2, Lib.hid (Hc.out.symm.trans Hy.out), rfl⟩
      case measure => omega
    · obtain rfl : gk = 0 := by omega
      obtain rfl : k = s.size := by omega
      go_wp2
      go_returns
      exact ⟨ret_int (by rw [← Hy.out, crcL_end]), hX⟩

theorem sum16_any (w : World) (s : ByteArray) (hs : s.size ≤ maxLen) : Calls Try.prog 31 #[.string s] w fun e w' => e = .returned (.int .u16 (sum16 s)) ∧ Chg [] w w' := by
  go_enter Try.func31, Try.ntmps31
  go_wp2_with fail
  refine (more16_any w s 65535 (by omega) (by omega) hs).mono ?_; rintro e w' ⟨rfl, hX⟩
  go_wp2
  go_returns
  exact ⟨rfl, hX⟩

end Go.Proofs.Ytilgjjkppioblaa
