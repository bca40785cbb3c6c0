/- Package crc and its reference: the sum of 32 bits. -/
import Derived.Test.YtjneidmkllhbjaaStr
import Derived.LoopTactic
import Derived.Handy
import Derived.Deep.LoopGhost
namespace Go.Proofs.Ytjneidmkllhbjaa
open Go.RowKit

/-- One step of the sum. -/
def st32 (x : BitVec 32) : BitVec 32 := if x.toNat % 2 = 1 then (x >>> 1) ^^^ 3988292384#32 else x >>> 1
def stn : Nat → BitVec 32 → BitVec 32
  | 0, x => x
  | n + 1, x => stn n (st32 x)
/-- The sum over bytes. -/
def c32L : List UInt8 → BitVec 32 → BitVec 32
  | [], x => x
  | b :: l, x => c32L l (stn 8 (x ^^^ BitVec.ofNat 32 b.toNat))
def sum32 (s : ByteArray) : BitVec 32 := c32L s.data.toList 4294967295#32 ^^^ 4294967295#32

theorem bv32_int (x : BitVec 32) : BitVec.ofInt 32 (x.toNat : Int) = x := by
  rw [BitVec.ofInt_natCast, BitVec.ofNat_toNat]; simp
theorem u32_nat (v : BitVec 32) : IntKind.u32.wrap (v.toNat : Int) = v.toNat := by
  have := v.isLt
  simp [IntKind.wrap, IntKind.bits, IntKind.signed]
  omega
theorem xor_u32 (a b : BitVec 32) : bits .xor .u32 (a.toNat : Int) (b.toNat : Int) = ((a ^^^ b).toNat : Int) := by
  show IntKind.u32.wrap ((BitVec.ofInt 32 (a.toNat : Int) ^^^ BitVec.ofInt 32 (b.toNat : Int)).toNat : Int) = _
  rw [bv32_int, bv32_int, u32_nat]
theorem and1_u32 (a : BitVec 32) : bits .and .u32 (a.toNat : Int) 1 = (a.toNat : Int) % 2 := by
  show IntKind.u32.wrap ((BitVec.ofInt 32 (a.toNat : Int) &&& BitVec.ofInt 32 1).toNat : Int) = _
  rw [bv32_int]
  have e : (a &&& BitVec.ofInt 32 1).toNat = a.toNat % 2 := by
    rw [BitVec.toNat_and, show (BitVec.ofInt 32 1).toNat = 2 ^ 1 - 1 from rfl, Nat.and_two_pow_sub_one_eq_mod]
  rw [e, show ((a.toNat % 2 : Nat) : Int) = (a.toNat : Int) % 2 from Int.natCast_emod ..]
  simp [IntKind.wrap, IntKind.bits, IntKind.signed]
  omega
theorem half_u32 (a : BitVec 32) : ((a >>> 1).toNat : Int) = (a.toNat : Int) / 2 := by
  rw [BitVec.toNat_ushiftRight, Nat.shiftRight_eq_div_pow]; rfl
theorem st32_odd (a : BitVec 32) (h : (a.toNat : Int) % 2 = 1) : ((st32 a).toNat : Int) = bits .xor .u32 ((a.toNat : Int) / 2) 3988292384 := by
  unfold st32
  rw [if_pos (by omega), ← half_u32]
  exact (xor_u32 (a >>> 1) 3988292384#32).symm
theorem st32_even (a : BitVec 32) (h : (a.toNat : Int) % 2 = 0) : ((st32 a).toNat : Int) = (a.toNat : Int) / 2 := by
  unfold st32
  rw [if_neg (by omega), half_u32]
theorem bv32_bd (a : BitVec 32) : 0 ≤ (a.toNat : Int) ∧ (a.toNat : Int) ≤ 4294967295 := by have := a.isLt; omega

theorem step32_any (w : World) (x : BitVec 32) : Calls Try.prog 38 #[.int .u32 x.toNat] w fun e w' => e = .returned (.int .u32 (stn 8 x).toNat) ∧ w = w' := by
  generalize hr : stn 8 x = r
  have Hr := Lib.hid hr
  clear hr
  go_enter Try.func38, Try.ntmps38
  go_wp2_with fail
  go_loopg [0, 4] 8 (fun g a i wr => ∃ (k : Nat) (y : BitVec 32), k + g = 8 ∧ i = .int .i64 k ∧ a = .int .u32 y.toNat ∧ Hid (stn g y = r) ∧ wr = w)
  case atStart => exact ⟨0, x, by omega, rfl, rfl, Hr, rfl⟩
  case round =>
    obtain ⟨k, y, hk, rfl, rfl, Hy, rfl⟩ := hrel
    by_cases hlt : k < 8
    · obtain ⟨j, rfl⟩ : ∃ j, gk = j + 1 := ⟨gk - 1, by omega⟩
      have hb := bv32_bd y
      have ha := and1_u32 y
      rcases (by omega : (y.toNat : Int) % 2 = 0 ∨ (y.toNat : Int) % 2 = 1) with ht | ht
      · rw [ht] at ha
        have Hc := Lib.hid (st32_even y ht)
        clear ht
        generalize hyn : (y.toNat : Int) = yn at *
        go_wp2_with fail
        go_roundg j
        case rel => exact ⟨k + 1, st32 y, by omega, by go_num, by rw [Hc.out], Hy, rfl⟩
        case measure => omega
      · rw [ht] at ha
        have Hc := Lib.hid (st32_odd y ht)
        clear ht
        generalize hyn : (y.toNat : Int) = yn at *
        go_wp2_with fail
        go_roundg j
        case rel => exact ⟨k + 1, st32 y, by omega, by go_num, by rw [Hc.out], Hy, rfl⟩
        case measure => omega
    · obtain rfl : gk = 0 := by omega
      obtain rfl : k = 8 := by omega
      go_wp2
      go_returns
      exact ⟨by rw [← Hy.out]; rfl, rfl⟩

theorem rstep32_any (w : World) (x : BitVec 32) : Calls Try.prog 39 #[.int .u32 x.toNat] w fun e w' => e = .returned (.int .u32 (stn 8 x).toNat) ∧ w = w' := by
  generalize hr : stn 8 x = r
  have Hr := Lib.hid hr
  clear hr
  go_enter Try.func39, Try.ntmps39
  go_wp2_with fail
  go_loopg [0, 3] 8 (fun g a i wr => ∃ (k : Nat) (y : BitVec 32), k + g = 8 ∧ i = .int .i64 k ∧ a = .int .u32 y.toNat ∧ Hid (stn g y = r) ∧ wr = w)
  case atStart => exact ⟨0, x, by omega, rfl, rfl, Hr, rfl⟩
  case round =>
    obtain ⟨k, y, hk, rfl, rfl, Hy, rfl⟩ := hrel
    by_cases hlt : k < 8
    · obtain ⟨j, rfl⟩ : ∃ j, gk = j + 1 := ⟨gk - 1, by omega⟩
      have hb := bv32_bd y
      rcases (by omega : (y.toNat : Int) % 2 = 0 ∨ (y.toNat : Int) % 2 = 1) with ht | ht
      · have Hc := Lib.hid (st32_even y ht)
        have hm : (y.toNat : Int).tmod 2 = 0 := by rw [Int.tmod_eq_emod_of_nonneg (by omega)]; exact ht
        have hd : (y.toNat : Int).tdiv 2 = (y.toNat : Int) / 2 := Int.tdiv_eq_ediv_of_nonneg (by omega)
        clear ht
        generalize hyn : (y.toNat : Int) = yn at *
        go_wp2_with fail
        go_roundg j
        case rel => exact ⟨k + 1, st32 y, by omega, by go_num, by rw [Hc.out], Hy, rfl⟩
        case measure => omega
      · have Hc := Lib.hid (st32_odd y ht)
        have hm : (y.toNat : Int).tmod 2 = 1 := by rw [Int.tmod_eq_emod_of_nonneg (by omega)]; exact ht
        have hd : (y.toNat : Int).tdiv 2 = (y.toNat : Int) / 2 := Int.tdiv_eq_ediv_of_nonneg (by omega)
        clear ht
        generalize hyn : (y.toNat : Int) = yn at *
        go_wp2_with fail
        go_roundg j
        case rel => exact ⟨k + 1, st32 y, by omega, by go_num, by rw [Hc.out], Hy, rfl⟩
        case measure => omega
    · obtain rfl : gk = 0 := by omega
      obtain rfl : k = 8 := by omega
      go_wp2
      go_returns
      exact ⟨by rw [← Hy.out]; rfl, rfl⟩

theorem c32_cons (s : ByteArray) (k : Nat) (h : k < s.size) (x : BitVec 32) : c32L (s.data.toList.drop k) x = c32L (s.data.toList.drop (k + 1)) (stn 8 (x ^^^ BitVec.ofInt 32 (by_ s k))) := by
  have hl : k < s.data.toList.length := by simpa using h
  rw [List.drop_eq_getElem_cons hl]
  show c32L _ (stn 8 (x ^^^ BitVec.ofNat 32 _)) = _
  unfold by_
  rw [List.getD_eq_getElem?_getD, List.getElem?_eq_getElem hl, BitVec.ofInt_natCast]
  rfl
theorem c32_end (s : ByteArray) (x : BitVec 32) : c32L (s.data.toList.drop s.size) x = x := by
  rw [List.drop_eq_nil_of_le (by simp)]
  rfl
theorem xor_by (x : BitVec 32) (s : ByteArray) (k : Nat) : bits .xor .u32 (x.toNat : Int) (by_ s k) = ((x ^^^ BitVec.ofInt 32 (by_ s k)).toNat : Int) := by
  have hb := by_bd s k
  rw [← xor_u32]
  congr 1
  obtain ⟨m, hm⟩ : ∃ m : Nat, by_ s k = (m : Int) := ⟨(by_ s k).toNat, by omega⟩
  rw [hm, BitVec.ofInt_natCast, BitVec.toNat_ofNat, Nat.mod_eq_of_lt (by omega)]

theorem sum32_any (w : World) (s : ByteArray) (hs : s.size ≤ maxLen) : Calls Try.prog 25 #[.string s] w fun e w' => e = .returned (.int .u32 (sum32 s).toNat) ∧ Chg [] w w' := by
  unfold maxLen at hs
  obtain ⟨w1, cap, hcv, hcell, hX⟩ := bytes_conv w s
  have Hr := Lib.hid (show c32L (s.data.toList.drop 0) 4294967295#32 = c32L s.data.toList 4294967295#32 from rfl)
  unfold sum32
  generalize c32L s.data.toList 4294967295#32 = r at *
  have e0 : (4294967295 : Int) = ((4294967295#32 : BitVec 32).toNat : Int) := rfl
  go_enter Try.func25, Try.ntmps25
  go_wp2_with fail
  generalize hz : w.heap.size = z at *
  go_loopg [3, 5, 9] s.size (fun g a b i wr => ∃ (k : Nat) (y : BitVec 32), k + g = s.size ∧ i = .int .i64 k ∧ a = .int .u32 y.toNat ∧ Hid (c32L (s.data.toList.drop k) y = r) ∧ wr = w1)
  case atStart => exact ⟨0, 4294967295#32, by omega, rfl, rfl, Hr, rfl⟩
  case round =>
    clear e0
    obtain ⟨k, y, hk, rfl, rfl, Hy, rfl⟩ := hrel
    by_cases hlt : k < s.size
    · have hb := by_bd s k
      have hcl := hcell k hlt
      rw [by_get s k hlt] at hcl
      clear hcell
      have hx := xor_by y s k
      have Hc := Lib.hid (c32_cons s k hlt y)
      have hyb := bv32_bd y
      obtain ⟨q, hq⟩ : ∃ q : BitVec 32, q = y ^^^ BitVec.ofInt 32 (by_ s k) := ⟨_, rfl⟩
      rw [← hq] at hx Hc
      clear hq
      generalize hyn : (y.toNat : Int) = yn at *
      have Hyn := Lib.hid hyn
      clear hyn
      go_wp2_with fail
      refine (step32_any _ q).mono ?_; rintro e w' ⟨rfl, rfl⟩
      go_wp2_with fail
      go_roundg (gk - 1)
      case rel => exact ⟨k + 1, _, by omega, by go_num, rfl, Lib.hid (Hc.out.symm.trans Hy.out), rfl⟩
      case measure => omega
    · obtain rfl : gk = 0 := by omega
      obtain rfl : k = s.size := by omega
      have hx : bits .xor .u32 (y.toNat : Int) 4294967295 = ((y ^^^ 4294967295#32).toNat : Int) := xor_u32 y 4294967295#32
      have Hz := Lib.hid (Hy.out.symm.trans (c32_end s y))
      obtain ⟨q, hq⟩ : ∃ q : BitVec 32, q = y ^^^ 4294967295#32 := ⟨_, rfl⟩
      rw [← hq] at hx
      have Hq := Lib.hid hq
      clear hq
      generalize (y.toNat : Int) = yn at *
      go_wp2
      go_returns
      exact ⟨by rw [Hz.out, Hq.out]; rfl, hX⟩

theorem rsum32_any (w : World) (s : ByteArray) (hs : s.size ≤ maxLen) : Calls Try.prog 29 #[.string s] w fun e w' => e = .returned (.int .u32 (sum32 s).toNat) ∧ w = w' := by
  unfold maxLen at hs
  have Hr := Lib.hid (show c32L (s.data.toList.drop 0) 4294967295#32 = c32L s.data.toList 4294967295#32 from rfl)
  unfold sum32
  generalize c32L s.data.toList 4294967295#32 = r at *
  go_enter Try.func29, Try.ntmps29
  go_wp2_with fail
  go_loopg [3, 4] s.size (fun g a i wr => ∃ (k : Nat) (y : BitVec 32), k + g = s.size ∧ i = .int .i64 k ∧ a = .int .u32 y.toNat ∧ Hid (c32L (s.data.toList.drop k) y = r) ∧ wr = w)
  case atStart => exact ⟨0, 4294967295#32, by omega, rfl, rfl, Hr, rfl⟩
  case round =>
    obtain ⟨k, y, hk, rfl, rfl, Hy, rfl⟩ := hrel
    by_cases hlt : k < s.size
    · have hb := by_bd s k
      have hg := by_get s k hlt
      have hx := xor_by y s k
      have Hc := Lib.hid (c32_cons s k hlt y)
      have hyb := bv32_bd y
      obtain ⟨q, hq⟩ : ∃ q : BitVec 32, q = y ^^^ BitVec.ofInt 32 (by_ s k) := ⟨_, rfl⟩
      rw [← hq] at hx Hc
      clear hq
      generalize hyn : (y.toNat : Int) = yn at *
      have Hyn := Lib.hid hyn
      clear hyn
      go_wp2_with fail
      refine (rstep32_any _ q).mono ?_; rintro e w' ⟨rfl, rfl⟩
      go_wp2_with fail
      go_roundg (gk - 1)
      case rel => exact ⟨k + 1, _, by omega, by go_num, rfl, Lib.hid (Hc.out.symm.trans Hy.out), rfl⟩
      case measure => omega
    · obtain rfl : gk = 0 := by omega
      obtain rfl : k = s.size := by omega
      have hx : bits .xor .u32 (y.toNat : Int) 4294967295 = ((y ^^^ 4294967295#32).toNat : Int) := xor_u32 y 4294967295#32
      have Hz := Lib.hid (Hy.out.symm.trans (c32_end s y))
      obtain ⟨q, hq⟩ : ∃ q : BitVec 32, q = y ^^^ 4294967295#32 := ⟨_, rfl⟩
      rw [← hq] at hx
      have Hq := Lib.hid hq
      clear hq
      generalize (y.toNat : Int) = yn at *
      go_wp2
      go_returns
      exact ⟨by rw [Hz.out, Hq.out]; rfl, rfl⟩
end Go.Proofs.Ytjneidmkllhbjaa
