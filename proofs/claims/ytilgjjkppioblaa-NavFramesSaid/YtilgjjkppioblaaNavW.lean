/- Package nav: word: a number of four bytes. -/
import Derived.Test.YtilgjjkppioblaaNavP
import Derived.Laws.IdiomStrings
namespace Go.Proofs.Ytilgjjkppioblaa
open Go.RowKit

/-- '[]byte(s)': a new row of the string's bytes. -/
theorem bytes_conv (w : World) (r : ByteArray) : ∃ w' cap, (convert 9 48 (.string r)).run Try.prog w = .ok (.slice (some ⟨w.heap.size, 0, none⟩) r.size cap) w' ∧
    (∀ j (h : j < r.size), w'.cell? ⟨w.heap.size, j, none⟩ = some (.int .u8 (r[j].toNat : Int))) ∧ Chg [] w w' := by
  refine ⟨_, _, run_bytes_of_string w 9 48 5 r und_str und_bytes und_u8, fun j h => ?_, (Chg.refl _ _).drew.alloc _⟩
  have h1 := World.cell?_alloc_mark w.drew (bytesRow r (grownCap w r.size 0 5)) 5 ((bytesRow r (grownCap w r.size 0 5)).size, (bytesRow r (grownCap w r.size 0 5)).size + 1) j
  have h2 := bytesRow_at r (grownCap w r.size 0 5) j h
  exact h1.trans h2

def wd (a b c d : Int) : Int := if 2147483648 ≤ a * 16777216 + b * 65536 + c * 256 + d then a * 16777216 + b * 65536 + c * 256 + d - 4294967296 else a * 16777216 + b * 65536 + c * 256 + d
/-- Byte i of a string (0 behind its end). -/
def by_ (s : ByteArray) (i : Nat) : Int := ((s.data.toList.getD i 0).toNat : Int)

theorem or32 (a b : Int) (h0 : 0 ≤ a) (h1 : a < 4294967296) (h2 : a % 256 = 0) (h3 : 0 ≤ b) (h4 : b < 256) : bits .or .u32 a b = a + b := by
  obtain ⟨k, rfl⟩ : ∃ k : Nat, a = ((256 * k : Nat) : Int) := ⟨(a / 256).toNat, by omega⟩
  obtain ⟨m, rfl⟩ : ∃ m : Nat, b = (m : Int) := ⟨b.toNat, by omega⟩
  have hm : m < 2 ^ 8 := by omega
  have e := Nat.two_pow_add_eq_or_of_lt hm k
  have e1 : (BitVec.ofInt 32 ((256 * k : Nat) : Int)).toNat = 256 * k := by
    rw [BitVec.ofInt_natCast, BitVec.toNat_ofNat]; exact Nat.mod_eq_of_lt (by omega)
  have e2 : (BitVec.ofInt 32 (m : Int)).toNat = m := by
    rw [BitVec.ofInt_natCast, BitVec.toNat_ofNat]; exact Nat.mod_eq_of_lt (by omega)
  show IntKind.u32.wrap ((BitVec.ofInt 32 ((256 * k : Nat) : Int) ||| BitVec.ofInt 32 (m : Int)).toNat : Int) = _
  rw [BitVec.toNat_or, e1, e2, show (256 : Nat) = 2 ^ 8 from rfl, ← e]
  simp [IntKind.wrap, IntKind.bits, IntKind.signed]
  omega

theorem word_eq (a b c d : Int) (ha : 0 ≤ a ∧ a ≤ 255) (hb : 0 ≤ b ∧ b ≤ 255) (hc : 0 ≤ c ∧ c ≤ 255) (hd : 0 ≤ d ∧ d ≤ 255) :
    wrap64 (wrap32 (bits .or .u32 (bits .or .u32 (bits .or .u32 (bits .or .u32 0 a * 256 % 4294967296) b * 256 % 4294967296) c * 256 % 4294967296) d)) = wd a b c d := by
  rw [or32 0 a (by omega) (by omega) (by omega) (by omega) (by omega)]
  rw [or32 _ b (by omega) (by omega) (by omega) (by omega) (by omega)]
  rw [or32 _ c (by omega) (by omega) (by omega) (by omega) (by omega)]
  rw [or32 _ d (by omega) (by omega) (by omega) (by omega) (by omega)]
  unfold wd wrap64 wrap32
  split <;> omega

set_option maxHeartbeats 1000000 in
theorem word_any (w : World) (s : ByteArray) (h4 : 4 ≤ s.size) : Calls Try.prog 23 #[.string s] w fun e w' => e = .returned (.int .i64 (wd (by_ s 0) (by_ s 1) (by_ s 2) (by_ s 3))) ∧ Chg [] w w' := by
  obtain ⟨w1, cap, hc, hcell, hX⟩ := bytes_conv w (s.extract 0 4)
  have hsz : (s.extract 0 4).size = 4 := by simp; omega
  rw [hsz] at hc
  have hcb : ∀ j, j < 4 → w1.cell? ⟨w.heap.size, j, none⟩ = some (.int .u8 (by_ s j)) := fun j hj => by
    rw [hcell j (by omega)]
    have e : (s.extract 0 4)[j]'(by omega) = s.data.toList.getD j 0 := by
      have hj2 : j < s.data.toList.length := by simp; omega
      rw [List.getD_eq_getElem?_getD, List.getElem?_eq_getElem hj2, ByteArray.getElem_extract]
      simp
      rfl
    unfold by_
    rw [e]
  have b0 := hcb 0 (by omega)
  have b1 := hcb 1 (by omega)
  have b2 := hcb 2 (by omega)
  have b3 := hcb 3 (by omega)
  clear hcb hcell
  have hb : ∀ j, 0 ≤ by_ s j ∧ by_ s j ≤ 255 := fun j => by
    unfold by_
    have := (s.data.toList.getD j 0).toNat_lt
    omega
  have r0 := hb 0
  have r1 := hb 1
  have r2 := hb 2
  have r3 := hb 3
  clear hb
  generalize by_ s 0 = x0 at *
  generalize by_ s 1 = x1 at *
  generalize by_ s 2 = x2 at *
  generalize by_ s 3 = x3 at *
  go_enter Try.func23, Try.ntmps23
  go_wp2_with fail
  refine wp_loop_rounds 5 ?_
  rw [rounds_succ]
  go_wp2_with fail
  rw [rounds_succ]
  go_wp2_with fail
  rw [rounds_succ]
  go_wp2_with fail
  rw [rounds_succ]
  go_wp2_with fail
  rw [rounds_succ]
  go_wp2
  go_returns
  exact ⟨ret_int (word_eq _ _ _ _ r0 r1 r2 r3), hX⟩
end Go.Proofs.Ytilgjjkppioblaa
