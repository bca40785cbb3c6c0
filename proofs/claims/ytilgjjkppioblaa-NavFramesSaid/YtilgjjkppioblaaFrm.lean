/- Package frame and its reference: the frame that may be, and its bytes. -/
import Derived.Test.YtilgjjkppioblaaCrc
import Derived.Deep.RegionWith
namespace Go.Proofs.Ytilgjjkppioblaa
open Go.RowKit

structure FV where (k : Int) (p : ByteArray)
def FV.cells (f : FV) : Array Value := #[.int .i64 f.k, .string f.p]
def FV.right (f : FV) : Bool := decide (0 ≤ f.k) && decide (f.k ≤ 255) && decide (f.p.size ≤ 64)
def FV.text (f : FV) : ByteArray := strOfNums [f.k, f.p.size] ++ f.p
def FV.whole (f : FV) : ByteArray := strOfNums [165, 90] ++ f.text ++ strOfNums [sum16 f.text / 256, sum16 f.text % 256]
def FV.print (f : FV) : ByteArray := if f.right then f.whole else ByteArray.empty
theorem FV.right_iff (f : FV) : f.right = true ↔ 0 ≤ f.k ∧ f.k ≤ 255 ∧ f.p.size ≤ 64 := by
  unfold FV.right; simp [and_assoc]

/-- A row of two bytes made on the spot, and its string. -/
theorem lit2 (w : World) (a b : Int) : (convert 48 9 (.slice (some ⟨w.heap.size, 0, none⟩) 2 2)).run Try.prog (w.alloc (.cells #[.int .u8 a, .int .u8 b] 5)) =
    .ok (.string (strOfNums [a, b])) (w.alloc (.cells #[.int .u8 a, .int .u8 b] 5)) :=
  (BRow.lit w 0 [a, b] #[.int .u8 a, .int .u8 b] 2 rfl rfl (by omega) (by omega)).string

theorem conv_at {w : World} {b : Nat} {x y : Int} (h : At w b #[.int .u8 x, .int .u8 y]) : (convert 48 9 (.slice (some ⟨b, 0, none⟩) 2 2)).run Try.prog w = .ok (.string (strOfNums [x, y])) w := by
  refine run_convert_bytes_arg w 48 5 und_bytes und_u8 b 0 2 2 [x, y] rfl (fun i hi => ?_) 9 und_str
  rw [Nat.zero_add, h.cell i]
  match i, hi with
  | 0, _ => rfl
  | 1, _ => rfl
  | n + 2, hi => omega

theorem fright_any (w : World) (f : FV) : Calls Try.prog 30 #[.agg f.cells] w fun e w' => e = .returned (.bool f.right) ∧ Chg [] w w' := by
  have Hr := Lib.hid (show f.right = (decide (0 ≤ f.k) && decide (f.k ≤ 255) && decide (f.p.size ≤ 64)) from rfl)
  have hA := At.new w f.cells 38
  have hX : Chg [] w (w.alloc (.cells f.cells 38)) := (Chg.refl _ _).alloc _
  rw [show f.cells = #[.int .i64 f.k, .string f.p] from rfl] at *
  have c0 := hA.cell 0
  have c1 := hA.cell 1
  generalize f.right = r at *
  go_enter Try.func30, Try.ntmps30
  by_cases h1 : 0 ≤ f.k
  · by_cases h2 : f.k ≤ 255
    · by_cases h3 : f.p.size ≤ 64
      · go_wp2
        go_returns
        exact ⟨ret_bool (by rw [Hr.out, Bool.eq_iff_iff]; simp; omega), hX⟩
      · go_wp2
        go_returns
        exact ⟨ret_bool (by rw [Hr.out, Bool.eq_iff_iff]; simp; omega), hX⟩
    · go_wp2
      go_returns
      exact ⟨ret_bool (by rw [Hr.out, Bool.eq_iff_iff]; simp; omega), hX⟩
  · go_wp2
    go_returns
    exact ⟨ret_bool (by rw [Hr.out, Bool.eq_iff_iff]; simp; omega), hX⟩

theorem text_size (f : FV) : f.text.size = f.p.size + 2 := by
  unfold FV.text
  rw [ByteArray.size_append, strOfNums_size]
  simp
  omega
theorem fprint_any (w : World) (f : FV) : Calls Try.prog 21 #[.agg f.cells] w fun e w' => e = .returned (.string f.print) ∧ Chg [] w w' := by
  have Hp := Lib.hid (show f.print = if f.right then f.whole else ByteArray.empty from rfl)
  have HR := fun w => fright_any w f
  have hri := f.right_iff
  have hA := At.new w f.cells 38
  have hX : Chg [] w (w.alloc (.cells f.cells 38)) := (Chg.refl _ _).alloc _
  rw [show f.cells = #[.int .i64 f.k, .string f.p] from rfl] at *
  have c0 := hA.cell 0
  have c1 := hA.cell 1
  generalize f.print = res at *
  generalize f.right = r at *
  go_enter Try.func21, Try.ntmps21
  go_wp2_with fail
  refine (HR _).mono ?_; rintro e w1 ⟨rfl, hX1⟩
  cases r
  · go_wp2
    go_returns
    exact ⟨by rw [Hp.out]; rfl, hX.trans hX1⟩
  · obtain ⟨k0, k1, ps⟩ := hri.1 rfl
    clear hri HR c0 c1
    replace hA := hX1.at hA (by simp)
    replace hX := hX.trans hX1
    clear hX1
    have c0 := hA.cell 0
    have c1 := hA.cell 1
    have L := lit2 w1 f.k f.p.size
    have d1 := (hA.alloc (.cells #[.int .u8 f.k, .int .u8 f.p.size] 5)).cell 1
    replace hX := hX.alloc (.cells #[.int .u8 f.k, .int .u8 f.p.size] 5)
    have hz := text_size f
    have hs1 : (strOfNums [f.k, (f.p.size : Int)]).size = 2 := by rw [strOfNums_size]; rfl
    have Ht : strOfNums [f.k, ↑f.p.size] ++ f.p = f.text := rfl
    go_wp2_with fail
    clear L d1 c0 c1 hs1

    clear Ht
    have hsb := sum16_bd f.text
    refine (sum16_any _ f.text (by unfold maxLen; omega)).mono ?_; rintro e w2 ⟨rfl, hX2⟩
    replace hX := hX.trans hX2
    clear hX2
    replace Hp := Lib.hid (Hp.out.trans (if_pos trivial))
    have Hw := Lib.hid (show f.whole = strOfNums [165, 90] ++ f.text ++ strOfNums [sum16 f.text / 256, sum16 f.text % 256] from rfl)
    generalize f.whole = q at *
    generalize sum16 f.text = s at *
    generalize f.text = t at *
    have hs2 : (strOfNums [165, 90]).size = 2 := by rw [strOfNums_size]; rfl
    have hs3 : (strOfNums [165, 90] ++ t).size = f.p.size + 4 := by rw [ByteArray.size_append, hs2, hz]; omega
    have hs4 : (strOfNums [s / 256, s % 256]).size = 2 := by rw [strOfNums_size]; rfl
    have L := lit2 w2 165 90
    have L2 := lit2 (w2.alloc (.cells #[.int .u8 165, .int .u8 90] 5)) (s / 256) (s % 256)
    rw [show (w2.alloc (.cells #[.int .u8 165, .int .u8 90] 5)).heap.size = w2.heap.size + 1 by simp] at L2
    go_wp2
    go_returns
    exact ⟨by rw [Hp.out, Hw.out]; rfl, (hX.alloc _).alloc _⟩

end Go.Proofs.Ytilgjjkppioblaa
