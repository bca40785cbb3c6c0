/- Package frame: the frame that bytes begin with. -/
import Derived.Test.YtilgjjkppioblaaFrm
import Derived.Deep.Quiet
namespace Go.Proofs.Ytilgjjkppioblaa
open Go.RowKit

def FV.none : FV := ⟨0, ByteArray.empty⟩
def badF (s : ByteArray) : Bool := decide ((0 < s.size ∧ by_ s 0 ≠ 165) ∨ (1 < s.size ∧ by_ s 1 ≠ 90) ∨ (3 < s.size ∧ 64 < by_ s 3))
def shortF (s : ByteArray) : Bool := decide (s.size < 4 ∨ (s.size : Int) < 6 + by_ s 3)
def lenF (s : ByteArray) : Nat := (by_ s 3).toNat
def frmF (s : ByteArray) : FV := ⟨by_ s 2, s.extract 4 (4 + lenF s)⟩
def sumF (s : ByteArray) : Bool := sum16 (s.extract 2 (4 + lenF s)) == by_ s (4 + lenF s) * 256 + by_ s (5 + lenF s)
structure RD where (f : FV) (n : Nat) (e : Int)
/-- What is read: the frame, how many bytes it has, an error. -/
def fread (s : ByteArray) : RD := if badF s then ⟨FV.none, 0, 3⟩ else if shortF s then ⟨FV.none, 0, 5⟩ else if sumF s then ⟨frmF s, 6 + lenF s, 0⟩ else ⟨FV.none, 0, 4⟩
theorem none_cells : FV.none.cells = #[.int .i64 0, .string ByteArray.empty] := rfl
theorem lenF_eq (s : ByteArray) : ((lenF s : Nat) : Int) = by_ s 3 := by have := by_bd s 3; unfold lenF; omega

theorem begins_any (w : World) (s : ByteArray) (hs : s.size ≤ maxLen) : Calls Try.prog 32 #[.string s] w fun e w' => e = .returned (.bool (!badF s)) ∧ w = w' := by
  unfold maxLen at hs
  have Hb := Lib.hid (show badF s = decide ((0 < s.size ∧ by_ s 0 ≠ 165) ∨ (1 < s.size ∧ by_ s 1 ≠ 90) ∨ (3 < s.size ∧ 64 < by_ s 3)) from rfl)
  generalize badF s = r at *
  have r3 := by_bd s 3
  have r0 := by_bd s 0
  have r1 := by_bd s 1
  go_enter Try.func32, Try.ntmps32
  by_cases h0 : s.size = 0
  · go_wp2
    go_returns
    exact ⟨ret_bool (by rw [Hb.out]; simp [h0]), rfl⟩
  have g0 := by_get s 0 (by omega)
  by_cases e0 : by_ s 0 = 165
  · by_cases h1 : s.size = 1
    · go_wp2
      go_returns
      exact ⟨ret_bool (by rw [Hb.out]; simp [h1, e0]), rfl⟩
    have g1 := by_get s 1 (by omega)
    have z0 : 1 < s.size := by omega
    by_cases e1 : by_ s 1 = 90
    · by_cases h3 : s.size ≤ 3
      · go_wp2
        go_returns
        exact ⟨ret_bool (by rw [Hb.out]; simp [e0, e1]; omega), rfl⟩
      · have g3 := by_get s 3 (by omega)
        by_cases e3 : by_ s 3 ≤ 64
        · go_wp2
          go_returns
          exact ⟨ret_bool (by rw [Hb.out]; simp [e0, e1, e3]), rfl⟩
        · go_wp2
          go_returns
          exact ⟨ret_bool (by rw [Hb.out]; simp [e0, e1]; omega), rfl⟩
    · go_wp2
      go_returns
      exact ⟨ret_bool (by rw [Hb.out]; simp [e1, z0]), rfl⟩
  · have z0 : 0 < s.size := by omega
    go_wp2
    go_returns
    exact ⟨ret_bool (by rw [Hb.out]; simp [e0, z0]), rfl⟩

theorem or16 (a b : Int) (h0 : 0 ≤ a) (h1 : a ≤ 255) (h3 : 0 ≤ b) (h4 : b ≤ 255) : bits .or .u16 (a * 256) b = a * 256 + b := by
  obtain ⟨k, rfl⟩ : ∃ k : Nat, a = (k : Int) := ⟨a.toNat, by omega⟩
  obtain ⟨m, rfl⟩ : ∃ m : Nat, b = (m : Int) := ⟨b.toNat, by omega⟩
  have hm : m < 2 ^ 8 := by omega
  have e := Nat.two_pow_add_eq_or_of_lt hm k
  have e1 : (BitVec.ofInt 16 ((k : Int) * 256)).toNat = 256 * k := by
    rw [show (k : Int) * 256 = ((256 * k : Nat) : Int) by omega, BitVec.ofInt_natCast, BitVec.toNat_ofNat]; exact Nat.mod_eq_of_lt (by omega)
  have e2 : (BitVec.ofInt 16 (m : Int)).toNat = m := by
    rw [BitVec.ofInt_natCast, BitVec.toNat_ofNat]; exact Nat.mod_eq_of_lt (by omega)
  show IntKind.u16.wrap ((BitVec.ofInt 16 ((k : Int) * 256) ||| BitVec.ofInt 16 (m : Int)).toNat : Int) = _
  rw [BitVec.toNat_or, e1, e2, show (256 : Nat) = 2 ^ 8 from rfl, ← e]
  simp [IntKind.wrap, IntKind.bits, IntKind.signed]
  omega

theorem fread_bad {s : ByteArray} (h : badF s = true) : fread s = ⟨FV.none, 0, 3⟩ := by unfold fread; rw [if_pos h]
theorem fread_short {s : ByteArray} (h : badF s = false) (h2 : shortF s = true) : fread s = ⟨FV.none, 0, 5⟩ := by unfold fread; rw [if_neg (by simp [h]), if_pos h2]
theorem fread_sum {s : ByteArray} (h : badF s = false) (h2 : shortF s = false) (h3 : sumF s = false) : fread s = ⟨FV.none, 0, 4⟩ := by unfold fread; rw [if_neg (by simp [h]), if_neg (by simp [h2]), if_neg (by simp [h3])]
theorem fread_ok {s : ByteArray} (h : badF s = false) (h2 : shortF s = false) (h3 : sumF s = true) : fread s = ⟨frmF s, 6 + lenF s, 0⟩ := by unfold fread; rw [if_neg (by simp [h]), if_neg (by simp [h2]), if_pos h3]
theorem short_iff (s : ByteArray) : shortF s = true ↔ s.size < 4 ∨ (s.size : Int) < 6 + by_ s 3 := by unfold shortF; simp
theorem bad_no {s : ByteArray} (h : badF s = false) : ¬((0 < s.size ∧ by_ s 0 ≠ 165) ∨ (1 < s.size ∧ by_ s 1 ≠ 90) ∨ (3 < s.size ∧ 64 < by_ s 3)) := by
  unfold badF at h
  exact of_decide_eq_false h

set_option maxHeartbeats 1000000 in
theorem fread_any (w : World) (s : ByteArray) (hs : s.size ≤ maxLen) : Calls Try.prog 28 #[.string s] w fun e w' => e = .returned (.tuple #[.agg (fread s).f.cells, .int .i64 (fread s).n, .int .i64 (fread s).e]) ∧ Chg [] w w' := by
  have HB := fun w => begins_any w s hs
  unfold maxLen at hs
  cases hb : badF s
  · rw [hb] at HB
    cases hsh : shortF s
    · have h1 : ¬(s.size < 4 ∨ (s.size : Int) < 6 + by_ s 3) := fun h => by rw [(short_iff s).2 h] at hsh; cases hsh
      have hl := lenF_eq s
      have hb3 := by_bd s 3
      have hn := bad_no hb
      have Hf := Lib.hid (fread_sum hb hsh)
      have Hg := Lib.hid (fread_ok hb hsh)
      have Hv := Lib.hid (show frmF s = ⟨by_ s 2, s.extract 4 (4 + lenF s)⟩ from rfl)
      have hq := Lib.hid (show sumF s = (sum16 (s.extract 2 (4 + lenF s)) == by_ s (4 + lenF s) * 256 + by_ s (5 + lenF s)) from rfl)
      clear hb hsh
      generalize sumF s = q at *
      generalize fread s = res at *
      generalize frmF s = fv at *
      have h4 : 4 ≤ s.size := by omega
      have g3 := by_get s 3 h4
      have h6 : 6 + lenF s ≤ s.size := by omega
      have hl64 : lenF s ≤ 64 := by omega
      rw [← hl] at g3
      clear h1 hb3 hn hl
      generalize lenF s = n at *
      have h5 : 4 + n + 1 < s.size := by omega
      have h45 : 4 + n < s.size := by omega
      have t1 : 0 ≤ 4 + (n : Int) ∧ 4 + (n : Int) < s.size := by omega
      have t2 : 0 ≤ 4 + (n : Int) + 1 ∧ 4 + (n : Int) + 1 < s.size := by omega
      have w1 : IntKind.i64.wrap (4 + (n : Int) + 1) = 4 + (n : Int) + 1 := i64_in _ (by omega) (by omega)
      have ge : ((s[(4 + (n : Int)).toNat]'(by omega)).toNat : Int) = by_ s (4 + n) := (by_get s _ (by omega)).trans (by rw [show (4 + (n : Int)).toNat = 4 + n by omega])
      have gf : ((s[(4 + (n : Int) + 1).toNat]'(by omega)).toNat : Int) = by_ s (4 + n + 1) := (by_get s _ (by omega)).trans (by rw [show (4 + (n : Int) + 1).toNat = 4 + n + 1 by omega])
      have be := by_bd s (4 + n)
      rw [show 5 + n = 4 + n + 1 by omega] at hq
      have bf := by_bd s (4 + n + 1)
      have ho := or16 _ _ be.1 be.2 bf.1 bf.2
      go_enter Try.func28, Try.ntmps28
      go_wp2_with fail
      refine (HB _).mono ?_; rintro e w' ⟨rfl, rfl⟩
      go_wp2_with fail
      go_quiet (fail)
      have S2 := fun w => slice_at w s (i := 2) (j := 4 + (n : Int)) (a := 2) (b := 4 + n) rfl (by omega) (by omega) (by omega)
      go_wp2_with fail
      refine (sum16_any _ _ (by simp [maxLen]; omega)).mono ?_; rintro e w2 ⟨rfl, hX⟩
      have hA := hX.at ((At.new w FV.none.cells 38).drewN nq) (by simp)
      have hY : Chg [] w w2 := (((Chg.refl [] w).alloc (.cells FV.none.cells 38)).drewN nq).trans hX
      rw [none_cells] at hA
      have c0 := hA.cell 0
      have c1 := hA.cell 1
      have f0 := hA.frozen 0
      have f1 := hA.frozen 1
      clear hX ge gf be bf ho S2 w1 t1 t2
      generalize sum16 (s.extract 2 (4 + n)) = sm at *
      generalize by_ s (4 + n) * 256 + by_ s (4 + n + 1) = want at *
      have hzz : w.heap.size ≤ w.heap.size := Nat.le_refl _
      generalize hz : w.heap.size = z at hA c0 c1 f0 f1 hzz ⊢
      cases q
      · have hne : (sm == want) = false := hq.out.symm
        have hr := Hf.out rfl
        clear Hf Hg
        go_wp2_with fail
        have hB := (hA.set 0 (.int .i64 0) rfl).set 1 (.string ByteArray.empty) rfl
        have hZ := (hY.setCell (p := ⟨z, 0, none⟩) (Or.inr (by simp; omega)) (.int .i64 0)).setCell (p := ⟨z, 1, none⟩) (Or.inr (by simp; omega)) (.string ByteArray.empty)
        clear c0 c1
        have d0 := hB.cell 0
        have d1 := hB.cell 1
        exact bodyPost_ret (v := .tuple #[.agg #[.int .i64 0, .string ByteArray.empty], .int .i64 0, .int .i64 4]) (by simp [results, Try.results28, go_sem, d0, d1]) rfl ⟨by rw [hr]; rfl, hZ⟩
      · have hne : (sm == want) = true := hq.out.symm
        have S3 := fun w => slice_at w s (i := 4) (j := 4 + (n : Int)) (a := 4) (b := 4 + n) rfl (by omega) (by omega) (by omega)
        have h2 : 2 < s.size := by omega
        have g2 := by_get s 2 h2
        have w1 : IntKind.i64.wrap (4 + (n : Int) + 2) = 4 + (n : Int) + 2 := i64_in _ (by omega) (by omega)
        have hr := Hg.out rfl
        have hv := Hv.out
        clear Hf Hg Hv
        have b2 := by_bd s 2
        go_wp2_with fail
        go_region
        have hB := ((hA.set 0 (.int .i64 (by_ s 2)) rfl).set 1 (.string (s.extract 4 (4 + n))) rfl).drew
        have hZ := ((hY.setCell (p := ⟨z, 0, none⟩) (Or.inr (by simp; omega)) (.int .i64 (by_ s 2))).setCell (p := ⟨z, 1, none⟩) (Or.inr (by simp; omega)) (.string (s.extract 4 (4 + n)))).drew
        clear c0 c1
        have d0 := hB.cell 0
        have d1 := hB.cell 1
        go_wp2_with fail
        have hn : (4 + (n : Int) + 2) = ((6 + n : Nat) : Int) := by omega
        exact bodyPost_ret (v := .tuple #[.agg #[.int .i64 (by_ s 2), .string (s.extract 4 (4 + n))], .int .i64 (4 + n + 2), .int .i64 0]) (by simp [results, Try.results28, go_sem, d0, d1]) rfl ⟨by rw [hr, hv, hn]; rfl, hZ⟩
    · have h1 := (short_iff s).1 hsh
      rw [fread_short hb hsh, none_cells]
      clear hb hsh
      have b3 := by_bd s 3
      go_enter Try.func28, Try.ntmps28
      go_wp2_with fail
      refine (HB _).mono ?_; rintro e w' ⟨rfl, rfl⟩
      by_cases h4 : s.size < 4
      · go_wp2
        go_returns
        exact ⟨rfl, (Chg.refl _ _).alloc _⟩
      · have g3 := by_get s 3 (by omega)
        have h2 : (s.size : Int) < 6 + by_ s 3 := by omega
        go_wp2
        go_returns
        exact ⟨rfl, (Chg.refl _ _).alloc _⟩
  · rw [fread_bad hb, none_cells]
    rw [hb] at HB
    go_enter Try.func28, Try.ntmps28
    go_wp2_with fail
    refine (HB _).mono ?_; rintro e w' ⟨rfl, rfl⟩
    go_wp2
    go_returns
    exact ⟨rfl, (Chg.refl _ _).alloc _⟩
end Go.Proofs.Ytilgjjkppioblaa
