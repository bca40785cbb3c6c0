/- Package apogeelaw09: what 'awake' comes to, on numbers. -/
import Derived.Test.YtjneidmkllhbjaaLsv
import Derived.Test.YtjneidmkllhbjaaLrk
namespace Go.Proofs.Ytjneidmkllhbjaa
open Go.RowKit

def laOkB (s : FL) (l : LtV) (n : Nat) : Bool := decide (s.B.size ≤ 4096) && decide (0 ≤ l.base) && decide (l.base + 48 ≤ s.B.size) && decide (0 ≤ l.slot) && decide (l.slot ≤ 1) && decide (0 ≤ l.last.seq) && decide (l.last.seq ≤ 2147483648) && decide (0 ≤ s.wr) && decide (s.wr ≤ n)
theorem laOkB_spec {s : FL} {l : LtV} {n : Nat} (h : laOkB s l n = true) : LaOk s l n := by
  unfold laOkB at h
  simp only [Bool.and_eq_true, decide_eq_true_eq] at h
  obtain ⟨⟨⟨⟨⟨⟨⟨⟨h1, h2⟩, h3⟩, h4⟩, h5⟩, h6⟩, h7⟩, h8⟩, h9⟩ := h
  exact ⟨h1, h2, h3, h4, h5, h6, h7, h8, h9⟩
def k9q1 : RcV := ⟨0, 1, 0, 0, 0, 0, 0, 0, 0⟩
def k9q2 : RcV := ⟨0, 2, 0, 1, 0, 0, 0, 0, 0⟩
def k9q3 : RcV := ⟨0, 3, 0, 0, 0, 0, 0, 0, 0⟩
def k9q4 : RcV := ⟨0, -1, 0, 0, 0, 0, 0, 0, 0⟩
def k9r : RcV := ⟨2, 2, 0, 1, 0, 0, 0, 0, 0⟩
def k9s0 : FL := ⟨rep 60, false, 0, false, 0⟩
def k9l0 : LtV := LtV.open 4 (rep 60)
def k9s1 : FL := saveF k9s0 k9l0 k9q1
def k9l1 : LtV := saveL k9s0 k9l0 k9q1
def k9s2 : FL := saveF k9s1 k9l1 k9q2
def k9l2 : LtV := saveL k9s1 k9l1 k9q2
def k9s3 : FL := ⟨k9s2.B, true, max 10 0, k9s2.off, k9s2.wr⟩
def k9s4 : FL := saveF k9s3 k9l2 k9q3
def k9s5 : FL := ⟨k9s4.B, false, k9s4.tear, false, k9s4.wr⟩
def k9m : LtV := LtV.open 4 k9s5.B
theorem k9_l0 : k9l0.ok = false ∧ k9l0.last = RcV.zero ∧ laOkB k9s0 k9l0 1000 = true := ⟨by kernel_rfl, by kernel_rfl, by kernel_rfl⟩
theorem k9_e1 : saveE k9s0 k9l0 k9q1 = 0 ∧ laOkB k9s1 k9l1 1000 = true ∧ k9s1.tear = 0 := ⟨by kernel_rfl, by kernel_rfl, by kernel_rfl⟩
theorem k9_e2 : saveE k9s1 k9l1 k9q2 = 0 ∧ laOkB k9s3 k9l2 1000 = true ∧ k9s3.tear = 10 := ⟨by kernel_rfl, by kernel_rfl, by kernel_rfl⟩
theorem k9_e3 : saveE k9s3 k9l2 k9q3 = 11 ∧ k9s4.off = true ∧ k9s4.B.size = 60 ∧ saveL k9s3 k9l2 k9q3 = k9l2 := ⟨by kernel_rfl, by kernel_rfl, by kernel_rfl, by kernel_rfl⟩
theorem k9_m : k9m.ok = true ∧ k9m.last = k9r ∧ laOkB k9s5 k9l2 1000 = true ∧ k9s5.tear = 10 := ⟨by kernel_rfl, by kernel_rfl, by kernel_rfl, by kernel_rfl⟩
theorem k9_e4 : saveE k9s5 k9l2 k9q4 = 1 ∧ k9r.right = true := ⟨by kernel_rfl, by kernel_rfl⟩
end Go.Proofs.Ytjneidmkllhbjaa
