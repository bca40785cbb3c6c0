/- Contracts of package tally: three counters behind one object. -/
import Derived.Test.YtnjakhmkpaeifaaCount
import Derived.Test.YtnjakhmkpaeifaaStage
import Derived.RegionTactic
import Derived.BigRegion
import Derived.Handy
namespace Go.Proofs.Ytnjakhmkpaeifaa
open Go.RowKit

/-- A tally's counts and limits; the blocks in which they lie. -/
structure TS where (v d g mv md mg : Int)
structure TB where (t v d g : Nat)
structure TS.ok (s : TS) : Prop where
  v : 0 ≤ s.v ∧ s.v ≤ s.mv ∧ s.mv ≤ 1000000
  d : 0 ≤ s.d ∧ s.d ≤ s.md ∧ s.md ≤ 1000000
  g : 0 ≤ s.g ∧ s.g ≤ s.mg ∧ s.mg ≤ 1000000
def TB.cells (B : TB) : Array Value := #[.pointer (some ⟨B.v, 0, none⟩), .pointer (some ⟨B.d, 0, none⟩), .pointer (some ⟨B.g, 0, none⟩)]
structure Tal (w : World) (B : TB) (s : TS) : Prop where
  t : At w B.t B.cells
  v : Ctr w B.v s.v s.mv
  d : Ctr w B.d s.d s.md
  g : Ctr w B.g s.g s.mg
  tv : B.t ≠ B.v
  td : B.t ≠ B.d
  tg : B.t ≠ B.g
  vd : B.v ≠ B.d
  vg : B.v ≠ B.g
  dg : B.d ≠ B.g
/-- What may change. -/
def TB.cs (B : TB) : List Nat := [B.v, B.d, B.g]
def TB.all (B : TB) : List Nat := [B.t, B.v, B.d, B.g]
theorem Tal.keep {S : List Nat} {w w' : World} {B : TB} {s : TS} (h : Chg S w w') (hT : Tal w B s) (hn : ∀ b ∈ B.all, b ∉ S) : Tal w' B s :=
  ⟨h.at hT.t (hn _ (by simp [TB.all])), hT.v.keep h (hn _ (by simp [TB.all])), hT.d.keep h (hn _ (by simp [TB.all])), hT.g.keep h (hn _ (by simp [TB.all])), hT.tv, hT.td, hT.tg, hT.vd, hT.vg, hT.dg⟩
theorem Tal.alloc {w : World} {B : TB} {s : TS} (hT : Tal w B s) (o : Obj) : Tal (w.alloc o) B s :=
  ⟨hT.t.alloc o, hT.v.alloc o, hT.d.alloc o, hT.g.alloc o, hT.tv, hT.td, hT.tg, hT.vd, hT.vg, hT.dg⟩
theorem Tal.lt {w : World} {B : TB} {s : TS} (hT : Tal w B s) : ∀ b ∈ B.all, b < w.heap.size := by
  have := hT.t.lt; have := hT.v.lt; have := hT.d.lt; have := hT.g.lt
  intro b hb
  simp only [TB.all, List.mem_cons, List.not_mem_nil, or_false] at hb
  omega

def hd (a : Int) : Bool := decide (1 ≤ a) && decide (a ≤ 3)
def TS.upV (s : TS) : TS := { s with v := cAdd s.v s.mv 1 }
def TS.upD (s : TS) : TS := { s with d := cAdd s.d s.md 1 }
def TS.upG (s : TS) : TS := { s with g := cAdd s.g s.mg 1 }
def TS.setV (s : TS) (k : Int) : TS := { s with v := cSet s.mv k }
def TS.setD (s : TS) (k : Int) : TS := { s with d := cSet s.md k }
def TS.setG (s : TS) (k : Int) : TS := { s with g := cSet s.mg k }
def TS.cyc (s : TS) (a b : Int) : TS :=
  if hd a = false ∧ hd b = false then s.upG
  else if ((a == 3) != (b == 3)) = true ∧ hd a = true ∧ hd b = true then (s.setG 0).upD
  else if (a == 3) = true ∨ (b == 3) = true then (s.setG 0).upV
  else ((s.setG 0).setV 0).setD 0
def TS.set (s : TS) (x y z : Int) : TS := ((s.setV x).setD y).setG z
def TS.why (s : TS) : Int := (if s.v == s.mv then 1 else 0) + (if s.d == s.md then 2 else 0) + (if s.g == s.mg then 4 else 0)

section
variable {w : World} {B : TB} {s : TS}
theorem tUpV (hT : Tal w B s) (hs : s.ok) : Calls Try.prog 16 #[.pointer (some ⟨B.v, 0, none⟩)] w fun e w' => (∃ n, e = .returned (.int .i64 n)) ∧ Tal w' B s.upV ∧ Chg B.cs w w' := by
  refine (cUp_any w B.v s.v s.mv hT.v hs.v.1 hs.v.2.1 hs.v.2.2).mono ?_
  rintro e w' ⟨rfl, hA, hX⟩
  exact ⟨⟨_, rfl⟩, ⟨hX.at hT.t (by simpa using hT.tv), hA, hT.d.keep hX (by simpa using hT.vd.symm), hT.g.keep hX (by simpa using hT.vg.symm), hT.tv, hT.td, hT.tg, hT.vd, hT.vg, hT.dg⟩, hX.mono (by simp [TB.cs])⟩
theorem tUpD (hT : Tal w B s) (hs : s.ok) : Calls Try.prog 16 #[.pointer (some ⟨B.d, 0, none⟩)] w fun e w' => (∃ n, e = .returned (.int .i64 n)) ∧ Tal w' B s.upD ∧ Chg B.cs w w' := by
  refine (cUp_any w B.d s.d s.md hT.d hs.d.1 hs.d.2.1 hs.d.2.2).mono ?_
  rintro e w' ⟨rfl, hA, hX⟩
  exact ⟨⟨_, rfl⟩, ⟨hX.at hT.t (by simpa using hT.td), hT.v.keep hX (by simpa using hT.vd), hA, hT.g.keep hX (by simpa using hT.dg.symm), hT.tv, hT.td, hT.tg, hT.vd, hT.vg, hT.dg⟩, hX.mono (by simp [TB.cs])⟩
theorem tUpG (hT : Tal w B s) (hs : s.ok) : Calls Try.prog 16 #[.pointer (some ⟨B.g, 0, none⟩)] w fun e w' => (∃ n, e = .returned (.int .i64 n)) ∧ Tal w' B s.upG ∧ Chg B.cs w w' := by
  refine (cUp_any w B.g s.g s.mg hT.g hs.g.1 hs.g.2.1 hs.g.2.2).mono ?_
  rintro e w' ⟨rfl, hA, hX⟩
  exact ⟨⟨_, rfl⟩, ⟨hX.at hT.t (by simpa using hT.tg), hT.v.keep hX (by simpa using hT.vg), hT.d.keep hX (by simpa using hT.dg), hA, hT.tv, hT.td, hT.tg, hT.vd, hT.vg, hT.dg⟩, hX.mono (by simp [TB.cs])⟩
theorem tSetV (hT : Tal w B s) (k : Int) : Calls Try.prog 19 #[.pointer (some ⟨B.v, 0, none⟩), .int .i64 k] w fun e w' => e = .returned (.tuple #[]) ∧ Tal w' B (s.setV k) ∧ Chg B.cs w w' := by
  refine (cSet_any w B.v s.v s.mv k hT.v).mono ?_
  rintro e w' ⟨rfl, hA, hX⟩
  exact ⟨rfl, ⟨hX.at hT.t (by simpa using hT.tv), hA, hT.d.keep hX (by simpa using hT.vd.symm), hT.g.keep hX (by simpa using hT.vg.symm), hT.tv, hT.td, hT.tg, hT.vd, hT.vg, hT.dg⟩, hX.mono (by simp [TB.cs])⟩
theorem tSetD (hT : Tal w B s) (k : Int) : Calls Try.prog 19 #[.pointer (some ⟨B.d, 0, none⟩), .int .i64 k] w fun e w' => e = .returned (.tuple #[]) ∧ Tal w' B (s.setD k) ∧ Chg B.cs w w' := by
  refine (cSet_any w B.d s.d s.md k hT.d).mono ?_
  rintro e w' ⟨rfl, hA, hX⟩
  exact ⟨rfl, ⟨hX.at hT.t (by simpa using hT.td), hT.v.keep hX (by simpa using hT.vd), hA, hT.g.keep hX (by simpa using hT.dg.symm), hT.tv, hT.td, hT.tg, hT.vd, hT.vg, hT.dg⟩, hX.mono (by simp [TB.cs])⟩
theorem tSetG (hT : Tal w B s) (k : Int) : Calls Try.prog 19 #[.pointer (some ⟨B.g, 0, none⟩), .int .i64 k] w fun e w' => e = .returned (.tuple #[]) ∧ Tal w' B (s.setG k) ∧ Chg B.cs w w' := by
  refine (cSet_any w B.g s.g s.mg k hT.g).mono ?_
  rintro e w' ⟨rfl, hA, hX⟩
  exact ⟨rfl, ⟨hX.at hT.t (by simpa using hT.tg), hT.v.keep hX (by simpa using hT.vg), hT.d.keep hX (by simpa using hT.dg), hA, hT.tv, hT.td, hT.tg, hT.vd, hT.vg, hT.dg⟩, hX.mono (by simp [TB.cs])⟩
theorem tResetV (hT : Tal w B s) : Calls Try.prog 17 #[.pointer (some ⟨B.v, 0, none⟩)] w fun e w' => e = .returned (.tuple #[]) ∧ Tal w' B (s.setV 0) ∧ Chg B.cs w w' := by
  refine (cReset_any w B.v s.v s.mv hT.v).mono ?_
  rintro e w' ⟨rfl, hA, hX⟩
  exact ⟨rfl, ⟨hX.at hT.t (by simpa using hT.tv), hA, hT.d.keep hX (by simpa using hT.vd.symm), hT.g.keep hX (by simpa using hT.vg.symm), hT.tv, hT.td, hT.tg, hT.vd, hT.vg, hT.dg⟩, hX.mono (by simp [TB.cs])⟩
theorem tResetD (hT : Tal w B s) : Calls Try.prog 17 #[.pointer (some ⟨B.d, 0, none⟩)] w fun e w' => e = .returned (.tuple #[]) ∧ Tal w' B (s.setD 0) ∧ Chg B.cs w w' := by
  refine (cReset_any w B.d s.d s.md hT.d).mono ?_
  rintro e w' ⟨rfl, hA, hX⟩
  exact ⟨rfl, ⟨hX.at hT.t (by simpa using hT.td), hT.v.keep hX (by simpa using hT.vd), hA, hT.g.keep hX (by simpa using hT.dg.symm), hT.tv, hT.td, hT.tg, hT.vd, hT.vg, hT.dg⟩, hX.mono (by simp [TB.cs])⟩
theorem tResetG (hT : Tal w B s) : Calls Try.prog 17 #[.pointer (some ⟨B.g, 0, none⟩)] w fun e w' => e = .returned (.tuple #[]) ∧ Tal w' B (s.setG 0) ∧ Chg B.cs w w' := by
  refine (cReset_any w B.g s.g s.mg hT.g).mono ?_
  rintro e w' ⟨rfl, hA, hX⟩
  exact ⟨rfl, ⟨hX.at hT.t (by simpa using hT.tg), hT.v.keep hX (by simpa using hT.vg), hT.d.keep hX (by simpa using hT.dg), hA, hT.tv, hT.td, hT.tg, hT.vd, hT.vg, hT.dg⟩, hX.mono (by simp [TB.cs])⟩
theorem Tal.c0 (hT : Tal w B s) : w.cell? ⟨B.t, 0, none⟩ = some (.pointer (some ⟨B.v, 0, none⟩)) := hT.t.cell 0
theorem Tal.c1 (hT : Tal w B s) : w.cell? ⟨B.t, 1, none⟩ = some (.pointer (some ⟨B.d, 0, none⟩)) := hT.t.cell 1
theorem Tal.c2 (hT : Tal w B s) : w.cell? ⟨B.t, 2, none⟩ = some (.pointer (some ⟨B.g, 0, none⟩)) := hT.t.cell 2
end

theorem heard_any (w : World) (a : Int) : Calls Try.prog 15 #[.int .i64 a] w fun e w' => e = .returned (.bool (hd a)) ∧ w = w' := by
  go_enter Try.func15, Try.ntmps15
  by_cases h : 1 ≤ a
  · go_wp2
    go_ret
    exact ⟨ret_bool (by unfold hd; simp [h]), rfl⟩
  · go_wp2
    go_ret
    exact ⟨ret_bool (by unfold hd; simp; omega), rfl⟩

theorem tCycle_nil (w : World) (a b : Int) : Calls Try.prog 9 #[.pointer none, .int .i64 a, .int .i64 b] w fun e w' => e = .returned (.tuple #[]) ∧ w = w' := by
  go_enter Try.func9, Try.ntmps9
  go_wp2
  go_returns
  exact ⟨rfl, rfl⟩
theorem tCounts_nil (w : World) : Calls Try.prog 10 #[.pointer none] w fun e w' => e = .returned (.tuple #[.int .i64 0, .int .i64 0, .int .i64 0]) ∧ w = w' := by
  go_enter Try.func10, Try.ntmps10
  go_wp2
  go_returns
  exact ⟨rfl, rfl⟩
theorem tSet_nil (w : World) (a b c : Int) : Calls Try.prog 12 #[.pointer none, .int .i64 a, .int .i64 b, .int .i64 c] w fun e w' => e = .returned (.tuple #[]) ∧ w = w' := by
  go_enter Try.func12, Try.ntmps12
  go_wp2
  go_returns
  exact ⟨rfl, rfl⟩
theorem tWhy_nil (w : World) : Calls Try.prog 13 #[.pointer none] w fun e w' => e = .returned (.int .i64 0) ∧ w = w' := by
  go_enter Try.func13, Try.ntmps13
  go_wp2
  go_returns
  exact ⟨rfl, rfl⟩
theorem tFires_nil (w : World) : Calls Try.prog 11 #[.pointer none] w fun e w' => e = .returned (.bool true) ∧ w = w' := by
  go_enter Try.func11, Try.ntmps11
  go_wp2
  go_returns
  exact ⟨rfl, rfl⟩

theorem tSet_any (w : World) (B : TB) (s : TS) (a b c : Int) (hT : Tal w B s) :
    Calls Try.prog 12 #[.pointer (some ⟨B.t, 0, none⟩), .int .i64 a, .int .i64 b, .int .i64 c] w fun e w' => e = .returned (.tuple #[]) ∧ Tal w' B (s.set a b c) ∧ Chg B.cs w w' := by
  have c0 := hT.c0
  go_enter Try.func12, Try.ntmps12
  go_wp2_with fail
  refine (tSetV hT a).mono ?_; rintro e w1 ⟨rfl, hT1, hX1⟩
  have c1 := hT1.c1
  go_wp2_with fail
  refine (tSetD hT1 b).mono ?_; rintro e w2 ⟨rfl, hT2, hX2⟩
  have c2 := hT2.c2
  go_wp2_with fail
  refine (tSetG hT2 c).mono ?_; rintro e w3 ⟨rfl, hT3, hX3⟩
  go_wp2
  go_end0
  exact ⟨rfl, hT3, (hX1.trans hX2).trans hX3⟩

set_option maxHeartbeats 1000000 in
theorem tCycle_any (w : World) (B : TB) (s : TS) (a b : Int) (hT : Tal w B s) (hs : s.ok) :
    Calls Try.prog 9 #[.pointer (some ⟨B.t, 0, none⟩), .int .i64 a, .int .i64 b] w fun e w' => e = .returned (.tuple #[]) ∧ Tal w' B (s.cyc a b) ∧ Chg B.cs w w' := by
  have HA : ∀ w, Calls Try.prog 15 #[.int .i64 a] w fun e w' => e = .returned (.bool (hd a)) ∧ w = w' := fun w => heard_any w a
  have HB : ∀ w, Calls Try.prog 15 #[.int .i64 b] w fun e w' => e = .returned (.bool (hd b)) ∧ w = w' := fun w => heard_any w b
  have hs0 : (s.setG 0).ok := ⟨hs.v, hs.d, ⟨(cSet_bd s.mg 0 (by have := hs.g; omega)).1, (cSet_bd s.mg 0 (by have := hs.g; omega)).2, hs.g.2.2⟩⟩
  have c0 := hT.c0
  have c1 := hT.c1
  have c2 := hT.c2
  generalize ea : hd a = ha at HA
  generalize eb : hd b = hb at HB
  have e1 := Lib.hid ea
  have e2 := Lib.hid eb
  clear ea eb
  cases ha <;> cases hb
  · go_enter Try.func9, Try.ntmps9
    go_wp2_with (first
      | (go_at_call 15; ((with_reducible refine (HA _).mono ?_); rintro e w' ⟨rfl, rfl⟩))
      | (go_at_call 15; ((with_reducible refine (HB _).mono ?_); rintro e w' ⟨rfl, rfl⟩)))
    refine (tUpG hT hs).mono ?_; rintro e w1 ⟨⟨n, rfl⟩, hT1, hX1⟩
    go_wp2
    go_returns
    exact ⟨rfl, by have E : s.cyc a b = s.upG := by simp [TS.cyc, e1.out, e2.out]
                   rw [E]; exact hT1, hX1⟩
  all_goals
    cases g3 : (a == 3) <;> cases g4 : (b == 3)
    all_goals
      go_enter Try.func9, Try.ntmps9
      go_wp2_with (first
        | (go_at_call 15; ((with_reducible refine (HA _).mono ?_); rintro e w' ⟨rfl, rfl⟩))
        | (go_at_call 15; ((with_reducible refine (HB _).mono ?_); rintro e w' ⟨rfl, rfl⟩))
        | (go_at_call 17; refine (tResetG hT).mono ?_; rintro e w1 ⟨rfl, hT1, hX1⟩; have d0 := hT1.c0; have d1 := hT1.c1))
      first
      | ((with_reducible refine (tUpV hT1 hs0).mono ?_); rintro e w2 ⟨⟨n, rfl⟩, hT2, hX2⟩; go_wp2; go_returns; exact ⟨rfl, by (have E : s.cyc a b = (s.setG 0).upV := by simp [TS.cyc, e1.out, e2.out, g3, g4]); rw [E]; exact hT2, hX1.trans hX2⟩)
      | ((with_reducible refine (tUpD hT1 hs0).mono ?_); rintro e w2 ⟨⟨n, rfl⟩, hT2, hX2⟩; go_wp2; go_returns; exact ⟨rfl, by (have E : s.cyc a b = (s.setG 0).upD := by simp [TS.cyc, e1.out, e2.out, g3, g4]); rw [E]; exact hT2, hX1.trans hX2⟩)
      | ((with_reducible refine (tResetV hT1).mono ?_); rintro e w2 ⟨rfl, hT2, hX2⟩; have k1 := hT2.c1; go_wp2_with fail; refine (tResetD hT2).mono ?_; rintro e w3 ⟨rfl, hT3, hX3⟩; go_wp2; go_returns; exact ⟨rfl, by (have E : s.cyc a b = ((s.setG 0).setV 0).setD 0 := by simp [TS.cyc, e1.out, e2.out, g3, g4]); rw [E]; exact hT3, (hX1.trans hX2).trans hX3⟩)
end Go.Proofs.Ytnjakhmkpaeifaa
