/- Package wide: numbers of 128 bits: Of, Add, Sub. -/
import Derived.Test.YtmdgikikiijjbaaRows
import Derived.Test.YtmdgikikiijjbaaBv
import Derived.Laws.Externs
import Derived.Handy
import Derived.RegionTactic
import Derived.BigRegion
namespace Go.Proofs.Ytmdgikikiijjbaa
open Go.RowKit

structure WV where (hi lo : Int)
def WV.cells (a : WV) : Array Value := #[.int .i64 a.hi, .int .u64 a.lo]
structure WV.ok (a : WV) : Prop where
  h0 : -9223372036854775808 ≤ a.hi
  h1 : a.hi ≤ 9223372036854775807
  l0 : 0 ≤ a.lo
  l1 : a.lo ≤ 18446744073709551615
def WV.val (a : WV) : Int := a.hi * 18446744073709551616 + a.lo
def ofV (v : Int) : WV := ⟨v / 18446744073709551616, v % 18446744073709551616⟩
theorem ofV_val (a : WV) (h : a.ok) : ofV a.val = a := by
  obtain ⟨hi, lo⟩ := a
  have h0 : 0 ≤ lo := h.l0
  have h1 : lo ≤ 18446744073709551615 := h.l1
  unfold ofV WV.val
  congr 1 <;> simp only <;> omega
/-- Whether it has a place in 128 bits. -/
def fitsV (v : Int) : Bool := decide (-170141183460469231731687303715884105728 ≤ v) && decide (v ≤ 170141183460469231731687303715884105727)
theorem fitsV_iff (v : Int) : fitsV v = true ↔ -170141183460469231731687303715884105728 ≤ v ∧ v ≤ 170141183460469231731687303715884105727 := by unfold fitsV; simp
def WV.zero : WV := ⟨0, 0⟩
def addV (v : Int) : WV := if fitsV v then ofV v else WV.zero

theorem wof_any (w : World) (n : Int) (h0 : -9223372036854775808 ≤ n) (h1 : n ≤ 9223372036854775807) : Calls Try.prog 36 #[.int .i64 n] w fun e w' => e = .returned (.agg (ofV n).cells) ∧ Chg [] w w' := by
  have Hr := Lib.hid (show (ofV n).cells = #[.int .i64 (n / 9223372036854775808), .int .u64 (IntKind.u64.wrap n)] by
    unfold ofV WV.cells
    simp only
    rw [show n / 9223372036854775808 = n / 18446744073709551616 by omega]
    rfl)
  go_enter Try.func36, Try.ntmps36
  go_wp2
  have hA := At.new w #[.int .i64 (n / 9223372036854775808), .int .u64 (IntKind.u64.wrap n)] 89
  have d0 := hA.cell 0
  have d1 := hA.cell 1
  exact bodyPost_ret (v := .agg #[.int .i64 (n / 9223372036854775808), .int .u64 (IntKind.u64.wrap n)]) (by simp [results, Try.results36, go_sem, d0, d1]) rfl ⟨by rw [Hr.out], (Chg.refl _ _).alloc _⟩

/-- What wide.Add reckons. -/
theorem add_plain (a b : WV) (ha : a.ok) (hb : b.ok) (c s1 s2 h : Int) (hc : (a.lo + b.lo) / 18446744073709551616 = c) (hs1 : (a.lo + b.lo) % 18446744073709551616 = s1)
    (hs2 : (IntKind.u64.wrap a.hi + IntKind.u64.wrap b.hi + c) % 18446744073709551616 = s2) (hh : wrap64 s2 = h) :
    (-9223372036854775808 ≤ h ∧ h ≤ 9223372036854775807) ∧ (((a.hi < 0 ∧ b.hi < 0 ∧ 0 ≤ h) ∨ (0 ≤ a.hi ∧ 0 ≤ b.hi ∧ h < 0)) → fitsV (a.val + b.val) = false) ∧
    (¬((a.hi < 0 ∧ b.hi < 0 ∧ 0 ≤ h) ∨ (0 ≤ a.hi ∧ 0 ≤ b.hi ∧ h < 0)) → fitsV (a.val + b.val) = true ∧ ofV (a.val + b.val) = ⟨h, s1⟩) := by
  obtain ⟨ah, al⟩ := a
  obtain ⟨bh, bl⟩ := b
  have a1 : -9223372036854775808 ≤ ah := ha.h0
  have a2 : ah ≤ 9223372036854775807 := ha.h1
  have a3 : 0 ≤ al := ha.l0
  have a4 : al ≤ 18446744073709551615 := ha.l1
  have b1 : -9223372036854775808 ≤ bh := hb.h0
  have b2 : bh ≤ 9223372036854775807 := hb.h1
  have b3 : 0 ≤ bl := hb.l0
  have b4 : bl ≤ 18446744073709551615 := hb.l1
  have u1 : IntKind.u64.wrap ah = ah % 18446744073709551616 := rfl
  have u2 : IntKind.u64.wrap bh = bh % 18446744073709551616 := rfl
  simp only [WV.val] at *
  rw [u1, u2] at hs2
  unfold wrap64 at hh
  refine ⟨by omega, fun hp => ?_, fun hp => ⟨?_, ?_⟩⟩
  · apply Bool.eq_false_iff.2
    intro hf
    have := (fitsV_iff _).1 hf
    omega
  · rw [fitsV_iff]
    omega
  · unfold ofV
    congr 1 <;> omega

def sub64E : Array Value → Sem Value := fun args => do
  let (x, y, b) ← Extern.MathBitsCarry.three "Sub64" args
  pure (Extern.MathBitsCarry.pair ((x + Extern.MathBitsCarry.m64 - y - b) % Extern.MathBitsCarry.m64) (if x < y + b then 1 else 0))
theorem run_sub64' {P : Program} (x y b : Nat) (hb : b ≤ 1) (w : World) :
    (sub64E #[.int .u64 x, .int .u64 y, .int .u64 b]).run P w =
      .ok (.tuple #[.int .u64 (((x + 18446744073709551616 - y - b) % 18446744073709551616 : Nat) : Int), .int .u64 ((if x < y + b then 1 else 0 : Nat) : Int)]) w := by
  have : b = 0 ∨ b = 1 := by omega
  rcases this with rfl | rfl <;> rfl
theorem call_sub (x y c : Int) (hx : 0 ≤ x) (hx1 : x ≤ 18446744073709551615) (hy : 0 ≤ y) (hy1 : y ≤ 18446744073709551615) (hc0 : 0 ≤ c) (hc : c ≤ 1) (w : World) : (callFunc 42 #[.int .u64 x, .int .u64 y, .int .u64 c]).run Try.prog w =
    .ok (.value (.tuple #[.int .u64 ((x - y - c) % 18446744073709551616), .int .u64 (-((x - y - c) / 18446744073709551616))])) w := by
  obtain ⟨X, rfl⟩ := Int.eq_ofNat_of_zero_le hx
  obtain ⟨Y, rfl⟩ := Int.eq_ofNat_of_zero_le hy
  obtain ⟨C, rfl⟩ := Int.eq_ofNat_of_zero_le hc0
  rw [run_callFunc_extern Try.func42 (by kernel_rfl) (by kernel_rfl) (by kernel_rfl) (e := sub64E) (by kernel_rfl), run_sub64' X Y C (by omega)]
  have e1 : (((X + 18446744073709551616 - Y - C) % 18446744073709551616 : Nat) : Int) = ((X : Int) - Y - C) % 18446744073709551616 := by omega
  have e2 : ((if X < Y + C then 1 else 0 : Nat) : Int) = -(((X : Int) - Y - C) / 18446744073709551616) := by split <;> omega
  rw [e1, e2]
  rfl

/-- What wide.Sub reckons. -/
theorem sub_plain (a b : WV) (ha : a.ok) (hb : b.ok) (c s1 s2 h : Int) (hc : -((a.lo - b.lo) / 18446744073709551616) = c) (hs1 : (a.lo - b.lo) % 18446744073709551616 = s1)
    (hs2 : (IntKind.u64.wrap a.hi - IntKind.u64.wrap b.hi - c) % 18446744073709551616 = s2) (hh : wrap64 s2 = h) :
    (-9223372036854775808 ≤ h ∧ h ≤ 9223372036854775807) ∧ (((a.hi < 0 ∧ 0 ≤ b.hi ∧ 0 ≤ h) ∨ (0 ≤ a.hi ∧ b.hi < 0 ∧ h < 0)) → fitsV (a.val - b.val) = false) ∧
    (¬((a.hi < 0 ∧ 0 ≤ b.hi ∧ 0 ≤ h) ∨ (0 ≤ a.hi ∧ b.hi < 0 ∧ h < 0)) → fitsV (a.val - b.val) = true ∧ ofV (a.val - b.val) = ⟨h, s1⟩) := by
  obtain ⟨ah, al⟩ := a
  obtain ⟨bh, bl⟩ := b
  have a1 : -9223372036854775808 ≤ ah := ha.h0
  have a2 : ah ≤ 9223372036854775807 := ha.h1
  have a3 : 0 ≤ al := ha.l0
  have a4 : al ≤ 18446744073709551615 := ha.l1
  have b1 : -9223372036854775808 ≤ bh := hb.h0
  have b2 : bh ≤ 9223372036854775807 := hb.h1
  have b3 : 0 ≤ bl := hb.l0
  have b4 : bl ≤ 18446744073709551615 := hb.l1
  have u1 : IntKind.u64.wrap ah = ah % 18446744073709551616 := rfl
  have u2 : IntKind.u64.wrap bh = bh % 18446744073709551616 := rfl
  simp only [WV.val] at *
  rw [u1, u2] at hs2
  unfold wrap64 at hh
  refine ⟨by omega, fun hp => ?_, fun hp => ⟨?_, ?_⟩⟩
  · apply Bool.eq_false_iff.2
    intro hf
    have := (fitsV_iff _).1 hf
    omega
  · rw [fitsV_iff]
    omega
  · unfold ofV
    congr 1 <;> omega

theorem wsub_any (w : World) (a b : WV) (ha : a.ok) (hb : b.ok) : Calls Try.prog 37 #[.agg a.cells, .agg b.cells] w fun e w' => e = .returned (.tuple #[.agg (addV (a.val - b.val)).cells, .bool (fitsV (a.val - b.val))]) ∧ Chg [] w w' := by
  have hA := ((At.new w a.cells 89).alloc (.cells b.cells 89)).alloc (.cells WV.zero.cells 89)
  have hB := (At.new (w.alloc (.cells a.cells 89)) b.cells 89).alloc (.cells WV.zero.cells 89)
  have hC := At.new ((w.alloc (.cells a.cells 89)).alloc (.cells b.cells 89)) WV.zero.cells 89
  rw [show (w.alloc (.cells a.cells 89)).heap.size = w.heap.size + 1 by simp] at hB
  rw [show ((w.alloc (.cells a.cells 89)).alloc (.cells b.cells 89)).heap.size = w.heap.size + 2 by simp] at hC
  have hX : Chg [] w (((w.alloc (.cells a.cells 89)).alloc (.cells b.cells 89)).alloc (.cells WV.zero.cells 89)) := (((Chg.refl [] w).alloc _).alloc _).alloc _
  have a0 := hA.cell 0; have a1 := hA.cell 1; have b0 := hB.cell 0; have b1 := hB.cell 1
  have ah0 := ha.h0; have ah1 := ha.h1; have al0 := ha.l0; have al1 := ha.l1
  have bh0 := hb.h0; have bh1 := hb.h1; have bl0 := hb.l0; have bl1 := hb.l1
  have k1 := fun w => call_sub a.lo b.lo 0 al0 al1 bl0 bl1 (by omega) (by omega) w
  have hu : ∀ x : Int, 0 ≤ IntKind.u64.wrap x ∧ IntKind.u64.wrap x ≤ 18446744073709551615 := fun x => Go.bounds_u64 (wf_wrap .u64 x)
  rw [Int.sub_zero] at k1
  obtain ⟨c, hc, hc0, hc1⟩ : ∃ c, -((a.lo - b.lo) / 18446744073709551616) = c ∧ 0 ≤ c ∧ c ≤ 1 := ⟨_, rfl, by omega, by omega⟩
  have k2 := fun w => call_sub (IntKind.u64.wrap a.hi) (IntKind.u64.wrap b.hi) c (hu a.hi).1 (hu a.hi).2 (hu b.hi).1 (hu b.hi).2 hc0 hc1 w
  obtain ⟨s1, hs1⟩ : ∃ s, (a.lo - b.lo) % 18446744073709551616 = s := ⟨_, rfl⟩
  obtain ⟨s2, hs2⟩ : ∃ s, (IntKind.u64.wrap a.hi - IntKind.u64.wrap b.hi - c) % 18446744073709551616 = s := ⟨_, rfl⟩
  obtain ⟨h, hh⟩ : ∃ h, wrap64 s2 = h := ⟨_, rfl⟩
  obtain ⟨hb2, p1, p2⟩ := sub_plain a b ha hb c s1 s2 h hc hs1 hs2 hh
  have ho := over_sub a.hi b.hi h ah0 ah1 bh0 bh1 hb2.1 hb2.2
  rw [hc, hs1] at k1
  rw [hs2] at k2
  have Hp1 := Lib.hid p1
  have Hp2 := Lib.hid p2
  have Ho := Lib.hid ho
  clear p1 p2 ho hs1 hs2 hc ah0 ah1 al0 al1 bh0 bh1 bl0 bl1 hu hb2 ha hb
  have Hr := Lib.hid (show addV (a.val - b.val) = if fitsV (a.val - b.val) then ofV (a.val - b.val) else WV.zero from rfl)
  generalize addV (a.val - b.val) = res at *
  generalize fitsV (a.val - b.val) = fv at *
  rw [show a.cells = #[.int .i64 a.hi, .int .u64 a.lo] from rfl, show b.cells = #[.int .i64 b.hi, .int .u64 b.lo] from rfl, show WV.zero.cells = #[.int .i64 0, .int .u64 0] from rfl] at *
  generalize hov : bits .and .i64 (bits .xor .i64 a.hi b.hi) (bits .xor .i64 a.hi h) = ov at *
  have fin : ∀ x y : Int, At ((((w.alloc (.cells #[.int .i64 a.hi, .int .u64 a.lo] 89)).alloc (.cells #[.int .i64 b.hi, .int .u64 b.lo] 89)).alloc (.cells #[.int .i64 x, .int .u64 y] 89)).alloc (.cells #[.int .i64 h, .int .u64 s1] 89)) (w.heap.size + 1 + 1) #[.int .i64 x, .int .u64 y] ∧
      Chg [] w ((((w.alloc (.cells #[.int .i64 a.hi, .int .u64 a.lo] 89)).alloc (.cells #[.int .i64 b.hi, .int .u64 b.lo] 89)).alloc (.cells #[.int .i64 x, .int .u64 y] 89)).alloc (.cells #[.int .i64 h, .int .u64 s1] 89)) := fun x y => by
    have q := (At.new ((w.alloc (.cells #[.int .i64 a.hi, .int .u64 a.lo] 89)).alloc (.cells #[.int .i64 b.hi, .int .u64 b.lo] 89)) #[.int .i64 x, .int .u64 y] 89).alloc (.cells #[.int .i64 h, .int .u64 s1] 89)
    rw [show ((w.alloc (.cells #[.int .i64 a.hi, .int .u64 a.lo] 89)).alloc (.cells #[.int .i64 b.hi, .int .u64 b.lo] 89)).heap.size = w.heap.size + 1 + 1 by simp] at q
    exact ⟨q, ((((Chg.refl [] w).alloc _).alloc _).alloc _).alloc _⟩
  go_enter Try.func37, Try.ntmps37
  by_cases hlt : ov < 0
  · have hf := Hp1.out (Ho.out.1 hlt)
    obtain ⟨q, qX⟩ := fin 0 0
    have Hres := Hr.out
    rw [hf] at Hres
    clear Ho Hp1 Hp2 Hr fin
    go_wp2_with fail
    clear a0 a1 b0 b1
    have d0 := q.cell 0
    have d1 := q.cell 1
    exact bodyPost_ret (v := .tuple #[.agg #[.int .i64 0, .int .u64 0], .bool false]) (by simp [results, Try.results37, go_sem, d0, d1]) rfl ⟨by first | rfl | (rw [Hres, hf]; rfl), qX⟩
  · obtain ⟨hf, hv⟩ := Hp2.out (fun e => hlt (Ho.out.2 e))
    obtain ⟨q, qX⟩ := fin h s1
    have Hres := Hr.out
    rw [hf, hv] at Hres
    clear Ho Hp1 Hp2 Hr fin
    go_wp2_with fail
    clear a0 a1 b0 b1
    have d0 := q.cell 0
    have d1 := q.cell 1
    exact bodyPost_ret (v := .tuple #[.agg #[.int .i64 h, .int .u64 s1], .bool true]) (by simp [results, Try.results37, go_sem, d0, d1]) rfl ⟨by first | rfl | (rw [Hres, hf]; rfl), qX⟩
end Go.Proofs.Ytmdgikikiijjbaa
