/-
  No cell of these rows narrows 'for every input' (looked for: loops, veiled, ifaces, maps, wideKeys, modest, calm, conditions, laid).
  DERIVED. THE GIVEN ROWS OF THIS SEAT. 4 by the template 'for every input the law returns true; each argument reads behind the call as it read before'; 0 by the template 'total and deterministic' (their statements: YtjneidmkllhbjaaTotals.lean).
  GIVEN WITH THE SEED: the statements are not yours to turn. If you find one false, say at which input.
  Laid BY PROGRAM, IN A SANDBOX (cutbox-rows.mjs): the forced cells as the released guide's own fill.sh prints them over the translation 8b144a2f89ae7044… (all of the seat's roots in one cut). By AI agents, Wed Nov 11 2026. No macro, syntax, notation, axiom, sorry.
-/
import Derived.Test.YtjneidmkllhbjaaChecked
import GoSem.Claim
import GoSem.ClaimJoined
import GoSem.ClaimMapViews
import Derived.JoinedTies
import Derived.KernelRfl
namespace Go.Proofs.Ytjneidmkllhbjaa
/- THE CELL 'sum', in the pinned program and in every row, IS THE sha256 OF THE DUMP (.gsa) THAT YtjneidmkllhbjaaProg.lean LOADS. Nothing in Lean hashes anything: it is a label: what it is worth is what the hold of that sum in a sandbox is worth. -/
noncomputable def Try.pinned : Pinned := { name := "ytjneidmkllhbjaa", sum := "8b144a2f89ae704445eaeeb82afba990a52c6f5e6f125f79f4b3218427feeefa", checked := Try.checked }
namespace Rows
def none {H : Type} : Left H := { results := [], args := [] }

/-- 'apogeelaw09.LatchPrints': WHATEVER THE INPUT: true; the input reads as it did. -/
def latchPrintsSpec : ChangeSpec := { name := "latchPrints", fn := fun _ => fun
  | [d1, d2] => { results := [.lit (.bool true)], args := [d1, d2] }
  | _ => none }
def latchPrintsRow : OpenClaim := { program := "ytjneidmkllhbjaa", sum := "8b144a2f89ae704445eaeeb82afba990a52c6f5e6f125f79f4b3218427feeefa", func := "apogee/apogeelaw09.LatchPrints", spec := "latchPrints", inPlace := ["internal/bytealg.MakeNoZero", "sync/atomic.LoadInt64", "sync/atomic.CompareAndSwapInt64"], apart := false }
def LatchPrintsSaid : Prop := latchPrintsRow.holds Try.pinned (OpenSpec.ofChange latchPrintsSpec)

/-- ITS FALSE NEIGHBOUR: 'it returns false'. Refute it at one input. -/
def latchPrintsWrong : ChangeSpec := { name := "latchPrints", fn := fun _ => fun
  | [d1, d2] => { results := [.lit (.bool false)], args := [d1, d2] }
  | _ => none }
def LatchPrintsWrongFalsely : Prop := latchPrintsRow.holds Try.pinned (OpenSpec.ofChange latchPrintsWrong)

/-- 'apogeelaw09.LatchSlots': WHATEVER THE INPUT: true; the input reads as it did. -/
def latchSlotsSpec : ChangeSpec := { name := "latchSlots", fn := fun _ => fun
  | [d1, d2, d3] => { results := [.lit (.bool true)], args := [d1, d2, d3] }
  | _ => none }
def latchSlotsRow : OpenClaim := { program := "ytjneidmkllhbjaa", sum := "8b144a2f89ae704445eaeeb82afba990a52c6f5e6f125f79f4b3218427feeefa", func := "apogee/apogeelaw09.LatchSlots", spec := "latchSlots", inPlace := ["internal/bytealg.MakeNoZero", "sync/atomic.LoadInt64", "sync/atomic.CompareAndSwapInt64"], apart := false }
def LatchSlotsSaid : Prop := latchSlotsRow.holds Try.pinned (OpenSpec.ofChange latchSlotsSpec)

/-- ITS FALSE NEIGHBOUR: 'it returns false'. Refute it at one input. -/
def latchSlotsWrong : ChangeSpec := { name := "latchSlots", fn := fun _ => fun
  | [d1, d2, d3] => { results := [.lit (.bool false)], args := [d1, d2, d3] }
  | _ => none }
def LatchSlotsWrongFalsely : Prop := latchSlotsRow.holds Try.pinned (OpenSpec.ofChange latchSlotsWrong)

/-- 'apogeelaw09.LatchBits': WHATEVER THE INPUT: true; the input reads as it did. -/
def latchBitsSpec : ChangeSpec := { name := "latchBits", fn := fun _ => fun
  | [d1, d2] => { results := [.lit (.bool true)], args := [d1, d2] }
  | _ => none }
def latchBitsRow : OpenClaim := { program := "ytjneidmkllhbjaa", sum := "8b144a2f89ae704445eaeeb82afba990a52c6f5e6f125f79f4b3218427feeefa", func := "apogee/apogeelaw09.LatchBits", spec := "latchBits", inPlace := ["internal/bytealg.MakeNoZero", "sync/atomic.LoadInt64", "sync/atomic.CompareAndSwapInt64"], apart := false }
def LatchBitsSaid : Prop := latchBitsRow.holds Try.pinned (OpenSpec.ofChange latchBitsSpec)

/-- ITS FALSE NEIGHBOUR: 'it returns false'. Refute it at one input. -/
def latchBitsWrong : ChangeSpec := { name := "latchBits", fn := fun _ => fun
  | [d1, d2] => { results := [.lit (.bool false)], args := [d1, d2] }
  | _ => none }
def LatchBitsWrongFalsely : Prop := latchBitsRow.holds Try.pinned (OpenSpec.ofChange latchBitsWrong)

/-- 'apogeelaw09.LatchNil': WHATEVER THE INPUT: true; the input reads as it did. -/
def latchNilSpec : ChangeSpec := { name := "latchNil", fn := fun _ => fun
  | [d1, d2] => { results := [.lit (.bool true)], args := [d1, d2] }
  | _ => none }
def latchNilRow : OpenClaim := { program := "ytjneidmkllhbjaa", sum := "8b144a2f89ae704445eaeeb82afba990a52c6f5e6f125f79f4b3218427feeefa", func := "apogee/apogeelaw09.LatchNil", spec := "latchNil", inPlace := ["internal/bytealg.MakeNoZero", "sync/atomic.LoadInt64", "sync/atomic.CompareAndSwapInt64"], apart := false }
def LatchNilSaid : Prop := latchNilRow.holds Try.pinned (OpenSpec.ofChange latchNilSpec)

/-- ITS FALSE NEIGHBOUR: 'it returns false'. Refute it at one input. -/
def latchNilWrong : ChangeSpec := { name := "latchNil", fn := fun _ => fun
  | [d1, d2] => { results := [.lit (.bool false)], args := [d1, d2] }
  | _ => none }
def LatchNilWrongFalsely : Prop := latchNilRow.holds Try.pinned (OpenSpec.ofChange latchNilWrong)

/- THE SECOND FORM. 'bulk': how many values and letters a reading holds, each counted each time it is reached (what is shared counts as often as it is met; a slice's spare places count too). A statement '..UptoSaid' is the law's where the arguments, and the package variables that the reading takes, are together of bulk at most 1048576: NARROWER than '..Said'. Prove '..Said' where nothing that the law and all that it calls make is longer than what came in: it says more and counts as full. Else prove '..UptoSaid'. A law counts once. -/
mutual
def uptoBulk {H : Type} : DataW H → Nat
  | .lit (.string bytes) => bytes.length + 1
  | .lit _ => 1
  | .nil => 1
  | .ptr d => uptoBulk d + 1
  | .slice elems spare => uptoBulkAll elems + uptoBulkAll spare + 1
  | .agg parts => uptoBulkAll parts + 1
  | .iface _ d => uptoBulk d + 1
  | .map entries => uptoBulkEntries entries + 1
  | .held _ => 1
def uptoBulkAll {H : Type} : List (DataW H) → Nat
  | [] => 0
  | d :: r => uptoBulk d + uptoBulkAll r
def uptoBulkEntries {H : Type} : List (Lit × DataW H) → Nat
  | [] => 0
  | x :: r => uptoBulkEntry x + uptoBulkEntries r
def uptoBulkEntry {H : Type} : Lit × DataW H → Nat
  | (.string bytes, d) => bytes.length + uptoBulk d + 1
  | (_, d) => uptoBulk d + 1
 end
def uptoSmall : (H : Type) → List (DataW H) → Bool := fun _ ds => decide (uptoBulkAll ds ≤ 1048576)
def OpenSpec.upto (s : _root_.Go.ChangeSpec) : _root_.Go.OpenSpec := { _root_.Go.OpenSpec.ofChange s with cond := some uptoSmall }

/-- 'apogeelaw09.LatchPrints', WHERE WHAT IT READS IS OF BULK AT MOST 1048576: true; the input reads as it did. -/
def latchPrintsUptoRow : OpenClaim := { program := "ytjneidmkllhbjaa", sum := "8b144a2f89ae704445eaeeb82afba990a52c6f5e6f125f79f4b3218427feeefa", func := "apogee/apogeelaw09.LatchPrints", spec := "latchPrints", inPlace := ["internal/bytealg.MakeNoZero", "sync/atomic.LoadInt64", "sync/atomic.CompareAndSwapInt64"], apart := false, narrowed := true }
def LatchPrintsUptoSaid : Prop := latchPrintsUptoRow.holds Try.pinned (OpenSpec.upto latchPrintsSpec)

/-- 'apogeelaw09.LatchSlots', WHERE WHAT IT READS IS OF BULK AT MOST 1048576: true; the input reads as it did. -/
def latchSlotsUptoRow : OpenClaim := { program := "ytjneidmkllhbjaa", sum := "8b144a2f89ae704445eaeeb82afba990a52c6f5e6f125f79f4b3218427feeefa", func := "apogee/apogeelaw09.LatchSlots", spec := "latchSlots", inPlace := ["internal/bytealg.MakeNoZero", "sync/atomic.LoadInt64", "sync/atomic.CompareAndSwapInt64"], apart := false, narrowed := true }
def LatchSlotsUptoSaid : Prop := latchSlotsUptoRow.holds Try.pinned (OpenSpec.upto latchSlotsSpec)

/-- 'apogeelaw09.LatchBits', WHERE WHAT IT READS IS OF BULK AT MOST 1048576: true; the input reads as it did. -/
def latchBitsUptoRow : OpenClaim := { program := "ytjneidmkllhbjaa", sum := "8b144a2f89ae704445eaeeb82afba990a52c6f5e6f125f79f4b3218427feeefa", func := "apogee/apogeelaw09.LatchBits", spec := "latchBits", inPlace := ["internal/bytealg.MakeNoZero", "sync/atomic.LoadInt64", "sync/atomic.CompareAndSwapInt64"], apart := false, narrowed := true }
def LatchBitsUptoSaid : Prop := latchBitsUptoRow.holds Try.pinned (OpenSpec.upto latchBitsSpec)

/-- 'apogeelaw09.LatchNil', WHERE WHAT IT READS IS OF BULK AT MOST 1048576: true; the input reads as it did. -/
def latchNilUptoRow : OpenClaim := { program := "ytjneidmkllhbjaa", sum := "8b144a2f89ae704445eaeeb82afba990a52c6f5e6f125f79f4b3218427feeefa", func := "apogee/apogeelaw09.LatchNil", spec := "latchNil", inPlace := ["internal/bytealg.MakeNoZero", "sync/atomic.LoadInt64", "sync/atomic.CompareAndSwapInt64"], apart := false, narrowed := true }
def LatchNilUptoSaid : Prop := latchNilUptoRow.holds Try.pinned (OpenSpec.upto latchNilSpec)

end Rows
end Go.Proofs.Ytjneidmkllhbjaa
