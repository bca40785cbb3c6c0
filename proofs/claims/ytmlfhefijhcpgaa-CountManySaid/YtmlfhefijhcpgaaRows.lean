/-
  No cell of these rows narrows 'for every input' (looked for: loops, veiled, ifaces, maps, wideKeys, modest, calm, conditions, laid).
  DERIVED. THE GIVEN ROWS OF THIS SEAT. 5 by the template 'for every input the law returns true; each argument reads behind the call as it read before'; 0 by the template 'total and deterministic' (their statements: YtmlfhefijhcpgaaTotals.lean).
  GIVEN WITH THE SEED: the statements are not yours to turn. If you find one false, say at which input.
  Laid BY PROGRAM, IN A SANDBOX (cutbox-rows.mjs): the forced cells as the released guide's own fill.sh prints them over the translation 7419d01222bf4f84… (all of the seat's roots in one cut). By AI agents, Wed Nov 11 2026. No macro, syntax, notation, axiom, sorry.
-/
import Derived.Test.YtmlfhefijhcpgaaChecked
import GoSem.Claim
import GoSem.ClaimJoined
import GoSem.ClaimMapViews
import Derived.JoinedTies
import Derived.KernelRfl
namespace Go.Proofs.Ytmlfhefijhcpgaa
/- THE CELL 'sum', in the pinned program and in every row, IS THE sha256 OF THE DUMP (.gsa) THAT YtmlfhefijhcpgaaProg.lean LOADS. Nothing in Lean hashes anything: it is a label: what it is worth is what the hold of that sum in a sandbox is worth. -/
noncomputable def Try.pinned : Pinned := { name := "ytmlfhefijhcpgaa", sum := "7419d01222bf4f841b9f8333d0778267059b213253abee8156c0e9bbbc968f06", checked := Try.checked }
namespace Rows
def none {H : Type} : Left H := { results := [], args := [] }

/-- 'apogeelaw03.CountPlays': WHATEVER THE INPUT: true; the input reads as it did. -/
def countPlaysSpec : ChangeSpec := { name := "countPlays", fn := fun _ => fun
  | [d1, d2] => { results := [.lit (.bool true)], args := [d1, d2] }
  | _ => none }
def countPlaysRow : OpenClaim := { program := "ytmlfhefijhcpgaa", sum := "7419d01222bf4f841b9f8333d0778267059b213253abee8156c0e9bbbc968f06", func := "apogee/apogeelaw03.CountPlays", spec := "countPlays", inPlace := ["sync/atomic.LoadInt64", "sync/atomic.CompareAndSwapInt64", "sync/atomic.StoreInt64"], apart := false }
def CountPlaysSaid : Prop := countPlaysRow.holds Try.pinned (OpenSpec.ofChange countPlaysSpec)

/-- ITS FALSE NEIGHBOUR: 'it returns false'. Refute it at one input. -/
def countPlaysWrong : ChangeSpec := { name := "countPlays", fn := fun _ => fun
  | [d1, d2] => { results := [.lit (.bool false)], args := [d1, d2] }
  | _ => none }
def CountPlaysWrongFalsely : Prop := countPlaysRow.holds Try.pinned (OpenSpec.ofChange countPlaysWrong)

/-- 'apogeelaw03.CountUps': WHATEVER THE INPUT: true; the input reads as it did. -/
def countUpsSpec : ChangeSpec := { name := "countUps", fn := fun _ => fun
  | [d1, d2] => { results := [.lit (.bool true)], args := [d1, d2] }
  | _ => none }
def countUpsRow : OpenClaim := { program := "ytmlfhefijhcpgaa", sum := "7419d01222bf4f841b9f8333d0778267059b213253abee8156c0e9bbbc968f06", func := "apogee/apogeelaw03.CountUps", spec := "countUps", inPlace := ["sync/atomic.LoadInt64", "sync/atomic.CompareAndSwapInt64", "sync/atomic.StoreInt64"], apart := false }
def CountUpsSaid : Prop := countUpsRow.holds Try.pinned (OpenSpec.ofChange countUpsSpec)

/-- ITS FALSE NEIGHBOUR: 'it returns false'. Refute it at one input. -/
def countUpsWrong : ChangeSpec := { name := "countUps", fn := fun _ => fun
  | [d1, d2] => { results := [.lit (.bool false)], args := [d1, d2] }
  | _ => none }
def CountUpsWrongFalsely : Prop := countUpsRow.holds Try.pinned (OpenSpec.ofChange countUpsWrong)

/-- 'apogeelaw03.CountRises': WHATEVER THE INPUT: true; the input reads as it did. -/
def countRisesSpec : ChangeSpec := { name := "countRises", fn := fun _ => fun
  | [d1, d2] => { results := [.lit (.bool true)], args := [d1, d2] }
  | _ => none }
def countRisesRow : OpenClaim := { program := "ytmlfhefijhcpgaa", sum := "7419d01222bf4f841b9f8333d0778267059b213253abee8156c0e9bbbc968f06", func := "apogee/apogeelaw03.CountRises", spec := "countRises", inPlace := ["sync/atomic.LoadInt64", "sync/atomic.CompareAndSwapInt64", "sync/atomic.StoreInt64"], apart := false }
def CountRisesSaid : Prop := countRisesRow.holds Try.pinned (OpenSpec.ofChange countRisesSpec)

/-- ITS FALSE NEIGHBOUR: 'it returns false'. Refute it at one input. -/
def countRisesWrong : ChangeSpec := { name := "countRises", fn := fun _ => fun
  | [d1, d2] => { results := [.lit (.bool false)], args := [d1, d2] }
  | _ => none }
def CountRisesWrongFalsely : Prop := countRisesRow.holds Try.pinned (OpenSpec.ofChange countRisesWrong)

/-- 'apogeelaw03.CountMany': WHATEVER THE INPUT: true; the input reads as it did. -/
def countManySpec : ChangeSpec := { name := "countMany", fn := fun _ => fun
  | [d1, d2, d3] => { results := [.lit (.bool true)], args := [d1, d2, d3] }
  | _ => none }
def countManyRow : OpenClaim := { program := "ytmlfhefijhcpgaa", sum := "7419d01222bf4f841b9f8333d0778267059b213253abee8156c0e9bbbc968f06", func := "apogee/apogeelaw03.CountMany", spec := "countMany", inPlace := ["sync/atomic.LoadInt64", "sync/atomic.CompareAndSwapInt64", "sync/atomic.StoreInt64"], apart := false }
def CountManySaid : Prop := countManyRow.holds Try.pinned (OpenSpec.ofChange countManySpec)

/-- ITS FALSE NEIGHBOUR: 'it returns false'. Refute it at one input. -/
def countManyWrong : ChangeSpec := { name := "countMany", fn := fun _ => fun
  | [d1, d2, d3] => { results := [.lit (.bool false)], args := [d1, d2, d3] }
  | _ => none }
def CountManyWrongFalsely : Prop := countManyRow.holds Try.pinned (OpenSpec.ofChange countManyWrong)

/-- 'apogeelaw03.CountNil': WHATEVER THE INPUT: true; the input reads as it did. -/
def countNilSpec : ChangeSpec := { name := "countNil", fn := fun _ => fun
  | [d] => { results := [.lit (.bool true)], args := [d] }
  | _ => none }
def countNilRow : OpenClaim := { program := "ytmlfhefijhcpgaa", sum := "7419d01222bf4f841b9f8333d0778267059b213253abee8156c0e9bbbc968f06", func := "apogee/apogeelaw03.CountNil", spec := "countNil", inPlace := ["sync/atomic.StoreInt64", "sync/atomic.LoadInt64", "sync/atomic.CompareAndSwapInt64"], apart := false }
def CountNilSaid : Prop := countNilRow.holds Try.pinned (OpenSpec.ofChange countNilSpec)

/-- ITS FALSE NEIGHBOUR: 'it returns false'. Refute it at one input. -/
def countNilWrong : ChangeSpec := { name := "countNil", fn := fun _ => fun
  | [d] => { results := [.lit (.bool false)], args := [d] }
  | _ => none }
def CountNilWrongFalsely : Prop := countNilRow.holds Try.pinned (OpenSpec.ofChange countNilWrong)

/- THE SECOND FORM. 'bulk': how many values and letters a reading holds, each counted each time it is reached (what is shared counts as often as it is met; a slice's spare places count too). A statement '..UptoSaid' is the law's where the arguments, and the package variables that the reading takes, are together of bulk at most 1048576: NARROWER than '..Said'. Prove '..Said' where nothing that the law and all that it calls make is longer than what came in: it says more and counts as full. Else prove '..UptoSaid'. A law counts once. -/
mutual
def uptoBulk {H : Type} : DataW H → Nat
  | .lit (.string bytes) => bytes.length + 1
  | .lit _ => 1
  | .nil => 1
  | .ptr d => uptoBulk d + 1
  | .slice elems spare => uptoBulkAll elems + uptoBulkAll spare + 1
  | .agg parts => uptoBulkAll parts + 1
  | .iface _ d => uptoBulk d + 1
  | .map entries => uptoBulkEntries entries + 1
  | .held _ => 1
def uptoBulkAll {H : Type} : List (DataW H) → Nat
  | [] => 0
  | d :: r => uptoBulk d + uptoBulkAll r
def uptoBulkEntries {H : Type} : List (Lit × DataW H) → Nat
  | [] => 0
  | x :: r => uptoBulkEntry x + uptoBulkEntries r
def uptoBulkEntry {H : Type} : Lit × DataW H → Nat
  | (.string bytes, d) => bytes.length + uptoBulk d + 1
  | (_, d) => uptoBulk d + 1
 end
def uptoSmall : (H : Type) → List (DataW H) → Bool := fun _ ds => decide (uptoBulkAll ds ≤ 1048576)
def OpenSpec.upto (s : _root_.Go.ChangeSpec) : _root_.Go.OpenSpec := { _root_.Go.OpenSpec.ofChange s with cond := some uptoSmall }

/-- 'apogeelaw03.CountPlays', WHERE WHAT IT READS IS OF BULK AT MOST 1048576: true; the input reads as it did. -/
def countPlaysUptoRow : OpenClaim := { program := "ytmlfhefijhcpgaa", sum := "7419d01222bf4f841b9f8333d0778267059b213253abee8156c0e9bbbc968f06", func := "apogee/apogeelaw03.CountPlays", spec := "countPlays", inPlace := ["sync/atomic.LoadInt64", "sync/atomic.CompareAndSwapInt64", "sync/atomic.StoreInt64"], apart := false, narrowed := true }
def CountPlaysUptoSaid : Prop := countPlaysUptoRow.holds Try.pinned (OpenSpec.upto countPlaysSpec)

/-- 'apogeelaw03.CountUps', WHERE WHAT IT READS IS OF BULK AT MOST 1048576: true; the input reads as it did. -/
def countUpsUptoRow : OpenClaim := { program := "ytmlfhefijhcpgaa", sum := "7419d01222bf4f841b9f8333d0778267059b213253abee8156c0e9bbbc968f06", func := "apogee/apogeelaw03.CountUps", spec := "countUps", inPlace := ["sync/atomic.LoadInt64", "sync/atomic.CompareAndSwapInt64", "sync/atomic.StoreInt64"], apart := false, narrowed := true }
def CountUpsUptoSaid : Prop := countUpsUptoRow.holds Try.pinned (OpenSpec.upto countUpsSpec)

/-- 'apogeelaw03.CountRises', WHERE WHAT IT READS IS OF BULK AT MOST 1048576: true; the input reads as it did. -/
def countRisesUptoRow : OpenClaim := { program := "ytmlfhefijhcpgaa", sum := "7419d01222bf4f841b9f8333d0778267059b213253abee8156c0e9bbbc968f06", func := "apogee/apogeelaw03.CountRises", spec := "countRises", inPlace := ["sync/atomic.LoadInt64", "sync/atomic.CompareAndSwapInt64", "sync/atomic.StoreInt64"], apart := false, narrowed := true }
def CountRisesUptoSaid : Prop := countRisesUptoRow.holds Try.pinned (OpenSpec.upto countRisesSpec)

/-- 'apogeelaw03.CountMany', WHERE WHAT IT READS IS OF BULK AT MOST 1048576: true; the input reads as it did. -/
def countManyUptoRow : OpenClaim := { program := "ytmlfhefijhcpgaa", sum := "7419d01222bf4f841b9f8333d0778267059b213253abee8156c0e9bbbc968f06", func := "apogee/apogeelaw03.CountMany", spec := "countMany", inPlace := ["sync/atomic.LoadInt64", "sync/atomic.CompareAndSwapInt64", "sync/atomic.StoreInt64"], apart := false, narrowed := true }
def CountManyUptoSaid : Prop := countManyUptoRow.holds Try.pinned (OpenSpec.upto countManySpec)

/-- 'apogeelaw03.CountNil', WHERE WHAT IT READS IS OF BULK AT MOST 1048576: true; the input reads as it did. -/
def countNilUptoRow : OpenClaim := { program := "ytmlfhefijhcpgaa", sum := "7419d01222bf4f841b9f8333d0778267059b213253abee8156c0e9bbbc968f06", func := "apogee/apogeelaw03.CountNil", spec := "countNil", inPlace := ["sync/atomic.StoreInt64", "sync/atomic.LoadInt64", "sync/atomic.CompareAndSwapInt64"], apart := false, narrowed := true }
def CountNilUptoSaid : Prop := countNilUptoRow.holds Try.pinned (OpenSpec.upto countNilSpec)

end Rows
end Go.Proofs.Ytmlfhefijhcpgaa
