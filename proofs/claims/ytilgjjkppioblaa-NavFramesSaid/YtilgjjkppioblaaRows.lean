/-
  No cell of these rows narrows 'for every input' (looked for: loops, veiled, ifaces, maps, wideKeys, modest, calm, conditions, laid).
  DERIVED. THE GIVEN ROWS OF THIS SEAT. 5 by the template 'for every input the law returns true; each argument reads behind the call as it read before'; 0 by the template 'total and deterministic' (their statements: YtilgjjkppioblaaTotals.lean).
  GIVEN WITH THE SEED: the statements are not yours to turn. If you find one false, say at which input.
  Laid BY PROGRAM, IN A SANDBOX (cutbox-rows.mjs): the forced cells as the released guide's own fill.sh prints them over the translation b0d3a0672dd19beb… (all of the seat's roots in one cut). By AI agents, Wed Nov 11 2026. No macro, syntax, notation, axiom, sorry.
-/
import Derived.Test.YtilgjjkppioblaaChecked
import GoSem.Claim
import GoSem.ClaimJoined
import GoSem.ClaimMapViews
import Derived.JoinedTies
import Derived.KernelRfl
namespace Go.Proofs.Ytilgjjkppioblaa
/- THE CELL 'sum', in the pinned program and in every row, IS THE sha256 OF THE DUMP (.gsa) THAT YtilgjjkppioblaaProg.lean LOADS. Nothing in Lean hashes anything: it is a label: what it is worth is what the hold of that sum in a sandbox is worth. -/
noncomputable def Try.pinned : Pinned := { name := "ytilgjjkppioblaa", sum := "b0d3a0672dd19beb1d0f6f6106af71d8efaabe9994d47218d14f3c9361febf83", checked := Try.checked }
namespace Rows
def none {H : Type} : Left H := { results := [], args := [] }

/-- 'apogeelaw06.NavPrints': WHATEVER THE INPUT: true; the input reads as it did. -/
def navPrintsSpec : ChangeSpec := { name := "navPrints", fn := fun _ => fun
  | [d] => { results := [.lit (.bool true)], args := [d] }
  | _ => none }
def navPrintsRow : OpenClaim := { program := "ytilgjjkppioblaa", sum := "b0d3a0672dd19beb1d0f6f6106af71d8efaabe9994d47218d14f3c9361febf83", func := "apogee/apogeelaw06.NavPrints", spec := "navPrints", apart := false }
def NavPrintsSaid : Prop := navPrintsRow.holds Try.pinned (OpenSpec.ofChange navPrintsSpec)

/-- ITS FALSE NEIGHBOUR: 'it returns false'. Refute it at one input. -/
def navPrintsWrong : ChangeSpec := { name := "navPrints", fn := fun _ => fun
  | [d] => { results := [.lit (.bool false)], args := [d] }
  | _ => none }
def NavPrintsWrongFalsely : Prop := navPrintsRow.holds Try.pinned (OpenSpec.ofChange navPrintsWrong)

/-- 'apogeelaw06.NavReads': WHATEVER THE INPUT: true; the input reads as it did. -/
def navReadsSpec : ChangeSpec := { name := "navReads", fn := fun _ => fun
  | [d] => { results := [.lit (.bool true)], args := [d] }
  | _ => none }
def navReadsRow : OpenClaim := { program := "ytilgjjkppioblaa", sum := "b0d3a0672dd19beb1d0f6f6106af71d8efaabe9994d47218d14f3c9361febf83", func := "apogee/apogeelaw06.NavReads", spec := "navReads", apart := false }
def NavReadsSaid : Prop := navReadsRow.holds Try.pinned (OpenSpec.ofChange navReadsSpec)

/-- ITS FALSE NEIGHBOUR: 'it returns false'. Refute it at one input. -/
def navReadsWrong : ChangeSpec := { name := "navReads", fn := fun _ => fun
  | [d] => { results := [.lit (.bool false)], args := [d] }
  | _ => none }
def NavReadsWrongFalsely : Prop := navReadsRow.holds Try.pinned (OpenSpec.ofChange navReadsWrong)

/-- 'apogeelaw06.NavNear': WHATEVER THE INPUT: true; the input reads as it did. -/
def navNearSpec : ChangeSpec := { name := "navNear", fn := fun _ => fun
  | [d1, d2, d3, d4, d5] => { results := [.lit (.bool true)], args := [d1, d2, d3, d4, d5] }
  | _ => none }
def navNearRow : OpenClaim := { program := "ytilgjjkppioblaa", sum := "b0d3a0672dd19beb1d0f6f6106af71d8efaabe9994d47218d14f3c9361febf83", func := "apogee/apogeelaw06.NavNear", spec := "navNear", recurses := true, apart := false }
def NavNearSaid : Prop := navNearRow.holds Try.pinned (OpenSpec.ofChange navNearSpec)

/-- ITS FALSE NEIGHBOUR: 'it returns false'. Refute it at one input. -/
def navNearWrong : ChangeSpec := { name := "navNear", fn := fun _ => fun
  | [d1, d2, d3, d4, d5] => { results := [.lit (.bool false)], args := [d1, d2, d3, d4, d5] }
  | _ => none }
def NavNearWrongFalsely : Prop := navNearRow.holds Try.pinned (OpenSpec.ofChange navNearWrong)

/-- 'apogeelaw06.NavKinds': WHATEVER THE INPUT: true; the input reads as it did. -/
def navKindsSpec : ChangeSpec := { name := "navKinds", fn := fun _ => fun
  | [d1, d2] => { results := [.lit (.bool true)], args := [d1, d2] }
  | _ => none }
def navKindsRow : OpenClaim := { program := "ytilgjjkppioblaa", sum := "b0d3a0672dd19beb1d0f6f6106af71d8efaabe9994d47218d14f3c9361febf83", func := "apogee/apogeelaw06.NavKinds", spec := "navKinds", apart := false }
def NavKindsSaid : Prop := navKindsRow.holds Try.pinned (OpenSpec.ofChange navKindsSpec)

/-- ITS FALSE NEIGHBOUR: 'it returns false'. Refute it at one input. -/
def navKindsWrong : ChangeSpec := { name := "navKinds", fn := fun _ => fun
  | [d1, d2] => { results := [.lit (.bool false)], args := [d1, d2] }
  | _ => none }
def NavKindsWrongFalsely : Prop := navKindsRow.holds Try.pinned (OpenSpec.ofChange navKindsWrong)

/-- 'apogeelaw06.NavFrames': WHATEVER THE INPUT: true; the input reads as it did. -/
def navFramesSpec : ChangeSpec := { name := "navFrames", fn := fun _ => fun
  | [d1, d2, d3] => { results := [.lit (.bool true)], args := [d1, d2, d3] }
  | _ => none }
def navFramesRow : OpenClaim := { program := "ytilgjjkppioblaa", sum := "b0d3a0672dd19beb1d0f6f6106af71d8efaabe9994d47218d14f3c9361febf83", func := "apogee/apogeelaw06.NavFrames", spec := "navFrames", inPlace := ["sync/atomic.LoadInt64", "sync/atomic.CompareAndSwapInt64"], apart := false }
def NavFramesSaid : Prop := navFramesRow.holds Try.pinned (OpenSpec.ofChange navFramesSpec)

/-- ITS FALSE NEIGHBOUR: 'it returns false'. Refute it at one input. -/
def navFramesWrong : ChangeSpec := { name := "navFrames", fn := fun _ => fun
  | [d1, d2, d3] => { results := [.lit (.bool false)], args := [d1, d2, d3] }
  | _ => none }
def NavFramesWrongFalsely : Prop := navFramesRow.holds Try.pinned (OpenSpec.ofChange navFramesWrong)

/- THE SECOND FORM. 'bulk': how many values and letters a reading holds, each counted each time it is reached (what is shared counts as often as it is met; a slice's spare places count too). A statement '..UptoSaid' is the law's where the arguments, and the package variables that the reading takes, are together of bulk at most 1048576: NARROWER than '..Said'. Prove '..Said' where nothing that the law and all that it calls make is longer than what came in: it says more and counts as full. Else prove '..UptoSaid'. A law counts once. -/
mutual
def uptoBulk {H : Type} : DataW H → Nat
  | .lit (.string bytes) => bytes.length + 1
  | .lit _ => 1
  | .nil => 1
  | .ptr d => uptoBulk d + 1
  | .slice elems spare => uptoBulkAll elems + uptoBulkAll spare + 1
  | .agg parts => uptoBulkAll parts + 1
  | .iface _ d => uptoBulk d + 1
  | .map entries => uptoBulkEntries entries + 1
  | .held _ => 1
def uptoBulkAll {H : Type} : List (DataW H) → Nat
  | [] => 0
  | d :: r => uptoBulk d + uptoBulkAll r
def uptoBulkEntries {H : Type} : List (Lit × DataW H) → Nat
  | [] => 0
  | x :: r => uptoBulkEntry x + uptoBulkEntries r
def uptoBulkEntry {H : Type} : Lit × DataW H → Nat
  | (.string bytes, d) => bytes.length + uptoBulk d + 1
  | (_, d) => uptoBulk d + 1
 end
def uptoSmall : (H : Type) → List (DataW H) → Bool := fun _ ds => decide (uptoBulkAll ds ≤ 1048576)
def OpenSpec.upto (s : _root_.Go.ChangeSpec) : _root_.Go.OpenSpec := { _root_.Go.OpenSpec.ofChange s with cond := some uptoSmall }

/-- 'apogeelaw06.NavPrints', WHERE WHAT IT READS IS OF BULK AT MOST 1048576: true; the input reads as it did. -/
def navPrintsUptoRow : OpenClaim := { program := "ytilgjjkppioblaa", sum := "b0d3a0672dd19beb1d0f6f6106af71d8efaabe9994d47218d14f3c9361febf83", func := "apogee/apogeelaw06.NavPrints", spec := "navPrints", apart := false, narrowed := true }
def NavPrintsUptoSaid : Prop := navPrintsUptoRow.holds Try.pinned (OpenSpec.upto navPrintsSpec)

/-- 'apogeelaw06.NavReads', WHERE WHAT IT READS IS OF BULK AT MOST 1048576: true; the input reads as it did. -/
def navReadsUptoRow : OpenClaim := { program := "ytilgjjkppioblaa", sum := "b0d3a0672dd19beb1d0f6f6106af71d8efaabe9994d47218d14f3c9361febf83", func := "apogee/apogeelaw06.NavReads", spec := "navReads", apart := false, narrowed := true }
def NavReadsUptoSaid : Prop := navReadsUptoRow.holds Try.pinned (OpenSpec.upto navReadsSpec)

/-- 'apogeelaw06.NavNear', WHERE WHAT IT READS IS OF BULK AT MOST 1048576: true; the input reads as it did. -/
def navNearUptoRow : OpenClaim := { program := "ytilgjjkppioblaa", sum := "b0d3a0672dd19beb1d0f6f6106af71d8efaabe9994d47218d14f3c9361febf83", func := "apogee/apogeelaw06.NavNear", spec := "navNear", recurses := true, apart := false, narrowed := true }
def NavNearUptoSaid : Prop := navNearUptoRow.holds Try.pinned (OpenSpec.upto navNearSpec)

/-- 'apogeelaw06.NavKinds', WHERE WHAT IT READS IS OF BULK AT MOST 1048576: true; the input reads as it did. -/
def navKindsUptoRow : OpenClaim := { program := "ytilgjjkppioblaa", sum := "b0d3a0672dd19beb1d0f6f6106af71d8efaabe9994d47218d14f3c9361febf83", func := "apogee/apogeelaw06.NavKinds", spec := "navKinds", apart := false, narrowed := true }
def NavKindsUptoSaid : Prop := navKindsUptoRow.holds Try.pinned (OpenSpec.upto navKindsSpec)

/-- 'apogeelaw06.NavFrames', WHERE WHAT IT READS IS OF BULK AT MOST 1048576: true; the input reads as it did. -/
def navFramesUptoRow : OpenClaim := { program := "ytilgjjkppioblaa", sum := "b0d3a0672dd19beb1d0f6f6106af71d8efaabe9994d47218d14f3c9361febf83", func := "apogee/apogeelaw06.NavFrames", spec := "navFrames", inPlace := ["sync/atomic.LoadInt64", "sync/atomic.CompareAndSwapInt64"], apart := false, narrowed := true }
def NavFramesUptoSaid : Prop := navFramesUptoRow.holds Try.pinned (OpenSpec.upto navFramesSpec)

end Rows
end Go.Proofs.Ytilgjjkppioblaa
