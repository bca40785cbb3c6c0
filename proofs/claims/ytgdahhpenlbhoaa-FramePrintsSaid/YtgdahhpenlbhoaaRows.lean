/-
  No cell of these rows narrows 'for every input' (looked for: loops, veiled, ifaces, maps, wideKeys, modest, calm, conditions, laid).
  DERIVED. THE GIVEN ROWS OF THIS SEAT. 6 by the template 'for every input the law returns true; each argument reads behind the call as it read before'; 0 by the template 'total and deterministic' (their statements: YtgdahhpenlbhoaaTotals.lean).
  GIVEN WITH THE SEED: the statements are not yours to turn. If you find one false, say at which input.
  Laid BY PROGRAM, IN A SANDBOX (cutbox-rows.mjs): the forced cells as the released guide's own fill.sh prints them over the translation bf27e111f6b4ab04… (all of the seat's roots in one cut). By AI agents, Wed Nov 11 2026. No macro, syntax, notation, axiom, sorry.
-/
import Derived.Test.YtgdahhpenlbhoaaChecked
import GoSem.Claim
import GoSem.ClaimJoined
import GoSem.ClaimMapViews
import Derived.JoinedTies
import Derived.KernelRfl
namespace Go.Proofs.Ytgdahhpenlbhoaa
/- THE CELL 'sum', in the pinned program and in every row, IS THE sha256 OF THE DUMP (.gsa) THAT YtgdahhpenlbhoaaProg.lean LOADS. Nothing in Lean hashes anything: it is a label: what it is worth is what the hold of that sum in a sandbox is worth. -/
noncomputable def Try.pinned : Pinned := { name := "ytgdahhpenlbhoaa", sum := "bf27e111f6b4ab04b9fd803a0406bcec9c84a03486270130e344fe830a19ea1e", checked := Try.checked }
namespace Rows
def none {H : Type} : Left H := { results := [], args := [] }

/-- 'apogeelaw05.FramePrints': WHATEVER THE INPUT: true; the input reads as it did. -/
def framePrintsSpec : ChangeSpec := { name := "framePrints", fn := fun _ => fun
  | [d1, d2] => { results := [.lit (.bool true)], args := [d1, d2] }
  | _ => none }
def framePrintsRow : OpenClaim := { program := "ytgdahhpenlbhoaa", sum := "bf27e111f6b4ab04b9fd803a0406bcec9c84a03486270130e344fe830a19ea1e", func := "apogee/apogeelaw05.FramePrints", spec := "framePrints", inPlace := ["sync/atomic.LoadInt64", "sync/atomic.CompareAndSwapInt64"], apart := false }
def FramePrintsSaid : Prop := framePrintsRow.holds Try.pinned (OpenSpec.ofChange framePrintsSpec)

/-- ITS FALSE NEIGHBOUR: 'it returns false'. Refute it at one input. -/
def framePrintsWrong : ChangeSpec := { name := "framePrints", fn := fun _ => fun
  | [d1, d2] => { results := [.lit (.bool false)], args := [d1, d2] }
  | _ => none }
def FramePrintsWrongFalsely : Prop := framePrintsRow.holds Try.pinned (OpenSpec.ofChange framePrintsWrong)

/-- 'apogeelaw05.FrameReads': WHATEVER THE INPUT: true; the input reads as it did. -/
def frameReadsSpec : ChangeSpec := { name := "frameReads", fn := fun _ => fun
  | [d] => { results := [.lit (.bool true)], args := [d] }
  | _ => none }
def frameReadsRow : OpenClaim := { program := "ytgdahhpenlbhoaa", sum := "bf27e111f6b4ab04b9fd803a0406bcec9c84a03486270130e344fe830a19ea1e", func := "apogee/apogeelaw05.FrameReads", spec := "frameReads", inPlace := ["sync/atomic.LoadInt64", "sync/atomic.CompareAndSwapInt64"], apart := false }
def FrameReadsSaid : Prop := frameReadsRow.holds Try.pinned (OpenSpec.ofChange frameReadsSpec)

/-- ITS FALSE NEIGHBOUR: 'it returns false'. Refute it at one input. -/
def frameReadsWrong : ChangeSpec := { name := "frameReads", fn := fun _ => fun
  | [d] => { results := [.lit (.bool false)], args := [d] }
  | _ => none }
def FrameReadsWrongFalsely : Prop := frameReadsRow.holds Try.pinned (OpenSpec.ofChange frameReadsWrong)

/-- 'apogeelaw05.FrameStream': WHATEVER THE INPUT: true; the input reads as it did. -/
def frameStreamSpec : ChangeSpec := { name := "frameStream", fn := fun _ => fun
  | [d1, d2] => { results := [.lit (.bool true)], args := [d1, d2] }
  | _ => none }
def frameStreamRow : OpenClaim := { program := "ytgdahhpenlbhoaa", sum := "bf27e111f6b4ab04b9fd803a0406bcec9c84a03486270130e344fe830a19ea1e", func := "apogee/apogeelaw05.FrameStream", spec := "frameStream", inPlace := ["sync/atomic.LoadInt64", "sync/atomic.CompareAndSwapInt64"], apart := false }
def FrameStreamSaid : Prop := frameStreamRow.holds Try.pinned (OpenSpec.ofChange frameStreamSpec)

/-- ITS FALSE NEIGHBOUR: 'it returns false'. Refute it at one input. -/
def frameStreamWrong : ChangeSpec := { name := "frameStream", fn := fun _ => fun
  | [d1, d2] => { results := [.lit (.bool false)], args := [d1, d2] }
  | _ => none }
def FrameStreamWrongFalsely : Prop := frameStreamRow.holds Try.pinned (OpenSpec.ofChange frameStreamWrong)

/-- 'apogeelaw05.FrameAll': WHATEVER THE INPUT: true; the input reads as it did. -/
def frameAllSpec : ChangeSpec := { name := "frameAll", fn := fun _ => fun
  | [d] => { results := [.lit (.bool true)], args := [d] }
  | _ => none }
def frameAllRow : OpenClaim := { program := "ytgdahhpenlbhoaa", sum := "bf27e111f6b4ab04b9fd803a0406bcec9c84a03486270130e344fe830a19ea1e", func := "apogee/apogeelaw05.FrameAll", spec := "frameAll", inPlace := ["sync/atomic.LoadInt64", "sync/atomic.CompareAndSwapInt64"], apart := false }
def FrameAllSaid : Prop := frameAllRow.holds Try.pinned (OpenSpec.ofChange frameAllSpec)

/-- ITS FALSE NEIGHBOUR: 'it returns false'. Refute it at one input. -/
def frameAllWrong : ChangeSpec := { name := "frameAll", fn := fun _ => fun
  | [d] => { results := [.lit (.bool false)], args := [d] }
  | _ => none }
def FrameAllWrongFalsely : Prop := frameAllRow.holds Try.pinned (OpenSpec.ofChange frameAllWrong)

/-- 'apogeelaw05.FrameNoise': WHATEVER THE INPUT: true; the input reads as it did. -/
def frameNoiseSpec : ChangeSpec := { name := "frameNoise", fn := fun _ => fun
  | [d1, d2] => { results := [.lit (.bool true)], args := [d1, d2] }
  | _ => none }
def frameNoiseRow : OpenClaim := { program := "ytgdahhpenlbhoaa", sum := "bf27e111f6b4ab04b9fd803a0406bcec9c84a03486270130e344fe830a19ea1e", func := "apogee/apogeelaw05.FrameNoise", spec := "frameNoise", inPlace := ["sync/atomic.LoadInt64", "sync/atomic.CompareAndSwapInt64"], apart := false }
def FrameNoiseSaid : Prop := frameNoiseRow.holds Try.pinned (OpenSpec.ofChange frameNoiseSpec)

/-- ITS FALSE NEIGHBOUR: 'it returns false'. Refute it at one input. -/
def frameNoiseWrong : ChangeSpec := { name := "frameNoise", fn := fun _ => fun
  | [d1, d2] => { results := [.lit (.bool false)], args := [d1, d2] }
  | _ => none }
def FrameNoiseWrongFalsely : Prop := frameNoiseRow.holds Try.pinned (OpenSpec.ofChange frameNoiseWrong)

/-- 'apogeelaw05.FrameCounts': WHATEVER THE INPUT: true; the input reads as it did. -/
def frameCountsSpec : ChangeSpec := { name := "frameCounts", fn := fun _ => fun
  | [d] => { results := [.lit (.bool true)], args := [d] }
  | _ => none }
def frameCountsRow : OpenClaim := { program := "ytgdahhpenlbhoaa", sum := "bf27e111f6b4ab04b9fd803a0406bcec9c84a03486270130e344fe830a19ea1e", func := "apogee/apogeelaw05.FrameCounts", spec := "frameCounts", inPlace := ["sync/atomic.LoadInt64", "sync/atomic.CompareAndSwapInt64"], apart := false }
def FrameCountsSaid : Prop := frameCountsRow.holds Try.pinned (OpenSpec.ofChange frameCountsSpec)

/-- ITS FALSE NEIGHBOUR: 'it returns false'. Refute it at one input. -/
def frameCountsWrong : ChangeSpec := { name := "frameCounts", fn := fun _ => fun
  | [d] => { results := [.lit (.bool false)], args := [d] }
  | _ => none }
def FrameCountsWrongFalsely : Prop := frameCountsRow.holds Try.pinned (OpenSpec.ofChange frameCountsWrong)

/- THE SECOND FORM. 'bulk': how many values and letters a reading holds, each counted each time it is reached (what is shared counts as often as it is met; a slice's spare places count too). A statement '..UptoSaid' is the law's where the arguments, and the package variables that the reading takes, are together of bulk at most 1048576: NARROWER than '..Said'. Prove '..Said' where nothing that the law and all that it calls make is longer than what came in: it says more and counts as full. Else prove '..UptoSaid'. A law counts once. -/
mutual
def uptoBulk {H : Type} : DataW H → Nat
  | .lit (.string bytes) => bytes.length + 1
  | .lit _ => 1
  | .nil => 1
  | .ptr d => uptoBulk d + 1
  | .slice elems spare => uptoBulkAll elems + uptoBulkAll spare + 1
  | .agg parts => uptoBulkAll parts + 1
  | .iface _ d => uptoBulk d + 1
  | .map entries => uptoBulkEntries entries + 1
  | .held _ => 1
def uptoBulkAll {H : Type} : List (DataW H) → Nat
  | [] => 0
  | d :: r => uptoBulk d + uptoBulkAll r
def uptoBulkEntries {H : Type} : List (Lit × DataW H) → Nat
  | [] => 0
  | x :: r => uptoBulkEntry x + uptoBulkEntries r
def uptoBulkEntry {H : Type} : Lit × DataW H → Nat
  | (.string bytes, d) => bytes.length + uptoBulk d + 1
  | (_, d) => uptoBulk d + 1
 end
def uptoSmall : (H : Type) → List (DataW H) → Bool := fun _ ds => decide (uptoBulkAll ds ≤ 1048576)
def OpenSpec.upto (s : _root_.Go.ChangeSpec) : _root_.Go.OpenSpec := { _root_.Go.OpenSpec.ofChange s with cond := some uptoSmall }

/-- 'apogeelaw05.FramePrints', WHERE WHAT IT READS IS OF BULK AT MOST 1048576: true; the input reads as it did. -/
def framePrintsUptoRow : OpenClaim := { program := "ytgdahhpenlbhoaa", sum := "bf27e111f6b4ab04b9fd803a0406bcec9c84a03486270130e344fe830a19ea1e", func := "apogee/apogeelaw05.FramePrints", spec := "framePrints", inPlace := ["sync/atomic.LoadInt64", "sync/atomic.CompareAndSwapInt64"], apart := false, narrowed := true }
def FramePrintsUptoSaid : Prop := framePrintsUptoRow.holds Try.pinned (OpenSpec.upto framePrintsSpec)

/-- 'apogeelaw05.FrameReads', WHERE WHAT IT READS IS OF BULK AT MOST 1048576: true; the input reads as it did. -/
def frameReadsUptoRow : OpenClaim := { program := "ytgdahhpenlbhoaa", sum := "bf27e111f6b4ab04b9fd803a0406bcec9c84a03486270130e344fe830a19ea1e", func := "apogee/apogeelaw05.FrameReads", spec := "frameReads", inPlace := ["sync/atomic.LoadInt64", "sync/atomic.CompareAndSwapInt64"], apart := false, narrowed := true }
def FrameReadsUptoSaid : Prop := frameReadsUptoRow.holds Try.pinned (OpenSpec.upto frameReadsSpec)

/-- 'apogeelaw05.FrameStream', WHERE WHAT IT READS IS OF BULK AT MOST 1048576: true; the input reads as it did. -/
def frameStreamUptoRow : OpenClaim := { program := "ytgdahhpenlbhoaa", sum := "bf27e111f6b4ab04b9fd803a0406bcec9c84a03486270130e344fe830a19ea1e", func := "apogee/apogeelaw05.FrameStream", spec := "frameStream", inPlace := ["sync/atomic.LoadInt64", "sync/atomic.CompareAndSwapInt64"], apart := false, narrowed := true }
def FrameStreamUptoSaid : Prop := frameStreamUptoRow.holds Try.pinned (OpenSpec.upto frameStreamSpec)

/-- 'apogeelaw05.FrameAll', WHERE WHAT IT READS IS OF BULK AT MOST 1048576: true; the input reads as it did. -/
def frameAllUptoRow : OpenClaim := { program := "ytgdahhpenlbhoaa", sum := "bf27e111f6b4ab04b9fd803a0406bcec9c84a03486270130e344fe830a19ea1e", func := "apogee/apogeelaw05.FrameAll", spec := "frameAll", inPlace := ["sync/atomic.LoadInt64", "sync/atomic.CompareAndSwapInt64"], apart := false, narrowed := true }
def FrameAllUptoSaid : Prop := frameAllUptoRow.holds Try.pinned (OpenSpec.upto frameAllSpec)

/-- 'apogeelaw05.FrameNoise', WHERE WHAT IT READS IS OF BULK AT MOST 1048576: true; the input reads as it did. -/
def frameNoiseUptoRow : OpenClaim := { program := "ytgdahhpenlbhoaa", sum := "bf27e111f6b4ab04b9fd803a0406bcec9c84a03486270130e344fe830a19ea1e", func := "apogee/apogeelaw05.FrameNoise", spec := "frameNoise", inPlace := ["sync/atomic.LoadInt64", "sync/atomic.CompareAndSwapInt64"], apart := false, narrowed := true }
def FrameNoiseUptoSaid : Prop := frameNoiseUptoRow.holds Try.pinned (OpenSpec.upto frameNoiseSpec)

/-- 'apogeelaw05.FrameCounts', WHERE WHAT IT READS IS OF BULK AT MOST 1048576: true; the input reads as it did. -/
def frameCountsUptoRow : OpenClaim := { program := "ytgdahhpenlbhoaa", sum := "bf27e111f6b4ab04b9fd803a0406bcec9c84a03486270130e344fe830a19ea1e", func := "apogee/apogeelaw05.FrameCounts", spec := "frameCounts", inPlace := ["sync/atomic.LoadInt64", "sync/atomic.CompareAndSwapInt64"], apart := false, narrowed := true }
def FrameCountsUptoSaid : Prop := frameCountsUptoRow.holds Try.pinned (OpenSpec.upto frameCountsSpec)

end Rows
end Go.Proofs.Ytgdahhpenlbhoaa
