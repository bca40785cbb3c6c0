/-
  No cell of these rows narrows 'for every input' (looked for: loops, veiled, ifaces, maps, wideKeys, modest, calm, conditions, laid).
  DERIVED. THE GIVEN ROWS OF THIS SEAT. 4 by the template 'for every input the law returns true; each argument reads behind the call as it read before'; 0 by the template 'total and deterministic' (their statements: YtmdgikikiijjbaaTotals.lean).
  GIVEN WITH THE SEED: the statements are not yours to turn. If you find one false, say at which input.
  Laid BY PROGRAM, IN A SANDBOX (cutbox-rows.mjs): the forced cells as the released guide's own fill.sh prints them over the translation 05d8f3620ef111c4… (all of the seat's roots in one cut). By AI agents, Wed Nov 11 2026. No macro, syntax, notation, axiom, sorry.
-/
import Derived.Test.YtmdgikikiijjbaaChecked
import GoSem.Claim
import GoSem.ClaimJoined
import GoSem.ClaimMapViews
import Derived.JoinedTies
import Derived.KernelRfl
namespace Go.Proofs.Ytmdgikikiijjbaa
/- THE CELL 'sum', in the pinned program and in every row, IS THE sha256 OF THE DUMP (.gsa) THAT YtmdgikikiijjbaaProg.lean LOADS. Nothing in Lean hashes anything: it is a label: what it is worth is what the hold of that sum in a sandbox is worth. -/
noncomputable def Try.pinned : Pinned := { name := "ytmdgikikiijjbaa", sum := "05d8f3620ef111c482252f64affde8e67f23b981cb66587c097a3eed378a1057", checked := Try.checked }
namespace Rows
def none {H : Type} : Left H := { results := [], args := [] }

/-- 'apogeelaw15.SourcePlays': WHATEVER THE INPUT: true; the input reads as it did. -/
def sourcePlaysSpec : ChangeSpec := { name := "sourcePlays", fn := fun _ => fun
  | [d1, d2] => { results := [.lit (.bool true)], args := [d1, d2] }
  | _ => none }
def sourcePlaysRow : OpenClaim := { program := "ytmdgikikiijjbaa", sum := "05d8f3620ef111c482252f64affde8e67f23b981cb66587c097a3eed378a1057", func := "apogee/apogeelaw15.SourcePlays", spec := "sourcePlays", inPlace := ["sync/atomic.LoadInt64", "math/bits.Sub64", "sync/atomic.StoreInt64", "sync/atomic.CompareAndSwapInt64"], apart := false }
def SourcePlaysSaid : Prop := sourcePlaysRow.holds Try.pinned (OpenSpec.ofChange sourcePlaysSpec)

/-- ITS FALSE NEIGHBOUR: 'it returns false'. Refute it at one input. -/
def sourcePlaysWrong : ChangeSpec := { name := "sourcePlays", fn := fun _ => fun
  | [d1, d2] => { results := [.lit (.bool false)], args := [d1, d2] }
  | _ => none }
def SourcePlaysWrongFalsely : Prop := sourcePlaysRow.holds Try.pinned (OpenSpec.ofChange sourcePlaysWrong)

/-- 'apogeelaw15.SourceTrue': WHATEVER THE INPUT: true; the input reads as it did. -/
def sourceTrueSpec : ChangeSpec := { name := "sourceTrue", fn := fun _ => fun
  | [d1, d2] => { results := [.lit (.bool true)], args := [d1, d2] }
  | _ => none }
def sourceTrueRow : OpenClaim := { program := "ytmdgikikiijjbaa", sum := "05d8f3620ef111c482252f64affde8e67f23b981cb66587c097a3eed378a1057", func := "apogee/apogeelaw15.SourceTrue", spec := "sourceTrue", inPlace := ["sync/atomic.LoadInt64", "math/bits.Sub64", "sync/atomic.StoreInt64", "sync/atomic.CompareAndSwapInt64"], apart := false }
def SourceTrueSaid : Prop := sourceTrueRow.holds Try.pinned (OpenSpec.ofChange sourceTrueSpec)

/-- ITS FALSE NEIGHBOUR: 'it returns false'. Refute it at one input. -/
def sourceTrueWrong : ChangeSpec := { name := "sourceTrue", fn := fun _ => fun
  | [d1, d2] => { results := [.lit (.bool false)], args := [d1, d2] }
  | _ => none }
def SourceTrueWrongFalsely : Prop := sourceTrueRow.holds Try.pinned (OpenSpec.ofChange sourceTrueWrong)

/-- 'apogeelaw15.SourceOld': WHATEVER THE INPUT: true; the input reads as it did. -/
def sourceOldSpec : ChangeSpec := { name := "sourceOld", fn := fun _ => fun
  | [d1, d2, d3] => { results := [.lit (.bool true)], args := [d1, d2, d3] }
  | _ => none }
def sourceOldRow : OpenClaim := { program := "ytmdgikikiijjbaa", sum := "05d8f3620ef111c482252f64affde8e67f23b981cb66587c097a3eed378a1057", func := "apogee/apogeelaw15.SourceOld", spec := "sourceOld", inPlace := ["sync/atomic.LoadInt64", "math/bits.Sub64", "sync/atomic.StoreInt64", "sync/atomic.CompareAndSwapInt64"], apart := false }
def SourceOldSaid : Prop := sourceOldRow.holds Try.pinned (OpenSpec.ofChange sourceOldSpec)

/-- ITS FALSE NEIGHBOUR: 'it returns false'. Refute it at one input. -/
def sourceOldWrong : ChangeSpec := { name := "sourceOld", fn := fun _ => fun
  | [d1, d2, d3] => { results := [.lit (.bool false)], args := [d1, d2, d3] }
  | _ => none }
def SourceOldWrongFalsely : Prop := sourceOldRow.holds Try.pinned (OpenSpec.ofChange sourceOldWrong)

/-- 'apogeelaw15.SourceRight': WHATEVER THE INPUT: true; the input reads as it did. -/
def sourceRightSpec : ChangeSpec := { name := "sourceRight", fn := fun _ => fun
  | [d] => { results := [.lit (.bool true)], args := [d] }
  | _ => none }
def sourceRightRow : OpenClaim := { program := "ytmdgikikiijjbaa", sum := "05d8f3620ef111c482252f64affde8e67f23b981cb66587c097a3eed378a1057", func := "apogee/apogeelaw15.SourceRight", spec := "sourceRight", inPlace := ["sync/atomic.LoadInt64", "math/bits.Sub64", "sync/atomic.StoreInt64", "sync/atomic.CompareAndSwapInt64"], apart := false }
def SourceRightSaid : Prop := sourceRightRow.holds Try.pinned (OpenSpec.ofChange sourceRightSpec)

/-- ITS FALSE NEIGHBOUR: 'it returns false'. Refute it at one input. -/
def sourceRightWrong : ChangeSpec := { name := "sourceRight", fn := fun _ => fun
  | [d] => { results := [.lit (.bool false)], args := [d] }
  | _ => none }
def SourceRightWrongFalsely : Prop := sourceRightRow.holds Try.pinned (OpenSpec.ofChange sourceRightWrong)

/- THE SECOND FORM. 'bulk': how many values and letters a reading holds, each counted each time it is reached (what is shared counts as often as it is met; a slice's spare places count too). A statement '..UptoSaid' is the law's where the arguments, and the package variables that the reading takes, are together of bulk at most 1048576: NARROWER than '..Said'. Prove '..Said' where nothing that the law and all that it calls make is longer than what came in: it says more and counts as full. Else prove '..UptoSaid'. A law counts once. -/
mutual
def uptoBulk {H : Type} : DataW H → Nat
  | .lit (.string bytes) => bytes.length + 1
  | .lit _ => 1
  | .nil => 1
  | .ptr d => uptoBulk d + 1
  | .slice elems spare => uptoBulkAll elems + uptoBulkAll spare + 1
  | .agg parts => uptoBulkAll parts + 1
  | .iface _ d => uptoBulk d + 1
  | .map entries => uptoBulkEntries entries + 1
  | .held _ => 1
def uptoBulkAll {H : Type} : List (DataW H) → Nat
  | [] => 0
  | d :: r => uptoBulk d + uptoBulkAll r
def uptoBulkEntries {H : Type} : List (Lit × DataW H) → Nat
  | [] => 0
  | x :: r => uptoBulkEntry x + uptoBulkEntries r
def uptoBulkEntry {H : Type} : Lit × DataW H → Nat
  | (.string bytes, d) => bytes.length + uptoBulk d + 1
  | (_, d) => uptoBulk d + 1
 end
def uptoSmall : (H : Type) → List (DataW H) → Bool := fun _ ds => decide (uptoBulkAll ds ≤ 1048576)
def OpenSpec.upto (s : _root_.Go.ChangeSpec) : _root_.Go.OpenSpec := { _root_.Go.OpenSpec.ofChange s with cond := some uptoSmall }

/-- 'apogeelaw15.SourcePlays', WHERE WHAT IT READS IS OF BULK AT MOST 1048576: true; the input reads as it did. -/
def sourcePlaysUptoRow : OpenClaim := { program := "ytmdgikikiijjbaa", sum := "05d8f3620ef111c482252f64affde8e67f23b981cb66587c097a3eed378a1057", func := "apogee/apogeelaw15.SourcePlays", spec := "sourcePlays", inPlace := ["sync/atomic.LoadInt64", "math/bits.Sub64", "sync/atomic.StoreInt64", "sync/atomic.CompareAndSwapInt64"], apart := false, narrowed := true }
def SourcePlaysUptoSaid : Prop := sourcePlaysUptoRow.holds Try.pinned (OpenSpec.upto sourcePlaysSpec)

/-- 'apogeelaw15.SourceTrue', WHERE WHAT IT READS IS OF BULK AT MOST 1048576: true; the input reads as it did. -/
def sourceTrueUptoRow : OpenClaim := { program := "ytmdgikikiijjbaa", sum := "05d8f3620ef111c482252f64affde8e67f23b981cb66587c097a3eed378a1057", func := "apogee/apogeelaw15.SourceTrue", spec := "sourceTrue", inPlace := ["sync/atomic.LoadInt64", "math/bits.Sub64", "sync/atomic.StoreInt64", "sync/atomic.CompareAndSwapInt64"], apart := false, narrowed := true }
def SourceTrueUptoSaid : Prop := sourceTrueUptoRow.holds Try.pinned (OpenSpec.upto sourceTrueSpec)

/-- 'apogeelaw15.SourceOld', WHERE WHAT IT READS IS OF BULK AT MOST 1048576: true; the input reads as it did. -/
def sourceOldUptoRow : OpenClaim := { program := "ytmdgikikiijjbaa", sum := "05d8f3620ef111c482252f64affde8e67f23b981cb66587c097a3eed378a1057", func := "apogee/apogeelaw15.SourceOld", spec := "sourceOld", inPlace := ["sync/atomic.LoadInt64", "math/bits.Sub64", "sync/atomic.StoreInt64", "sync/atomic.CompareAndSwapInt64"], apart := false, narrowed := true }
def SourceOldUptoSaid : Prop := sourceOldUptoRow.holds Try.pinned (OpenSpec.upto sourceOldSpec)

/-- 'apogeelaw15.SourceRight', WHERE WHAT IT READS IS OF BULK AT MOST 1048576: true; the input reads as it did. -/
def sourceRightUptoRow : OpenClaim := { program := "ytmdgikikiijjbaa", sum := "05d8f3620ef111c482252f64affde8e67f23b981cb66587c097a3eed378a1057", func := "apogee/apogeelaw15.SourceRight", spec := "sourceRight", inPlace := ["sync/atomic.LoadInt64", "math/bits.Sub64", "sync/atomic.StoreInt64", "sync/atomic.CompareAndSwapInt64"], apart := false, narrowed := true }
def SourceRightUptoSaid : Prop := sourceRightUptoRow.holds Try.pinned (OpenSpec.upto sourceRightSpec)

end Rows
end Go.Proofs.Ytmdgikikiijjbaa
