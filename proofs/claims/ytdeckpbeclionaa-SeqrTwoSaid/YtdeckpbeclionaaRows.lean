/-
  No cell of these rows narrows 'for every input' (looked for: loops, veiled, ifaces, maps, wideKeys, modest, calm, conditions, laid).
  DERIVED. THE GIVEN ROWS OF THIS SEAT. 4 by the template 'for every input the law returns true; each argument reads behind the call as it read before'; 0 by the template 'total and deterministic' (their statements: YtdeckpbeclionaaTotals.lean).
  GIVEN WITH THE SEED: the statements are not yours to turn. If you find one false, say at which input.
  Laid BY PROGRAM, IN A SANDBOX (cutbox-rows.mjs): the forced cells as the released guide's own fill.sh prints them over the translation 8aa498915e44d328… (all of the seat's roots in one cut). By AI agents, Wed Nov 11 2026. No macro, syntax, notation, axiom, sorry.
-/
import Derived.Test.YtdeckpbeclionaaChecked
import GoSem.Claim
import GoSem.ClaimJoined
import GoSem.ClaimMapViews
import Derived.JoinedTies
import Derived.KernelRfl
namespace Go.Proofs.Ytdeckpbeclionaa
/- THE CELL 'sum', in the pinned program and in every row, IS THE sha256 OF THE DUMP (.gsa) THAT YtdeckpbeclionaaProg.lean LOADS. Nothing in Lean hashes anything: it is a label: what it is worth is what the hold of that sum in a sandbox is worth. -/
noncomputable def Try.pinned : Pinned := { name := "ytdeckpbeclionaa", sum := "8aa498915e44d32886370fc858c6e4fc6e46cf2739bffc8f9ae74d5bcc0aac87", checked := Try.checked }
namespace Rows
def none {H : Type} : Left H := { results := [], args := [] }

/-- 'apogeelaw22.SeqrPlays': WHATEVER THE INPUT: true; the input reads as it did. -/
def seqrPlaysSpec : ChangeSpec := { name := "seqrPlays", fn := fun _ => fun
  | [d1, d2, d3] => { results := [.lit (.bool true)], args := [d1, d2, d3] }
  | _ => none }
def seqrPlaysRow : OpenClaim := { program := "ytdeckpbeclionaa", sum := "8aa498915e44d32886370fc858c6e4fc6e46cf2739bffc8f9ae74d5bcc0aac87", func := "apogee/apogeelaw22.SeqrPlays", spec := "seqrPlays", apart := false }
def SeqrPlaysSaid : Prop := seqrPlaysRow.holds Try.pinned (OpenSpec.ofChange seqrPlaysSpec)

/-- ITS FALSE NEIGHBOUR: 'it returns false'. Refute it at one input. -/
def seqrPlaysWrong : ChangeSpec := { name := "seqrPlays", fn := fun _ => fun
  | [d1, d2, d3] => { results := [.lit (.bool false)], args := [d1, d2, d3] }
  | _ => none }
def SeqrPlaysWrongFalsely : Prop := seqrPlaysRow.holds Try.pinned (OpenSpec.ofChange seqrPlaysWrong)

/-- 'apogeelaw22.SeqrFlight': WHATEVER THE INPUT: true; the input reads as it did. -/
def seqrFlightSpec : ChangeSpec := { name := "seqrFlight", fn := fun _ => fun
  | [d1, d2] => { results := [.lit (.bool true)], args := [d1, d2] }
  | _ => none }
def seqrFlightRow : OpenClaim := { program := "ytdeckpbeclionaa", sum := "8aa498915e44d32886370fc858c6e4fc6e46cf2739bffc8f9ae74d5bcc0aac87", func := "apogee/apogeelaw22.SeqrFlight", spec := "seqrFlight", apart := false }
def SeqrFlightSaid : Prop := seqrFlightRow.holds Try.pinned (OpenSpec.ofChange seqrFlightSpec)

/-- ITS FALSE NEIGHBOUR: 'it returns false'. Refute it at one input. -/
def seqrFlightWrong : ChangeSpec := { name := "seqrFlight", fn := fun _ => fun
  | [d1, d2] => { results := [.lit (.bool false)], args := [d1, d2] }
  | _ => none }
def SeqrFlightWrongFalsely : Prop := seqrFlightRow.holds Try.pinned (OpenSpec.ofChange seqrFlightWrong)

/-- 'apogeelaw22.SeqrTwo': WHATEVER THE INPUT: true; the input reads as it did. -/
def seqrTwoSpec : ChangeSpec := { name := "seqrTwo", fn := fun _ => fun
  | [d1, d2] => { results := [.lit (.bool true)], args := [d1, d2] }
  | _ => none }
def seqrTwoRow : OpenClaim := { program := "ytdeckpbeclionaa", sum := "8aa498915e44d32886370fc858c6e4fc6e46cf2739bffc8f9ae74d5bcc0aac87", func := "apogee/apogeelaw22.SeqrTwo", spec := "seqrTwo", unfollowed := true, recurses := true, apart := false }
def SeqrTwoSaid : Prop := seqrTwoRow.holds Try.pinned (OpenSpec.ofChange seqrTwoSpec)

/-- ITS FALSE NEIGHBOUR: 'it returns false'. Refute it at one input. -/
def seqrTwoWrong : ChangeSpec := { name := "seqrTwo", fn := fun _ => fun
  | [d1, d2] => { results := [.lit (.bool false)], args := [d1, d2] }
  | _ => none }
def SeqrTwoWrongFalsely : Prop := seqrTwoRow.holds Try.pinned (OpenSpec.ofChange seqrTwoWrong)

/-- 'apogeelaw22.SeqrNil': WHATEVER THE INPUT: true; the input reads as it did. -/
def seqrNilSpec : ChangeSpec := { name := "seqrNil", fn := fun _ => fun
  | [d] => { results := [.lit (.bool true)], args := [d] }
  | _ => none }
def seqrNilRow : OpenClaim := { program := "ytdeckpbeclionaa", sum := "8aa498915e44d32886370fc858c6e4fc6e46cf2739bffc8f9ae74d5bcc0aac87", func := "apogee/apogeelaw22.SeqrNil", spec := "seqrNil", apart := false }
def SeqrNilSaid : Prop := seqrNilRow.holds Try.pinned (OpenSpec.ofChange seqrNilSpec)

/-- ITS FALSE NEIGHBOUR: 'it returns false'. Refute it at one input. -/
def seqrNilWrong : ChangeSpec := { name := "seqrNil", fn := fun _ => fun
  | [d] => { results := [.lit (.bool false)], args := [d] }
  | _ => none }
def SeqrNilWrongFalsely : Prop := seqrNilRow.holds Try.pinned (OpenSpec.ofChange seqrNilWrong)

/- THE SECOND FORM. 'bulk': how many values and letters a reading holds, each counted each time it is reached (what is shared counts as often as it is met; a slice's spare places count too). A statement '..UptoSaid' is the law's where the arguments, and the package variables that the reading takes, are together of bulk at most 1048576: NARROWER than '..Said'. Prove '..Said' where nothing that the law and all that it calls make is longer than what came in: it says more and counts as full. Else prove '..UptoSaid'. A law counts once. -/
mutual
def uptoBulk {H : Type} : DataW H → Nat
  | .lit (.string bytes) => bytes.length + 1
  | .lit _ => 1
  | .nil => 1
  | .ptr d => uptoBulk d + 1
  | .slice elems spare => uptoBulkAll elems + uptoBulkAll spare + 1
  | .agg parts => uptoBulkAll parts + 1
  | .iface _ d => uptoBulk d + 1
  | .map entries => uptoBulkEntries entries + 1
  | .held _ => 1
def uptoBulkAll {H : Type} : List (DataW H) → Nat
  | [] => 0
  | d :: r => uptoBulk d + uptoBulkAll r
def uptoBulkEntries {H : Type} : List (Lit × DataW H) → Nat
  | [] => 0
  | x :: r => uptoBulkEntry x + uptoBulkEntries r
def uptoBulkEntry {H : Type} : Lit × DataW H → Nat
  | (.string bytes, d) => bytes.length + uptoBulk d + 1
  | (_, d) => uptoBulk d + 1
 end
def uptoSmall : (H : Type) → List (DataW H) → Bool := fun _ ds => decide (uptoBulkAll ds ≤ 1048576)
def OpenSpec.upto (s : _root_.Go.ChangeSpec) : _root_.Go.OpenSpec := { _root_.Go.OpenSpec.ofChange s with cond := some uptoSmall }

/-- 'apogeelaw22.SeqrPlays', WHERE WHAT IT READS IS OF BULK AT MOST 1048576: true; the input reads as it did. -/
def seqrPlaysUptoRow : OpenClaim := { program := "ytdeckpbeclionaa", sum := "8aa498915e44d32886370fc858c6e4fc6e46cf2739bffc8f9ae74d5bcc0aac87", func := "apogee/apogeelaw22.SeqrPlays", spec := "seqrPlays", apart := false, narrowed := true }
def SeqrPlaysUptoSaid : Prop := seqrPlaysUptoRow.holds Try.pinned (OpenSpec.upto seqrPlaysSpec)

/-- 'apogeelaw22.SeqrFlight', WHERE WHAT IT READS IS OF BULK AT MOST 1048576: true; the input reads as it did. -/
def seqrFlightUptoRow : OpenClaim := { program := "ytdeckpbeclionaa", sum := "8aa498915e44d32886370fc858c6e4fc6e46cf2739bffc8f9ae74d5bcc0aac87", func := "apogee/apogeelaw22.SeqrFlight", spec := "seqrFlight", apart := false, narrowed := true }
def SeqrFlightUptoSaid : Prop := seqrFlightUptoRow.holds Try.pinned (OpenSpec.upto seqrFlightSpec)

/-- 'apogeelaw22.SeqrTwo', WHERE WHAT IT READS IS OF BULK AT MOST 1048576: true; the input reads as it did. -/
def seqrTwoUptoRow : OpenClaim := { program := "ytdeckpbeclionaa", sum := "8aa498915e44d32886370fc858c6e4fc6e46cf2739bffc8f9ae74d5bcc0aac87", func := "apogee/apogeelaw22.SeqrTwo", spec := "seqrTwo", unfollowed := true, recurses := true, apart := false, narrowed := true }
def SeqrTwoUptoSaid : Prop := seqrTwoUptoRow.holds Try.pinned (OpenSpec.upto seqrTwoSpec)

/-- 'apogeelaw22.SeqrNil', WHERE WHAT IT READS IS OF BULK AT MOST 1048576: true; the input reads as it did. -/
def seqrNilUptoRow : OpenClaim := { program := "ytdeckpbeclionaa", sum := "8aa498915e44d32886370fc858c6e4fc6e46cf2739bffc8f9ae74d5bcc0aac87", func := "apogee/apogeelaw22.SeqrNil", spec := "seqrNil", apart := false, narrowed := true }
def SeqrNilUptoSaid : Prop := seqrNilUptoRow.holds Try.pinned (OpenSpec.upto seqrNilSpec)

end Rows
end Go.Proofs.Ytdeckpbeclionaa
