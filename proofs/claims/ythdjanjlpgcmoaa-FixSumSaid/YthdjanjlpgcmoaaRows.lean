/-
  No cell of these rows narrows 'for every input' (looked for: loops, veiled, ifaces, maps, wideKeys, modest, calm, conditions, laid).
  DERIVED. THE GIVEN ROWS OF THIS SEAT. 5 by the template 'for every input the law returns true; each argument reads behind the call as it read before'; 0 by the template 'total and deterministic' (their statements: YthdjanjlpgcmoaaTotals.lean).
  GIVEN WITH THE SEED: the statements are not yours to turn. If you find one false, say at which input.
  Laid BY PROGRAM, IN A SANDBOX (cutbox-rows.mjs): the forced cells as the released guide's own fill.sh prints them over the translation 8f90e1b995522eee… (all of the seat's roots in one cut). By AI agents, Wed Nov 11 2026. No macro, syntax, notation, axiom, sorry.
-/
import Derived.Test.YthdjanjlpgcmoaaChecked
import GoSem.Claim
import GoSem.ClaimJoined
import GoSem.ClaimMapViews
import Derived.JoinedTies
import Derived.KernelRfl
namespace Go.Proofs.Ythdjanjlpgcmoaa
/- THE CELL 'sum', in the pinned program and in every row, IS THE sha256 OF THE DUMP (.gsa) THAT YthdjanjlpgcmoaaProg.lean LOADS. Nothing in Lean hashes anything: it is a label: what it is worth is what the hold of that sum in a sandbox is worth. -/
noncomputable def Try.pinned : Pinned := { name := "ythdjanjlpgcmoaa", sum := "8f90e1b995522eeef973e9b3dd8c8ae9a84ac3480b92919e9769fbeda2d96907", checked := Try.checked }
namespace Rows
def none {H : Type} : Left H := { results := [], args := [] }

/-- 'apogeelaw02.FixMulDiv': WHATEVER THE INPUT: true; the input reads as it did. -/
def fixMulDivSpec : ChangeSpec := { name := "fixMulDiv", fn := fun _ => fun
  | [d1, d2, d3, d4] => { results := [.lit (.bool true)], args := [d1, d2, d3, d4] }
  | _ => none }
def fixMulDivRow : OpenClaim := { program := "ythdjanjlpgcmoaa", sum := "8f90e1b995522eeef973e9b3dd8c8ae9a84ac3480b92919e9769fbeda2d96907", func := "apogee/apogeelaw02.FixMulDiv", spec := "fixMulDiv", inPlace := ["math/bits.Sub64", "math/bits.Add64"], named := ["math/bits.divideError", "math/bits.overflowError"], apart := false }
def FixMulDivSaid : Prop := fixMulDivRow.holds Try.pinned (OpenSpec.ofChange fixMulDivSpec)

/-- ITS FALSE NEIGHBOUR: 'it returns false'. Refute it at one input. -/
def fixMulDivWrong : ChangeSpec := { name := "fixMulDiv", fn := fun _ => fun
  | [d1, d2, d3, d4] => { results := [.lit (.bool false)], args := [d1, d2, d3, d4] }
  | _ => none }
def FixMulDivWrongFalsely : Prop := fixMulDivRow.holds Try.pinned (OpenSpec.ofChange fixMulDivWrong)

/-- 'apogeelaw02.FixWide': WHATEVER THE INPUT: true; the input reads as it did. -/
def fixWideSpec : ChangeSpec := { name := "fixWide", fn := fun _ => fun
  | [d1, d2] => { results := [.lit (.bool true)], args := [d1, d2] }
  | _ => none }
def fixWideRow : OpenClaim := { program := "ythdjanjlpgcmoaa", sum := "8f90e1b995522eeef973e9b3dd8c8ae9a84ac3480b92919e9769fbeda2d96907", func := "apogee/apogeelaw02.FixWide", spec := "fixWide", inPlace := ["math/bits.Add64", "math/bits.Sub64"], named := ["math/bits.divideError", "math/bits.overflowError"], apart := false }
def FixWideSaid : Prop := fixWideRow.holds Try.pinned (OpenSpec.ofChange fixWideSpec)

/-- ITS FALSE NEIGHBOUR: 'it returns false'. Refute it at one input. -/
def fixWideWrong : ChangeSpec := { name := "fixWide", fn := fun _ => fun
  | [d1, d2] => { results := [.lit (.bool false)], args := [d1, d2] }
  | _ => none }
def FixWideWrongFalsely : Prop := fixWideRow.holds Try.pinned (OpenSpec.ofChange fixWideWrong)

/-- 'apogeelaw02.FixSum': WHATEVER THE INPUT: true; the input reads as it did. -/
def fixSumSpec : ChangeSpec := { name := "fixSum", fn := fun _ => fun
  | [d1, d2] => { results := [.lit (.bool true)], args := [d1, d2] }
  | _ => none }
def fixSumRow : OpenClaim := { program := "ythdjanjlpgcmoaa", sum := "8f90e1b995522eeef973e9b3dd8c8ae9a84ac3480b92919e9769fbeda2d96907", func := "apogee/apogeelaw02.FixSum", spec := "fixSum", inPlace := ["math/bits.Sub64", "math/bits.Add64"], named := ["math/bits.divideError", "math/bits.overflowError"], apart := false }
def FixSumSaid : Prop := fixSumRow.holds Try.pinned (OpenSpec.ofChange fixSumSpec)

/-- ITS FALSE NEIGHBOUR: 'it returns false'. Refute it at one input. -/
def fixSumWrong : ChangeSpec := { name := "fixSum", fn := fun _ => fun
  | [d1, d2] => { results := [.lit (.bool false)], args := [d1, d2] }
  | _ => none }
def FixSumWrongFalsely : Prop := fixSumRow.holds Try.pinned (OpenSpec.ofChange fixSumWrong)

/-- 'apogeelaw02.FixTells': WHATEVER THE INPUT: true; the input reads as it did. -/
def fixTellsSpec : ChangeSpec := { name := "fixTells", fn := fun _ => fun
  | [d1, d2, d3] => { results := [.lit (.bool true)], args := [d1, d2, d3] }
  | _ => none }
def fixTellsRow : OpenClaim := { program := "ythdjanjlpgcmoaa", sum := "8f90e1b995522eeef973e9b3dd8c8ae9a84ac3480b92919e9769fbeda2d96907", func := "apogee/apogeelaw02.FixTells", spec := "fixTells", inPlace := ["math/bits.Add64", "math/bits.Sub64"], named := ["math/bits.divideError", "math/bits.overflowError"], apart := false }
def FixTellsSaid : Prop := fixTellsRow.holds Try.pinned (OpenSpec.ofChange fixTellsSpec)

/-- ITS FALSE NEIGHBOUR: 'it returns false'. Refute it at one input. -/
def fixTellsWrong : ChangeSpec := { name := "fixTells", fn := fun _ => fun
  | [d1, d2, d3] => { results := [.lit (.bool false)], args := [d1, d2, d3] }
  | _ => none }
def FixTellsWrongFalsely : Prop := fixTellsRow.holds Try.pinned (OpenSpec.ofChange fixTellsWrong)

/-- 'apogeelaw02.FixSqrt': WHATEVER THE INPUT: true; the input reads as it did. -/
def fixSqrtSpec : ChangeSpec := { name := "fixSqrt", fn := fun _ => fun
  | [d] => { results := [.lit (.bool true)], args := [d] }
  | _ => none }
def fixSqrtRow : OpenClaim := { program := "ythdjanjlpgcmoaa", sum := "8f90e1b995522eeef973e9b3dd8c8ae9a84ac3480b92919e9769fbeda2d96907", func := "apogee/apogeelaw02.FixSqrt", spec := "fixSqrt", inPlace := ["math/bits.Sub64", "math/bits.Add64"], named := ["math/bits.divideError", "math/bits.overflowError"], apart := false }
def FixSqrtSaid : Prop := fixSqrtRow.holds Try.pinned (OpenSpec.ofChange fixSqrtSpec)

/-- ITS FALSE NEIGHBOUR: 'it returns false'. Refute it at one input. -/
def fixSqrtWrong : ChangeSpec := { name := "fixSqrt", fn := fun _ => fun
  | [d] => { results := [.lit (.bool false)], args := [d] }
  | _ => none }
def FixSqrtWrongFalsely : Prop := fixSqrtRow.holds Try.pinned (OpenSpec.ofChange fixSqrtWrong)

/- THE SECOND FORM. 'bulk': how many values and letters a reading holds, each counted each time it is reached (what is shared counts as often as it is met; a slice's spare places count too). A statement '..UptoSaid' is the law's where the arguments, and the package variables that the reading takes, are together of bulk at most 1048576: NARROWER than '..Said'. Prove '..Said' where nothing that the law and all that it calls make is longer than what came in: it says more and counts as full. Else prove '..UptoSaid'. A law counts once. -/
mutual
def uptoBulk {H : Type} : DataW H → Nat
  | .lit (.string bytes) => bytes.length + 1
  | .lit _ => 1
  | .nil => 1
  | .ptr d => uptoBulk d + 1
  | .slice elems spare => uptoBulkAll elems + uptoBulkAll spare + 1
  | .agg parts => uptoBulkAll parts + 1
  | .iface _ d => uptoBulk d + 1
  | .map entries => uptoBulkEntries entries + 1
  | .held _ => 1
def uptoBulkAll {H : Type} : List (DataW H) → Nat
  | [] => 0
  | d :: r => uptoBulk d + uptoBulkAll r
def uptoBulkEntries {H : Type} : List (Lit × DataW H) → Nat
  | [] => 0
  | x :: r => uptoBulkEntry x + uptoBulkEntries r
def uptoBulkEntry {H : Type} : Lit × DataW H → Nat
  | (.string bytes, d) => bytes.length + uptoBulk d + 1
  | (_, d) => uptoBulk d + 1
 end
def uptoSmall : (H : Type) → List (DataW H) → Bool := fun _ ds => decide (uptoBulkAll ds ≤ 1048576)
def OpenSpec.upto (s : _root_.Go.ChangeSpec) : _root_.Go.OpenSpec := { _root_.Go.OpenSpec.ofChange s with cond := some uptoSmall }

/-- 'apogeelaw02.FixMulDiv', WHERE WHAT IT READS IS OF BULK AT MOST 1048576: true; the input reads as it did. -/
def fixMulDivUptoRow : OpenClaim := { program := "ythdjanjlpgcmoaa", sum := "8f90e1b995522eeef973e9b3dd8c8ae9a84ac3480b92919e9769fbeda2d96907", func := "apogee/apogeelaw02.FixMulDiv", spec := "fixMulDiv", inPlace := ["math/bits.Sub64", "math/bits.Add64"], named := ["math/bits.divideError", "math/bits.overflowError"], apart := false, narrowed := true }
def FixMulDivUptoSaid : Prop := fixMulDivUptoRow.holds Try.pinned (OpenSpec.upto fixMulDivSpec)

/-- 'apogeelaw02.FixWide', WHERE WHAT IT READS IS OF BULK AT MOST 1048576: true; the input reads as it did. -/
def fixWideUptoRow : OpenClaim := { program := "ythdjanjlpgcmoaa", sum := "8f90e1b995522eeef973e9b3dd8c8ae9a84ac3480b92919e9769fbeda2d96907", func := "apogee/apogeelaw02.FixWide", spec := "fixWide", inPlace := ["math/bits.Add64", "math/bits.Sub64"], named := ["math/bits.divideError", "math/bits.overflowError"], apart := false, narrowed := true }
def FixWideUptoSaid : Prop := fixWideUptoRow.holds Try.pinned (OpenSpec.upto fixWideSpec)

/-- 'apogeelaw02.FixSum', WHERE WHAT IT READS IS OF BULK AT MOST 1048576: true; the input reads as it did. -/
def fixSumUptoRow : OpenClaim := { program := "ythdjanjlpgcmoaa", sum := "8f90e1b995522eeef973e9b3dd8c8ae9a84ac3480b92919e9769fbeda2d96907", func := "apogee/apogeelaw02.FixSum", spec := "fixSum", inPlace := ["math/bits.Sub64", "math/bits.Add64"], named := ["math/bits.divideError", "math/bits.overflowError"], apart := false, narrowed := true }
def FixSumUptoSaid : Prop := fixSumUptoRow.holds Try.pinned (OpenSpec.upto fixSumSpec)

/-- 'apogeelaw02.FixTells', WHERE WHAT IT READS IS OF BULK AT MOST 1048576: true; the input reads as it did. -/
def fixTellsUptoRow : OpenClaim := { program := "ythdjanjlpgcmoaa", sum := "8f90e1b995522eeef973e9b3dd8c8ae9a84ac3480b92919e9769fbeda2d96907", func := "apogee/apogeelaw02.FixTells", spec := "fixTells", inPlace := ["math/bits.Add64", "math/bits.Sub64"], named := ["math/bits.divideError", "math/bits.overflowError"], apart := false, narrowed := true }
def FixTellsUptoSaid : Prop := fixTellsUptoRow.holds Try.pinned (OpenSpec.upto fixTellsSpec)

/-- 'apogeelaw02.FixSqrt', WHERE WHAT IT READS IS OF BULK AT MOST 1048576: true; the input reads as it did. -/
def fixSqrtUptoRow : OpenClaim := { program := "ythdjanjlpgcmoaa", sum := "8f90e1b995522eeef973e9b3dd8c8ae9a84ac3480b92919e9769fbeda2d96907", func := "apogee/apogeelaw02.FixSqrt", spec := "fixSqrt", inPlace := ["math/bits.Sub64", "math/bits.Add64"], named := ["math/bits.divideError", "math/bits.overflowError"], apart := false, narrowed := true }
def FixSqrtUptoSaid : Prop := fixSqrtUptoRow.holds Try.pinned (OpenSpec.upto fixSqrtSpec)

end Rows
end Go.Proofs.Ythdjanjlpgcmoaa
