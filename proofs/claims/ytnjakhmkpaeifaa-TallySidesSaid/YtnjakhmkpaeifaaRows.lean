/-
  No cell of these rows narrows 'for every input' (looked for: loops, veiled, ifaces, maps, wideKeys, modest, calm, conditions, laid).
  DERIVED. THE GIVEN ROWS OF THIS SEAT. 3 by the template 'for every input the law returns true; each argument reads behind the call as it read before'; 0 by the template 'total and deterministic' (their statements: YtnjakhmkpaeifaaTotals.lean).
  GIVEN WITH THE SEED: the statements are not yours to turn. If you find one false, say at which input.
  Laid BY PROGRAM, IN A SANDBOX (cutbox-rows.mjs): the forced cells as the released guide's own fill.sh prints them over the translation 6602842c431671b2… (all of the seat's roots in one cut). By AI agents, Wed Nov 11 2026. No macro, syntax, notation, axiom, sorry.
-/
import Derived.Test.YtnjakhmkpaeifaaChecked
import GoSem.Claim
import GoSem.ClaimJoined
import GoSem.ClaimMapViews
import Derived.JoinedTies
import Derived.KernelRfl
namespace Go.Proofs.Ytnjakhmkpaeifaa
/- THE CELL 'sum', in the pinned program and in every row, IS THE sha256 OF THE DUMP (.gsa) THAT YtnjakhmkpaeifaaProg.lean LOADS. Nothing in Lean hashes anything: it is a label: what it is worth is what the hold of that sum in a sandbox is worth. -/
noncomputable def Try.pinned : Pinned := { name := "ytnjakhmkpaeifaa", sum := "6602842c431671b290664fb98d9710a884fce24885b39539dc66e40b60359300", checked := Try.checked }
namespace Rows
def none {H : Type} : Left H := { results := [], args := [] }

/-- 'apogeelaw20.TallyQuiet': WHATEVER THE INPUT: true; the input reads as it did. -/
def tallyQuietSpec : ChangeSpec := { name := "tallyQuiet", fn := fun _ => fun
  | [d1, d2] => { results := [.lit (.bool true)], args := [d1, d2] }
  | _ => none }
def tallyQuietRow : OpenClaim := { program := "ytnjakhmkpaeifaa", sum := "6602842c431671b290664fb98d9710a884fce24885b39539dc66e40b60359300", func := "apogee/apogeelaw20.TallyQuiet", spec := "tallyQuiet", inPlace := ["sync/atomic.LoadInt64", "sync/atomic.CompareAndSwapInt64", "sync/atomic.StoreInt64"], apart := false }
def TallyQuietSaid : Prop := tallyQuietRow.holds Try.pinned (OpenSpec.ofChange tallyQuietSpec)

/-- ITS FALSE NEIGHBOUR: 'it returns false'. Refute it at one input. -/
def tallyQuietWrong : ChangeSpec := { name := "tallyQuiet", fn := fun _ => fun
  | [d1, d2] => { results := [.lit (.bool false)], args := [d1, d2] }
  | _ => none }
def TallyQuietWrongFalsely : Prop := tallyQuietRow.holds Try.pinned (OpenSpec.ofChange tallyQuietWrong)

/-- 'apogeelaw20.TallySides': WHATEVER THE INPUT: true; the input reads as it did. -/
def tallySidesSpec : ChangeSpec := { name := "tallySides", fn := fun _ => fun
  | [d1, d2, d3, d4, d5] => { results := [.lit (.bool true)], args := [d1, d2, d3, d4, d5] }
  | _ => none }
def tallySidesRow : OpenClaim := { program := "ytnjakhmkpaeifaa", sum := "6602842c431671b290664fb98d9710a884fce24885b39539dc66e40b60359300", func := "apogee/apogeelaw20.TallySides", spec := "tallySides", inPlace := ["sync/atomic.LoadInt64", "sync/atomic.CompareAndSwapInt64", "sync/atomic.StoreInt64"], apart := false }
def TallySidesSaid : Prop := tallySidesRow.holds Try.pinned (OpenSpec.ofChange tallySidesSpec)

/-- ITS FALSE NEIGHBOUR: 'it returns false'. Refute it at one input. -/
def tallySidesWrong : ChangeSpec := { name := "tallySides", fn := fun _ => fun
  | [d1, d2, d3, d4, d5] => { results := [.lit (.bool false)], args := [d1, d2, d3, d4, d5] }
  | _ => none }
def TallySidesWrongFalsely : Prop := tallySidesRow.holds Try.pinned (OpenSpec.ofChange tallySidesWrong)

/-- 'apogeelaw20.TallyNil': WHATEVER THE INPUT: true; the input reads as it did. -/
def tallyNilSpec : ChangeSpec := { name := "tallyNil", fn := fun _ => fun
  | [d1, d2] => { results := [.lit (.bool true)], args := [d1, d2] }
  | _ => none }
def tallyNilRow : OpenClaim := { program := "ytnjakhmkpaeifaa", sum := "6602842c431671b290664fb98d9710a884fce24885b39539dc66e40b60359300", func := "apogee/apogeelaw20.TallyNil", spec := "tallyNil", inPlace := ["sync/atomic.LoadInt64", "sync/atomic.CompareAndSwapInt64", "sync/atomic.StoreInt64"], apart := false }
def TallyNilSaid : Prop := tallyNilRow.holds Try.pinned (OpenSpec.ofChange tallyNilSpec)

/-- ITS FALSE NEIGHBOUR: 'it returns false'. Refute it at one input. -/
def tallyNilWrong : ChangeSpec := { name := "tallyNil", fn := fun _ => fun
  | [d1, d2] => { results := [.lit (.bool false)], args := [d1, d2] }
  | _ => none }
def TallyNilWrongFalsely : Prop := tallyNilRow.holds Try.pinned (OpenSpec.ofChange tallyNilWrong)

/- THE SECOND FORM. 'bulk': how many values and letters a reading holds, each counted each time it is reached (what is shared counts as often as it is met; a slice's spare places count too). A statement '..UptoSaid' is the law's where the arguments, and the package variables that the reading takes, are together of bulk at most 1048576: NARROWER than '..Said'. Prove '..Said' where nothing that the law and all that it calls make is longer than what came in: it says more and counts as full. Else prove '..UptoSaid'. A law counts once. -/
mutual
def uptoBulk {H : Type} : DataW H → Nat
  | .lit (.string bytes) => bytes.length + 1
  | .lit _ => 1
  | .nil => 1
  | .ptr d => uptoBulk d + 1
  | .slice elems spare => uptoBulkAll elems + uptoBulkAll spare + 1
  | .agg parts => uptoBulkAll parts + 1
  | .iface _ d => uptoBulk d + 1
  | .map entries => uptoBulkEntries entries + 1
  | .held _ => 1
def uptoBulkAll {H : Type} : List (DataW H) → Nat
  | [] => 0
  | d :: r => uptoBulk d + uptoBulkAll r
def uptoBulkEntries {H : Type} : List (Lit × DataW H) → Nat
  | [] => 0
  | x :: r => uptoBulkEntry x + uptoBulkEntries r
def uptoBulkEntry {H : Type} : Lit × DataW H → Nat
  | (.string bytes, d) => bytes.length + uptoBulk d + 1
  | (_, d) => uptoBulk d + 1
 end
def uptoSmall : (H : Type) → List (DataW H) → Bool := fun _ ds => decide (uptoBulkAll ds ≤ 1048576)
def OpenSpec.upto (s : _root_.Go.ChangeSpec) : _root_.Go.OpenSpec := { _root_.Go.OpenSpec.ofChange s with cond := some uptoSmall }

/-- 'apogeelaw20.TallyQuiet', WHERE WHAT IT READS IS OF BULK AT MOST 1048576: true; the input reads as it did. -/
def tallyQuietUptoRow : OpenClaim := { program := "ytnjakhmkpaeifaa", sum := "6602842c431671b290664fb98d9710a884fce24885b39539dc66e40b60359300", func := "apogee/apogeelaw20.TallyQuiet", spec := "tallyQuiet", inPlace := ["sync/atomic.LoadInt64", "sync/atomic.CompareAndSwapInt64", "sync/atomic.StoreInt64"], apart := false, narrowed := true }
def TallyQuietUptoSaid : Prop := tallyQuietUptoRow.holds Try.pinned (OpenSpec.upto tallyQuietSpec)

/-- 'apogeelaw20.TallySides', WHERE WHAT IT READS IS OF BULK AT MOST 1048576: true; the input reads as it did. -/
def tallySidesUptoRow : OpenClaim := { program := "ytnjakhmkpaeifaa", sum := "6602842c431671b290664fb98d9710a884fce24885b39539dc66e40b60359300", func := "apogee/apogeelaw20.TallySides", spec := "tallySides", inPlace := ["sync/atomic.LoadInt64", "sync/atomic.CompareAndSwapInt64", "sync/atomic.StoreInt64"], apart := false, narrowed := true }
def TallySidesUptoSaid : Prop := tallySidesUptoRow.holds Try.pinned (OpenSpec.upto tallySidesSpec)

/-- 'apogeelaw20.TallyNil', WHERE WHAT IT READS IS OF BULK AT MOST 1048576: true; the input reads as it did. -/
def tallyNilUptoRow : OpenClaim := { program := "ytnjakhmkpaeifaa", sum := "6602842c431671b290664fb98d9710a884fce24885b39539dc66e40b60359300", func := "apogee/apogeelaw20.TallyNil", spec := "tallyNil", inPlace := ["sync/atomic.LoadInt64", "sync/atomic.CompareAndSwapInt64", "sync/atomic.StoreInt64"], apart := false, narrowed := true }
def TallyNilUptoSaid : Prop := tallyNilUptoRow.holds Try.pinned (OpenSpec.upto tallyNilSpec)

end Rows
end Go.Proofs.Ytnjakhmkpaeifaa
