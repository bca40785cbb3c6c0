/-
  No cell of these rows narrows 'for every input' (looked for: loops, veiled, ifaces, maps, wideKeys, modest, calm, conditions, laid).
  DERIVED. THE GIVEN ROWS OF THIS SEAT. 4 by the template 'for every input the law returns true; each argument reads behind the call as it read before'; 0 by the template 'total and deterministic' (their statements: YtfabbafmbifkiaaTotals.lean).
  GIVEN WITH THE SEED: the statements are not yours to turn. If you find one false, say at which input.
  Laid BY PROGRAM, IN A SANDBOX (cutbox-rows.mjs): the forced cells as the released guide's own fill.sh prints them over the translation 28dbf0942328bdc2… (all of the seat's roots in one cut). By AI agents, Wed Nov 11 2026. No macro, syntax, notation, axiom, sorry.
-/
import Derived.Test.YtfabbafmbifkiaaChecked
import GoSem.Claim
import GoSem.ClaimJoined
import GoSem.ClaimMapViews
import Derived.JoinedTies
import Derived.KernelRfl
namespace Go.Proofs.Ytfabbafmbifkiaa
/- THE CELL 'sum', in the pinned program and in every row, IS THE sha256 OF THE DUMP (.gsa) THAT YtfabbafmbifkiaaProg.lean LOADS. Nothing in Lean hashes anything: it is a label: what it is worth is what the hold of that sum in a sandbox is worth. -/
noncomputable def Try.pinned : Pinned := { name := "ytfabbafmbifkiaa", sum := "28dbf0942328bdc2024f135341869d2223b63d32e9120ed11f13be8639f04e3d", checked := Try.checked }
namespace Rows
def none {H : Type} : Left H := { results := [], args := [] }

/-- 'apogeelaw08.FlashTorn': WHATEVER THE INPUT: true; the input reads as it did. -/
def flashTornSpec : ChangeSpec := { name := "flashTorn", fn := fun _ => fun
  | [d1, d2, d3, d4] => { results := [.lit (.bool true)], args := [d1, d2, d3, d4] }
  | _ => none }
def flashTornRow : OpenClaim := { program := "ytfabbafmbifkiaa", sum := "28dbf0942328bdc2024f135341869d2223b63d32e9120ed11f13be8639f04e3d", func := "apogee/apogeelaw08.FlashTorn", spec := "flashTorn", inPlace := ["internal/bytealg.MakeNoZero", "sync/atomic.LoadInt64", "sync/atomic.CompareAndSwapInt64"], apart := false }
def FlashTornSaid : Prop := flashTornRow.holds Try.pinned (OpenSpec.ofChange flashTornSpec)

/-- ITS FALSE NEIGHBOUR: 'it returns false'. Refute it at one input. -/
def flashTornWrong : ChangeSpec := { name := "flashTorn", fn := fun _ => fun
  | [d1, d2, d3, d4] => { results := [.lit (.bool false)], args := [d1, d2, d3, d4] }
  | _ => none }
def FlashTornWrongFalsely : Prop := flashTornRow.holds Try.pinned (OpenSpec.ofChange flashTornWrong)

/-- 'apogeelaw08.FlashKeeps': WHATEVER THE INPUT: true; the input reads as it did. -/
def flashKeepsSpec : ChangeSpec := { name := "flashKeeps", fn := fun _ => fun
  | [d1, d2, d3] => { results := [.lit (.bool true)], args := [d1, d2, d3] }
  | _ => none }
def flashKeepsRow : OpenClaim := { program := "ytfabbafmbifkiaa", sum := "28dbf0942328bdc2024f135341869d2223b63d32e9120ed11f13be8639f04e3d", func := "apogee/apogeelaw08.FlashKeeps", spec := "flashKeeps", inPlace := ["internal/bytealg.MakeNoZero", "sync/atomic.LoadInt64", "sync/atomic.CompareAndSwapInt64"], apart := false }
def FlashKeepsSaid : Prop := flashKeepsRow.holds Try.pinned (OpenSpec.ofChange flashKeepsSpec)

/-- ITS FALSE NEIGHBOUR: 'it returns false'. Refute it at one input. -/
def flashKeepsWrong : ChangeSpec := { name := "flashKeeps", fn := fun _ => fun
  | [d1, d2, d3] => { results := [.lit (.bool false)], args := [d1, d2, d3] }
  | _ => none }
def FlashKeepsWrongFalsely : Prop := flashKeepsRow.holds Try.pinned (OpenSpec.ofChange flashKeepsWrong)

/-- 'apogeelaw08.FlashNil': WHATEVER THE INPUT: true; the input reads as it did. -/
def flashNilSpec : ChangeSpec := { name := "flashNil", fn := fun _ => fun
  | [d] => { results := [.lit (.bool true)], args := [d] }
  | _ => none }
def flashNilRow : OpenClaim := { program := "ytfabbafmbifkiaa", sum := "28dbf0942328bdc2024f135341869d2223b63d32e9120ed11f13be8639f04e3d", func := "apogee/apogeelaw08.FlashNil", spec := "flashNil", inPlace := ["internal/bytealg.MakeNoZero", "sync/atomic.LoadInt64", "sync/atomic.CompareAndSwapInt64"], apart := false }
def FlashNilSaid : Prop := flashNilRow.holds Try.pinned (OpenSpec.ofChange flashNilSpec)

/-- ITS FALSE NEIGHBOUR: 'it returns false'. Refute it at one input. -/
def flashNilWrong : ChangeSpec := { name := "flashNil", fn := fun _ => fun
  | [d] => { results := [.lit (.bool false)], args := [d] }
  | _ => none }
def FlashNilWrongFalsely : Prop := flashNilRow.holds Try.pinned (OpenSpec.ofChange flashNilWrong)

/-- 'apogeelaw08.FlashTwice': WHATEVER THE INPUT: true; the input reads as it did. -/
def flashTwiceSpec : ChangeSpec := { name := "flashTwice", fn := fun _ => fun
  | [d1, d2, d3, d4] => { results := [.lit (.bool true)], args := [d1, d2, d3, d4] }
  | _ => none }
def flashTwiceRow : OpenClaim := { program := "ytfabbafmbifkiaa", sum := "28dbf0942328bdc2024f135341869d2223b63d32e9120ed11f13be8639f04e3d", func := "apogee/apogeelaw08.FlashTwice", spec := "flashTwice", inPlace := ["internal/bytealg.MakeNoZero", "sync/atomic.LoadInt64", "sync/atomic.CompareAndSwapInt64"], apart := false }
def FlashTwiceSaid : Prop := flashTwiceRow.holds Try.pinned (OpenSpec.ofChange flashTwiceSpec)

/-- ITS FALSE NEIGHBOUR: 'it returns false'. Refute it at one input. -/
def flashTwiceWrong : ChangeSpec := { name := "flashTwice", fn := fun _ => fun
  | [d1, d2, d3, d4] => { results := [.lit (.bool false)], args := [d1, d2, d3, d4] }
  | _ => none }
def FlashTwiceWrongFalsely : Prop := flashTwiceRow.holds Try.pinned (OpenSpec.ofChange flashTwiceWrong)

/- THE SECOND FORM. 'bulk': how many values and letters a reading holds, each counted each time it is reached (what is shared counts as often as it is met; a slice's spare places count too). A statement '..UptoSaid' is the law's where the arguments, and the package variables that the reading takes, are together of bulk at most 1048576: NARROWER than '..Said'. Prove '..Said' where nothing that the law and all that it calls make is longer than what came in: it says more and counts as full. Else prove '..UptoSaid'. A law counts once. -/
mutual
def uptoBulk {H : Type} : DataW H → Nat
  | .lit (.string bytes) => bytes.length + 1
  | .lit _ => 1
  | .nil => 1
  | .ptr d => uptoBulk d + 1
  | .slice elems spare => uptoBulkAll elems + uptoBulkAll spare + 1
  | .agg parts => uptoBulkAll parts + 1
  | .iface _ d => uptoBulk d + 1
  | .map entries => uptoBulkEntries entries + 1
  | .held _ => 1
def uptoBulkAll {H : Type} : List (DataW H) → Nat
  | [] => 0
  | d :: r => uptoBulk d + uptoBulkAll r
def uptoBulkEntries {H : Type} : List (Lit × DataW H) → Nat
  | [] => 0
  | x :: r => uptoBulkEntry x + uptoBulkEntries r
def uptoBulkEntry {H : Type} : Lit × DataW H → Nat
  | (.string bytes, d) => bytes.length + uptoBulk d + 1
  | (_, d) => uptoBulk d + 1
 end
def uptoSmall : (H : Type) → List (DataW H) → Bool := fun _ ds => decide (uptoBulkAll ds ≤ 1048576)
def OpenSpec.upto (s : _root_.Go.ChangeSpec) : _root_.Go.OpenSpec := { _root_.Go.OpenSpec.ofChange s with cond := some uptoSmall }

/-- 'apogeelaw08.FlashTorn', WHERE WHAT IT READS IS OF BULK AT MOST 1048576: true; the input reads as it did. -/
def flashTornUptoRow : OpenClaim := { program := "ytfabbafmbifkiaa", sum := "28dbf0942328bdc2024f135341869d2223b63d32e9120ed11f13be8639f04e3d", func := "apogee/apogeelaw08.FlashTorn", spec := "flashTorn", inPlace := ["internal/bytealg.MakeNoZero", "sync/atomic.LoadInt64", "sync/atomic.CompareAndSwapInt64"], apart := false, narrowed := true }
def FlashTornUptoSaid : Prop := flashTornUptoRow.holds Try.pinned (OpenSpec.upto flashTornSpec)

/-- 'apogeelaw08.FlashKeeps', WHERE WHAT IT READS IS OF BULK AT MOST 1048576: true; the input reads as it did. -/
def flashKeepsUptoRow : OpenClaim := { program := "ytfabbafmbifkiaa", sum := "28dbf0942328bdc2024f135341869d2223b63d32e9120ed11f13be8639f04e3d", func := "apogee/apogeelaw08.FlashKeeps", spec := "flashKeeps", inPlace := ["internal/bytealg.MakeNoZero", "sync/atomic.LoadInt64", "sync/atomic.CompareAndSwapInt64"], apart := false, narrowed := true }
def FlashKeepsUptoSaid : Prop := flashKeepsUptoRow.holds Try.pinned (OpenSpec.upto flashKeepsSpec)

/-- 'apogeelaw08.FlashNil', WHERE WHAT IT READS IS OF BULK AT MOST 1048576: true; the input reads as it did. -/
def flashNilUptoRow : OpenClaim := { program := "ytfabbafmbifkiaa", sum := "28dbf0942328bdc2024f135341869d2223b63d32e9120ed11f13be8639f04e3d", func := "apogee/apogeelaw08.FlashNil", spec := "flashNil", inPlace := ["internal/bytealg.MakeNoZero", "sync/atomic.LoadInt64", "sync/atomic.CompareAndSwapInt64"], apart := false, narrowed := true }
def FlashNilUptoSaid : Prop := flashNilUptoRow.holds Try.pinned (OpenSpec.upto flashNilSpec)

/-- 'apogeelaw08.FlashTwice', WHERE WHAT IT READS IS OF BULK AT MOST 1048576: true; the input reads as it did. -/
def flashTwiceUptoRow : OpenClaim := { program := "ytfabbafmbifkiaa", sum := "28dbf0942328bdc2024f135341869d2223b63d32e9120ed11f13be8639f04e3d", func := "apogee/apogeelaw08.FlashTwice", spec := "flashTwice", inPlace := ["internal/bytealg.MakeNoZero", "sync/atomic.LoadInt64", "sync/atomic.CompareAndSwapInt64"], apart := false, narrowed := true }
def FlashTwiceUptoSaid : Prop := flashTwiceUptoRow.holds Try.pinned (OpenSpec.upto flashTwiceSpec)

end Rows
end Go.Proofs.Ytfabbafmbifkiaa
