/-
  No cell of these rows narrows 'for every input' (looked for: loops, veiled, ifaces, maps, wideKeys, modest, calm, conditions, laid).
  DERIVED. THE GIVEN ROWS OF THIS SEAT. 7 by the template 'for every input the law returns true; each argument reads behind the call as it read before'; 0 by the template 'total and deterministic' (their statements: YtlhnnfofdkjapaaTotals.lean).
  GIVEN WITH THE SEED: the statements are not yours to turn. If you find one false, say at which input.
  Laid BY PROGRAM, IN A SANDBOX (cutbox-rows.mjs): the forced cells as the released guide's own fill.sh prints them over the translation ab32093a38d8ed0f… (all of the seat's roots in one cut). By AI agents, Wed Nov 11 2026. No macro, syntax, notation, axiom, sorry.
-/
import Derived.Test.YtlhnnfofdkjapaaChecked
import GoSem.Claim
import GoSem.ClaimJoined
import GoSem.ClaimMapViews
import Derived.JoinedTies
import Derived.KernelRfl
namespace Go.Proofs.Ytlhnnfofdkjapaa
/- THE CELL 'sum', in the pinned program and in every row, IS THE sha256 OF THE DUMP (.gsa) THAT YtlhnnfofdkjapaaProg.lean LOADS. Nothing in Lean hashes anything: it is a label: what it is worth is what the hold of that sum in a sandbox is worth. -/
noncomputable def Try.pinned : Pinned := { name := "ytlhnnfofdkjapaa", sum := "ab32093a38d8ed0f8448371e9d5f9963be95b835826778e431dd5541ad35f513", checked := Try.checked }
namespace Rows
def none {H : Type} : Left H := { results := [], args := [] }

/-- 'apogeelaw01.WideMul': WHATEVER THE INPUT: true; the input reads as it did. -/
def wideMulSpec : ChangeSpec := { name := "wideMul", fn := fun _ => fun
  | [d1, d2] => { results := [.lit (.bool true)], args := [d1, d2] }
  | _ => none }
def wideMulRow : OpenClaim := { program := "ytlhnnfofdkjapaa", sum := "ab32093a38d8ed0f8448371e9d5f9963be95b835826778e431dd5541ad35f513", func := "apogee/apogeelaw01.WideMul", spec := "wideMul", inPlace := ["math/bits.Add64", "math/bits.Sub64"], named := ["math/bits.divideError", "math/bits.overflowError"], apart := false }
def WideMulSaid : Prop := wideMulRow.holds Try.pinned (OpenSpec.ofChange wideMulSpec)

/-- ITS FALSE NEIGHBOUR: 'it returns false'. Refute it at one input. -/
def wideMulWrong : ChangeSpec := { name := "wideMul", fn := fun _ => fun
  | [d1, d2] => { results := [.lit (.bool false)], args := [d1, d2] }
  | _ => none }
def WideMulWrongFalsely : Prop := wideMulRow.holds Try.pinned (OpenSpec.ofChange wideMulWrong)

/-- 'apogeelaw01.WideDiv': WHATEVER THE INPUT: true; the input reads as it did. -/
def wideDivSpec : ChangeSpec := { name := "wideDiv", fn := fun _ => fun
  | [d1, d2] => { results := [.lit (.bool true)], args := [d1, d2] }
  | _ => none }
def wideDivRow : OpenClaim := { program := "ytlhnnfofdkjapaa", sum := "ab32093a38d8ed0f8448371e9d5f9963be95b835826778e431dd5541ad35f513", func := "apogee/apogeelaw01.WideDiv", spec := "wideDiv", inPlace := ["math/bits.Sub64", "math/bits.Add64"], named := ["math/bits.divideError", "math/bits.overflowError"], apart := false }
def WideDivSaid : Prop := wideDivRow.holds Try.pinned (OpenSpec.ofChange wideDivSpec)

/-- ITS FALSE NEIGHBOUR: 'it returns false'. Refute it at one input. -/
def wideDivWrong : ChangeSpec := { name := "wideDiv", fn := fun _ => fun
  | [d1, d2] => { results := [.lit (.bool false)], args := [d1, d2] }
  | _ => none }
def WideDivWrongFalsely : Prop := wideDivRow.holds Try.pinned (OpenSpec.ofChange wideDivWrong)

/-- 'apogeelaw01.WideSqrt': WHATEVER THE INPUT: true; the input reads as it did. -/
def wideSqrtSpec : ChangeSpec := { name := "wideSqrt", fn := fun _ => fun
  | [d] => { results := [.lit (.bool true)], args := [d] }
  | _ => none }
def wideSqrtRow : OpenClaim := { program := "ytlhnnfofdkjapaa", sum := "ab32093a38d8ed0f8448371e9d5f9963be95b835826778e431dd5541ad35f513", func := "apogee/apogeelaw01.WideSqrt", spec := "wideSqrt", inPlace := ["math/bits.Add64", "math/bits.Sub64"], named := ["math/bits.divideError", "math/bits.overflowError"], apart := false }
def WideSqrtSaid : Prop := wideSqrtRow.holds Try.pinned (OpenSpec.ofChange wideSqrtSpec)

/-- ITS FALSE NEIGHBOUR: 'it returns false'. Refute it at one input. -/
def wideSqrtWrong : ChangeSpec := { name := "wideSqrt", fn := fun _ => fun
  | [d] => { results := [.lit (.bool false)], args := [d] }
  | _ => none }
def WideSqrtWrongFalsely : Prop := wideSqrtRow.holds Try.pinned (OpenSpec.ofChange wideSqrtWrong)

/-- 'apogeelaw01.WideOrder': WHATEVER THE INPUT: true; the input reads as it did. -/
def wideOrderSpec : ChangeSpec := { name := "wideOrder", fn := fun _ => fun
  | [d1, d2, d3] => { results := [.lit (.bool true)], args := [d1, d2, d3] }
  | _ => none }
def wideOrderRow : OpenClaim := { program := "ytlhnnfofdkjapaa", sum := "ab32093a38d8ed0f8448371e9d5f9963be95b835826778e431dd5541ad35f513", func := "apogee/apogeelaw01.WideOrder", spec := "wideOrder", inPlace := ["math/bits.Add64", "math/bits.Sub64"], named := ["math/bits.divideError", "math/bits.overflowError"], apart := false }
def WideOrderSaid : Prop := wideOrderRow.holds Try.pinned (OpenSpec.ofChange wideOrderSpec)

/-- ITS FALSE NEIGHBOUR: 'it returns false'. Refute it at one input. -/
def wideOrderWrong : ChangeSpec := { name := "wideOrder", fn := fun _ => fun
  | [d1, d2, d3] => { results := [.lit (.bool false)], args := [d1, d2, d3] }
  | _ => none }
def WideOrderWrongFalsely : Prop := wideOrderRow.holds Try.pinned (OpenSpec.ofChange wideOrderWrong)

/-- 'apogeelaw01.WideGroup': WHATEVER THE INPUT: true; the input reads as it did. -/
def wideGroupSpec : ChangeSpec := { name := "wideGroup", fn := fun _ => fun
  | [d1, d2, d3] => { results := [.lit (.bool true)], args := [d1, d2, d3] }
  | _ => none }
def wideGroupRow : OpenClaim := { program := "ytlhnnfofdkjapaa", sum := "ab32093a38d8ed0f8448371e9d5f9963be95b835826778e431dd5541ad35f513", func := "apogee/apogeelaw01.WideGroup", spec := "wideGroup", inPlace := ["math/bits.Add64", "math/bits.Sub64"], named := ["math/bits.divideError", "math/bits.overflowError"], apart := false }
def WideGroupSaid : Prop := wideGroupRow.holds Try.pinned (OpenSpec.ofChange wideGroupSpec)

/-- ITS FALSE NEIGHBOUR: 'it returns false'. Refute it at one input. -/
def wideGroupWrong : ChangeSpec := { name := "wideGroup", fn := fun _ => fun
  | [d1, d2, d3] => { results := [.lit (.bool false)], args := [d1, d2, d3] }
  | _ => none }
def WideGroupWrongFalsely : Prop := wideGroupRow.holds Try.pinned (OpenSpec.ofChange wideGroupWrong)

/-- 'apogeelaw01.WideSmall': WHATEVER THE INPUT: true; the input reads as it did. -/
def wideSmallSpec : ChangeSpec := { name := "wideSmall", fn := fun _ => fun
  | [d1, d2] => { results := [.lit (.bool true)], args := [d1, d2] }
  | _ => none }
def wideSmallRow : OpenClaim := { program := "ytlhnnfofdkjapaa", sum := "ab32093a38d8ed0f8448371e9d5f9963be95b835826778e431dd5541ad35f513", func := "apogee/apogeelaw01.WideSmall", spec := "wideSmall", inPlace := ["math/bits.Add64", "math/bits.Sub64"], named := ["math/bits.divideError", "math/bits.overflowError"], apart := false }
def WideSmallSaid : Prop := wideSmallRow.holds Try.pinned (OpenSpec.ofChange wideSmallSpec)

/-- ITS FALSE NEIGHBOUR: 'it returns false'. Refute it at one input. -/
def wideSmallWrong : ChangeSpec := { name := "wideSmall", fn := fun _ => fun
  | [d1, d2] => { results := [.lit (.bool false)], args := [d1, d2] }
  | _ => none }
def WideSmallWrongFalsely : Prop := wideSmallRow.holds Try.pinned (OpenSpec.ofChange wideSmallWrong)

/-- 'apogeelaw01.WideTells': WHATEVER THE INPUT: true; the input reads as it did. -/
def wideTellsSpec : ChangeSpec := { name := "wideTells", fn := fun _ => fun
  | [d1, d2] => { results := [.lit (.bool true)], args := [d1, d2] }
  | _ => none }
def wideTellsRow : OpenClaim := { program := "ytlhnnfofdkjapaa", sum := "ab32093a38d8ed0f8448371e9d5f9963be95b835826778e431dd5541ad35f513", func := "apogee/apogeelaw01.WideTells", spec := "wideTells", inPlace := ["math/bits.Add64", "math/bits.Sub64"], named := ["math/bits.divideError", "math/bits.overflowError"], apart := false }
def WideTellsSaid : Prop := wideTellsRow.holds Try.pinned (OpenSpec.ofChange wideTellsSpec)

/-- ITS FALSE NEIGHBOUR: 'it returns false'. Refute it at one input. -/
def wideTellsWrong : ChangeSpec := { name := "wideTells", fn := fun _ => fun
  | [d1, d2] => { results := [.lit (.bool false)], args := [d1, d2] }
  | _ => none }
def WideTellsWrongFalsely : Prop := wideTellsRow.holds Try.pinned (OpenSpec.ofChange wideTellsWrong)

/- THE SECOND FORM. 'bulk': how many values and letters a reading holds, each counted each time it is reached (what is shared counts as often as it is met; a slice's spare places count too). A statement '..UptoSaid' is the law's where the arguments, and the package variables that the reading takes, are together of bulk at most 1048576: NARROWER than '..Said'. Prove '..Said' where nothing that the law and all that it calls make is longer than what came in: it says more and counts as full. Else prove '..UptoSaid'. A law counts once. -/
mutual
def uptoBulk {H : Type} : DataW H → Nat
  | .lit (.string bytes) => bytes.length + 1
  | .lit _ => 1
  | .nil => 1
  | .ptr d => uptoBulk d + 1
  | .slice elems spare => uptoBulkAll elems + uptoBulkAll spare + 1
  | .agg parts => uptoBulkAll parts + 1
  | .iface _ d => uptoBulk d + 1
  | .map entries => uptoBulkEntries entries + 1
  | .held _ => 1
def uptoBulkAll {H : Type} : List (DataW H) → Nat
  | [] => 0
  | d :: r => uptoBulk d + uptoBulkAll r
def uptoBulkEntries {H : Type} : List (Lit × DataW H) → Nat
  | [] => 0
  | x :: r => uptoBulkEntry x + uptoBulkEntries r
def uptoBulkEntry {H : Type} : Lit × DataW H → Nat
  | (.string bytes, d) => bytes.length + uptoBulk d + 1
  | (_, d) => uptoBulk d + 1
 end
def uptoSmall : (H : Type) → List (DataW H) → Bool := fun _ ds => decide (uptoBulkAll ds ≤ 1048576)
def OpenSpec.upto (s : _root_.Go.ChangeSpec) : _root_.Go.OpenSpec := { _root_.Go.OpenSpec.ofChange s with cond := some uptoSmall }

/-- 'apogeelaw01.WideMul', WHERE WHAT IT READS IS OF BULK AT MOST 1048576: true; the input reads as it did. -/
def wideMulUptoRow : OpenClaim := { program := "ytlhnnfofdkjapaa", sum := "ab32093a38d8ed0f8448371e9d5f9963be95b835826778e431dd5541ad35f513", func := "apogee/apogeelaw01.WideMul", spec := "wideMul", inPlace := ["math/bits.Add64", "math/bits.Sub64"], named := ["math/bits.divideError", "math/bits.overflowError"], apart := false, narrowed := true }
def WideMulUptoSaid : Prop := wideMulUptoRow.holds Try.pinned (OpenSpec.upto wideMulSpec)

/-- 'apogeelaw01.WideDiv', WHERE WHAT IT READS IS OF BULK AT MOST 1048576: true; the input reads as it did. -/
def wideDivUptoRow : OpenClaim := { program := "ytlhnnfofdkjapaa", sum := "ab32093a38d8ed0f8448371e9d5f9963be95b835826778e431dd5541ad35f513", func := "apogee/apogeelaw01.WideDiv", spec := "wideDiv", inPlace := ["math/bits.Sub64", "math/bits.Add64"], named := ["math/bits.divideError", "math/bits.overflowError"], apart := false, narrowed := true }
def WideDivUptoSaid : Prop := wideDivUptoRow.holds Try.pinned (OpenSpec.upto wideDivSpec)

/-- 'apogeelaw01.WideSqrt', WHERE WHAT IT READS IS OF BULK AT MOST 1048576: true; the input reads as it did. -/
def wideSqrtUptoRow : OpenClaim := { program := "ytlhnnfofdkjapaa", sum := "ab32093a38d8ed0f8448371e9d5f9963be95b835826778e431dd5541ad35f513", func := "apogee/apogeelaw01.WideSqrt", spec := "wideSqrt", inPlace := ["math/bits.Add64", "math/bits.Sub64"], named := ["math/bits.divideError", "math/bits.overflowError"], apart := false, narrowed := true }
def WideSqrtUptoSaid : Prop := wideSqrtUptoRow.holds Try.pinned (OpenSpec.upto wideSqrtSpec)

/-- 'apogeelaw01.WideOrder', WHERE WHAT IT READS IS OF BULK AT MOST 1048576: true; the input reads as it did. -/
def wideOrderUptoRow : OpenClaim := { program := "ytlhnnfofdkjapaa", sum := "ab32093a38d8ed0f8448371e9d5f9963be95b835826778e431dd5541ad35f513", func := "apogee/apogeelaw01.WideOrder", spec := "wideOrder", inPlace := ["math/bits.Add64", "math/bits.Sub64"], named := ["math/bits.divideError", "math/bits.overflowError"], apart := false, narrowed := true }
def WideOrderUptoSaid : Prop := wideOrderUptoRow.holds Try.pinned (OpenSpec.upto wideOrderSpec)

/-- 'apogeelaw01.WideGroup', WHERE WHAT IT READS IS OF BULK AT MOST 1048576: true; the input reads as it did. -/
def wideGroupUptoRow : OpenClaim := { program := "ytlhnnfofdkjapaa", sum := "ab32093a38d8ed0f8448371e9d5f9963be95b835826778e431dd5541ad35f513", func := "apogee/apogeelaw01.WideGroup", spec := "wideGroup", inPlace := ["math/bits.Add64", "math/bits.Sub64"], named := ["math/bits.divideError", "math/bits.overflowError"], apart := false, narrowed := true }
def WideGroupUptoSaid : Prop := wideGroupUptoRow.holds Try.pinned (OpenSpec.upto wideGroupSpec)

/-- 'apogeelaw01.WideSmall', WHERE WHAT IT READS IS OF BULK AT MOST 1048576: true; the input reads as it did. -/
def wideSmallUptoRow : OpenClaim := { program := "ytlhnnfofdkjapaa", sum := "ab32093a38d8ed0f8448371e9d5f9963be95b835826778e431dd5541ad35f513", func := "apogee/apogeelaw01.WideSmall", spec := "wideSmall", inPlace := ["math/bits.Add64", "math/bits.Sub64"], named := ["math/bits.divideError", "math/bits.overflowError"], apart := false, narrowed := true }
def WideSmallUptoSaid : Prop := wideSmallUptoRow.holds Try.pinned (OpenSpec.upto wideSmallSpec)

/-- 'apogeelaw01.WideTells', WHERE WHAT IT READS IS OF BULK AT MOST 1048576: true; the input reads as it did. -/
def wideTellsUptoRow : OpenClaim := { program := "ytlhnnfofdkjapaa", sum := "ab32093a38d8ed0f8448371e9d5f9963be95b835826778e431dd5541ad35f513", func := "apogee/apogeelaw01.WideTells", spec := "wideTells", inPlace := ["math/bits.Add64", "math/bits.Sub64"], named := ["math/bits.divideError", "math/bits.overflowError"], apart := false, narrowed := true }
def WideTellsUptoSaid : Prop := wideTellsUptoRow.holds Try.pinned (OpenSpec.upto wideTellsSpec)

end Rows
end Go.Proofs.Ytlhnnfofdkjapaa
