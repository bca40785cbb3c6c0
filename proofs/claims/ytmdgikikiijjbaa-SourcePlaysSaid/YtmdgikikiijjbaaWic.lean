/- Package wide: Cmp, Sign. -/
import Derived.Test.YtmdgikikiijjbaaWid
import Derived.Test.YtmdgikikiijjbaaStage
import Derived.LoopTactic
namespace Go.Proofs.Ytmdgikikiijjbaa
open Go.RowKit

structure CRp (w1 w2 : World) (q : Nat) (w : World) : Prop where
  a : q = 0 → w = w1
  b : q = 1 → w = w2
def cmpI (x y : Int) : Int := if x < y then -1 else if y < x then 1 else 0
def orI (x y : Int) : Int := if x = 0 then y else x
/-- Which one is greater. -/
def cmpV (a b : WV) : Int := cmpI a.val b.val
theorem cmp_plain (a b : WV) (ha : a.ok) (hb : b.ok) : orI (cmpI a.hi b.hi) (cmpI a.lo b.lo) = cmpV a b := by
  obtain ⟨ah, al⟩ := a
  obtain ⟨bh, bl⟩ := b
  have a3 : 0 ≤ al := ha.l0
  have a4 : al ≤ 18446744073709551615 := ha.l1
  have b3 : 0 ≤ bl := hb.l0
  have b4 : bl ≤ 18446744073709551615 := hb.l1
  unfold cmpV orI cmpI WV.val
  simp only
  repeat' split
  all_goals omega
theorem zero_ok : WV.zero.ok := ⟨by decide, by decide, by decide, by decide⟩
end Go.Proofs.Ytmdgikikiijjbaa
