/- Navs as numbers. -/
import Derived.Test.YtmdgikikiijjbaaHeap
import Derived.Test.YtmdgikikiijjbaaSh
namespace Go.Proofs.Ytmdgikikiijjbaa
open Go.RowKit

structure NV where (cnt flg x y z vx vy vz : Int)
def NV.cells (n : NV) : Array Value := #[.int .i64 n.cnt, .int .i64 n.flg, .int .i64 n.x, .int .i64 n.y, .int .i64 n.z, .int .i64 n.vx, .int .i64 n.vy, .int .i64 n.vz]
def NV.zero : NV := ⟨0, 0, 0, 0, 0, 0, 0, 0⟩
def i64b (x : Int) : Prop := -9223372036854775808 ≤ x ∧ x ≤ 9223372036854775807
/-- All its numbers are of 64 bits. -/
structure NV.bd (n : NV) : Prop where
  cnt : i64b n.cnt
  flg : i64b n.flg
  x : i64b n.x
  y : i64b n.y
  z : i64b n.z
  vx : i64b n.vx
  vy : i64b n.vy
  vz : i64b n.vz
theorem NV.zero_bd : NV.zero.bd := by refine ⟨?_, ?_, ?_, ?_, ?_, ?_, ?_, ?_⟩ <;> exact ⟨by decide, by decide⟩
abbrev shNV : Sh := .prod (.int .i64) (.prod (.int .i64) (.prod (.int .i64) (.prod (.int .i64) (.prod (.int .i64) (.prod (.int .i64) (.prod (.int .i64) (.prod (.int .i64) .unit)))))))
def toNV (x : shNV.T) : NV := ⟨x.1, x.2.1, x.2.2.1, x.2.2.2.1, x.2.2.2.2.1, x.2.2.2.2.2.1, x.2.2.2.2.2.2.1, x.2.2.2.2.2.2.2.1⟩
theorem nv_of {W : World} {x : shNV.T} {c : Array Value} (h : shNV.rep W x c.toList) : c = (toNV x).cells ∧ (toNV x).bd := by
  obtain ⟨a1, b1, e1, _, ⟨rfl, h1⟩, a2, b2, rfl, _, ⟨rfl, h2⟩, a3, b3, rfl, _, ⟨rfl, h3⟩, a4, b4, rfl, _, ⟨rfl, h4⟩, a5, b5, rfl, _, ⟨rfl, h5⟩, a6, b6, rfl, _, ⟨rfl, h6⟩, a7, b7, rfl, _, ⟨rfl, h7⟩, a8, b8, rfl, _, ⟨rfl, h8⟩, rfl⟩ := h
  refine ⟨?_, ⟨bounds_i64 h1, bounds_i64 h2, bounds_i64 h3, bounds_i64 h4, bounds_i64 h5, bounds_i64 h6, bounds_i64 h7, bounds_i64 h8⟩⟩
  apply Array.toList_inj.1
  rw [e1]
  rfl
end Go.Proofs.Ytmdgikikiijjbaa
