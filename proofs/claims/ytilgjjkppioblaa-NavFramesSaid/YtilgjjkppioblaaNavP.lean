/- Package nav and its reference: Print. -/
import Derived.Test.YtilgjjkppioblaaNavR
import Derived.Test.YtilgjjkppioblaaBytes
namespace Go.Proofs.Ytilgjjkppioblaa
open Go.RowKit

/-- A number's four bytes, a nav's 27. -/
def be (x : Int) : List Int := [x % 4294967296 / 16777216, x % 4294967296 / 65536 % 256, x % 4294967296 / 256 % 256, x % 256]
def hd3 (n : NV) : List Int := [n.cnt / 256 % 256, n.cnt % 256, n.flg % 256]
def NV.bytes (n : NV) : List Int := hd3 n ++ be n.x ++ be n.y ++ be n.z ++ be n.vx ++ be n.vy ++ be n.vz
def NV.print (n : NV) : ByteArray := if n.right then strOfNums n.bytes else ByteArray.empty

set_option maxRecDepth 100000 in
set_option maxHeartbeats 1000000 in
theorem print_any (w : World) (n : NV) : Calls Try.prog 8 #[.agg n.cells] w fun e w' => e = .returned (.string n.print) ∧ Chg [] w w' := by
  have HU : n.cells = #[.int .i64 n.cnt, .int .i64 n.flg, .int .i64 n.x, .int .i64 n.y, .int .i64 n.z, .int .i64 n.vx, .int .i64 n.vy, .int .i64 n.vz] := rfl
  have HR : ∀ w, Calls Try.prog 13 #[.agg n.cells] w fun e w' => e = .returned (.bool n.right) ∧ Chg [] w w' := fun w => right_any w n
  have HP : n.print = if n.right = true then strOfNums n.bytes else ByteArray.empty := rfl
  rw [HP]
  clear HP
  rw [HU] at HR ⊢
  clear HU
  generalize n.right = r at *
  have hI := At.new w n.cells 23
  have hX : Chg [] w (w.alloc (.cells n.cells 23)) := (Chg.refl _ _).alloc _
  have c0 := hI.cell 0
  have c1 := hI.cell 1
  have c2 := hI.cell 2
  have c3 := hI.cell 3
  have c4 := hI.cell 4
  have c5 := hI.cell 5
  have c6 := hI.cell 6
  have c7 := hI.cell 7
  simp only [NV.cells] at c0 c1 c2 c3 c4 c5 c6 c7
  cases r
  · go_enter Try.func8, Try.ntmps8
    go_wp2_with fail
    refine (HR _).mono ?_; rintro e w1 ⟨rfl, hX1⟩
    go_wp2
    go_returns
    exact ⟨rfl, hX.trans hX1⟩
  · go_enter Try.func8, Try.ntmps8
    go_wp2_with fail
    refine (HR _).mono ?_; rintro e w1 ⟨rfl, hX1⟩
    replace hI := hX1.at hI (by simp)
    replace hX := hX.trans hX1
    clear hX1 c0 c1 c2 c3 c4 c5 c6 c7 HR
    have hz : w.heap.size < w1.heap.size := hI.lt
    have hzw : w.heap.size ≤ w.heap.size := Nat.le_refl _
    generalize hz0 : w.heap.size = z at hI hz hzw ⊢
    have c0 := hI.cell 0
    have c1 := hI.cell 1
    simp only [NV.cells] at c0 c1
    go_wp2_with fail
    have hL := BRow.lit w1 (z + 1) (hd3 n) #[.int .u8 (n.cnt / 256 % 256), .int .u8 (n.cnt % 256), .int .u8 (n.flg % 256)] 3 rfl rfl (by omega) (by omega)
    have hX' := hX.alloc (.cells #[.int .u8 (n.cnt / 256 % 256), .int .u8 (n.cnt % 256), .int .u8 (n.flg % 256)] 5)
    replace hI := hI.alloc (.cells #[.int .u8 (n.cnt / 256 % 256), .int .u8 (n.cnt % 256), .int .u8 (n.flg % 256)] 5)
    generalize w1.alloc (.cells #[.int .u8 (n.cnt / 256 % 256), .int .u8 (n.cnt % 256), .int .u8 (n.flg % 256)] 5) = w2 at *
    refine (numbers_any _ _).mono ?_; rintro e w3 ⟨rfl, hX1⟩
    replace hL := hL.keep hX1 (by simp)
    replace hI := hX1.at hI (by simp)
    replace hX := hX'.trans hX1
    clear hX' hX1 c0 c1
    generalize hv : Value.slice (some ⟨w1.heap.size, 0, none⟩) 3 3 = v at *
    clear hv
    have i0 := idx0 z
    have i1 := idx1 z
    have i2 := idx2 z
    have i3 := idx3 z
    have i4 := idx4 z
    have i5 := idx5 z
    go_wp2_with fail
    refine wp_loop_rounds 7 ?_
    rw [rounds_succ]
    have c0 := hI.cell 2
    simp only [NV.cells] at c0
    have hsz := hI.lt
    go_wp2_with (at_builtin; refine wpList_app rfl (.tmp 29) (.tmp 41) rfl rfl (hL.alloc _) rfl (At.new _ _ _) (M := be n.x) rfl rfl (by simp [hd3, be]) (by simp; omega) ?_; intro v' w' h1 h2; have hX1 := BRow.grown (hL.alloc _) (hX.alloc _) h2 (by omega); have hI1 := BRow.far (hL.alloc _) h2 (hI.alloc _) (by omega))
    clear c0 h2 hL hX hI hsz
    have hL := h1
    have hX := hX1
    have hI := hI1
    clear h1 hX1 hI1
    rw [rounds_succ]
    have c1 := hI.cell 3
    simp only [NV.cells] at c1
    have hsz := hI.lt
    go_wp2_with (at_builtin; refine wpList_app rfl (.tmp 29) (.tmp 41) rfl rfl (hL.alloc _) rfl (At.new _ _ _) (M := be n.y) rfl rfl (by simp [hd3, be]) (by simp; omega) ?_; intro v' w' h1 h2; have hX1 := BRow.grown (hL.alloc _) (hX.alloc _) h2 (by omega); have hI1 := BRow.far (hL.alloc _) h2 (hI.alloc _) (by omega))
    clear c1 h2 hL hX hI hsz
    have hL := h1
    have hX := hX1
    have hI := hI1
    clear h1 hX1 hI1
    rw [rounds_succ]
    have c2 := hI.cell 4
    simp only [NV.cells] at c2
    have hsz := hI.lt
    go_wp2_with (at_builtin; refine wpList_app rfl (.tmp 29) (.tmp 41) rfl rfl (hL.alloc _) rfl (At.new _ _ _) (M := be n.z) rfl rfl (by simp [hd3, be]) (by simp; omega) ?_; intro v' w' h1 h2; have hX1 := BRow.grown (hL.alloc _) (hX.alloc _) h2 (by omega); have hI1 := BRow.far (hL.alloc _) h2 (hI.alloc _) (by omega))
    clear c2 h2 hL hX hI hsz
    have hL := h1
    have hX := hX1
    have hI := hI1
    clear h1 hX1 hI1
    rw [rounds_succ]
    have c3 := hI.cell 5
    simp only [NV.cells] at c3
    have hsz := hI.lt
    go_wp2_with (at_builtin; refine wpList_app rfl (.tmp 29) (.tmp 41) rfl rfl (hL.alloc _) rfl (At.new _ _ _) (M := be n.vx) rfl rfl (by simp [hd3, be]) (by simp; omega) ?_; intro v' w' h1 h2; have hX1 := BRow.grown (hL.alloc _) (hX.alloc _) h2 (by omega); have hI1 := BRow.far (hL.alloc _) h2 (hI.alloc _) (by omega))
    clear c3 h2 hL hX hI hsz
    have hL := h1
    have hX := hX1
    have hI := hI1
    clear h1 hX1 hI1
    rw [rounds_succ]
    have c4 := hI.cell 6
    simp only [NV.cells] at c4
    have hsz := hI.lt
    go_wp2_with (at_builtin; refine wpList_app rfl (.tmp 29) (.tmp 41) rfl rfl (hL.alloc _) rfl (At.new _ _ _) (M := be n.vy) rfl rfl (by simp [hd3, be]) (by simp; omega) ?_; intro v' w' h1 h2; have hX1 := BRow.grown (hL.alloc _) (hX.alloc _) h2 (by omega); have hI1 := BRow.far (hL.alloc _) h2 (hI.alloc _) (by omega))
    clear c4 h2 hL hX hI hsz
    have hL := h1
    have hX := hX1
    have hI := hI1
    clear h1 hX1 hI1
    rw [rounds_succ]
    have c5 := hI.cell 7
    simp only [NV.cells] at c5
    have hsz := hI.lt
    go_wp2_with (at_builtin; refine wpList_app rfl (.tmp 29) (.tmp 41) rfl rfl (hL.alloc _) rfl (At.new _ _ _) (M := be n.vz) rfl rfl (by simp [hd3, be]) (by simp; omega) ?_; intro v' w' h1 h2; have hX1 := BRow.grown (hL.alloc _) (hX.alloc _) h2 (by omega); have hI1 := BRow.far (hL.alloc _) h2 (hI.alloc _) (by omega))
    clear c5 h2 hL hX hI hsz
    have hL := h1
    have hX := hX1
    have hI := hI1
    clear h1 hX1 hI1
    obtain ⟨g, cap, rfl, hc⟩ := hL.out (k := 27) rfl (by decide)
    clear hL
    rw [rounds_succ]
    go_wp2
    go_returns
    exact ⟨rfl, hX⟩

end Go.Proofs.Ytilgjjkppioblaa
