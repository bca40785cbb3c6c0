/- Package apogeelaw06: 'awake'. -/
import Derived.Test.YtilgjjkppioblaaNavU
import Derived.Test.YtilgjjkppioblaaNavQ
import Derived.Test.YtilgjjkppioblaaNavK
import Derived.Test.YtilgjjkppioblaaNavM
namespace Go.Proofs.Ytilgjjkppioblaa
open Go.RowKit

def n0 : NV := ⟨258, 3, -1, 0, 0, 0, 0, 5⟩
theorem n0_size : n0.print.size = 27 := by
  show (strOfNums n0.bytes).size = 27
  rw [strOfNums_size]
  rfl
theorem by_nums (L : List Int) (k : Nat) (v : Int) (hk : L[k]? = some v) (h0 : 0 ≤ v) (h1 : v ≤ 255) : by_ (strOfNums L) k = v := by
  unfold by_
  rw [strOfNums_data, List.getD_eq_getElem?_getD, List.getElem?_map, hk]
  simp
  omega
theorem wd_be (x : Int) (h0 : -2147483648 ≤ x) (h1 : x ≤ 2147483647) : wd (x % 4294967296 / 16777216) (x % 4294967296 / 65536 % 256) (x % 4294967296 / 256 % 256) (x % 256) = x := by
  unfold wd
  split <;> omega
set_option maxRecDepth 100000 in
/-- What is printed is read as it was. -/
theorem rd_print (n : NV) (h : n.right = true) : n.print.size = 27 ∧ rd n.print = n := by
  have hr := n.right_iff.1 h
  have e : n.print = strOfNums n.bytes := by unfold NV.print; rw [if_pos h]
  rw [e]
  refine ⟨by rw [strOfNums_size]; rfl, ?_⟩
  unfold rd
  rw [by_nums n.bytes 0 (n.cnt / 256 % 256) rfl (by omega) (by omega), by_nums n.bytes 1 (n.cnt % 256) rfl (by omega) (by omega), by_nums n.bytes 2 (n.flg % 256) rfl (by omega) (by omega)]
  rw [by_nums n.bytes 3 (n.x % 4294967296 / 16777216) rfl (by omega) (by omega), by_nums n.bytes 4 (n.x % 4294967296 / 65536 % 256) rfl (by omega) (by omega), by_nums n.bytes 5 (n.x % 4294967296 / 256 % 256) rfl (by omega) (by omega), by_nums n.bytes 6 (n.x % 256) rfl (by omega) (by omega), wd_be n.x (by omega) (by omega)]
  rw [by_nums n.bytes 7 (n.y % 4294967296 / 16777216) rfl (by omega) (by omega), by_nums n.bytes 8 (n.y % 4294967296 / 65536 % 256) rfl (by omega) (by omega), by_nums n.bytes 9 (n.y % 4294967296 / 256 % 256) rfl (by omega) (by omega), by_nums n.bytes 10 (n.y % 256) rfl (by omega) (by omega), wd_be n.y (by omega) (by omega)]
  rw [by_nums n.bytes 11 (n.z % 4294967296 / 16777216) rfl (by omega) (by omega), by_nums n.bytes 12 (n.z % 4294967296 / 65536 % 256) rfl (by omega) (by omega), by_nums n.bytes 13 (n.z % 4294967296 / 256 % 256) rfl (by omega) (by omega), by_nums n.bytes 14 (n.z % 256) rfl (by omega) (by omega), wd_be n.z (by omega) (by omega)]
  rw [by_nums n.bytes 15 (n.vx % 4294967296 / 16777216) rfl (by omega) (by omega), by_nums n.bytes 16 (n.vx % 4294967296 / 65536 % 256) rfl (by omega) (by omega), by_nums n.bytes 17 (n.vx % 4294967296 / 256 % 256) rfl (by omega) (by omega), by_nums n.bytes 18 (n.vx % 256) rfl (by omega) (by omega), wd_be n.vx (by omega) (by omega)]
  rw [by_nums n.bytes 19 (n.vy % 4294967296 / 16777216) rfl (by omega) (by omega), by_nums n.bytes 20 (n.vy % 4294967296 / 65536 % 256) rfl (by omega) (by omega), by_nums n.bytes 21 (n.vy % 4294967296 / 256 % 256) rfl (by omega) (by omega), by_nums n.bytes 22 (n.vy % 256) rfl (by omega) (by omega), wd_be n.vy (by omega) (by omega)]
  rw [by_nums n.bytes 23 (n.vz % 4294967296 / 16777216) rfl (by omega) (by omega), by_nums n.bytes 24 (n.vz % 4294967296 / 65536 % 256) rfl (by omega) (by omega), by_nums n.bytes 25 (n.vz % 4294967296 / 256 % 256) rfl (by omega) (by omega), by_nums n.bytes 26 (n.vz % 256) rfl (by omega) (by omega), wd_be n.vz (by omega) (by omega)]
  rw [show n.cnt / 256 % 256 * 256 + n.cnt % 256 = n.cnt by omega, show n.flg % 256 = n.flg by omega]
theorem n0_rd : rd n0.print = n0 := (rd_print n0 rfl).2
theorem n0_head : n0.print.extract 0 7 = ⟨#[1, 2, 3, 255, 255, 255, 255]⟩ := by rfl
theorem n0_right : n0.right = true := by rfl
theorem n0_near : n0.near ⟨0, 0, 1, 0, 0, 0, 0, 3⟩ 2 = true := by rfl
theorem n0_far : n0.near ⟨0, 0, 1, 0, 0, 0, 0, 3⟩ 1 = false := by rfl
theorem neg_print : NV.print ⟨-1, 0, 0, 0, 0, 0, 0, 0⟩ = ByteArray.empty := by rfl
theorem none_lit : NV.none.cells = #[.int .i64 0, .int .i64 0, .int .i64 0, .int .i64 0, .int .i64 0, .int .i64 0, .int .i64 0, .int .i64 0] := rfl
def n2 : NV := ⟨0, 0, 1, 0, 0, 0, 0, 3⟩
theorem n0_bd : n0.bd := by constructor <;> (unfold i64b n0; simp)
theorem n2_bd : n2.bd := by constructor <;> (unfold i64b n2; simp)

set_option maxRecDepth 100000 in
set_option maxHeartbeats 2000000 in
theorem awake06 (w : World) : Calls Try.prog 11 #[] w fun e w' => e = .returned (.bool true) ∧ Chg [] w w' := by
  have hsz := n0_size
  have hrd := n0_rd
  have hhd := n0_head
  have HP : ∀ w, Calls Try.prog 8 #[.agg #[.int .i64 258, .int .i64 3, .int .i64 (-1), .int .i64 0, .int .i64 0, .int .i64 0, .int .i64 0, .int .i64 5]] w fun e w' => e = .returned (.string n0.print) ∧ Chg [] w w' := fun w => print_any w n0
  generalize n0.print = p at *
  have HRd : ∀ w, Calls Try.prog 9 #[.string p] w fun e w' => e = .returned (.tuple #[.agg #[.int .i64 258, .int .i64 3, .int .i64 (-1), .int .i64 0, .int .i64 0, .int .i64 0, .int .i64 0, .int .i64 5], .int .i64 0]) ∧ Chg [] w w' := fun w => by
    have := read_any w p hsz
    rw [hrd] at this
    exact this
  go_enter Try.func11, Try.ntmps11
  go_wp2_with fail
  refine (HP _).mono ?_; rintro e w1 ⟨rfl, hX1⟩
  go_wp2_with fail
  refine (HRd _).mono ?_; rintro e w2 ⟨rfl, hX2⟩
  go_wp2_with fail
  have hN := hX2.at (hX1.at (At.new w n0.cells 23) (by simp)) (by simp)
  have hM := At.new w2 n0.cells 23
  replace hN := hN.alloc (.cells n0.cells 23)
  have hX : Chg [] w (w2.alloc (.cells n0.cells 23)) := ((((Chg.refl _ _).alloc _).trans hX1).trans hX2).alloc _
  clear hX1 hX2
  have HS := read_short (w2.alloc (.cells n0.cells 23)) ⟨#[120]⟩ (by decide)
  rw [none_lit] at HS
  refine HS.mono ?_; rintro e w3 ⟨rfl, hX3⟩
  clear HS
  go_wp2_with fail
  replace hN := (hX3.at hN (by simp)).alloc (.cells NV.none.cells 23)
  replace hM := (hX3.at hM (by simp)).alloc (.cells NV.none.cells 23)
  replace hX := (hX.trans hX3).alloc (.cells NV.none.cells 23)
  clear hX3
  have HL := read_long (w3.alloc (.cells NV.none.cells 23)) (p ++ ⟨#[120]⟩) (by rw [ByteArray.size_append, hsz]; decide)
  rw [none_lit] at HL
  refine HL.mono ?_; rintro e w4 ⟨rfl, hX4⟩
  clear HL
  go_wp2_with fail
  replace hN := (hX4.at hN (by simp)).alloc (.cells NV.none.cells 23)
  replace hM := (hX4.at hM (by simp)).alloc (.cells NV.none.cells 23)
  replace hX := (hX.trans hX4).alloc (.cells NV.none.cells 23)
  clear hX4
  refine (source_yes _ 17 _ (Or.inr rfl)).mono ?_; rintro e w5 ⟨rfl, hX5⟩
  go_wp2_with fail
  refine (source_no _ 18 _ (by unfold i64b; omega) (by omega)).mono ?_; rintro e w6 ⟨rfl, hX6⟩
  replace hN := hX6.at (hX5.at hN (by simp)) (by simp)
  replace hM := hX6.at (hX5.at hM (by simp)) (by simp)
  replace hX := (hX.trans hX5).trans hX6
  clear hX5 hX6
  generalize w.heap.size = zn at hN ⊢
  generalize w2.heap.size = zm at hM ⊢
  have c0 := hN.cell 0; have c1 := hN.cell 1; have c2 := hN.cell 2; have c3 := hN.cell 3; have c4 := hN.cell 4; have c5 := hN.cell 5; have c6 := hN.cell 6; have c7 := hN.cell 7
  have d0 := hM.cell 0; have d1 := hM.cell 1; have d2 := hM.cell 2; have d3 := hM.cell 3; have d4 := hM.cell 4; have d5 := hM.cell 5; have d6 := hM.cell 6; have d7 := hM.cell 7
  simp only [NV.cells, n0] at c0 c1 c2 c3 c4 c5 c6 c7 d0 d1 d2 d3 d4 d5 d6 d7
  have K0 := fun w => kind_any w 0 (by unfold i64b; omega)
  have K2 := fun w => kind_any w 2 (by unfold i64b; omega)
  rw [show kindOf 0 = 16 from rfl] at K0
  rw [show kindOf 2 = -1 from rfl] at K2
  have N2 := fun w => near_any w n0 n2 2 n0_bd n2_bd (by unfold i64b; omega)
  have N1 := fun w => near_any w n0 n2 1 n0_bd n2_bd (by unfold i64b; omega)
  rw [show n0.near n2 2 = true from n0_near] at N2
  rw [show n0.near n2 1 = false from n0_far] at N1
  have R0 := fun w => right_any w n0
  rw [n0_right] at R0
  have PN := fun w => print_any w ⟨-1, 0, 0, 0, 0, 0, 0, 0⟩
  rw [neg_print] at PN
  simp only [NV.cells, n0, n2] at N2 N1 R0 PN
  go_wp2_with (first
    | (go_at_call 18; (with_reducible refine (K0 _).mono ?_); rintro e w' ⟨rfl, rfl⟩)
    | (go_at_call 18; (with_reducible refine (K2 _).mono ?_); rintro e w' ⟨rfl, rfl⟩))
  refine (N2 _).mono ?_; rintro e w7 ⟨rfl, hX7⟩
  clear d0 d1 d2 d3 d4 d5 d6 d7 hM
  replace hN := hX7.at hN (by simp)
  replace hX := hX.trans hX7
  clear hX7 c0 c1 c2 c3 c4 c5 c6 c7
  have c0 := hN.cell 0; have c1 := hN.cell 1; have c2 := hN.cell 2; have c3 := hN.cell 3; have c4 := hN.cell 4; have c5 := hN.cell 5; have c6 := hN.cell 6; have c7 := hN.cell 7
  simp only [NV.cells, n0] at c0 c1 c2 c3 c4 c5 c6 c7
  go_wp2_with fail
  refine (N1 _).mono ?_; rintro e w8 ⟨rfl, hX8⟩
  replace hN := hX8.at hN (by simp)
  replace hX := hX.trans hX8
  clear hX8 c0 c1 c2 c3 c4 c5 c6 c7
  have c0 := hN.cell 0; have c1 := hN.cell 1; have c2 := hN.cell 2; have c3 := hN.cell 3; have c4 := hN.cell 4; have c5 := hN.cell 5; have c6 := hN.cell 6; have c7 := hN.cell 7
  simp only [NV.cells, n0] at c0 c1 c2 c3 c4 c5 c6 c7
  go_wp2_with fail
  refine (R0 _).mono ?_; rintro e w9 ⟨rfl, hX9⟩
  go_wp2_with fail
  refine (PN _).mono ?_; rintro e w10 ⟨rfl, hX10⟩
  go_wp2
  go_returns
  exact ⟨rfl, (hX.trans hX9).trans hX10⟩
end Go.Proofs.Ytilgjjkppioblaa
