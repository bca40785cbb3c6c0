/- A nav that came in as an argument; and the walk of the law NavPrints. -/
import Derived.Test.YtilgjjkppioblaaN06
import Derived.Test.YtilgjjkppioblaaSh
import Derived.Laws.Closers25
namespace Go.Proofs.Ytilgjjkppioblaa
open Go.RowKit

abbrev shNV : Sh := .prod (.int .i64) (.prod (.int .i64) (.prod (.int .i64) (.prod (.int .i64) (.prod (.int .i64) (.prod (.int .i64) (.prod (.int .i64) (.prod (.int .i64) .unit)))))))
def toNV (x : shNV.T) : NV := ⟨x.1, x.2.1, x.2.2.1, x.2.2.2.1, x.2.2.2.2.1, x.2.2.2.2.2.1, x.2.2.2.2.2.2.1, x.2.2.2.2.2.2.2.1⟩
theorem nv_of {W : World} {x : shNV.T} {c : Array Value} (h : shNV.rep W x c.toList) : c = (toNV x).cells ∧ (toNV x).bd := by
  obtain ⟨a1, b1, e1, _, ⟨rfl, h1⟩, a2, b2, rfl, _, ⟨rfl, h2⟩, a3, b3, rfl, _, ⟨rfl, h3⟩, a4, b4, rfl, _, ⟨rfl, h4⟩, a5, b5, rfl, _, ⟨rfl, h5⟩, a6, b6, rfl, _, ⟨rfl, h6⟩, a7, b7, rfl, _, ⟨rfl, h7⟩, a8, b8, rfl, _, ⟨rfl, h8⟩, rfl⟩ := h
  refine ⟨?_, ⟨bounds_i64 h1, bounds_i64 h2, bounds_i64 h3, bounds_i64 h4, bounds_i64 h5, bounds_i64 h6, bounds_i64 h7, bounds_i64 h8⟩⟩
  apply Array.toList_inj.1
  rw [e1]
  rfl

set_option maxRecDepth 100000 in
set_option maxHeartbeats 2000000 in
theorem NavPrints_walk (W : World) (c : Array Value) (x : shNV.T) (h : shNV.rep W x c.toList) :
    Calls Try.prog 3 #[.agg c] W fun e w' => e = .returned (.bool true) ∧ Below W.heap.size W w' := by
  obtain ⟨rfl, hb⟩ := nv_of h
  clear h
  generalize toNV x = n at *
  have HU : n.cells = #[.int .i64 n.cnt, .int .i64 n.flg, .int .i64 n.x, .int .i64 n.y, .int .i64 n.z, .int .i64 n.vx, .int .i64 n.vy, .int .i64 n.vz] := rfl
  have HP := fun w => print_any w n
  have HQ := fun w => rprint_any w n
  have HR := fun w => right_any w n
  have HS := fun w => rright_any w n
  by_cases hr : n.right = true
  · obtain ⟨hsz, hrd⟩ := rd_print n hr
    have HD := fun w => read_any w n.print hsz
    rw [hrd] at HD
    rw [hr] at HR HS
    have he : n.print.toList.isEmpty = false := by
      rw [← decide_eq_emptyBytes]
      simp
      intro e
      rw [e] at hsz
      cases hsz
    clear hrd hr
    generalize n.print = p at *
    rw [HU] at HP HQ HR HS HD ⊢
    clear HU
    have hI := At.new W n.cells 23
    have hX : Chg [] W (W.alloc (.cells n.cells 23)) := (Chg.refl _ _).alloc _
    go_enter Try.func3, Try.ntmps3
    go_wp2_with fail
    refine (HP _).mono ?_; rintro e w1 ⟨rfl, hX1⟩
    replace hI := hX1.at hI (by simp)
    replace hX := hX.trans hX1
    clear hX1
    go_wp2_with fail
    refine (HD _).mono ?_; rintro e w2 ⟨rfl, hX2⟩
    have hM := At.new w2 n.cells 23
    replace hI := (hX2.at hI (by simp)).alloc (.cells n.cells 23)
    replace hX := (hX.trans hX2).alloc (.cells n.cells 23)
    clear hX2
    have c0 := hI.cell 0; have c1 := hI.cell 1; have c2 := hI.cell 2; have c3 := hI.cell 3; have c4 := hI.cell 4; have c5 := hI.cell 5; have c6 := hI.cell 6; have c7 := hI.cell 7
    simp only [NV.cells] at c0 c1 c2 c3 c4 c5 c6 c7
    go_wp2_with fail
    refine (HS _).mono ?_; rintro e w3 ⟨rfl, hX3⟩
    replace hI := hX3.at hI (by simp)
    replace hM := hX3.at hM (by simp)
    replace hX := hX.trans hX3
    clear hX3
    clear c0 c1 c2 c3 c4 c5 c6 c7
    have c0 := hI.cell 0; have c1 := hI.cell 1; have c2 := hI.cell 2; have c3 := hI.cell 3; have c4 := hI.cell 4; have c5 := hI.cell 5; have c6 := hI.cell 6; have c7 := hI.cell 7
    have d0 := hM.cell 0; have d1 := hM.cell 1; have d2 := hM.cell 2; have d3 := hM.cell 3; have d4 := hM.cell 4; have d5 := hM.cell 5; have d6 := hM.cell 6; have d7 := hM.cell 7
    simp only [NV.cells] at c0 c1 c2 c3 c4 c5 c6 c7 d0 d1 d2 d3 d4 d5 d6 d7
    go_wp2_with fail
    clear d0 d1 d2 d3 d4 d5 d6 d7
    refine (awake06 _).mono ?_; rintro e w4 ⟨rfl, hX4⟩
    replace hI := hX4.at hI (by simp)
    replace hM := hX4.at hM (by simp)
    replace hX := hX.trans hX4
    clear hX4
    clear c0 c1 c2 c3 c4 c5 c6 c7
    have c0 := hI.cell 0; have c1 := hI.cell 1; have c2 := hI.cell 2; have c3 := hI.cell 3; have c4 := hI.cell 4; have c5 := hI.cell 5; have c6 := hI.cell 6; have c7 := hI.cell 7
    have d0 := hM.cell 0; have d1 := hM.cell 1; have d2 := hM.cell 2; have d3 := hM.cell 3; have d4 := hM.cell 4; have d5 := hM.cell 5; have d6 := hM.cell 6; have d7 := hM.cell 7
    simp only [NV.cells] at c0 c1 c2 c3 c4 c5 c6 c7 d0 d1 d2 d3 d4 d5 d6 d7
    go_wp2_with fail
    clear d0 d1 d2 d3 d4 d5 d6 d7
    refine (HQ _).mono ?_; rintro e w5 ⟨rfl, hX5⟩
    replace hI := hX5.at hI (by simp)
    replace hM := hX5.at hM (by simp)
    replace hX := hX.trans hX5
    clear hX5
    clear c0 c1 c2 c3 c4 c5 c6 c7
    have c0 := hI.cell 0; have c1 := hI.cell 1; have c2 := hI.cell 2; have c3 := hI.cell 3; have c4 := hI.cell 4; have c5 := hI.cell 5; have c6 := hI.cell 6; have c7 := hI.cell 7
    have d0 := hM.cell 0; have d1 := hM.cell 1; have d2 := hM.cell 2; have d3 := hM.cell 3; have d4 := hM.cell 4; have d5 := hM.cell 5; have d6 := hM.cell 6; have d7 := hM.cell 7
    simp only [NV.cells] at c0 c1 c2 c3 c4 c5 c6 c7 d0 d1 d2 d3 d4 d5 d6 d7
    go_wp2_with fail
    clear d0 d1 d2 d3 d4 d5 d6 d7
    refine (HR _).mono ?_; rintro e w6 ⟨rfl, hX6⟩
    replace hI := hX6.at hI (by simp)
    replace hM := hX6.at hM (by simp)
    replace hX := hX.trans hX6
    clear hX6
    clear c0 c1 c2 c3 c4 c5 c6 c7
    have c0 := hI.cell 0; have c1 := hI.cell 1; have c2 := hI.cell 2; have c3 := hI.cell 3; have c4 := hI.cell 4; have c5 := hI.cell 5; have c6 := hI.cell 6; have c7 := hI.cell 7
    have d0 := hM.cell 0; have d1 := hM.cell 1; have d2 := hM.cell 2; have d3 := hM.cell 3; have d4 := hM.cell 4; have d5 := hM.cell 5; have d6 := hM.cell 6; have d7 := hM.cell 7
    simp only [NV.cells] at c0 c1 c2 c3 c4 c5 c6 c7 d0 d1 d2 d3 d4 d5 d6 d7
    go_wp2_with fail
    go_ret
    exact ⟨rfl, Chg.to_below hX⟩
  · have hf : n.right = false := by simpa using hr
    have hp : n.print = ByteArray.empty := by unfold NV.print; rw [hf]; rfl
    have HD := fun w => read_short w ByteArray.empty (by decide)
    rw [hf] at HR HS
    rw [hp] at HP HQ
    clear hf hp hr
    rw [none_lit] at HD
    rw [HU] at HP HQ HR HS ⊢
    clear HU
    have hI := At.new W n.cells 23
    have hX : Chg [] W (W.alloc (.cells n.cells 23)) := (Chg.refl _ _).alloc _
    go_enter Try.func3, Try.ntmps3
    go_wp2_with fail
    refine (HP _).mono ?_; rintro e w1 ⟨rfl, hX1⟩
    replace hI := hX1.at hI (by simp)
    replace hX := hX.trans hX1
    clear hX1
    go_wp2_with fail
    refine (HD _).mono ?_; rintro e w2 ⟨rfl, hX2⟩
    replace hI := (hX2.at hI (by simp)).alloc (.cells NV.none.cells 23)
    replace hX := (hX.trans hX2).alloc (.cells NV.none.cells 23)
    clear hX2
    have c0 := hI.cell 0; have c1 := hI.cell 1; have c2 := hI.cell 2; have c3 := hI.cell 3; have c4 := hI.cell 4; have c5 := hI.cell 5; have c6 := hI.cell 6; have c7 := hI.cell 7
    simp only [NV.cells, NV.none] at c0 c1 c2 c3 c4 c5 c6 c7
    go_wp2_with fail
    refine (HS _).mono ?_; rintro e w3 ⟨rfl, hX3⟩
    replace hI := hX3.at hI (by simp)
    replace hX := hX.trans hX3
    clear hX3
    clear c0 c1 c2 c3 c4 c5 c6 c7
    have c0 := hI.cell 0; have c1 := hI.cell 1; have c2 := hI.cell 2; have c3 := hI.cell 3; have c4 := hI.cell 4; have c5 := hI.cell 5; have c6 := hI.cell 6; have c7 := hI.cell 7
    simp only [NV.cells] at c0 c1 c2 c3 c4 c5 c6 c7
    go_wp2_with fail
    refine (awake06 _).mono ?_; rintro e w4 ⟨rfl, hX4⟩
    replace hI := hX4.at hI (by simp)
    replace hX := hX.trans hX4
    clear hX4
    clear c0 c1 c2 c3 c4 c5 c6 c7
    have c0 := hI.cell 0; have c1 := hI.cell 1; have c2 := hI.cell 2; have c3 := hI.cell 3; have c4 := hI.cell 4; have c5 := hI.cell 5; have c6 := hI.cell 6; have c7 := hI.cell 7
    simp only [NV.cells] at c0 c1 c2 c3 c4 c5 c6 c7
    go_wp2_with fail
    refine (HQ _).mono ?_; rintro e w5 ⟨rfl, hX5⟩
    replace hI := hX5.at hI (by simp)
    replace hX := hX.trans hX5
    clear hX5
    clear c0 c1 c2 c3 c4 c5 c6 c7
    have c0 := hI.cell 0; have c1 := hI.cell 1; have c2 := hI.cell 2; have c3 := hI.cell 3; have c4 := hI.cell 4; have c5 := hI.cell 5; have c6 := hI.cell 6; have c7 := hI.cell 7
    simp only [NV.cells] at c0 c1 c2 c3 c4 c5 c6 c7
    go_wp2_with fail
    refine (HR _).mono ?_; rintro e w6 ⟨rfl, hX6⟩
    replace hI := hX6.at hI (by simp)
    replace hX := hX.trans hX6
    clear hX6
    clear c0 c1 c2 c3 c4 c5 c6 c7
    have c0 := hI.cell 0; have c1 := hI.cell 1; have c2 := hI.cell 2; have c3 := hI.cell 3; have c4 := hI.cell 4; have c5 := hI.cell 5; have c6 := hI.cell 6; have c7 := hI.cell 7
    simp only [NV.cells] at c0 c1 c2 c3 c4 c5 c6 c7
    go_wp2_with fail
    go_ret
    exact ⟨rfl, Chg.to_below hX⟩
end Go.Proofs.Ytilgjjkppioblaa
