/- Package apogeelaw09: 'awake'. -/
import Derived.Test.YtjneidmkllhbjaaLa9
namespace Go.Proofs.Ytjneidmkllhbjaa
open Go.RowKit

set_option maxRecDepth 100000 in
set_option maxHeartbeats 4000000 in
theorem awake09 (W : World) : Calls Try.prog 7 #[] W fun e w' => e = .returned (.bool true) ∧ Chg [] W w' := by
  go_enter Try.func7, Try.ntmps7
  go_wp2_with fail
  have HN := fl_new W 60 (by omega) (by omega)
  rw [show ((60 : Nat) : Int) = 60 from rfl] at HN
  refine HN.mono ?_; clear HN; rintro e w1 ⟨f, r, c, rfl, hf, hr, hc, hF, hX⟩
  replace hF : FlA w1 f r c k9s0 := hF
  have hfl := hF.at_.lt
  have hrl : r < w1.heap.size := hF.row.lt
  have hcl := hF.ctr.lt
  go_wp2_with fail
  have HO := lopen_ok w1 f r c _ hF rfl (by decide) 4 (by decide)
  rw [show ((4 : Nat) : Int) = 4 from rfl, show LtV.open 4 k9s0.B = k9l0 from rfl] at HO
  refine HO.mono ?_; clear HO; rintro e w2 ⟨b, rfl, hL, hX2, hb⟩
  have hA : LaA w2 b f r c k9s0 k9l0 := ⟨hF.keep hX2 (by simp) (by simp) (by simp), hL, by omega, by omega, by omega⟩
  replace hX : Chg [] W w2 := hX.trans hX2
  have hbW : W.heap.size ≤ b := by have := hX2.size; have := hX.size; omega
  clear hL hF hX2
  go_wp2_with fail
  refine (lopen_range w2 f r c _ hA.fl rfl (by decide) 13 (.inr (by decide))).mono ?_; rintro e w3 ⟨rfl, hX3⟩
  replace hA := hA.keep hX3 (by simp) (by simp) (by simp) (by simp)
  replace hX := hX.trans hX3
  clear hX3
  go_wp2_with fail
  refine (lopen_nil w3 0).mono ?_; rintro e w4 ⟨rfl, hX4⟩
  replace hA := hA.keep hX4 (by simp) (by simp) (by simp) (by simp)
  replace hX := hX.trans hX4
  clear hX4
  go_wp2_with fail
  have HL := llast_any w4 b f _ hA.lt
  rw [k9_l0.1, k9_l0.2.1, show RcV.zero.cells = #[.int .i64 0, .int .i64 0, .int .i64 0, .int .i64 0, .int .i64 0, .int .i64 0, .int .i64 0, .int .i64 0, .int .i64 0] from rfl] at HL
  refine HL.mono ?_; clear HL; rintro e w5 ⟨rfl, hX5⟩
  replace hA := hA.keep hX5 (by simp) (by simp) (by simp) (by simp)
  replace hX := hX.trans hX5
  clear hX5
  go_wp2_with (refine wpList_put rfl rfl rfl rfl (At.new _ _ _) rfl (by kernel_rfl) (by simp [Value.oneCell']) ?_; intro w6 hz6 hX6; refine Hid.out ?_)
  refine Lib.hid ?_
  have hbs := hA.lt.lt; have hfs := hA.fl.at_.lt; have hrs : r < w5.heap.size := hA.fl.row.lt; have hcs := hA.fl.ctr.lt
  replace hA := (hA.keep ((Chg.refl [] w5).alloc _) (by simp) (by simp) (by simp) (by simp)).keep hX6 (by simp; omega) (by simp; omega) (by simp; omega) (by simp; omega)
  replace hX := (hX.alloc _).then hX6 (fun x hx hl => by simp at hx; have := hX.size; omega)
  clear hX6 hz6 hbs hfs hrs hcs
  generalize w5.heap.size = z5 at *
  have HS := lsave_any w6 b f r c _ _ k9q1 hA (laOkB_spec k9_l0.2.2) (by decide)
  rw [k9_e1.1, show k9q1.cells = #[.int .i64 0, .int .i64 1, .int .i64 0, .int .i64 0, .int .i64 0, .int .i64 0, .int .i64 0, .int .i64 0, .int .i64 0] from rfl] at HS
  go_wp2_with fail
  refine HS.mono ?_; clear HS; rintro e w7 ⟨rfl, hA7, hX7⟩
  replace hA : LaA w7 b f r c k9s1 k9l1 := hA7
  replace hX := hX.then hX7 (by simp; omega)
  clear hX7 hA7
  have HS := lsave_any w7 b f r c _ _ k9q2 hA (laOkB_spec k9_e1.2.1) (by rw [k9_e1.2.2]; decide)
  rw [k9_e2.1, show k9q2.cells = #[.int .i64 0, .int .i64 2, .int .i64 0, .int .i64 1, .int .i64 0, .int .i64 0, .int .i64 0, .int .i64 0, .int .i64 0] from rfl] at HS
  go_wp2_with fail
  refine HS.mono ?_; clear HS; rintro e w8 ⟨rfl, hA8, hX8⟩
  replace hA : LaA w8 b f r c k9s2 k9l2 := hA8
  replace hX := hX.then hX8 (by simp; omega)
  clear hX8 hA8
  go_wp2_with fail
  refine (fl_tear w8 f r c _ hA.fl 10).mono ?_; rintro e w9 ⟨rfl, hF9, hX9⟩
  replace hA : LaA w9 b f r c k9s3 k9l2 := ⟨hF9, hX9.at hA.lt (by simp; exact hA.bf), hA.bf, hA.br, hA.bc⟩
  replace hX := hX.then hX9 (by simp; omega)
  clear hX9 hF9
  have HS := lsave_any w9 b f r c _ _ k9q3 hA (laOkB_spec k9_e2.2.1) (by rw [k9_e2.2.2]; decide)
  rw [k9_e3.1, k9_e3.2.2.2, show k9q3.cells = #[.int .i64 0, .int .i64 3, .int .i64 0, .int .i64 0, .int .i64 0, .int .i64 0, .int .i64 0, .int .i64 0, .int .i64 0] from rfl] at HS
  go_wp2_with fail
  refine HS.mono ?_; clear HS; rintro e w10 ⟨rfl, hA10, hX10⟩
  replace hA : LaA w10 b f r c k9s4 k9l2 := hA10
  replace hX := hX.then hX10 (by simp; omega)
  clear hX10 hA10
  go_wp2_with fail
  refine (lopen_down w10 f r c _ hA.fl k9_e3.2.1 4).mono ?_; rintro e w11 ⟨rfl, hX11⟩
  replace hA := hA.keep hX11 (by simp) (by simp) (by simp) (by simp)
  replace hX := hX.trans hX11
  clear hX11
  go_wp2_with fail
  refine (fl_up w11 f r c _ hA.fl).mono ?_; rintro e w12 ⟨rfl, hF12, hX12⟩
  replace hA : LaA w12 b f r c k9s5 k9l2 := ⟨hF12, hX12.at hA.lt (by simp; exact hA.bf), hA.bf, hA.br, hA.bc⟩
  replace hX := hX.then hX12 (by simp; omega)
  clear hX12 hF12
  have hz5 : k9s5.B.size = 60 := k9_e3.2.2.1
  have HO := lopen_ok w12 f r c _ hA.fl rfl (by rw [hz5]; omega) 4 (by rw [hz5]; omega)
  rw [show ((4 : Nat) : Int) = 4 from rfl, show LtV.open 4 k9s5.B = k9m from rfl] at HO
  go_wp2_with fail
  refine HO.mono ?_; clear HO; rintro e w13 ⟨m, rfl, hM, hX13, hm⟩
  replace hA := hA.keep hX13 (by simp) (by simp) (by simp) (by simp)
  replace hX := hX.trans hX13
  clear hX13
  have HL := llast_any w13 m f _ hM
  rw [k9_m.1, k9_m.2.1, show k9r.cells = #[.int .i64 2, .int .i64 2, .int .i64 0, .int .i64 1, .int .i64 0, .int .i64 0, .int .i64 0, .int .i64 0, .int .i64 0] from rfl] at HL
  go_wp2_with fail
  refine HL.mono ?_; clear HL; rintro e w14 ⟨rfl, hX14⟩
  replace hA := hA.keep hX14 (by simp) (by simp) (by simp) (by simp)
  replace hX := hX.trans hX14
  clear hX14 hM
  go_wp2_with (refine wpList_put rfl rfl rfl rfl (At.new _ _ _) rfl (by kernel_rfl) (by simp [Value.oneCell']) ?_; intro w15 hz15 hX15; refine Hid.out ?_)
  refine Lib.hid ?_
  have hbs := hA.lt.lt; have hfs := hA.fl.at_.lt; have hrs : r < w14.heap.size := hA.fl.row.lt; have hcs := hA.fl.ctr.lt
  replace hA := (hA.keep ((Chg.refl [] w14).alloc _) (by simp) (by simp) (by simp) (by simp)).keep hX15 (by simp; omega) (by simp; omega) (by simp; omega) (by simp; omega)
  replace hX := (hX.alloc _).then hX15 (fun x hx hl => by simp at hx; have := hX.size; omega)
  have hl14 : b < w14.heap.size ∧ f < w14.heap.size ∧ r < w14.heap.size ∧ c < w14.heap.size := ⟨hbs, hfs, hrs, hcs⟩
  clear hX15 hbs hfs hrs hcs
  generalize w14.heap.size = z14 at *
  have t0 : w15.cell? ⟨z14, 0, none⟩ = some (.int .i64 2) := hz15.cell 0
  have t1 : w15.cell? ⟨z14, 1, none⟩ = some (.int .i64 2) := hz15.cell 1
  have t2 : w15.cell? ⟨z14, 2, none⟩ = some (.int .i64 0) := hz15.cell 2
  have t3 : w15.cell? ⟨z14, 3, none⟩ = some (.int .i64 1) := hz15.cell 3
  have t4 : w15.cell? ⟨z14, 4, none⟩ = some (.int .i64 0) := hz15.cell 4
  have t5 : w15.cell? ⟨z14, 5, none⟩ = some (.int .i64 0) := hz15.cell 5
  have t6 : w15.cell? ⟨z14, 6, none⟩ = some (.int .i64 0) := hz15.cell 6
  have t7 : w15.cell? ⟨z14, 7, none⟩ = some (.int .i64 0) := hz15.cell 7
  have t8 : w15.cell? ⟨z14, 8, none⟩ = some (.int .i64 0) := hz15.cell 8
  go_wp2_with fail
  have HP : Calls Try.prog 8 #[.agg #[.int .i64 2, .int .i64 2, .int .i64 0, .int .i64 1, .int .i64 0, .int .i64 0, .int .i64 0, .int .i64 0, .int .i64 0]] w15 fun e w' => e = .returned (.string k9r.print) ∧ Chg [] w15 w' := lprint_any w15 k9r
  have hprt : k9r.print = strOfNums k9r.all := rfl
  have hisr := isRec_print (r := k9r) k9_e4.2
  have hz24 : (strOfNums k9r.all).size = 24 := by rw [strOfNums_size, RcV.all_len]
  rw [hprt] at HP
  have HR := fun w => lread_any w (strOfNums k9r.all) (by omega)
  rw [show lread (strOfNums k9r.all) = k9r by rw [lread, hisr.1]; exact hisr.2, hisr.1, show k9r.cells = #[.int .i64 2, .int .i64 2, .int .i64 0, .int .i64 1, .int .i64 0, .int .i64 0, .int .i64 0, .int .i64 0, .int .i64 0] from rfl] at HR
  clear hprt hisr
  generalize strOfNums k9r.all = txt at *
  refine HP.mono ?_; clear HP; rintro e w16 ⟨rfl, hX16⟩
  clear t0 t1 t2 t3 t4 t5 t6 t7 t8
  replace hA := hA.keep hX16 (by simp) (by simp) (by simp) (by simp)
  replace hz15 := hX16.at hz15 (by simp)
  replace hX := hX.trans hX16
  clear hX16
  go_wp2_with fail
  refine (HR _).mono ?_; clear HR; rintro e w17 ⟨rfl, hX17⟩
  replace hA := hA.keep hX17 (by simp) (by simp) (by simp) (by simp)
  replace hz15 := hX17.at hz15 (by simp)
  replace hX := hX.trans hX17
  clear hX17
  go_wp2_with (refine wpList_put rfl rfl rfl rfl (At.new _ _ _) rfl (by kernel_rfl) (by simp [Value.oneCell']) ?_; intro w18 hz18 hX18; refine Hid.out ?_)
  refine Lib.hid ?_
  have hbs := hA.lt.lt; have hfs := hA.fl.at_.lt; have hrs : r < w17.heap.size := hA.fl.row.lt; have hcs := hA.fl.ctr.lt; have h15s := hz15.lt
  replace hA := (hA.keep ((Chg.refl [] w17).alloc _) (by simp) (by simp) (by simp) (by simp)).keep hX18 (by simp; omega) (by simp; omega) (by simp; omega) (by simp; omega)
  replace hz15 := hX18.at (hz15.alloc _) (by simp; omega)
  replace hX := (hX.alloc _).then hX18 (fun x hx hl => by simp at hx; have := hX.size; omega)
  clear hX18 hbs hfs hrs hcs h15s
  generalize w17.heap.size = z17 at *
  have t0 : w18.cell? ⟨z14, 0, none⟩ = some (.int .i64 2) := hz15.cell 0
  have t1 : w18.cell? ⟨z14, 1, none⟩ = some (.int .i64 2) := hz15.cell 1
  have t2 : w18.cell? ⟨z14, 2, none⟩ = some (.int .i64 0) := hz15.cell 2
  have t3 : w18.cell? ⟨z14, 3, none⟩ = some (.int .i64 1) := hz15.cell 3
  have t4 : w18.cell? ⟨z14, 4, none⟩ = some (.int .i64 0) := hz15.cell 4
  have t5 : w18.cell? ⟨z14, 5, none⟩ = some (.int .i64 0) := hz15.cell 5
  have t6 : w18.cell? ⟨z14, 6, none⟩ = some (.int .i64 0) := hz15.cell 6
  have t7 : w18.cell? ⟨z14, 7, none⟩ = some (.int .i64 0) := hz15.cell 7
  have t8 : w18.cell? ⟨z14, 8, none⟩ = some (.int .i64 0) := hz15.cell 8
  have u0 : w18.cell? ⟨z17, 0, none⟩ = some (.int .i64 2) := hz18.cell 0
  have u1 : w18.cell? ⟨z17, 1, none⟩ = some (.int .i64 2) := hz18.cell 1
  have u2 : w18.cell? ⟨z17, 2, none⟩ = some (.int .i64 0) := hz18.cell 2
  have u3 : w18.cell? ⟨z17, 3, none⟩ = some (.int .i64 1) := hz18.cell 3
  have u4 : w18.cell? ⟨z17, 4, none⟩ = some (.int .i64 0) := hz18.cell 4
  have u5 : w18.cell? ⟨z17, 5, none⟩ = some (.int .i64 0) := hz18.cell 5
  have u6 : w18.cell? ⟨z17, 6, none⟩ = some (.int .i64 0) := hz18.cell 6
  have u7 : w18.cell? ⟨z17, 7, none⟩ = some (.int .i64 0) := hz18.cell 7
  have u8 : w18.cell? ⟨z17, 8, none⟩ = some (.int .i64 0) := hz18.cell 8
  go_wp2_with fail
  have HS := lsave_any w18 b f r c _ _ k9q4 hA (laOkB_spec k9_m.2.2.1) (by rw [k9_m.2.2.2]; decide)
  rw [k9_e4.1, show k9q4.cells = #[.int .i64 0, .int .i64 (-1), .int .i64 0, .int .i64 0, .int .i64 0, .int .i64 0, .int .i64 0, .int .i64 0, .int .i64 0] from rfl] at HS
  refine HS.mono ?_; clear HS; rintro e w19 ⟨rfl, hA19, hX19⟩
  clear t0 t1 t2 t3 t4 t5 t6 t7 t8 u0 u1 u2 u3 u4 u5 u6 u7 u8
  have h14 : z14 ∉ [b, f, r, c] := by simp; omega
  replace hz15 := hX19.at hz15 h14
  replace hX := hX.then hX19 (by simp; omega)
  have t0 : w19.cell? ⟨z14, 0, none⟩ = some (.int .i64 2) := hz15.cell 0
  have t1 : w19.cell? ⟨z14, 1, none⟩ = some (.int .i64 2) := hz15.cell 1
  have t2 : w19.cell? ⟨z14, 2, none⟩ = some (.int .i64 0) := hz15.cell 2
  have t3 : w19.cell? ⟨z14, 3, none⟩ = some (.int .i64 1) := hz15.cell 3
  have t4 : w19.cell? ⟨z14, 4, none⟩ = some (.int .i64 0) := hz15.cell 4
  have t5 : w19.cell? ⟨z14, 5, none⟩ = some (.int .i64 0) := hz15.cell 5
  have t6 : w19.cell? ⟨z14, 6, none⟩ = some (.int .i64 0) := hz15.cell 6
  have t7 : w19.cell? ⟨z14, 7, none⟩ = some (.int .i64 0) := hz15.cell 7
  have t8 : w19.cell? ⟨z14, 8, none⟩ = some (.int .i64 0) := hz15.cell 8
  go_wp2_with fail
  have HG : Calls Try.prog 13 #[.agg #[.int .i64 2, .int .i64 2, .int .i64 0, .int .i64 1, .int .i64 0, .int .i64 0, .int .i64 0, .int .i64 0, .int .i64 0]] w19 fun e w' => e = .returned (.bool k9r.right) ∧ Chg [] w19 w' := lright_any w19 k9r
  rw [k9_e4.2] at HG
  refine HG.mono ?_; rintro e w20 ⟨rfl, hX20⟩
  go_wp2
  go_returns
  exact ⟨rfl, hX.trans hX20⟩
end Go.Proofs.Ytjneidmkllhbjaa
