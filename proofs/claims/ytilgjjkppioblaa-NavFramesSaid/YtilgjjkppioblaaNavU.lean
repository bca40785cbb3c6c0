/- Package apogeeref06: Read. -/
import Derived.Test.YtilgjjkppioblaaNavS
import Derived.Test.YtilgjjkppioblaaInts
import Derived.Deep.DeepCutAuto
import Derived.Deep.CutBlock
import Derived.StillTailTactics
namespace Go.Proofs.Ytilgjjkppioblaa
open Go.RowKit

theorem rread_short (w : World) (s : ByteArray) (h : s.size < 27) : Calls Try.prog 14 #[.string s] w fun e w' => e = .returned (.tuple #[.agg NV.none.cells, .int .i64 5]) ∧ Chg [] w w' := by
  go_enter Try.func14, Try.ntmps14
  go_wp2
  exact bodyPost_ret (v := .tuple #[.agg NV.none.cells, .int .i64 5]) (by simp [results, Try.results14, go_sem, NV.none, NV.cells]) rfl ⟨rfl, (Chg.refl _ _).alloc _⟩
theorem rread_long (w : World) (s : ByteArray) (h : 27 < s.size) : Calls Try.prog 14 #[.string s] w fun e w' => e = .returned (.tuple #[.agg NV.none.cells, .int .i64 3]) ∧ Chg [] w w' := by
  go_enter Try.func14, Try.ntmps14
  go_wp2
  exact bodyPost_ret (v := .tuple #[.agg NV.none.cells, .int .i64 3]) (by simp [results, Try.results14, go_sem, NV.none, NV.cells]) rfl ⟨rfl, (Chg.refl _ _).alloc _⟩

def raw (a b c d : Int) : Int := a * 16777216 + b * 65536 + c * 256 + d
theorem raw_eq (a b c d : Int) (ha : 0 ≤ a ∧ a ≤ 255) (hb : 0 ≤ b ∧ b ≤ 255) (hc : 0 ≤ c ∧ c ≤ 255) (hd : 0 ≤ d ∧ d ≤ 255) :
    wrap64 (wrap64 (wrap64 (wrap64 (wrap64 a * 16777216) + wrap64 (wrap64 b * 65536)) + wrap64 (wrap64 c * 256)) + wrap64 d) = raw a b c d := by
  unfold raw wrap64
  omega
theorem raw_bd {a b c d : Int} (ha : 0 ≤ a ∧ a ≤ 255) (hb : 0 ≤ b ∧ b ≤ 255) (hc : 0 ≤ c ∧ c ≤ 255) (hd : 0 ≤ d ∧ d ≤ 255) : 0 ≤ raw a b c d ∧ raw a b c d ≤ 4294967295 := by
  unfold raw
  omega
theorem i64_in (x : Int) (h0 : -9223372036854775808 ≤ x) (h1 : x ≤ 9223372036854775807) : IntKind.i64.wrap x = x := by
  simp [IntKind.wrap, IntKind.bits, IntKind.signed]
  omega
theorem head_eq (a b : Int) (ha : 0 ≤ a ∧ a ≤ 255) (hb : 0 ≤ b ∧ b ≤ 255) : IntKind.i64.wrap (IntKind.i64.wrap (IntKind.i64.wrap a * 256) + IntKind.i64.wrap b) = a * 256 + b := by
  rw [i64_in a (by omega) (by omega), i64_in b (by omega) (by omega), i64_in (a * 256) (by omega) (by omega), i64_in _ (by omega) (by omega)]
theorem wd_raw (a b c d : Int) : wd a b c d = if 2147483648 ≤ raw a b c d then raw a b c d - 4294967296 else raw a b c d := rfl

set_option maxRecDepth 100000 in
set_option maxHeartbeats 2000000 in
theorem rread_any (w : World) (s : ByteArray) (h : s.size = 27) : Calls Try.prog 14 #[.string s] w fun e w' => e = .returned (.tuple #[.agg (rd s).cells, .int .i64 0]) ∧ Chg [] w w' := by
  have hI := At.new w NV.none.cells 23
  have hX : Chg [] w (w.alloc (.cells NV.none.cells 23)) := (Chg.refl _ _).alloc _
  have hL := IRow.nil (w.alloc (.cells NV.none.cells 23)) (w.heap.size + 1)
  go_enter Try.func14, Try.ntmps14
  go_wp2_with fail
  change Code.wp _ _ _ _ (w.alloc (.cells NV.none.cells 23))
  generalize w.alloc (.cells NV.none.cells 23) = w1 at *
  have hzw : w.heap.size ≤ w.heap.size := Nat.le_refl _
  generalize hz : w.heap.size = z at hI hL hzw ⊢
  generalize hv : Value.slice none 0 0 = v at *
  clear hv
  refine wp_loop_rounds 7 ?_
  rw [rounds_succ]
  go_wp2_with fail
  go_quiet (fail)
  rw [by_get s 3 (by omega), by_get s 4 (by omega), by_get s 5 (by omega), by_get s 6 (by omega), raw_eq (by_ s 3) (by_ s 4) (by_ s 5) (by_ s 6) (by_bd s 3) (by_bd s 4) (by_bd s 5) (by_bd s 6)]
  have rb := raw_bd (by_bd s 3) (by_bd s 4) (by_bd s 5) (by_bd s 6)
  have rw' := Lib.hid (wd_raw (by_ s 3) (by_ s 4) (by_ s 5) (by_ s 6))
  generalize raw (by_ s 3) (by_ s 4) (by_ s 5) (by_ s 6) = r at *
  replace hI := hI.drewN nq
  replace hX := hX.drewN nq
  replace hL := hL.drewN nq
  generalize World.drewN _ nq = wa at *
  go_upto_if 45 with fail
  go_cut [6] (fun v w => v = .int .i64 (wd (by_ s 3) (by_ s 4) (by_ s 5) (by_ s 6)) ∧ w = wa)
  case first =>
    by_cases hr : 2147483648 ≤ r
    · go_wp2_with fail
      go_meet
      exact ⟨by rw [rw'.out, if_pos (by omega)], rfl⟩
    · go_wp2_with fail
      go_meet
      exact ⟨by rw [rw'.out, if_neg (by omega)], rfl⟩
  obtain ⟨rfl, rfl⟩ := hcut
  clear rb rw'
  have hsz := hI.lt
  go_wp2_with (at_builtin; refine wpList_appI rfl (.tmp 48) (.tmp 50) rfl rfl (hL.alloc _) rfl (At.new _ _ _) (M := [wd (by_ s 3) (by_ s 4) (by_ s 5) (by_ s 6)]) rfl rfl (by simp) (by simp; omega) ?_; intro v' w' h1 h2; have hX1 := IRow.grown (hL.alloc _) (hX.alloc _) h2 (by omega); have hI1 := IRow.far (hL.alloc _) h2 (hI.alloc _) (by omega))
  clear h2 hL hX hI hsz r
  have hL := h1
  have hX := hX1
  have hI := hI1
  clear h1 hX1 hI1
  rw [rounds_succ]
  go_wp2_with fail
  go_quiet (fail)
  rw [by_get s 7 (by omega), by_get s 8 (by omega), by_get s 9 (by omega), by_get s 10 (by omega), raw_eq (by_ s 7) (by_ s 8) (by_ s 9) (by_ s 10) (by_bd s 7) (by_bd s 8) (by_bd s 9) (by_bd s 10)]
  have rb := raw_bd (by_bd s 7) (by_bd s 8) (by_bd s 9) (by_bd s 10)
  have rw' := Lib.hid (wd_raw (by_ s 7) (by_ s 8) (by_ s 9) (by_ s 10))
  generalize raw (by_ s 7) (by_ s 8) (by_ s 9) (by_ s 10) = r at *
  replace hI := hI.drewN nq
  replace hX := hX.drewN nq
  replace hL := hL.drewN nq
  generalize World.drewN _ nq = wa at *
  go_upto_if 45 with fail
  go_cut [6] (fun v w => v = .int .i64 (wd (by_ s 7) (by_ s 8) (by_ s 9) (by_ s 10)) ∧ w = wa)
  case first =>
    by_cases hr : 2147483648 ≤ r
    · go_wp2_with fail
      go_meet
      exact ⟨by rw [rw'.out, if_pos (by omega)], rfl⟩
    · go_wp2_with fail
      go_meet
      exact ⟨by rw [rw'.out, if_neg (by omega)], rfl⟩
  obtain ⟨rfl, rfl⟩ := hcut
  clear rb rw'
  have hsz := hI.lt
  go_wp2_with (at_builtin; refine wpList_appI rfl (.tmp 48) (.tmp 50) rfl rfl (hL.alloc _) rfl (At.new _ _ _) (M := [wd (by_ s 7) (by_ s 8) (by_ s 9) (by_ s 10)]) rfl rfl (by simp) (by simp; omega) ?_; intro v' w' h1 h2; have hX1 := IRow.grown (hL.alloc _) (hX.alloc _) h2 (by omega); have hI1 := IRow.far (hL.alloc _) h2 (hI.alloc _) (by omega))
  clear h2 hL hX hI hsz r
  have hL := h1
  have hX := hX1
  have hI := hI1
  clear h1 hX1 hI1
  rw [rounds_succ]
  go_wp2_with fail
  go_quiet (fail)
  rw [by_get s 11 (by omega), by_get s 12 (by omega), by_get s 13 (by omega), by_get s 14 (by omega), raw_eq (by_ s 11) (by_ s 12) (by_ s 13) (by_ s 14) (by_bd s 11) (by_bd s 12) (by_bd s 13) (by_bd s 14)]
  have rb := raw_bd (by_bd s 11) (by_bd s 12) (by_bd s 13) (by_bd s 14)
  have rw' := Lib.hid (wd_raw (by_ s 11) (by_ s 12) (by_ s 13) (by_ s 14))
  generalize raw (by_ s 11) (by_ s 12) (by_ s 13) (by_ s 14) = r at *
  replace hI := hI.drewN nq
  replace hX := hX.drewN nq
  replace hL := hL.drewN nq
  generalize World.drewN _ nq = wa at *
  go_upto_if 45 with fail
  go_cut [6] (fun v w => v = .int .i64 (wd (by_ s 11) (by_ s 12) (by_ s 13) (by_ s 14)) ∧ w = wa)
  case first =>
    by_cases hr : 2147483648 ≤ r
    · go_wp2_with fail
      go_meet
      exact ⟨by rw [rw'.out, if_pos (by omega)], rfl⟩
    · go_wp2_with fail
      go_meet
      exact ⟨by rw [rw'.out, if_neg (by omega)], rfl⟩
  obtain ⟨rfl, rfl⟩ := hcut
  clear rb rw'
  have hsz := hI.lt
  go_wp2_with (at_builtin; refine wpList_appI rfl (.tmp 48) (.tmp 50) rfl rfl (hL.alloc _) rfl (At.new _ _ _) (M := [wd (by_ s 11) (by_ s 12) (by_ s 13) (by_ s 14)]) rfl rfl (by simp) (by simp; omega) ?_; intro v' w' h1 h2; have hX1 := IRow.grown (hL.alloc _) (hX.alloc _) h2 (by omega); have hI1 := IRow.far (hL.alloc _) h2 (hI.alloc _) (by omega))
  clear h2 hL hX hI hsz r
  have hL := h1
  have hX := hX1
  have hI := hI1
  clear h1 hX1 hI1
  rw [rounds_succ]
  go_wp2_with fail
  go_quiet (fail)
  rw [by_get s 15 (by omega), by_get s 16 (by omega), by_get s 17 (by omega), by_get s 18 (by omega), raw_eq (by_ s 15) (by_ s 16) (by_ s 17) (by_ s 18) (by_bd s 15) (by_bd s 16) (by_bd s 17) (by_bd s 18)]
  have rb := raw_bd (by_bd s 15) (by_bd s 16) (by_bd s 17) (by_bd s 18)
  have rw' := Lib.hid (wd_raw (by_ s 15) (by_ s 16) (by_ s 17) (by_ s 18))
  generalize raw (by_ s 15) (by_ s 16) (by_ s 17) (by_ s 18) = r at *
  replace hI := hI.drewN nq
  replace hX := hX.drewN nq
  replace hL := hL.drewN nq
  generalize World.drewN _ nq = wa at *
  go_upto_if 45 with fail
  go_cut [6] (fun v w => v = .int .i64 (wd (by_ s 15) (by_ s 16) (by_ s 17) (by_ s 18)) ∧ w = wa)
  case first =>
    by_cases hr : 2147483648 ≤ r
    · go_wp2_with fail
      go_meet
      exact ⟨by rw [rw'.out, if_pos (by omega)], rfl⟩
    · go_wp2_with fail
      go_meet
      exact ⟨by rw [rw'.out, if_neg (by omega)], rfl⟩
  obtain ⟨rfl, rfl⟩ := hcut
  clear rb rw'
  have hsz := hI.lt
  go_wp2_with (at_builtin; refine wpList_appI rfl (.tmp 48) (.tmp 50) rfl rfl (hL.alloc _) rfl (At.new _ _ _) (M := [wd (by_ s 15) (by_ s 16) (by_ s 17) (by_ s 18)]) rfl rfl (by simp) (by simp; omega) ?_; intro v' w' h1 h2; have hX1 := IRow.grown (hL.alloc _) (hX.alloc _) h2 (by omega); have hI1 := IRow.far (hL.alloc _) h2 (hI.alloc _) (by omega))
  clear h2 hL hX hI hsz r
  have hL := h1
  have hX := hX1
  have hI := hI1
  clear h1 hX1 hI1
  rw [rounds_succ]
  go_wp2_with fail
  go_quiet (fail)
  rw [by_get s 19 (by omega), by_get s 20 (by omega), by_get s 21 (by omega), by_get s 22 (by omega), raw_eq (by_ s 19) (by_ s 20) (by_ s 21) (by_ s 22) (by_bd s 19) (by_bd s 20) (by_bd s 21) (by_bd s 22)]
  have rb := raw_bd (by_bd s 19) (by_bd s 20) (by_bd s 21) (by_bd s 22)
  have rw' := Lib.hid (wd_raw (by_ s 19) (by_ s 20) (by_ s 21) (by_ s 22))
  generalize raw (by_ s 19) (by_ s 20) (by_ s 21) (by_ s 22) = r at *
  replace hI := hI.drewN nq
  replace hX := hX.drewN nq
  replace hL := hL.drewN nq
  generalize World.drewN _ nq = wa at *
  go_upto_if 45 with fail
  go_cut [6] (fun v w => v = .int .i64 (wd (by_ s 19) (by_ s 20) (by_ s 21) (by_ s 22)) ∧ w = wa)
  case first =>
    by_cases hr : 2147483648 ≤ r
    · go_wp2_with fail
      go_meet
      exact ⟨by rw [rw'.out, if_pos (by omega)], rfl⟩
    · go_wp2_with fail
      go_meet
      exact ⟨by rw [rw'.out, if_neg (by omega)], rfl⟩
  obtain ⟨rfl, rfl⟩ := hcut
  clear rb rw'
  have hsz := hI.lt
  go_wp2_with (at_builtin; refine wpList_appI rfl (.tmp 48) (.tmp 50) rfl rfl (hL.alloc _) rfl (At.new _ _ _) (M := [wd (by_ s 19) (by_ s 20) (by_ s 21) (by_ s 22)]) rfl rfl (by simp) (by simp; omega) ?_; intro v' w' h1 h2; have hX1 := IRow.grown (hL.alloc _) (hX.alloc _) h2 (by omega); have hI1 := IRow.far (hL.alloc _) h2 (hI.alloc _) (by omega))
  clear h2 hL hX hI hsz r
  have hL := h1
  have hX := hX1
  have hI := hI1
  clear h1 hX1 hI1
  rw [rounds_succ]
  go_wp2_with fail
  go_quiet (fail)
  rw [by_get s 23 (by omega), by_get s 24 (by omega), by_get s 25 (by omega), by_get s 26 (by omega), raw_eq (by_ s 23) (by_ s 24) (by_ s 25) (by_ s 26) (by_bd s 23) (by_bd s 24) (by_bd s 25) (by_bd s 26)]
  have rb := raw_bd (by_bd s 23) (by_bd s 24) (by_bd s 25) (by_bd s 26)
  have rw' := Lib.hid (wd_raw (by_ s 23) (by_ s 24) (by_ s 25) (by_ s 26))
  generalize raw (by_ s 23) (by_ s 24) (by_ s 25) (by_ s 26) = r at *
  replace hI := hI.drewN nq
  replace hX := hX.drewN nq
  replace hL := hL.drewN nq
  generalize World.drewN _ nq = wa at *
  go_upto_if 45 with fail
  go_cut [6] (fun v w => v = .int .i64 (wd (by_ s 23) (by_ s 24) (by_ s 25) (by_ s 26)) ∧ w = wa)
  case first =>
    by_cases hr : 2147483648 ≤ r
    · go_wp2_with fail
      go_meet
      exact ⟨by rw [rw'.out, if_pos (by omega)], rfl⟩
    · go_wp2_with fail
      go_meet
      exact ⟨by rw [rw'.out, if_neg (by omega)], rfl⟩
  obtain ⟨rfl, rfl⟩ := hcut
  clear rb rw'
  have hsz := hI.lt
  go_wp2_with (at_builtin; refine wpList_appI rfl (.tmp 48) (.tmp 50) rfl rfl (hL.alloc _) rfl (At.new _ _ _) (M := [wd (by_ s 23) (by_ s 24) (by_ s 25) (by_ s 26)]) rfl rfl (by simp) (by simp; omega) ?_; intro v' w' h1 h2; have hX1 := IRow.grown (hL.alloc _) (hX.alloc _) h2 (by omega); have hI1 := IRow.far (hL.alloc _) h2 (hI.alloc _) (by omega))
  clear h2 hL hX hI hsz r
  have hL := h1
  have hX := hX1
  have hI := hI1
  clear h1 hX1 hI1
  rw [rounds_succ]
  obtain ⟨g, cap, rfl⟩ := hL.form (by simp)
  have l0 := hL.cell rfl 0 (wd (by_ s 3) (by_ s 4) (by_ s 5) (by_ s 6)) rfl
  have l1 := hL.cell rfl 1 (wd (by_ s 7) (by_ s 8) (by_ s 9) (by_ s 10)) rfl
  have l2 := hL.cell rfl 2 (wd (by_ s 11) (by_ s 12) (by_ s 13) (by_ s 14)) rfl
  have l3 := hL.cell rfl 3 (wd (by_ s 15) (by_ s 16) (by_ s 17) (by_ s 18)) rfl
  have l4 := hL.cell rfl 4 (wd (by_ s 19) (by_ s 20) (by_ s 21) (by_ s 22)) rfl
  have l5 := hL.cell rfl 5 (wd (by_ s 23) (by_ s 24) (by_ s 25) (by_ s 26)) rfl
  have r0 := by_bd s 0
  have r1 := by_bd s 1
  have r2 := by_bd s 2
  simp only [List.length_append, List.length_cons, List.length_nil, Nat.zero_add, Nat.reduceAdd] at l0 l1 l2 l3 l4 l5 ⊢
  go_wp2_with fail
  replace hI := hI.drew
  replace hX := hX.drew
  go_still_tail 30, (by kernel_rfl)
  change wpList _ _ _ _ _ w'.drew
  rw [by_get s 0 (by omega), by_get s 1 (by omega), by_get s 2 (by omega), head_eq _ _ r0 r1, i64_in (by_ s 2) (by omega) (by omega)]
  generalize w'.drew = wz at *
  clear l0 l1 l2 l3 l4 l5 hL
  have c0 := hI.cell 0
  have f0 := hI.frozen 0
  have c1 := hI.cell 1
  have f1 := hI.frozen 1
  have c2 := hI.cell 2
  have f2 := hI.frozen 2
  have c3 := hI.cell 3
  have f3 := hI.frozen 3
  have c4 := hI.cell 4
  have f4 := hI.frozen 4
  have c5 := hI.cell 5
  have f5 := hI.frozen 5
  have c6 := hI.cell 6
  have f6 := hI.frozen 6
  have c7 := hI.cell 7
  have f7 := hI.frozen 7
  simp only [NV.none, NV.cells] at c0 c1 c2 c3 c4 c5 c6 c7
  go_wp2
  replace hI := hI.set 0 (.int .i64 (by_ s 0 * 256 + by_ s 1)) rfl
  replace hX := hX.setCell (p := ⟨z, 0, none⟩) (Or.inr (by simp; omega)) (.int .i64 (by_ s 0 * 256 + by_ s 1))
  replace hI := hI.set 1 (.int .i64 (by_ s 2)) rfl
  replace hX := hX.setCell (p := ⟨z, 1, none⟩) (Or.inr (by simp; omega)) (.int .i64 (by_ s 2))
  replace hI := hI.set 2 (.int .i64 (wd (by_ s 3) (by_ s 4) (by_ s 5) (by_ s 6))) rfl
  replace hX := hX.setCell (p := ⟨z, 2, none⟩) (Or.inr (by simp; omega)) (.int .i64 (wd (by_ s 3) (by_ s 4) (by_ s 5) (by_ s 6)))
  replace hI := hI.set 3 (.int .i64 (wd (by_ s 7) (by_ s 8) (by_ s 9) (by_ s 10))) rfl
  replace hX := hX.setCell (p := ⟨z, 3, none⟩) (Or.inr (by simp; omega)) (.int .i64 (wd (by_ s 7) (by_ s 8) (by_ s 9) (by_ s 10)))
  replace hI := hI.set 4 (.int .i64 (wd (by_ s 11) (by_ s 12) (by_ s 13) (by_ s 14))) rfl
  replace hX := hX.setCell (p := ⟨z, 4, none⟩) (Or.inr (by simp; omega)) (.int .i64 (wd (by_ s 11) (by_ s 12) (by_ s 13) (by_ s 14)))
  replace hI := hI.set 5 (.int .i64 (wd (by_ s 15) (by_ s 16) (by_ s 17) (by_ s 18))) rfl
  replace hX := hX.setCell (p := ⟨z, 5, none⟩) (Or.inr (by simp; omega)) (.int .i64 (wd (by_ s 15) (by_ s 16) (by_ s 17) (by_ s 18)))
  replace hI := hI.set 6 (.int .i64 (wd (by_ s 19) (by_ s 20) (by_ s 21) (by_ s 22))) rfl
  replace hX := hX.setCell (p := ⟨z, 6, none⟩) (Or.inr (by simp; omega)) (.int .i64 (wd (by_ s 19) (by_ s 20) (by_ s 21) (by_ s 22)))
  replace hI := hI.set 7 (.int .i64 (wd (by_ s 23) (by_ s 24) (by_ s 25) (by_ s 26))) rfl
  replace hX := hX.setCell (p := ⟨z, 7, none⟩) (Or.inr (by simp; omega)) (.int .i64 (wd (by_ s 23) (by_ s 24) (by_ s 25) (by_ s 26)))
  clear c0 c1 c2 c3 c4 c5 c6 c7 f0 f1 f2 f3 f4 f5 f6 f7
  have d0 := hI.cell 0
  have d1 := hI.cell 1
  have d2 := hI.cell 2
  have d3 := hI.cell 3
  have d4 := hI.cell 4
  have d5 := hI.cell 5
  have d6 := hI.cell 6
  have d7 := hI.cell 7
  exact bodyPost_ret (v := .tuple #[.agg (rd s).cells, .int .i64 0]) (by simp [results, Try.results14, go_sem, rd, NV.cells, d0, d1, d2, d3, d4, d5, d6, d7]) rfl ⟨rfl, hX⟩
end Go.Proofs.Ytilgjjkppioblaa
