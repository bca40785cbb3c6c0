/- Walk of the law NavReads: any 27 bytes are a nav that is printed as they were; all else is refused. -/
import Derived.Test.YtilgjjkppioblaaP06
namespace Go.Proofs.Ytilgjjkppioblaa
open Go.RowKit

theorem wd_bytes (a b c d : Int) (ha : 0 ≤ a ∧ a ≤ 255) (hb : 0 ≤ b ∧ b ≤ 255) (hc : 0 ≤ c ∧ c ≤ 255) (hd : 0 ≤ d ∧ d ≤ 255) : be (wd a b c d) = [a, b, c, d] ∧ -2147483648 ≤ wd a b c d ∧ wd a b c d ≤ 2147483647 := by
  unfold be wd
  split <;> exact ⟨by simp only [List.cons.injEq, and_true]; refine ⟨?_, ?_, ?_, ?_⟩ <;> omega, by omega, by omega⟩
theorem rd_right (s : ByteArray) : (rd s).right = true := by
  have h := by_bd s
  rw [NV.right_iff]
  refine ⟨(wd_bytes _ _ _ _ (h 3) (h 4) (h 5) (h 6)).2, (wd_bytes _ _ _ _ (h 7) (h 8) (h 9) (h 10)).2, (wd_bytes _ _ _ _ (h 11) (h 12) (h 13) (h 14)).2, (wd_bytes _ _ _ _ (h 15) (h 16) (h 17) (h 18)).2,
    (wd_bytes _ _ _ _ (h 19) (h 20) (h 21) (h 22)).2, (wd_bytes _ _ _ _ (h 23) (h 24) (h 25) (h 26)).2, ?_⟩
  have h0 := h 0
  have h1 := h 1
  have h2 := h 2
  simp only [rd]
  omega
theorem rd_bytes (s : ByteArray) : (rd s).bytes = [by_ s 0, by_ s 1, by_ s 2, by_ s 3, by_ s 4, by_ s 5, by_ s 6, by_ s 7, by_ s 8, by_ s 9, by_ s 10, by_ s 11, by_ s 12, by_ s 13, by_ s 14, by_ s 15, by_ s 16, by_ s 17, by_ s 18, by_ s 19, by_ s 20, by_ s 21, by_ s 22, by_ s 23, by_ s 24, by_ s 25, by_ s 26] := by
  have h := by_bd s
  have h0 := h 0
  have h1 := h 1
  have h2 := h 2
  have e : hd3 (rd s) = [by_ s 0, by_ s 1, by_ s 2] := by
    unfold hd3
    simp only [rd, List.cons.injEq, and_true]
    refine ⟨?_, ?_, ?_⟩ <;> omega
  unfold NV.bytes
  rw [e]
  simp only [rd]
  rw [(wd_bytes _ _ _ _ (h 3) (h 4) (h 5) (h 6)).1, (wd_bytes _ _ _ _ (h 7) (h 8) (h 9) (h 10)).1, (wd_bytes _ _ _ _ (h 11) (h 12) (h 13) (h 14)).1, (wd_bytes _ _ _ _ (h 15) (h 16) (h 17) (h 18)).1,
    (wd_bytes _ _ _ _ (h 19) (h 20) (h 21) (h 22)).1, (wd_bytes _ _ _ _ (h 23) (h 24) (h 25) (h 26)).1]
  rfl
theorem print_rd (s : ByteArray) (h : s.size = 27) : (rd s).print = s := by
  unfold NV.print
  rw [if_pos (rd_right s), rd_bytes]
  obtain ⟨⟨l⟩⟩ := s
  have hl : l.length = 27 := h
  apply ByteArray.ext
  apply Array.toList_inj.1
  rw [strOfNums_data]
  match l, hl with
  | [a0, a1, a2, a3, a4, a5, a6, a7, a8, a9, a10, a11, a12, a13, a14, a15, a16, a17, a18, a19, a20, a21, a22, a23, a24, a25, a26], _ => simp [by_]

set_option maxRecDepth 100000 in
theorem nr_big (W : World) (s : ByteArray) (hl : 200 < s.size) :
    Calls Try.prog 4 #[.string s] W fun e w' => e = .returned (.bool true) ∧ Below W.heap.size W w' := by
  go_enter Try.func4, Try.ntmps4
  go_wp2_with fail
  refine (awake06 _).mono ?_; rintro e w1 ⟨rfl, hX1⟩
  go_wp2_with fail
  refine (awake06 _).mono ?_; rintro e w2 ⟨rfl, hX2⟩
  go_wp2
  go_returns
  exact ⟨rfl, Chg.to_below (hX1.trans hX2)⟩

set_option maxRecDepth 100000 in
set_option maxHeartbeats 2000000 in
theorem nr_27 (W : World) (s : ByteArray) (h27 : s.size = 27) (n : NV)
    (HD : ∀ w, Calls Try.prog 9 #[.string s] w fun e w' => e = .returned (.tuple #[.agg #[.int .i64 n.cnt, .int .i64 n.flg, .int .i64 n.x, .int .i64 n.y, .int .i64 n.z, .int .i64 n.vx, .int .i64 n.vy, .int .i64 n.vz], .int .i64 0]) ∧ Chg [] w w')
    (HE : ∀ w, Calls Try.prog 14 #[.string s] w fun e w' => e = .returned (.tuple #[.agg #[.int .i64 n.cnt, .int .i64 n.flg, .int .i64 n.x, .int .i64 n.y, .int .i64 n.z, .int .i64 n.vx, .int .i64 n.vy, .int .i64 n.vz], .int .i64 0]) ∧ Chg [] w w')
    (HP : ∀ w, Calls Try.prog 8 #[.agg #[.int .i64 n.cnt, .int .i64 n.flg, .int .i64 n.x, .int .i64 n.y, .int .i64 n.z, .int .i64 n.vx, .int .i64 n.vy, .int .i64 n.vz]] w fun e w' => e = .returned (.string s) ∧ Chg [] w w') :
    Calls Try.prog 4 #[.string s] W fun e w' => e = .returned (.bool true) ∧ Below W.heap.size W w' := by
  go_enter Try.func4, Try.ntmps4
  go_wp2_with fail
  refine (awake06 _).mono ?_; rintro e w1 ⟨rfl, hX⟩
  go_wp2_with fail
  refine (HD _).mono ?_; rintro e w2 ⟨rfl, hX2⟩
  replace hX := hX.trans hX2
  clear hX2
  have hI := At.new w2 n.cells 23
  replace hX := hX.alloc (.cells n.cells 23)
  go_wp2_with fail
  refine (HE _).mono ?_; rintro e w3 ⟨rfl, hX3⟩
  have hM := At.new w3 n.cells 23
  replace hI := (hX3.at hI (by simp)).alloc (.cells n.cells 23)
  replace hX := (hX.trans hX3).alloc (.cells n.cells 23)
  clear hX3
  have c0 := hI.cell 0; have c1 := hI.cell 1; have c2 := hI.cell 2; have c3 := hI.cell 3; have c4 := hI.cell 4; have c5 := hI.cell 5; have c6 := hI.cell 6; have c7 := hI.cell 7
  have d0 := hM.cell 0; have d1 := hM.cell 1; have d2 := hM.cell 2; have d3 := hM.cell 3; have d4 := hM.cell 4; have d5 := hM.cell 5; have d6 := hM.cell 6; have d7 := hM.cell 7
  simp only [NV.cells] at c0 c1 c2 c3 c4 c5 c6 c7 d0 d1 d2 d3 d4 d5 d6 d7
  go_wp2_with fail
  refine (HP _).mono ?_; rintro e w4 ⟨rfl, hX4⟩
  go_wp2
  go_ret
  exact ⟨rfl, Chg.to_below (hX.trans hX4)⟩

set_option maxRecDepth 100000 in
set_option maxHeartbeats 2000000 in
theorem nr_bad (W : World) (s : ByteArray) (hl : s.size ≤ 200) (h27 : ¬s.size = 27) (k : Int) (hk : k = 5 ∨ k = 3)
    (HD : ∀ w, Calls Try.prog 9 #[.string s] w fun e w' => e = .returned (.tuple #[.agg NV.none.cells, .int .i64 k]) ∧ Chg [] w w')
    (HE : ∀ w, Calls Try.prog 14 #[.string s] w fun e w' => e = .returned (.tuple #[.agg NV.none.cells, .int .i64 k]) ∧ Chg [] w w') :
    Calls Try.prog 4 #[.string s] W fun e w' => e = .returned (.bool true) ∧ Below W.heap.size W w' := by
  rw [none_lit] at HD HE
  have hq : ((s.size : Int) == 27) = false := by simp; omega
  go_enter Try.func4, Try.ntmps4
  go_wp2_with fail
  refine (awake06 _).mono ?_; rintro e w1 ⟨rfl, hX⟩
  go_wp2_with fail
  refine (HD _).mono ?_; rintro e w2 ⟨rfl, hX2⟩
  replace hX := hX.trans hX2
  clear hX2
  have hI := At.new w2 NV.none.cells 23
  replace hX := hX.alloc (.cells NV.none.cells 23)
  go_wp2_with fail
  refine (HE _).mono ?_; rintro e w3 ⟨rfl, hX3⟩
  have hM := At.new w3 NV.none.cells 23
  replace hI := (hX3.at hI (by simp)).alloc (.cells NV.none.cells 23)
  replace hX := (hX.trans hX3).alloc (.cells NV.none.cells 23)
  clear hX3
  have c0 := hI.cell 0; have c1 := hI.cell 1; have c2 := hI.cell 2; have c3 := hI.cell 3; have c4 := hI.cell 4; have c5 := hI.cell 5; have c6 := hI.cell 6; have c7 := hI.cell 7
  have d0 := hM.cell 0; have d1 := hM.cell 1; have d2 := hM.cell 2; have d3 := hM.cell 3; have d4 := hM.cell 4; have d5 := hM.cell 5; have d6 := hM.cell 6; have d7 := hM.cell 7
  simp only [NV.cells, NV.none] at c0 c1 c2 c3 c4 c5 c6 c7 d0 d1 d2 d3 d4 d5 d6 d7
  rcases hk with rfl | rfl
  · go_wp2
    go_ret
    exact ⟨rfl, Chg.to_below hX⟩
  · go_wp2
    go_ret
    exact ⟨rfl, Chg.to_below hX⟩

theorem NavReads_walk (W : World) (s : ByteArray) (_hs : s.size ≤ maxLen) :
    Calls Try.prog 4 #[.string s] W fun e w' => e = .returned (.bool true) ∧ Below W.heap.size W w' := by
  by_cases hl : 200 < s.size
  · exact nr_big W s hl
  by_cases h27 : s.size = 27
  · refine nr_27 W s h27 (rd s) (fun w => read_any w s h27) (fun w => rread_any w s h27) (fun w => ?_)
    have h := print_any w (rd s)
    rw [print_rd s h27] at h
    exact h
  · by_cases h : s.size < 27
    · exact nr_bad W s (by omega) h27 5 (Or.inl rfl) (fun w => read_short w s h) (fun w => rread_short w s h)
    · exact nr_bad W s (by omega) h27 3 (Or.inr rfl) (fun w => read_long w s (by omega)) (fun w => rread_long w s (by omega))
end Go.Proofs.Ytilgjjkppioblaa
