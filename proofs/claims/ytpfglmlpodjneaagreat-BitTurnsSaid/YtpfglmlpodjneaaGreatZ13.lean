/- Phc, Ruw, Rdv, Rnu. -/
import Derived.Test.YtpfglmlpodjneaaGreatZ12
import Derived.LoopTactic
import Derived.Handy
import Derived.Deep.LoopGhost
import Derived.Test.YtpfglmlpodjneaaGreatZ08
import Derived.Deep.QuietTactic
import Derived.BigQuiet
set_option linter.unusedSimpArgs false
set_option linter.unusedVariables false
namespace Go.Proofs.YtpfglmlpodjneaaGreat
open Go.RowKit

def PhV.ok (p : PhV) : Bool := phaseB p.area p.g p.mv p.mn p.up
/-- A slice of phases, to be read. -/
def PhsR (w : World) (v : Value) (L : List PhV) : Prop := L.length ≤ 9223372036854775807 ∧ ((L = [] ∧ ∃ a cap, v = .slice a 0 cap) ∨
  ∃ b off cap, v = .slice (some ⟨b, off, none⟩) L.length cap ∧ 0 < L.length ∧ ∀ i p, L[i]? = some p → ∃ va, PtsR w va p.area ∧ w.cell? ⟨b, off + i * 5, none⟩ = some va ∧ w.cell? ⟨b, off + i * 5 + 1, none⟩ = some (.int .i64 p.g) ∧ w.cell? ⟨b, off + i * 5 + 2, none⟩ = some (.int .i64 p.mv) ∧ w.cell? ⟨b, off + i * 5 + 3, none⟩ = some (.int .i64 p.mn) ∧ w.cell? ⟨b, off + i * 5 + 4, none⟩ = some (.int .i64 p.up))
theorem PhsR.keep {w w' : World} {v : Value} {L : List PhV} (h : PhsR w v L) (hX : Chg [] w w') : PhsR w' v L := by
  refine ⟨h.1, ?_⟩
  rcases h.2 with h | ⟨b, off, cap, h1, h2, h3⟩
  · exact .inl h
  · refine .inr ⟨b, off, cap, h1, h2, fun i p hp => ?_⟩
    obtain ⟨va, q, a0, a1, a2, a3, a4⟩ := h3 i p hp
    exact ⟨va, q.keep hX, hX.cell a0 (by simp), hX.cell a1 (by simp), hX.cell a2 (by simp), hX.cell a3 (by simp), hX.cell a4 (by simp)⟩
theorem PhsR.len {w : World} {v : Value} {L : List PhV} (h : PhsR w v L) : L.length ≤ 9223372036854775807 ∧ ∃ a cap, v = .slice a L.length cap := by
  refine ⟨h.1, ?_⟩
  rcases h.2 with ⟨rfl, a, cap, rfl⟩ | ⟨b, off, cap, rfl, _⟩
  · exact ⟨a, cap, rfl⟩
  · exact ⟨_, cap, rfl⟩
theorem any_drop_ph (B : PhV → Bool) (L : List PhV) (k : Nat) (p : PhV) (h : L[k]? = some p) : (L.drop k).any B = (B p || (L.drop (k + 1)).any B) := by
  obtain ⟨hk, rfl⟩ := List.getElem?_eq_some_iff.1 h
  rw [List.drop_eq_getElem_cons hk]
  rfl
theorem clo_wrong (w : World) (va : Value) (p : PhV) (h : PtsR w va p.area) : Calls Tryz.prog 73 #[.agg #[va, .int .i64 p.g, .int .i64 p.mv, .int .i64 p.mn, .int .i64 p.up]] w fun e w' => e = .returned (.bool (!p.ok)) ∧ Chg [] w w' := by
  have hX := (Chg.refl [] w).alloc (.cells #[va, .int .i64 p.g, .int .i64 p.mv, .int .i64 p.mn, .int .i64 p.up] 51)
  have H := rightphase_any (w.alloc (.cells #[va, .int .i64 p.g, .int .i64 p.mv, .int .i64 p.mn, .int .i64 p.up] 51)) va p.area (h.keep hX) p.g p.mv p.mn p.up
  rw [show phaseB p.area p.g p.mv p.mn p.up = p.ok from rfl] at H
  clear h
  generalize p.ok = r at *
  go_enter Tryz.func73, Tryz.ntmps73
  go_wp2_with fail
  refine H.mono ?_; rintro e w' ⟨rfl, hY⟩
  go_wp2
  go_returns
  exact ⟨rfl, hX.trans hY⟩
set_option maxHeartbeats 1000000 in
theorem idx_wrong (W : World) (v : Value) (L : List PhV) (h : PhsR W v L) : Calls Tryz.prog 89 #[v, .func (.func 73) #[] #[]] W (IdxPost W (L.any fun p => (!p.ok))) := by
  obtain ⟨hm, h⟩ := h
  obtain ⟨R, hR⟩ : ∃ R, (L.any fun p => (!p.ok)) = R := ⟨_, rfl⟩
  rw [hR]
  have HC := fun w va p h => clo_wrong w va p h
  rcases h with ⟨rfl, a, cap, rfl⟩ | ⟨b, off, cap, rfl, h0, hc⟩
  · have HR := Lib.hid hR
    clear hR
    go_enter Tryz.func89, Tryz.ntmps89
    go_wp2_with fail
    go_loopg [5, 8] 0 (fun g a i wr => i = .int .i64 0 ∧ wr = W)
    case atStart => exact ⟨rfl, rfl⟩
    case round =>
      obtain ⟨rfl, rfl⟩ := hrel
      go_wp2_with (with_reducible refine hold_post ?_)
      refine Lib.hid ?_
      exact bodyPost_ret (v := .int .i64 (-1)) (by simp [results, Tryz.results89]) rfl ⟨-1, rfl, by rw [← HR.out]; rfl, Chg.refl _ _⟩
  · have Hc := Lib.hid hc
    have HR := Lib.hid (show ((L.drop 0).any fun p => (!p.ok)) = R from hR)
    clear hR hc
    have hmi : (L.length : Int) ≤ 9223372036854775807 := by omega
    generalize hn : L.length = n at *
    have Hn := Lib.hid hn
    clear hn
    go_enter Tryz.func89, Tryz.ntmps89
    go_wp2_with fail
    go_loopg [5, 8] n (fun gk a i wr => ∃ k : Nat, k + gk = n ∧ i = .int .i64 k ∧ Chg [] W wr ∧ Hid (((L.drop k).any fun p => (!p.ok)) = R))
    case atStart => exact ⟨0, by omega, rfl, Chg.refl _ _, HR⟩
    case round =>
      obtain ⟨k, hk, rfl, hX, Hk⟩ := hrel
      by_cases hlt : k < n
      · obtain ⟨p, hp⟩ : ∃ p, L[k]? = some p := ⟨L[k]'(by rw [Hn.out]; exact hlt), List.getElem?_eq_getElem _⟩
        obtain ⟨va, hva, hc0, hc1, hc2, hc3, hc4⟩ := Hc.out k p hp
        have hvk := hva.keep hX
        have d0 := hX.cell hc0 (by simp)
        have d1 := hX.cell hc1 (by simp)
        have d2 := hX.cell hc2 (by simp)
        have d3 := hX.cell hc3 (by simp)
        have d4 := hX.cell hc4 (by simp)
        have HCk := Lib.hid hvk
        clear hc0 hc1 hc2 hc3 hc4 hva hvk
        have Hd := Lib.hid (any_drop_ph (fun p => (!p.ok)) L k p hp)
        have Hp := Lib.hid hp
        clear hp
        have g0 : (0 : Int) ≤ (k : Int) := by omega
        have g1 : (k : Int) < (n : Int) := by omega
        have g2 : (k : Int).toNat = k := by omega
        go_wp2_with fail
        refine (HC _ va p HCk.out).mono ?_; rintro e w' ⟨rfl, hY⟩
        replace hX := hX.trans hY
        clear d0 d1 d2 d3 d4 hY
        cases hB : (fun p => (!p.ok)) p with
        | true =>
          try dsimp only at hB
          rw [hB]
          go_wp2_with (with_reducible refine hold_post ?_)
          refine Lib.hid ?_
          exact bodyPost_ret (v := .int .i64 k) (by simp [results, Tryz.results89]) rfl ⟨k, rfl, by rw [← Hk.out, Hd.out]; (try dsimp only); rw [hB, decide_eq_true g0]; rfl, hX⟩
        | false =>
          try dsimp only at hB
          rw [hB]
          have Hk2 := Lib.hid (show ((L.drop (k + 1)).any fun p => (!p.ok)) = R by have := Hk.out; rw [Hd.out] at this; (try dsimp only at this); rw [hB, Bool.false_or] at this; exact this)
          clear hB
          go_wp2_with fail
          go_roundg (gk - 1)
          case rel => exact ⟨k + 1, by omega, by go_num, hX, Hk2⟩
          case measure => omega
      · obtain rfl : gk = 0 := by omega
        have HRf : R = false := by rw [← Hk.out, List.drop_eq_nil_of_le (by rw [Hn.out]; omega)]; rfl
        have HRF := Lib.hid HRf
        clear HRf
        go_wp2_with (with_reducible refine hold_post ?_)
        refine Lib.hid ?_
        exact bodyPost_ret (v := .int .i64 (-1)) (by simp [results, Tryz.results89]) rfl ⟨-1, rfl, by rw [HRF.out]; rfl, hX⟩
theorem has_wrong (W : World) (v : Value) (L : List PhV) (h : PhsR W v L) : Calls Tryz.prog 72 #[v, .func (.func 73) #[] #[]] W fun e w' => e = .returned (.bool (L.any fun p => (!p.ok))) ∧ Chg [] W w' := by
  have HI := idx_wrong W v L h
  generalize (L.any fun p => (!p.ok)) = R at *
  clear h
  go_enter Tryz.func72, Tryz.ntmps72
  go_wp2_with fail
  refine HI.mono ?_; rintro e w' ⟨r, rfl, hr, hX⟩
  have Hr := Lib.hid hr
  clear hr
  go_wp2_with (with_reducible refine hold_post ?_)
  all_goals (first | refine Lib.hid ?_ | skip)
  all_goals exact bodyPost_ret (v := .bool R) (by rw [← Hr.out]; simp [results, Tryz.results72, *]) rfl ⟨rfl, hX⟩
end Go.Proofs.YtpfglmlpodjneaaGreat
namespace Go.Proofs.YtpfglmlpodjneaaGreat
open Go.RowKit

structure RuV where
  phs : List PhV
  (n d green eps step age lift saf : Int)
def limB (r : RuV) : Bool := inB (min r.n (min r.d r.green)) 1 50 && inB (max r.n (max r.d r.green)) 1 50
def wrongN (r : RuV) : Int :=
  if inB r.phs.length 1 4 = false then 1 else if (r.phs.any fun p => !p.ok) = true then 2 else if limB r = false then 3 else if inB r.eps 0 1024 = false then 4 else if inB r.step 1 65536 = false then 5
  else if inB r.age 1 50 = false then 6 else if inB r.lift 1 1073741824 = false then 7 else if inB r.saf 0 r.phs.length = false then 8 else 0
theorem run_min3 {P : Program} (w : World) (ts : Array TypeId) (t : TypeId) (x y z : Int) : (Builtin.min_ ts t #[.int .i64 x, .int .i64 y, .int .i64 z]).run P w = .ok (.int .i64 (min x (min y z))) w := by
  have : (Builtin.min_ ts t #[.int .i64 x, .int .i64 y, .int .i64 z]).run P w = .ok (.int .i64 (if z < (if y < x then y else x) then z else (if y < x then y else x))) w := by simp [Builtin.min_, Builtin.min2]
  rw [this, show (if z < (if y < x then y else x) then z else (if y < x then y else x)) = min x (min y z) by omega]
theorem run_max3 {P : Program} (w : World) (ts : Array TypeId) (t : TypeId) (x y z : Int) : (Builtin.max_ ts t #[.int .i64 x, .int .i64 y, .int .i64 z]).run P w = .ok (.int .i64 (max x (max y z))) w := by
  have : (Builtin.max_ ts t #[.int .i64 x, .int .i64 y, .int .i64 z]).run P w = .ok (.int .i64 (if z > (if y > x then y else x) then z else (if y > x then y else x))) w := by simp [Builtin.max_, Builtin.max2]
  rw [this, show (if z > (if y > x then y else x) then z else (if y > x then y else x)) = max x (max y z) by omega]
set_option maxHeartbeats 1000000 in
set_option maxRecDepth 10000 in
theorem limits_any (W : World) (b : Nat) (va : Value) (r : RuV) (hA : At W b #[va, .int .i64 r.n, .int .i64 r.d, .int .i64 r.green, .int .i64 r.eps, .int .i64 r.step, .int .i64 r.age, .int .i64 r.lift, .int .i64 r.saf]) : Calls Tryz.prog 75 #[.pointer (some ⟨b, 0, none⟩)] W fun e w' => e = .returned (.bool (limB r)) ∧ Chg [] W w' := by
  have H1 := fun w => within3_any w (min r.n (min r.d r.green)) 1 50
  have H2 := fun w => within3_any w (max r.n (max r.d r.green)) 1 50
  have hmn := fun (w : World) ts t x y z => run_min3 (P := Tryz.prog) w ts t x y z
  have hmx := fun (w : World) ts t x y z => run_max3 (P := Tryz.prog) w ts t x y z
  have Ho := Lib.hid (show limB r = (inB (min r.n (min r.d r.green)) 1 50 && inB (max r.n (max r.d r.green)) 1 50) from rfl)
  generalize limB r = R at *
  generalize inB (min r.n (min r.d r.green)) 1 50 = b1 at *
  generalize inB (max r.n (max r.d r.green)) 1 50 = b2 at *
  go_enter Tryz.func75, Tryz.ntmps75
  go_upto_region 1 with fail
  cases b1 with
  | false =>
    refine wp_region_ex (fun _ w => At w b #[va, .int .i64 r.n, .int .i64 r.d, .int .i64 r.green, .int .i64 r.eps, .int .i64 r.step, .int .i64 r.age, .int .i64 r.lift, .int .i64 r.saf] ∧ w.heap.size = W.heap.size ∧ Chg [] W w) (fun _ => Chg []) [] [(0, 0, false), (0, 0, false), (0, 0, false), (0, 0, false), (0, 0, false), (0, 0, false), (0, 0, false), (0, 0, false), (0, 0, false), (0, 0, false), (0, 0, false), (0, 0, false), (0, 0, false), (0, 0, false), (0, 0, false), (0, 0, false), (0, 0, false), (0, 0, false), (0, 0, false), (0, 0, false), (0, 0, false), (0, 0, false), (0, 0, false), (0, 0, false), (0, 0, false), (0, 0, false), (0, 0, false), (0, 0, false), (0, 0, false), (0, 0, false), (0, 0, false)] [3, 4, 5, 6, 7, 8, 9, 10, 11, 12, 13, 14, 15, 16, 17, 18, 19, 20, 21, 22, 23, 24, 25, 26, 27, 28, 29, 30, 31, 32, 2] (by kernel_rfl) rfl (by kernel_rfl) (by kernel_rfl) (⟨hA.drew, rfl, (Chg.refl _ _).drew⟩) ?_
    simp only [List.zip_cons_cons, List.zip_nil_right]
    refine ex_det 3 [0] rfl rfl (fun _ _ _ _ _ _ _ _ => rfl) ?_
    apply Exists.intro
    refine ⟨?_, ?_⟩
    · intro wx bX kX hk1 hk2 hC hb hd K hK
      have e0 := hb 0 rfl
      simp only [exSlot, List.getD_cons_succ, List.getD_cons_zero] at e0
      simp only [execOp, e0]
      clear hb hd
      go_simp
      exact hK _ hC (Chg.refl _ _)
    refine ex_det 4 [3] rfl rfl (fun _ _ _ _ _ _ _ _ => rfl) ?_
    apply Exists.intro
    refine ⟨?_, ?_⟩
    · intro wx bX kX hk1 hk2 hC hb hd K hK
      have e3 := hd 3 _ _ rfl rfl
      try dsimp only at e3
      simp only [execOp, e3]
      clear hb hd
      go_simp
      exact hK _ hC (Chg.refl _ _)
    refine ex_det 5 [4] rfl rfl (fun _ _ _ _ _ _ _ _ => rfl) ?_
    apply Exists.intro
    refine ⟨?_, ?_⟩
    · intro wx bX kX hk1 hk2 hC hb hd K hK
      have e4 := hd 4 _ _ rfl rfl
      try dsimp only at e4
      simp only [execOp, e4]
      clear hb hd
      go_simp
      exact hK _ hC (Chg.refl _ _)
    refine ex_det 6 [5] rfl rfl (fun _ _ _ _ _ _ _ _ => rfl) ?_
    apply Exists.intro
    refine ⟨?_, ?_⟩
    · intro wx bX kX hk1 hk2 hC hb hd K hK
      have e5 := hd 5 _ _ rfl rfl
      try dsimp only at e5
      have f1 := hC.1.cell 1
      have f2 := hC.1.cell 2
      have f3 := hC.1.cell 3
      simp only [execOp, e5]
      clear hb hd
      go_simp
      exact hK _ hC (Chg.refl _ _)
    refine ex_det 7 [0] rfl rfl (fun _ _ _ _ _ _ _ _ => rfl) ?_
    apply Exists.intro
    refine ⟨?_, ?_⟩
    · intro wx bX kX hk1 hk2 hC hb hd K hK
      have e0 := hb 0 rfl
      simp only [exSlot, List.getD_cons_succ, List.getD_cons_zero] at e0
      simp only [execOp, e0]
      clear hb hd
      go_simp
      exact hK _ hC (Chg.refl _ _)
    refine ex_det 8 [7] rfl rfl (fun _ _ _ _ _ _ _ _ => rfl) ?_
    apply Exists.intro
    refine ⟨?_, ?_⟩
    · intro wx bX kX hk1 hk2 hC hb hd K hK
      have e7 := hd 7 _ _ rfl rfl
      try dsimp only at e7
      simp only [execOp, e7]
      clear hb hd
      go_simp
      exact hK _ hC (Chg.refl _ _)
    refine ex_det 9 [8] rfl rfl (fun _ _ _ _ _ _ _ _ => rfl) ?_
    apply Exists.intro
    refine ⟨?_, ?_⟩
    · intro wx bX kX hk1 hk2 hC hb hd K hK
      have e8 := hd 8 _ _ rfl rfl
      try dsimp only at e8
      simp only [execOp, e8]
      clear hb hd
      go_simp
      exact hK _ hC (Chg.refl _ _)
    refine ex_det 10 [9] rfl rfl (fun _ _ _ _ _ _ _ _ => rfl) ?_
    apply Exists.intro
    refine ⟨?_, ?_⟩
    · intro wx bX kX hk1 hk2 hC hb hd K hK
      have e9 := hd 9 _ _ rfl rfl
      try dsimp only at e9
      have f1 := hC.1.cell 1
      have f2 := hC.1.cell 2
      have f3 := hC.1.cell 3
      simp only [execOp, e9]
      clear hb hd
      go_simp
      exact hK _ hC (Chg.refl _ _)
    refine ex_det 11 [0] rfl rfl (fun _ _ _ _ _ _ _ _ => rfl) ?_
    apply Exists.intro
    refine ⟨?_, ?_⟩
    · intro wx bX kX hk1 hk2 hC hb hd K hK
      have e0 := hb 0 rfl
      simp only [exSlot, List.getD_cons_succ, List.getD_cons_zero] at e0
      simp only [execOp, e0]
      clear hb hd
      go_simp
      exact hK _ hC (Chg.refl _ _)
    refine ex_det 12 [11] rfl rfl (fun _ _ _ _ _ _ _ _ => rfl) ?_
    apply Exists.intro
    refine ⟨?_, ?_⟩
    · intro wx bX kX hk1 hk2 hC hb hd K hK
      have e11 := hd 11 _ _ rfl rfl
      try dsimp only at e11
      simp only [execOp, e11]
      clear hb hd
      go_simp
      exact hK _ hC (Chg.refl _ _)
    refine ex_det 13 [12] rfl rfl (fun _ _ _ _ _ _ _ _ => rfl) ?_
    apply Exists.intro
    refine ⟨?_, ?_⟩
    · intro wx bX kX hk1 hk2 hC hb hd K hK
      have e12 := hd 12 _ _ rfl rfl
      try dsimp only at e12
      simp only [execOp, e12]
      clear hb hd
      go_simp
      exact hK _ hC (Chg.refl _ _)
    refine ex_det 14 [13] rfl rfl (fun _ _ _ _ _ _ _ _ => rfl) ?_
    apply Exists.intro
    refine ⟨?_, ?_⟩
    · intro wx bX kX hk1 hk2 hC hb hd K hK
      have e13 := hd 13 _ _ rfl rfl
      try dsimp only at e13
      have f1 := hC.1.cell 1
      have f2 := hC.1.cell 2
      have f3 := hC.1.cell 3
      simp only [execOp, e13]
      clear hb hd
      go_simp
      exact hK _ hC (Chg.refl _ _)
    refine ex_det 15 [6, 10, 14] rfl rfl (fun _ _ _ _ _ _ _ _ => rfl) ?_
    apply Exists.intro
    refine ⟨?_, ?_⟩
    · intro wx bX kX hk1 hk2 hC hb hd K hK
      have e6 := hd 6 _ _ rfl rfl
      try dsimp only at e6
      have e10 := hd 10 _ _ rfl rfl
      try dsimp only at e10
      have e14 := hd 14 _ _ rfl rfl
      try dsimp only at e14
      simp only [execOp, resolve, List.map_toArray, List.map_cons, List.map_nil, e6, e10, e14]
      clear hb hd
      go_simp
      exact hK _ hC (Chg.refl _ _)
    refine ex_det 16 [15] rfl rfl (fun _ _ _ _ _ _ _ _ => rfl) ?_
    apply Exists.intro
    refine ⟨?_, ?_⟩
    · intro wx bX kX hk1 hk2 hC hb hd K hK
      have e15 := hd 15 _ _ rfl rfl
      try dsimp only at e15
      simp only [execOp, resolve, List.map_toArray, List.map_cons, List.map_nil, e15]
      clear hb hd
      go_simp
      refine (H1 _).mono ?_; rintro e w' ⟨rfl, rfl⟩
      exact ⟨_, rfl, hK _ hC (Chg.refl _ _)⟩
    refine ex_det 17 [16] rfl rfl (fun _ _ _ _ _ _ _ _ => rfl) ?_
    apply Exists.intro
    refine ⟨?_, ?_⟩
    · intro wx bX kX hk1 hk2 hC hb hd K hK
      have e16 := hd 16 _ _ rfl rfl
      try dsimp only at e16
      simp only [execOp, e16]
      clear hb hd
      go_simp
      exact hK _ hC (Chg.refl _ _)
    refine ex_pass 18 [0, 17] rfl rfl (fun _ _ => Chg.refl _ _) (fun _ b _ _ _ _ hb hd => (wanted_guard b rfl rfl (hd 17 _ _ rfl rfl)).trans rfl) ?_
    refine ex_pass 19 [18, 17] rfl rfl (fun _ _ => Chg.refl _ _) (fun _ b _ _ _ _ hb hd => (wanted_guard b rfl rfl (hd 17 _ _ rfl rfl)).trans rfl) ?_
    refine ex_pass 20 [19, 17] rfl rfl (fun _ _ => Chg.refl _ _) (fun _ b _ _ _ _ hb hd => (wanted_guard b rfl rfl (hd 17 _ _ rfl rfl)).trans rfl) ?_
    refine ex_pass 21 [20, 17] rfl rfl (fun _ _ => Chg.refl _ _) (fun _ b _ _ _ _ hb hd => (wanted_guard b rfl rfl (hd 17 _ _ rfl rfl)).trans rfl) ?_
    refine ex_pass 22 [0, 17] rfl rfl (fun _ _ => Chg.refl _ _) (fun _ b _ _ _ _ hb hd => (wanted_guard b rfl rfl (hd 17 _ _ rfl rfl)).trans rfl) ?_
    refine ex_pass 23 [22, 17] rfl rfl (fun _ _ => Chg.refl _ _) (fun _ b _ _ _ _ hb hd => (wanted_guard b rfl rfl (hd 17 _ _ rfl rfl)).trans rfl) ?_
    refine ex_pass 24 [23, 17] rfl rfl (fun _ _ => Chg.refl _ _) (fun _ b _ _ _ _ hb hd => (wanted_guard b rfl rfl (hd 17 _ _ rfl rfl)).trans rfl) ?_
    refine ex_pass 25 [24, 17] rfl rfl (fun _ _ => Chg.refl _ _) (fun _ b _ _ _ _ hb hd => (wanted_guard b rfl rfl (hd 17 _ _ rfl rfl)).trans rfl) ?_
    refine ex_pass 26 [0, 17] rfl rfl (fun _ _ => Chg.refl _ _) (fun _ b _ _ _ _ hb hd => (wanted_guard b rfl rfl (hd 17 _ _ rfl rfl)).trans rfl) ?_
    refine ex_pass 27 [26, 17] rfl rfl (fun _ _ => Chg.refl _ _) (fun _ b _ _ _ _ hb hd => (wanted_guard b rfl rfl (hd 17 _ _ rfl rfl)).trans rfl) ?_
    refine ex_pass 28 [27, 17] rfl rfl (fun _ _ => Chg.refl _ _) (fun _ b _ _ _ _ hb hd => (wanted_guard b rfl rfl (hd 17 _ _ rfl rfl)).trans rfl) ?_
    refine ex_pass 29 [28, 17] rfl rfl (fun _ _ => Chg.refl _ _) (fun _ b _ _ _ _ hb hd => (wanted_guard b rfl rfl (hd 17 _ _ rfl rfl)).trans rfl) ?_
    refine ex_pass 30 [21, 25, 29, 17] rfl rfl (fun _ _ => Chg.refl _ _) (fun _ b _ _ _ _ hb hd => (wanted_guard b rfl rfl (hd 17 _ _ rfl rfl)).trans rfl) ?_
    refine ex_pass 31 [30, 17] rfl rfl (fun _ _ => Chg.refl _ _) (fun _ b _ _ _ _ hb hd => (wanted_guard b rfl rfl (hd 17 _ _ rfl rfl)).trans rfl) ?_
    refine ex_det 32 [17, 31] rfl rfl (fun _ _ _ _ _ _ _ _ => rfl) ?_
    apply Exists.intro
    refine ⟨?_, ?_⟩
    · intro wx bX kX hk1 hk2 hC hb hd K hK
      have e17 := hd 17 _ _ rfl rfl
      try dsimp only at e17
      have e31 := hd 31 _ _ rfl rfl
      try dsimp only at e31
      simp only [execOp, e17, e31]
      clear hb hd
      go_simp
      exact hK _ hC (Chg.refl _ _)
    refine ex_det 2 [32] rfl rfl (fun _ _ _ _ _ _ _ _ => rfl) ?_
    apply Exists.intro
    refine ⟨?_, ?_⟩
    · intro wx bX kX hk1 hk2 hC hb hd K hK
      have e32 := hd 32 _ _ rfl rfl
      try dsimp only at e32
      simp only [execOp, e32]
      clear hb hd
      go_simp
      exact hK _ hC (Chg.refl _ _)
    refine ex_end ?_
    intro us w2 hus hC hall
    obtain ⟨v0, us, rfl⟩ := List.exists_cons_of_length_eq_add_one hus
    replace hus := Nat.succ.inj hus
    obtain ⟨v1, us, rfl⟩ := List.exists_cons_of_length_eq_add_one hus
    replace hus := Nat.succ.inj hus
    obtain ⟨v2, us, rfl⟩ := List.exists_cons_of_length_eq_add_one hus
    replace hus := Nat.succ.inj hus
    obtain ⟨v3, us, rfl⟩ := List.exists_cons_of_length_eq_add_one hus
    replace hus := Nat.succ.inj hus
    obtain ⟨v4, us, rfl⟩ := List.exists_cons_of_length_eq_add_one hus
    replace hus := Nat.succ.inj hus
    obtain ⟨v5, us, rfl⟩ := List.exists_cons_of_length_eq_add_one hus
    replace hus := Nat.succ.inj hus
    obtain ⟨v6, us, rfl⟩ := List.exists_cons_of_length_eq_add_one hus
    replace hus := Nat.succ.inj hus
    obtain ⟨v7, us, rfl⟩ := List.exists_cons_of_length_eq_add_one hus
    replace hus := Nat.succ.inj hus
    obtain ⟨v8, us, rfl⟩ := List.exists_cons_of_length_eq_add_one hus
    replace hus := Nat.succ.inj hus
    obtain ⟨v9, us, rfl⟩ := List.exists_cons_of_length_eq_add_one hus
    replace hus := Nat.succ.inj hus
    obtain ⟨v10, us, rfl⟩ := List.exists_cons_of_length_eq_add_one hus
    replace hus := Nat.succ.inj hus
    obtain ⟨v11, us, rfl⟩ := List.exists_cons_of_length_eq_add_one hus
    replace hus := Nat.succ.inj hus
    obtain ⟨v12, us, rfl⟩ := List.exists_cons_of_length_eq_add_one hus
    replace hus := Nat.succ.inj hus
    obtain ⟨v13, us, rfl⟩ := List.exists_cons_of_length_eq_add_one hus
    replace hus := Nat.succ.inj hus
    obtain ⟨v14, us, rfl⟩ := List.exists_cons_of_length_eq_add_one hus
    replace hus := Nat.succ.inj hus
    obtain ⟨v15, us, rfl⟩ := List.exists_cons_of_length_eq_add_one hus
    replace hus := Nat.succ.inj hus
    obtain ⟨v16, us, rfl⟩ := List.exists_cons_of_length_eq_add_one hus
    replace hus := Nat.succ.inj hus
    obtain ⟨v17, us, rfl⟩ := List.exists_cons_of_length_eq_add_one hus
    replace hus := Nat.succ.inj hus
    obtain ⟨v18, us, rfl⟩ := List.exists_cons_of_length_eq_add_one hus
    replace hus := Nat.succ.inj hus
    obtain ⟨v19, us, rfl⟩ := List.exists_cons_of_length_eq_add_one hus
    replace hus := Nat.succ.inj hus
    obtain ⟨v20, us, rfl⟩ := List.exists_cons_of_length_eq_add_one hus
    replace hus := Nat.succ.inj hus
    obtain ⟨v21, us, rfl⟩ := List.exists_cons_of_length_eq_add_one hus
    replace hus := Nat.succ.inj hus
    obtain ⟨v22, us, rfl⟩ := List.exists_cons_of_length_eq_add_one hus
    replace hus := Nat.succ.inj hus
    obtain ⟨v23, us, rfl⟩ := List.exists_cons_of_length_eq_add_one hus
    replace hus := Nat.succ.inj hus
    obtain ⟨v24, us, rfl⟩ := List.exists_cons_of_length_eq_add_one hus
    replace hus := Nat.succ.inj hus
    obtain ⟨v25, us, rfl⟩ := List.exists_cons_of_length_eq_add_one hus
    replace hus := Nat.succ.inj hus
    obtain ⟨v26, us, rfl⟩ := List.exists_cons_of_length_eq_add_one hus
    replace hus := Nat.succ.inj hus
    obtain ⟨v27, us, rfl⟩ := List.exists_cons_of_length_eq_add_one hus
    replace hus := Nat.succ.inj hus
    obtain ⟨v28, us, rfl⟩ := List.exists_cons_of_length_eq_add_one hus
    replace hus := Nat.succ.inj hus
    obtain ⟨v29, us, rfl⟩ := List.exists_cons_of_length_eq_add_one hus
    replace hus := Nat.succ.inj hus
    obtain ⟨v30, us, rfl⟩ := List.exists_cons_of_length_eq_add_one hus
    replace hus := Nat.succ.inj hus
    obtain rfl := List.length_eq_zero_iff.1 hus
    clear hus
    generalize hbb : exPuts _ _ _ = bb at hall ⊢
    simp only [exPuts, Act.put, List.setIfInBounds_toArray, List.set_cons_succ, List.set_cons_zero] at hbb
    subst hbb
    obtain ⟨h30, h29, h28, h27, h26, h25, h24, h23, h22, h21, h20, h19, h18, h17, h16, h15, h14, h13, h12, h11, h10, h9, h8, h7, h6, h5, h4, h3, h2, h1, h0, -⟩ := hall
    obtain rfl : v0 = _ := h0
    obtain rfl : v1 = _ := h1
    obtain rfl : v2 = _ := h2
    obtain rfl : v3 = _ := h3
    obtain rfl : v4 = _ := h4
    obtain rfl : v5 = _ := h5
    obtain rfl : v6 = _ := h6
    obtain rfl : v7 = _ := h7
    obtain rfl : v8 = _ := h8
    obtain rfl : v9 = _ := h9
    obtain rfl : v10 = _ := h10
    obtain rfl : v11 = _ := h11
    obtain rfl : v12 = _ := h12
    obtain rfl : v13 = _ := h13
    obtain rfl : v14 = _ := h14
    obtain rfl : v15 = _ := h15
    obtain rfl : v16 = _ := h16
    obtain rfl : v17 = _ := h17
    obtain rfl : v18 = _ := h18
    obtain rfl : v19 = _ := h19
    obtain rfl : v20 = _ := h20
    obtain rfl : v21 = _ := h21
    obtain rfl : v22 = _ := h22
    obtain rfl : v23 = _ := h23
    obtain rfl : v24 = _ := h24
    obtain rfl : v25 = _ := h25
    obtain rfl : v26 = _ := h26
    obtain rfl : v27 = _ := h27
    obtain rfl : v28 = _ := h28
    obtain rfl : v29 = _ := h29
    obtain rfl : v30 = _ := h30
    go_wp2
    go_returns
    exact ⟨ret_bool (by rw [Ho.out]; rfl), hC.2.2⟩
  | true =>
    refine wp_region_ex (fun _ w => At w b #[va, .int .i64 r.n, .int .i64 r.d, .int .i64 r.green, .int .i64 r.eps, .int .i64 r.step, .int .i64 r.age, .int .i64 r.lift, .int .i64 r.saf] ∧ w.heap.size = W.heap.size ∧ Chg [] W w) (fun _ => Chg []) [] [(0, 0, false), (0, 0, false), (0, 0, false), (0, 0, false), (0, 0, false), (0, 0, false), (0, 0, false), (0, 0, false), (0, 0, false), (0, 0, false), (0, 0, false), (0, 0, false), (0, 0, false), (0, 0, false), (0, 0, false), (0, 0, false), (0, 0, false), (0, 0, false), (0, 0, false), (0, 0, false), (0, 0, false), (0, 0, false), (0, 0, false), (0, 0, false), (0, 0, false), (0, 0, false), (0, 0, false), (0, 0, false), (0, 0, false), (0, 0, false), (0, 0, false)] [3, 4, 5, 6, 7, 8, 9, 10, 11, 12, 13, 14, 15, 16, 17, 18, 19, 20, 21, 22, 23, 24, 25, 26, 27, 28, 29, 30, 31, 32, 2] (by kernel_rfl) rfl (by kernel_rfl) (by kernel_rfl) (⟨hA.drew, rfl, (Chg.refl _ _).drew⟩) ?_
    simp only [List.zip_cons_cons, List.zip_nil_right]
    refine ex_det 3 [0] rfl rfl (fun _ _ _ _ _ _ _ _ => rfl) ?_
    apply Exists.intro
    refine ⟨?_, ?_⟩
    · intro wx bX kX hk1 hk2 hC hb hd K hK
      have e0 := hb 0 rfl
      simp only [exSlot, List.getD_cons_succ, List.getD_cons_zero] at e0
      simp only [execOp, e0]
      clear hb hd
      go_simp
      exact hK _ hC (Chg.refl _ _)
    refine ex_det 4 [3] rfl rfl (fun _ _ _ _ _ _ _ _ => rfl) ?_
    apply Exists.intro
    refine ⟨?_, ?_⟩
    · intro wx bX kX hk1 hk2 hC hb hd K hK
      have e3 := hd 3 _ _ rfl rfl
      try dsimp only at e3
      simp only [execOp, e3]
      clear hb hd
      go_simp
      exact hK _ hC (Chg.refl _ _)
    refine ex_det 5 [4] rfl rfl (fun _ _ _ _ _ _ _ _ => rfl) ?_
    apply Exists.intro
    refine ⟨?_, ?_⟩
    · intro wx bX kX hk1 hk2 hC hb hd K hK
      have e4 := hd 4 _ _ rfl rfl
      try dsimp only at e4
      simp only [execOp, e4]
      clear hb hd
      go_simp
      exact hK _ hC (Chg.refl _ _)
    refine ex_det 6 [5] rfl rfl (fun _ _ _ _ _ _ _ _ => rfl) ?_
    apply Exists.intro
    refine ⟨?_, ?_⟩
    · intro wx bX kX hk1 hk2 hC hb hd K hK
      have e5 := hd 5 _ _ rfl rfl
      try dsimp only at e5
      have f1 := hC.1.cell 1
      have f2 := hC.1.cell 2
      have f3 := hC.1.cell 3
      simp only [execOp, e5]
      clear hb hd
      go_simp
      exact hK _ hC (Chg.refl _ _)
    refine ex_det 7 [0] rfl rfl (fun _ _ _ _ _ _ _ _ => rfl) ?_
    apply Exists.intro
    refine ⟨?_, ?_⟩
    · intro wx bX kX hk1 hk2 hC hb hd K hK
      have e0 := hb 0 rfl
      simp only [exSlot, List.getD_cons_succ, List.getD_cons_zero] at e0
      simp only [execOp, e0]
      clear hb hd
      go_simp
      exact hK _ hC (Chg.refl _ _)
    refine ex_det 8 [7] rfl rfl (fun _ _ _ _ _ _ _ _ => rfl) ?_
    apply Exists.intro
    refine ⟨?_, ?_⟩
    · intro wx bX kX hk1 hk2 hC hb hd K hK
      have e7 := hd 7 _ _ rfl rfl
      try dsimp only at e7
      simp only [execOp, e7]
      clear hb hd
      go_simp
      exact hK _ hC (Chg.refl _ _)
    refine ex_det 9 [8] rfl rfl (fun _ _ _ _ _ _ _ _ => rfl) ?_
    apply Exists.intro
    refine ⟨?_, ?_⟩
    · intro wx bX kX hk1 hk2 hC hb hd K hK
      have e8 := hd 8 _ _ rfl rfl
      try dsimp only at e8
      simp only [execOp, e8]
      clear hb hd
      go_simp
      exact hK _ hC (Chg.refl _ _)
    refine ex_det 10 [9] rfl rfl (fun _ _ _ _ _ _ _ _ => rfl) ?_
    apply Exists.intro
    refine ⟨?_, ?_⟩
    · intro wx bX kX hk1 hk2 hC hb hd K hK
      have e9 := hd 9 _ _ rfl rfl
      try dsimp only at e9
      have f1 := hC.1.cell 1
      have f2 := hC.1.cell 2
      have f3 := hC.1.cell 3
      simp only [execOp, e9]
      clear hb hd
      go_simp
      exact hK _ hC (Chg.refl _ _)
    refine ex_det 11 [0] rfl rfl (fun _ _ _ _ _ _ _ _ => rfl) ?_
    apply Exists.intro
    refine ⟨?_, ?_⟩
    · intro wx bX kX hk1 hk2 hC hb hd K hK
      have e0 := hb 0 rfl
      simp only [exSlot, List.getD_cons_succ, List.getD_cons_zero] at e0
      simp only [execOp, e0]
      clear hb hd
      go_simp
      exact hK _ hC (Chg.refl _ _)
    refine ex_det 12 [11] rfl rfl (fun _ _ _ _ _ _ _ _ => rfl) ?_
    apply Exists.intro
    refine ⟨?_, ?_⟩
    · intro wx bX kX hk1 hk2 hC hb hd K hK
      have e11 := hd 11 _ _ rfl rfl
      try dsimp only at e11
      simp only [execOp, e11]
      clear hb hd
      go_simp
      exact hK _ hC (Chg.refl _ _)
    refine ex_det 13 [12] rfl rfl (fun _ _ _ _ _ _ _ _ => rfl) ?_
    apply Exists.intro
    refine ⟨?_, ?_⟩
    · intro wx bX kX hk1 hk2 hC hb hd K hK
      have e12 := hd 12 _ _ rfl rfl
      try dsimp only at e12
      simp only [execOp, e12]
      clear hb hd
      go_simp
      exact hK _ hC (Chg.refl _ _)
    refine ex_det 14 [13] rfl rfl (fun _ _ _ _ _ _ _ _ => rfl) ?_
    apply Exists.intro
    refine ⟨?_, ?_⟩
    · intro wx bX kX hk1 hk2 hC hb hd K hK
      have e13 := hd 13 _ _ rfl rfl
      try dsimp only at e13
      have f1 := hC.1.cell 1
      have f2 := hC.1.cell 2
      have f3 := hC.1.cell 3
      simp only [execOp, e13]
      clear hb hd
      go_simp
      exact hK _ hC (Chg.refl _ _)
    refine ex_det 15 [6, 10, 14] rfl rfl (fun _ _ _ _ _ _ _ _ => rfl) ?_
    apply Exists.intro
    refine ⟨?_, ?_⟩
    · intro wx bX kX hk1 hk2 hC hb hd K hK
      have e6 := hd 6 _ _ rfl rfl
      try dsimp only at e6
      have e10 := hd 10 _ _ rfl rfl
      try dsimp only at e10
      have e14 := hd 14 _ _ rfl rfl
      try dsimp only at e14
      simp only [execOp, resolve, List.map_toArray, List.map_cons, List.map_nil, e6, e10, e14]
      clear hb hd
      go_simp
      exact hK _ hC (Chg.refl _ _)
    refine ex_det 16 [15] rfl rfl (fun _ _ _ _ _ _ _ _ => rfl) ?_
    apply Exists.intro
    refine ⟨?_, ?_⟩
    · intro wx bX kX hk1 hk2 hC hb hd K hK
      have e15 := hd 15 _ _ rfl rfl
      try dsimp only at e15
      simp only [execOp, resolve, List.map_toArray, List.map_cons, List.map_nil, e15]
      clear hb hd
      go_simp
      refine (H1 _).mono ?_; rintro e w' ⟨rfl, rfl⟩
      exact ⟨_, rfl, hK _ hC (Chg.refl _ _)⟩
    refine ex_det 17 [16] rfl rfl (fun _ _ _ _ _ _ _ _ => rfl) ?_
    apply Exists.intro
    refine ⟨?_, ?_⟩
    · intro wx bX kX hk1 hk2 hC hb hd K hK
      have e16 := hd 16 _ _ rfl rfl
      try dsimp only at e16
      simp only [execOp, e16]
      clear hb hd
      go_simp
      exact hK _ hC (Chg.refl _ _)
    refine ex_det 18 [0, 17] rfl rfl (fun _ b _ _ _ _ hb hd => (wanted_guard b rfl rfl (hd 17 _ _ rfl rfl)).trans rfl) ?_
    apply Exists.intro
    refine ⟨?_, ?_⟩
    · intro wx bX kX hk1 hk2 hC hb hd K hK
      have e0 := hb 0 rfl
      simp only [exSlot, List.getD_cons_succ, List.getD_cons_zero] at e0
      simp only [execOp, e0]
      clear hb hd
      go_simp
      exact hK _ hC (Chg.refl _ _)
    refine ex_det 19 [18, 17] rfl rfl (fun _ b _ _ _ _ hb hd => (wanted_guard b rfl rfl (hd 17 _ _ rfl rfl)).trans rfl) ?_
    apply Exists.intro
    refine ⟨?_, ?_⟩
    · intro wx bX kX hk1 hk2 hC hb hd K hK
      have e18 := hd 18 _ _ rfl rfl
      try dsimp only at e18
      simp only [execOp, e18]
      clear hb hd
      go_simp
      exact hK _ hC (Chg.refl _ _)
    refine ex_det 20 [19, 17] rfl rfl (fun _ b _ _ _ _ hb hd => (wanted_guard b rfl rfl (hd 17 _ _ rfl rfl)).trans rfl) ?_
    apply Exists.intro
    refine ⟨?_, ?_⟩
    · intro wx bX kX hk1 hk2 hC hb hd K hK
      have e19 := hd 19 _ _ rfl rfl
      try dsimp only at e19
      simp only [execOp, e19]
      clear hb hd
      go_simp
      exact hK _ hC (Chg.refl _ _)
    refine ex_det 21 [20, 17] rfl rfl (fun _ b _ _ _ _ hb hd => (wanted_guard b rfl rfl (hd 17 _ _ rfl rfl)).trans rfl) ?_
    apply Exists.intro
    refine ⟨?_, ?_⟩
    · intro wx bX kX hk1 hk2 hC hb hd K hK
      have e20 := hd 20 _ _ rfl rfl
      try dsimp only at e20
      have f1 := hC.1.cell 1
      have f2 := hC.1.cell 2
      have f3 := hC.1.cell 3
      simp only [execOp, e20]
      clear hb hd
      go_simp
      exact hK _ hC (Chg.refl _ _)
    refine ex_det 22 [0, 17] rfl rfl (fun _ b _ _ _ _ hb hd => (wanted_guard b rfl rfl (hd 17 _ _ rfl rfl)).trans rfl) ?_
    apply Exists.intro
    refine ⟨?_, ?_⟩
    · intro wx bX kX hk1 hk2 hC hb hd K hK
      have e0 := hb 0 rfl
      simp only [exSlot, List.getD_cons_succ, List.getD_cons_zero] at e0
      simp only [execOp, e0]
      clear hb hd
      go_simp
      exact hK _ hC (Chg.refl _ _)
    refine ex_det 23 [22, 17] rfl rfl (fun _ b _ _ _ _ hb hd => (wanted_guard b rfl rfl (hd 17 _ _ rfl rfl)).trans rfl) ?_
    apply Exists.intro
    refine ⟨?_, ?_⟩
    · intro wx bX kX hk1 hk2 hC hb hd K hK
      have e22 := hd 22 _ _ rfl rfl
      try dsimp only at e22
      simp only [execOp, e22]
      clear hb hd
      go_simp
      exact hK _ hC (Chg.refl _ _)
    refine ex_det 24 [23, 17] rfl rfl (fun _ b _ _ _ _ hb hd => (wanted_guard b rfl rfl (hd 17 _ _ rfl rfl)).trans rfl) ?_
    apply Exists.intro
    refine ⟨?_, ?_⟩
    · intro wx bX kX hk1 hk2 hC hb hd K hK
      have e23 := hd 23 _ _ rfl rfl
      try dsimp only at e23
      simp only [execOp, e23]
      clear hb hd
      go_simp
      exact hK _ hC (Chg.refl _ _)
    refine ex_det 25 [24, 17] rfl rfl (fun _ b _ _ _ _ hb hd => (wanted_guard b rfl rfl (hd 17 _ _ rfl rfl)).trans rfl) ?_
    apply Exists.intro
    refine ⟨?_, ?_⟩
    · intro wx bX kX hk1 hk2 hC hb hd K hK
      have e24 := hd 24 _ _ rfl rfl
      try dsimp only at e24
      have f1 := hC.1.cell 1
      have f2 := hC.1.cell 2
      have f3 := hC.1.cell 3
      simp only [execOp, e24]
      clear hb hd
      go_simp
      exact hK _ hC (Chg.refl _ _)
    refine ex_det 26 [0, 17] rfl rfl (fun _ b _ _ _ _ hb hd => (wanted_guard b rfl rfl (hd 17 _ _ rfl rfl)).trans rfl) ?_
    apply Exists.intro
    refine ⟨?_, ?_⟩
    · intro wx bX kX hk1 hk2 hC hb hd K hK
      have e0 := hb 0 rfl
      simp only [exSlot, List.getD_cons_succ, List.getD_cons_zero] at e0
      simp only [execOp, e0]
      clear hb hd
      go_simp
      exact hK _ hC (Chg.refl _ _)
    refine ex_det 27 [26, 17] rfl rfl (fun _ b _ _ _ _ hb hd => (wanted_guard b rfl rfl (hd 17 _ _ rfl rfl)).trans rfl) ?_
    apply Exists.intro
    refine ⟨?_, ?_⟩
    · intro wx bX kX hk1 hk2 hC hb hd K hK
      have e26 := hd 26 _ _ rfl rfl
      try dsimp only at e26
      simp only [execOp, e26]
      clear hb hd
      go_simp
      exact hK _ hC (Chg.refl _ _)
    refine ex_det 28 [27, 17] rfl rfl (fun _ b _ _ _ _ hb hd => (wanted_guard b rfl rfl (hd 17 _ _ rfl rfl)).trans rfl) ?_
    apply Exists.intro
    refine ⟨?_, ?_⟩
    · intro wx bX kX hk1 hk2 hC hb hd K hK
      have e27 := hd 27 _ _ rfl rfl
      try dsimp only at e27
      simp only [execOp, e27]
      clear hb hd
      go_simp
      exact hK _ hC (Chg.refl _ _)
    refine ex_det 29 [28, 17] rfl rfl (fun _ b _ _ _ _ hb hd => (wanted_guard b rfl rfl (hd 17 _ _ rfl rfl)).trans rfl) ?_
    apply Exists.intro
    refine ⟨?_, ?_⟩
    · intro wx bX kX hk1 hk2 hC hb hd K hK
      have e28 := hd 28 _ _ rfl rfl
      try dsimp only at e28
      have f1 := hC.1.cell 1
      have f2 := hC.1.cell 2
      have f3 := hC.1.cell 3
      simp only [execOp, e28]
      clear hb hd
      go_simp
      exact hK _ hC (Chg.refl _ _)
    refine ex_det 30 [21, 25, 29, 17] rfl rfl (fun _ b _ _ _ _ hb hd => (wanted_guard b rfl rfl (hd 17 _ _ rfl rfl)).trans rfl) ?_
    apply Exists.intro
    refine ⟨?_, ?_⟩
    · intro wx bX kX hk1 hk2 hC hb hd K hK
      have e21 := hd 21 _ _ rfl rfl
      try dsimp only at e21
      have e25 := hd 25 _ _ rfl rfl
      try dsimp only at e25
      have e29 := hd 29 _ _ rfl rfl
      try dsimp only at e29
      simp only [execOp, resolve, List.map_toArray, List.map_cons, List.map_nil, e21, e25, e29]
      clear hb hd
      go_simp
      exact hK _ hC (Chg.refl _ _)
    refine ex_det 31 [30, 17] rfl rfl (fun _ b _ _ _ _ hb hd => (wanted_guard b rfl rfl (hd 17 _ _ rfl rfl)).trans rfl) ?_
    apply Exists.intro
    refine ⟨?_, ?_⟩
    · intro wx bX kX hk1 hk2 hC hb hd K hK
      have e30 := hd 30 _ _ rfl rfl
      try dsimp only at e30
      simp only [execOp, resolve, List.map_toArray, List.map_cons, List.map_nil, e30]
      clear hb hd
      go_simp
      refine (H2 _).mono ?_; rintro e w' ⟨rfl, rfl⟩
      exact ⟨_, rfl, hK _ hC (Chg.refl _ _)⟩
    refine ex_det 32 [17, 31] rfl rfl (fun _ _ _ _ _ _ _ _ => rfl) ?_
    apply Exists.intro
    refine ⟨?_, ?_⟩
    · intro wx bX kX hk1 hk2 hC hb hd K hK
      have e17 := hd 17 _ _ rfl rfl
      try dsimp only at e17
      have e31 := hd 31 _ _ rfl rfl
      try dsimp only at e31
      simp only [execOp, e17, e31]
      clear hb hd
      go_simp
      exact hK _ hC (Chg.refl _ _)
    refine ex_det 2 [32] rfl rfl (fun _ _ _ _ _ _ _ _ => rfl) ?_
    apply Exists.intro
    refine ⟨?_, ?_⟩
    · intro wx bX kX hk1 hk2 hC hb hd K hK
      have e32 := hd 32 _ _ rfl rfl
      try dsimp only at e32
      simp only [execOp, e32]
      clear hb hd
      go_simp
      exact hK _ hC (Chg.refl _ _)
    refine ex_end ?_
    intro us w2 hus hC hall
    obtain ⟨v0, us, rfl⟩ := List.exists_cons_of_length_eq_add_one hus
    replace hus := Nat.succ.inj hus
    obtain ⟨v1, us, rfl⟩ := List.exists_cons_of_length_eq_add_one hus
    replace hus := Nat.succ.inj hus
    obtain ⟨v2, us, rfl⟩ := List.exists_cons_of_length_eq_add_one hus
    replace hus := Nat.succ.inj hus
    obtain ⟨v3, us, rfl⟩ := List.exists_cons_of_length_eq_add_one hus
    replace hus := Nat.succ.inj hus
    obtain ⟨v4, us, rfl⟩ := List.exists_cons_of_length_eq_add_one hus
    replace hus := Nat.succ.inj hus
    obtain ⟨v5, us, rfl⟩ := List.exists_cons_of_length_eq_add_one hus
    replace hus := Nat.succ.inj hus
    obtain ⟨v6, us, rfl⟩ := List.exists_cons_of_length_eq_add_one hus
    replace hus := Nat.succ.inj hus
    obtain ⟨v7, us, rfl⟩ := List.exists_cons_of_length_eq_add_one hus
    replace hus := Nat.succ.inj hus
    obtain ⟨v8, us, rfl⟩ := List.exists_cons_of_length_eq_add_one hus
    replace hus := Nat.succ.inj hus
    obtain ⟨v9, us, rfl⟩ := List.exists_cons_of_length_eq_add_one hus
    replace hus := Nat.succ.inj hus
    obtain ⟨v10, us, rfl⟩ := List.exists_cons_of_length_eq_add_one hus
    replace hus := Nat.succ.inj hus
    obtain ⟨v11, us, rfl⟩ := List.exists_cons_of_length_eq_add_one hus
    replace hus := Nat.succ.inj hus
    obtain ⟨v12, us, rfl⟩ := List.exists_cons_of_length_eq_add_one hus
    replace hus := Nat.succ.inj hus
    obtain ⟨v13, us, rfl⟩ := List.exists_cons_of_length_eq_add_one hus
    replace hus := Nat.succ.inj hus
    obtain ⟨v14, us, rfl⟩ := List.exists_cons_of_length_eq_add_one hus
    replace hus := Nat.succ.inj hus
    obtain ⟨v15, us, rfl⟩ := List.exists_cons_of_length_eq_add_one hus
    replace hus := Nat.succ.inj hus
    obtain ⟨v16, us, rfl⟩ := List.exists_cons_of_length_eq_add_one hus
    replace hus := Nat.succ.inj hus
    obtain ⟨v17, us, rfl⟩ := List.exists_cons_of_length_eq_add_one hus
    replace hus := Nat.succ.inj hus
    obtain ⟨v18, us, rfl⟩ := List.exists_cons_of_length_eq_add_one hus
    replace hus := Nat.succ.inj hus
    obtain ⟨v19, us, rfl⟩ := List.exists_cons_of_length_eq_add_one hus
    replace hus := Nat.succ.inj hus
    obtain ⟨v20, us, rfl⟩ := List.exists_cons_of_length_eq_add_one hus
    replace hus := Nat.succ.inj hus
    obtain ⟨v21, us, rfl⟩ := List.exists_cons_of_length_eq_add_one hus
    replace hus := Nat.succ.inj hus
    obtain ⟨v22, us, rfl⟩ := List.exists_cons_of_length_eq_add_one hus
    replace hus := Nat.succ.inj hus
    obtain ⟨v23, us, rfl⟩ := List.exists_cons_of_length_eq_add_one hus
    replace hus := Nat.succ.inj hus
    obtain ⟨v24, us, rfl⟩ := List.exists_cons_of_length_eq_add_one hus
    replace hus := Nat.succ.inj hus
    obtain ⟨v25, us, rfl⟩ := List.exists_cons_of_length_eq_add_one hus
    replace hus := Nat.succ.inj hus
    obtain ⟨v26, us, rfl⟩ := List.exists_cons_of_length_eq_add_one hus
    replace hus := Nat.succ.inj hus
    obtain ⟨v27, us, rfl⟩ := List.exists_cons_of_length_eq_add_one hus
    replace hus := Nat.succ.inj hus
    obtain ⟨v28, us, rfl⟩ := List.exists_cons_of_length_eq_add_one hus
    replace hus := Nat.succ.inj hus
    obtain ⟨v29, us, rfl⟩ := List.exists_cons_of_length_eq_add_one hus
    replace hus := Nat.succ.inj hus
    obtain ⟨v30, us, rfl⟩ := List.exists_cons_of_length_eq_add_one hus
    replace hus := Nat.succ.inj hus
    obtain rfl := List.length_eq_zero_iff.1 hus
    clear hus
    generalize hbb : exPuts _ _ _ = bb at hall ⊢
    simp only [exPuts, Act.put, List.setIfInBounds_toArray, List.set_cons_succ, List.set_cons_zero] at hbb
    subst hbb
    obtain ⟨h30, h29, h28, h27, h26, h25, h24, h23, h22, h21, h20, h19, h18, h17, h16, h15, h14, h13, h12, h11, h10, h9, h8, h7, h6, h5, h4, h3, h2, h1, h0, -⟩ := hall
    obtain rfl : v0 = _ := h0
    obtain rfl : v1 = _ := h1
    obtain rfl : v2 = _ := h2
    obtain rfl : v3 = _ := h3
    obtain rfl : v4 = _ := h4
    obtain rfl : v5 = _ := h5
    obtain rfl : v6 = _ := h6
    obtain rfl : v7 = _ := h7
    obtain rfl : v8 = _ := h8
    obtain rfl : v9 = _ := h9
    obtain rfl : v10 = _ := h10
    obtain rfl : v11 = _ := h11
    obtain rfl : v12 = _ := h12
    obtain rfl : v13 = _ := h13
    obtain rfl : v14 = _ := h14
    obtain rfl : v15 = _ := h15
    obtain rfl : v16 = _ := h16
    obtain rfl : v17 = _ := h17
    obtain rfl : v18 = _ := h18
    obtain rfl : v19 = _ := h19
    obtain rfl : v20 = _ := h20
    obtain rfl : v21 = _ := h21
    obtain rfl : v22 = _ := h22
    obtain rfl : v23 = _ := h23
    obtain rfl : v24 = _ := h24
    obtain rfl : v25 = _ := h25
    obtain rfl : v26 = _ := h26
    obtain rfl : v27 = _ := h27
    obtain rfl : v28 = _ := h28
    obtain rfl : v29 = _ := h29
    obtain rfl : v30 = _ := h30
    go_wp2
    go_returns
    exact ⟨ret_bool (by rw [Ho.out]; simp), hC.2.2⟩
set_option maxHeartbeats 2000000 in
set_option maxRecDepth 10000 in
theorem wrong_any (W : World) (va : Value) (r : RuV) (h : PhsR W va r.phs) : Calls Tryz.prog 58 #[.agg #[va, .int .i64 r.n, .int .i64 r.d, .int .i64 r.green, .int .i64 r.eps, .int .i64 r.step, .int .i64 r.age, .int .i64 r.lift, .int .i64 r.saf]] W fun e w' => e = .returned (.int .i64 (wrongN r)) ∧ Chg [] W w' := by
  have hX := (Chg.refl [] W).alloc (.cells #[va, .int .i64 r.n, .int .i64 r.d, .int .i64 r.green, .int .i64 r.eps, .int .i64 r.step, .int .i64 r.age, .int .i64 r.lift, .int .i64 r.saf] 25)
  have hA := At.new W #[va, .int .i64 r.n, .int .i64 r.d, .int .i64 r.green, .int .i64 r.eps, .int .i64 r.step, .int .i64 r.age, .int .i64 r.lift, .int .i64 r.saf] 25
  have HF := fun w (hw : Chg [] W w) => has_wrong w va r.phs (h.keep hw)
  have H1 := fun w => within3_any w r.phs.length 1 4
  have HL := fun w hA => limits_any w W.heap.size va r hA
  have H4 := fun w => within2_any w r.eps 0 1024
  have H5 := fun w => within2_any w r.step 1 65536
  have H6 := fun w => within3_any w r.age 1 50
  have H7 := fun w => within2_any w r.lift 1 1073741824
  have H8 := fun w => within3_any w r.saf 0 r.phs.length
  have Hw := Lib.hid (show wrongN r = if inB r.phs.length 1 4 = false then 1 else if (r.phs.any fun p => !p.ok) = true then 2 else if limB r = false then 3 else if inB r.eps 0 1024 = false then 4 else if inB r.step 1 65536 = false then 5
    else if inB r.age 1 50 = false then 6 else if inB r.lift 1 1073741824 = false then 7 else if inB r.saf 0 r.phs.length = false then 8 else 0 from rfl)
  obtain ⟨_, ad, cap, rfl⟩ := h.len
  clear h
  generalize wrongN r = R at *
  generalize inB r.phs.length 1 4 = b1 at *
  generalize (r.phs.any fun p => !p.ok) = b2 at *
  generalize limB r = b3 at *
  generalize inB r.eps 0 1024 = b4 at *
  generalize inB r.step 1 65536 = b5 at *
  generalize inB r.age 1 50 = b6 at *
  generalize inB r.lift 1 1073741824 = b7 at *
  generalize inB r.saf 0 r.phs.length = b8 at *
  have f0 := hA.cell 0
  have f1 := hA.cell 1
  have f2 := hA.cell 2
  have f3 := hA.cell 3
  have f4 := hA.cell 4
  have f5 := hA.cell 5
  have f6 := hA.cell 6
  have f7 := hA.cell 7
  have f8 := hA.cell 8
  go_enter Tryz.func58, Tryz.ntmps58
  go_wp2_with fail
  refine (H1 _).mono ?_; rintro e w' ⟨rfl, rfl⟩
  cases b1 with
  | false =>
    go_wp2
    go_returns
    exact ⟨by rw [Hw.out]; rfl, hX⟩
  | true =>
    go_wp2_with fail
    refine (HF _ hX).mono ?_; rintro e w1 ⟨rfl, hY⟩
    replace hA := hY.at hA (by simp)
    replace hX := hX.trans hY
    clear hY
    clear f0 f1 f2 f3 f4 f5 f6 f7 f8
    have f0 := hA.cell 0
    have f1 := hA.cell 1
    have f2 := hA.cell 2
    have f3 := hA.cell 3
    have f4 := hA.cell 4
    have f5 := hA.cell 5
    have f6 := hA.cell 6
    have f7 := hA.cell 7
    have f8 := hA.cell 8
    cases b2 with
    | true =>
      go_wp2
      go_returns
      exact ⟨by rw [Hw.out]; rfl, hX⟩
    | false =>
      go_wp2_with fail
      refine (HL _ hA).mono ?_; rintro e w2 ⟨rfl, hY⟩
      replace hA := hY.at hA (by simp)
      replace hX := hX.trans hY
      clear hY
      clear f0 f1 f2 f3 f4 f5 f6 f7 f8
      have f0 := hA.cell 0
      have f1 := hA.cell 1
      have f2 := hA.cell 2
      have f3 := hA.cell 3
      have f4 := hA.cell 4
      have f5 := hA.cell 5
      have f6 := hA.cell 6
      have f7 := hA.cell 7
      have f8 := hA.cell 8
      cases b3 with
      | false =>
        go_wp2
        go_returns
        exact ⟨by rw [Hw.out]; rfl, hX⟩
      | true =>
        go_wp2_with fail
        refine (H4 _).mono ?_; rintro e w' ⟨rfl, rfl⟩
        cases b4 with
        | false =>
          go_wp2
          go_returns
          exact ⟨by rw [Hw.out]; rfl, hX⟩
        | true =>
          go_wp2_with fail
          refine (H5 _).mono ?_; rintro e w' ⟨rfl, rfl⟩
          cases b5 with
          | false =>
            go_wp2
            go_returns
            exact ⟨by rw [Hw.out]; rfl, hX⟩
          | true =>
            go_wp2_with fail
            refine (H6 _).mono ?_; rintro e w' ⟨rfl, rfl⟩
            cases b6 with
            | false =>
              go_wp2
              go_returns
              exact ⟨by rw [Hw.out]; rfl, hX⟩
            | true =>
              go_wp2_with fail
              refine (H7 _).mono ?_; rintro e w' ⟨rfl, rfl⟩
              cases b7 with
              | false =>
                go_wp2
                go_returns
                exact ⟨by rw [Hw.out]; rfl, hX⟩
              | true =>
                go_wp2_with fail
                refine (H8 _).mono ?_; rintro e w' ⟨rfl, rfl⟩
                cases b8 with
                | false =>
                  go_wp2
                  go_returns
                  exact ⟨by rw [Hw.out]; rfl, hX⟩
                | true =>
                  go_wp2
                  go_returns
                  exact ⟨by rw [Hw.out]; rfl, hX⟩
theorem rulesright_any (W : World) (va : Value) (r : RuV) (h : PhsR W va r.phs) : Calls Tryz.prog 40 #[.agg #[va, .int .i64 r.n, .int .i64 r.d, .int .i64 r.green, .int .i64 r.eps, .int .i64 r.step, .int .i64 r.age, .int .i64 r.lift, .int .i64 r.saf]] W fun e w' => e = .returned (.bool (wrongN r == 0)) ∧ Chg [] W w' := by
  have hX := (Chg.refl [] W).alloc (.cells #[va, .int .i64 r.n, .int .i64 r.d, .int .i64 r.green, .int .i64 r.eps, .int .i64 r.step, .int .i64 r.age, .int .i64 r.lift, .int .i64 r.saf] 25)
  have H := wrong_any (W.alloc (.cells #[va, .int .i64 r.n, .int .i64 r.d, .int .i64 r.green, .int .i64 r.eps, .int .i64 r.step, .int .i64 r.age, .int .i64 r.lift, .int .i64 r.saf] 25)) va r (h.keep hX)
  generalize wrongN r = R at *
  go_enter Tryz.func40, Tryz.ntmps40
  go_wp2_with fail
  refine H.mono ?_; rintro e w' ⟨rfl, hY⟩
  go_wp2
  go_returns
  exact ⟨rfl, hX.trans hY⟩
end Go.Proofs.YtpfglmlpodjneaaGreat
namespace Go.Proofs.YtpfglmlpodjneaaGreat
open Go.RowKit

def SlAt (w : World) (b : Nat) : Prop := ∃ (cs : Array Value) (a : Option Addr) (n cap : Nat), At w b cs ∧ cs[0]? = some (.slice a n cap)
theorem AreaA.far {w w' : World} {v : Value} {L : List PtV} {S : List Nat} (h : AreaA w v L) (hm : L.length ≤ 1000000) (hS : ∀ b ∈ S, SlAt w b) (hX : Chg S w w') : PtsR w' v L := by
  refine ⟨by omega, ?_⟩
  rcases h.2 with ⟨rfl, h0⟩ | ⟨g, cap, cur, rfl, _, hg, _, _, hsz, htk⟩
  · exact .inl ⟨List.length_eq_zero_iff.1 h0, _, _, rfl⟩
  · by_cases hL : L = []
    · subst hL; exact .inl ⟨rfl, _, _, rfl⟩
    · have hgS : g ∉ S := by
        intro hm
        obtain ⟨cs, a, n, c, ⟨T, hA⟩, h0⟩ := hS g hm
        rw [hg] at hA
        simp only [Option.some.injEq, Obj.cells.injEq] at hA
        obtain ⟨rfl, _⟩ := hA
        cases L with
        | nil => exact hL rfl
        | cons p L =>
          have := (ptCells_get (p :: L) 0 p rfl).1
          rw [← htk, List.getElem?_take, if_pos (by simp)] at this
          simp only [Nat.zero_mul, Array.getElem?_toList] at this
          rw [h0] at this
          cases this
      have hg2 : w'.heap[g]? = some (.cells cur 53 (0, 0)) := (hX.block g (Array.getElem?_eq_some_iff.1 hg).1 hgS).trans hg
      refine .inr ⟨g, 0, cap, rfl, List.length_pos_iff.2 hL, fun i p hp => ?_⟩
      have hc := ptCells_get L i p hp
      have key : ∀ j u, (ptCells L)[j]? = some u → w'.cell? ⟨g, j, none⟩ = some u := by
        intro j u hu
        rw [← htk, List.getElem?_take] at hu
        split at hu
        · simp [World.cell?, hg2]; simpa using hu
        · cases hu
      rw [Nat.zero_add]
      exact ⟨key _ _ hc.1, key _ _ hc.2⟩
theorem phCells_get : ∀ (vs : List Value) (L : List PhV) (i : Nat) (p : PhV), vs.length = L.length → L[i]? = some p → ∃ va, vs[i]? = some va ∧ (phCells vs L)[i * 5]? = some va ∧ (phCells vs L)[i * 5 + 1]? = some (.int .i64 p.g) ∧ (phCells vs L)[i * 5 + 2]? = some (.int .i64 p.mv) ∧ (phCells vs L)[i * 5 + 3]? = some (.int .i64 p.mn) ∧ (phCells vs L)[i * 5 + 4]? = some (.int .i64 p.up)
  | _, [], i, p, _, h => by simp at h
  | [], _ :: _, _, _, h, _ => by simp at h
  | va :: vs, q :: L, 0, p, hl, h => by simp only [List.getElem?_cons_zero, Option.some.injEq] at h; subst h; exact ⟨va, rfl, rfl, rfl, rfl, rfl, rfl⟩
  | va :: vs, q :: L, i + 1, p, hl, h => by
    obtain ⟨v, h0, h1, h2, h3, h4, h5⟩ := phCells_get vs L i p (by simpa using hl) (by simpa using h)
    refine ⟨v, by simpa using h0, ?_⟩
    rw [show (i + 1) * 5 = i * 5 + 1 + 1 + 1 + 1 + 1 by omega]
    simp only [phCells, List.cons_append, List.nil_append, List.getElem?_cons_succ]
    exact ⟨h1, h2, h3, h4, h5⟩
theorem PhsA.phs {w w' : World} {base : Nat} {v : Value} {L : List PhV} {S : List Nat} (h : PhsA w base v L) (hl : L.length ≤ 1000000) (hs : ∀ p ∈ L, p.area.length ≤ 1000000) (hb : ∀ b ∈ S, b < base) (hS : ∀ b ∈ S, SlAt w b) (hX : Chg S w w') : PhsR w' v L := by
  refine ⟨by omega, ?_⟩
  obtain ⟨vs, v1, v2, v3⟩ := h.ex
  have v2' := row_keep v2 hX hb
  rcases v2'.2 with ⟨rfl, h0⟩ | ⟨g, cap, cur, rfl, _, hg, _, _, hsz, htk⟩
  · exact .inl ⟨List.length_eq_zero_iff.1 h0, _, _, rfl⟩
  · by_cases hL : L = []
    · subst hL; exact .inl ⟨rfl, _, _, rfl⟩
    · refine .inr ⟨g, 0, cap, rfl, List.length_pos_iff.2 hL, fun i p hp => ?_⟩
      obtain ⟨va, hva, c0, c1, c2, c3, c4⟩ := phCells_get vs L i p v1 hp
      have key : ∀ j u, (phCells vs L)[j]? = some u → w'.cell? ⟨g, j, none⟩ = some u := by
        intro j u hu
        rw [← htk, List.getElem?_take] at hu
        split at hu
        · simp [World.cell?, hg]; simpa using hu
        · cases hu
      rw [Nat.zero_add]
      exact ⟨va, (v3 i va p hva hp).far (hs p (List.mem_of_getElem? hp)) hS hX, key _ _ c0, key _ _ c1, key _ _ c2, key _ _ c3, key _ _ c4⟩
theorem PhsA.mono {w : World} {base b : Nat} {v : Value} {L : List PhV} (h : PhsA w base v L) (hb : b ≤ base) : PhsA w b v L := by
  obtain ⟨vs, v1, v2, v3⟩ := h.ex
  exact ⟨vs, v1, World.ownsRow.mono v2 hb, v3⟩
theorem phsL_small : ∀ (n : Nat) (s : ByteArray) (L L' : List PhV) (t : ByteArray), phsL n s L = some (L', t) → (∀ p ∈ L, p.area.length ≤ 255) → (∀ p ∈ L', p.area.length ≤ 255) ∧ L'.length = L.length + n
  | 0, s, L, L', t, h, hp => by
    simp only [phsL, Option.some.injEq, Prod.mk.injEq] at h
    obtain ⟨rfl, rfl⟩ := h
    exact ⟨hp, rfl⟩
  | n + 1, s, L, L', t, h, hp => by
    unfold phsL at h
    split at h
    · obtain ⟨h1, h2⟩ := phsL_small n _ _ _ _ h (fun p hm => by
        simp only [List.mem_append, List.mem_singleton] at hm
        rcases hm with hm | rfl
        · exact hp p hm
        · have := by_bd s 0
          show (ptsAt s 14 (by_ s 0).toNat).length ≤ 255
          rw [ptsAt_len]; omega)
      exact ⟨h1, by rw [h2]; simp; omega⟩
    · cases h
def aftu : ByteArray := ⟨#[65, 70, 84, 85]⟩
def magicB (s : ByteArray) : Bool := beginsB s (aftu.extract 0 (min s.size 4))
def zRu : RuV := ⟨[], 0, 0, 0, 0, 0, 0, 0, 0⟩
def RuV.cells (r : RuV) (va : Value) : Array Value := #[va, .int .i64 r.n, .int .i64 r.d, .int .i64 r.green, .int .i64 r.eps, .int .i64 r.step, .int .i64 r.age, .int .i64 r.lift, .int .i64 r.saf]
def headRu (s : ByteArray) (L : List PhV) : RuV := ⟨L, by_ s 5, by_ s 6, by_ s 7, num4 s 10, num4 s 14, by_ s 8, num4 s 18, by_ s 9⟩
/-- What is read, and the error. -/
def readV (s : ByteArray) : RuV × Int :=
  if magicB s = false then (zRu, 3) else if s.size < 22 then (zRu, 5) else
  match phsL (by_ s 4).toNat (s.extract 22 s.size) [] with
  | none => (zRu, 5)
  | some (L, t) => if t.size < 4 then (zRu, 5) else if 4 < t.size then (zRu, 3) else if ((sum32 (s.extract 0 (s.size - 4))).toNat : Int) ≠ num4 t 0 then (zRu, 4) else if wrongN (headRu s L) = 0 then (headRu s L, 0) else (zRu, 3)
theorem nil_phs (w : World) : PhsR w (.slice none 0 0) [] := ⟨by simp, .inl ⟨rfl, none, 0, rfl⟩⟩
def RdPost (W : World) (r : RuV × Int) (e : Ending) (w' : World) : Prop := ∃ va, e = .returned (.tuple #[.agg (r.1.cells va), .int .i64 r.2]) ∧ (∀ (S : List Nat) (w2 : World), (∀ b ∈ S, b < W.heap.size) → Chg S w' w2 → PhsR w2 va r.1.phs) ∧ Chg [] W w'
theorem PhsB.phs {w : World} {base : Nat} {v : Value} {L : List PhV} (h : PhsB w base v L) (hl : L.length ≤ 1000000) (hs : ∀ p ∈ L, p.area.length ≤ 1000000) : PhsR w v L := h.toA.phs hl hs (S := []) (by simp) (by simp) (Chg.refl _ _)
theorem run_min2 {P : Program} (w : World) (ts : Array TypeId) (t : TypeId) (x y : Int) : (Builtin.min_ ts t #[.int .i64 x, .int .i64 y]).run P w = .ok (.int .i64 (min x y)) w := by
  have : (Builtin.min_ ts t #[.int .i64 x, .int .i64 y]).run P w = .ok (.int .i64 (if y < x then y else x)) w := by simp [Builtin.min_, Builtin.min2]
  rw [this, show (if y < x then y else x) = min x y by omega]
end Go.Proofs.YtpfglmlpodjneaaGreat
namespace Go.Proofs.YtpfglmlpodjneaaGreat
open Go.RowKit

def b4 (n : Int) : List Int := [n / 16777216 % 256, n / 65536 % 256, n / 256 % 256, n % 256]
theorem b4_be4 (n : Int) : b4 n = be4 (n % 4294967296) := by
  unfold b4 be4
  congr 1
  · omega
  congr 1
  · omega
  congr 1
  · omega
  congr 1
  omega
theorem b4_small (n : Int) (h0 : 0 ≤ n) (h1 : n ≤ 4294967295) : b4 n = be4 n := by rw [b4_be4, Int.emod_eq_of_lt h0 (by omega)]
theorem b4_bd (n : Int) : ∀ x ∈ b4 n, 0 ≤ x ∧ x ≤ 255 := by
  unfold b4; intro x hx
  simp only [List.mem_cons, List.not_mem_nil, or_false] at hx
  omega
theorem conv8 (n : Int) : IntKind.u8.wrap n = n % 256 := by simp [IntKind.wrap, IntKind.bits, IntKind.signed]
theorem lit4 (w : World) (a b c d : Int) : (convert 37 9 (.slice (some ⟨w.heap.size, 0, none⟩) 4 4)).run Tryz.prog (w.alloc (.cells #[.int .u8 a, .int .u8 b, .int .u8 c, .int .u8 d] 5)) =
    .ok (.string (strOfNums [a, b, c, d])) (w.alloc (.cells #[.int .u8 a, .int .u8 b, .int .u8 c, .int .u8 d] 5)) :=
  (BRow.lit w 0 [a, b, c, d] #[.int .u8 a, .int .u8 b, .int .u8 c, .int .u8 d] 4 rfl rfl (by omega) (by omega)).string
theorem qfour_any (w : World) (n : Int) : Calls Tryz.prog 28 #[.int .i64 n] w fun e w' => e = .returned (.string (strOfNums (b4 n))) ∧ Chg [] w w' := by
  have e1 : IntKind.u8.wrap (n / 16777216) = n / 16777216 % 256 := conv8 _
  have e2 : IntKind.u8.wrap (n / 65536) = n / 65536 % 256 := conv8 _
  have e3 : IntKind.u8.wrap (n / 256) = n / 256 % 256 := conv8 _
  have e4 : IntKind.u8.wrap n = n % 256 := conv8 _
  have L := lit4 w (n / 16777216 % 256) (n / 65536 % 256) (n / 256 % 256) (n % 256)
  go_enter Tryz.func28, Tryz.ntmps28
  go_wp2
  go_returns
  exact ⟨rfl, (Chg.refl _ _).alloc _⟩
theorem qnumber_any (w : World) (s : ByteArray) (h4 : 4 ≤ s.size) (hs : s.size ≤ 1000000) : Calls Tryz.prog 22 #[.string s] w fun e w' => e = .returned (.int .i64 (num4 s 0)) ∧ Chg [] w w' := by
  have g0 := by_get s 0 (by omega); have g1 := by_get s 1 (by omega); have g2 := by_get s 2 (by omega); have g3 := by_get s 3 (by omega)
  have b0 := by_bd s 0; have b1 := by_bd s 1; have b2 := by_bd s 2; have b3 := by_bd s 3
  have w0 : IntKind.i64.wrap (by_ s 0) = by_ s 0 := by rw [IntKind.wrap_i64]; omega
  have w1 : IntKind.i64.wrap (by_ s 1) = by_ s 1 := by rw [IntKind.wrap_i64]; omega
  have w2 : IntKind.i64.wrap (by_ s 2) = by_ s 2 := by rw [IntKind.wrap_i64]; omega
  have w3 : IntKind.i64.wrap (by_ s 3) = by_ s 3 := by rw [IntKind.wrap_i64]; omega
  have Hn := Lib.hid (show num4 s 0 = by_ s 0 * 16777216 + by_ s 1 * 65536 + by_ s 2 * 256 + by_ s 3 from rfl)
  generalize num4 s 0 = res at *
  go_enter Tryz.func22, Tryz.ntmps22
  go_wp2_with fail
  go_quiet (fail)
  go_wp2
  go_returns
  exact ⟨ret_int (by rw [Hn.out]), (Chg.refl [] w).drewN _⟩
theorem qsigned_any (w : World) (s : ByteArray) (h4 : 4 ≤ s.size) (hs : s.size ≤ 1000000) : Calls Tryz.prog 23 #[.string s] w fun e w' => e = .returned (.int .i64 (sg32 (num4 s 0))) ∧ Chg [] w w' := by
  have H := qnumber_any w s h4 hs
  have hb := num4_bd s 0
  have Hs := Lib.hid (show sg32 (num4 s 0) = if 2147483648 ≤ num4 s 0 then num4 s 0 - 4294967296 else num4 s 0 from rfl)
  generalize sg32 (num4 s 0) = r at *
  generalize num4 s 0 = x at *
  by_cases h : 2147483648 ≤ x
  · rw [if_pos h] at Hs
    go_enter Tryz.func23, Tryz.ntmps23
    go_wp2_with fail
    refine H.mono ?_; rintro e w' ⟨rfl, hX⟩
    go_wp2
    go_returns
    exact ⟨ret_int (by rw [Hs.out]), hX⟩
  · rw [if_neg h] at Hs
    go_enter Tryz.func23, Tryz.ntmps23
    go_wp2_with fail
    refine H.mono ?_; rintro e w' ⟨rfl, hX⟩
    go_wp2
    go_returns
    exact ⟨ret_int (by rw [Hs.out]), hX⟩
end Go.Proofs.YtpfglmlpodjneaaGreat
