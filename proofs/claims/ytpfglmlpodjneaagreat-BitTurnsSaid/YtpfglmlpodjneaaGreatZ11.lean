/- Ple, Pla, Plc. -/
import Derived.Test.YtpfglmlpodjneaaGreatZ10
import Derived.LoopTactic
import Derived.Handy
import Derived.Deep.LoopGhost
set_option linter.unusedSimpArgs false
set_option linter.unusedVariables false
namespace Go.Proofs.YtpfglmlpodjneaaGreat
open Go.RowKit

theorem res_cc {fn : Func} {p u : Tmp} {T U : TypeId} (hr : fn.results = #[.cell p T, .cell u U]) {tmps : Array Value} {w : World} {b c : Nat} {cs ds : Array Value} (h : At w b cs) (hT : isRowB Tryz.prog T cs.size = true) (hp : tmps.getD p undef = .pointer (some ⟨b, 0, none⟩))
    (h' : At w c ds) (hT' : isRowB Tryz.prog U ds.size = true) (hp' : tmps.getD u undef = .pointer (some ⟨c, 0, none⟩)) : (results fn tmps).run Tryz.prog w = .ok (.tuple #[.agg cs, .agg ds]) w := by
  have hl := h.loadVar T hT
  have hl' := h'.loadVar U hT'
  simp only [results, hr]
  simp [Sem.run_bind, Result.andThen, -Array.getD_eq_getD_getElem?, hp, hp', run_asAddr, hl, hl']
set_option maxHeartbeats 4000000 in
set_option maxRecDepth 10000 in
theorem edge_any (W : World) (v : Value) (L : List PtV) (h : PtsR W v L) (i j : Nat) (p q : PtV) (hp : L[i]? = some p) (hq : L[j]? = some q) (hj : j = (i + 1) % L.length) :
    Calls Tryz.prog 130 #[v, .int .i64 i] W fun e w' => e = .returned (.tuple #[.agg #[.int .i64 p.x, .int .i64 p.y], .agg #[.int .i64 q.x, .int .i64 q.y]]) ∧ Chg [] W w' := by
  have hi : i < L.length := (List.getElem?_eq_some_iff.1 hp).1
  have hjl : j < L.length := (List.getElem?_eq_some_iff.1 hq).1
  obtain ⟨hm, h⟩ := h
  rcases h with ⟨rfl, a, cap, rfl⟩ | ⟨b, off, cap, rfl, h0, hc⟩
  · simp at hp
  · have Hc := Lib.hid hc
    have Hp := Lib.hid hp
    have Hq := Lib.hid hq
    clear hc hp hq
    have hA0 := (At.new W #[.int .i64 0, .int .i64 0] 53).alloc (.cells #[.int .i64 0, .int .i64 0] 53)
    have hA1 := At.new (W.alloc (.cells #[.int .i64 0, .int .i64 0] 53)) #[.int .i64 0, .int .i64 0] 53
    have hX := ((Chg.refl [] W).alloc (.cells #[.int .i64 0, .int .i64 0] 53)).alloc (.cells #[.int .i64 0, .int .i64 0] 53)
    rw [alloc_sz] at hA1
    generalize L.length = n at *
    have hjm : ((i : Int) + 1).tmod (n : Int) = (j : Int) := by
      rw [hj, Int.tmod_eq_emod_of_nonneg (by omega)]; simp
    have hw1 : IntKind.i64.wrap ((i : Int) + 1) = (i : Int) + 1 := i64_in _ (by omega) (by omega)
    have hn0 : n ≠ 0 := by omega
    have g0 : (0 : Int) ≤ (i : Int) := by omega
    have g1 : (i : Int) < (n : Int) := by omega
    have g2 : (i : Int).toNat = i := by omega
    have k0 : (0 : Int) ≤ (j : Int) := by omega
    have k1 : (j : Int) < (n : Int) := by omega
    have k2 : (j : Int).toNat = j := by omega
    clear hj
    go_enter Tryz.func130, Tryz.ntmps130
    go_upto_region 1 with fail
    generalize hz : W.heap.size = z at hA0 hA1 ⊢
    refine wp_region_ex (fun k w => Chg [] W w ∧ (k = 0 → At w z #[.int .i64 0, .int .i64 0]) ∧ (1 ≤ k → At w z #[.int .i64 p.x, .int .i64 p.y]) ∧ (k ≤ 1 → At w (z + 1) #[.int .i64 0, .int .i64 0]) ∧ (k = 2 → At w (z + 1) #[.int .i64 q.x, .int .i64 q.y])) (fun _ _ _ => True) [12, 13] [(0, 0, false), (0, 0, false), (0, 0, false), (0, 0, false), (0, 1, false), (0, 1, false), (0, 1, false), (0, 1, false), (0, 1, false), (0, 1, false), (0, 1, false), (0, 1, false), (0, 0, true), (1, 1, true)] [6, 7, 8, 9, 10, 11, 12, 13, 14, 15, 16, 17] (by kernel_rfl) rfl (by kernel_rfl) (by kernel_rfl) (⟨hX.drew, fun _ => hA0.drew, fun h => absurd h (by omega), fun _ => hA1.drew, fun h => absurd h (by omega)⟩) ?_
    simp only [List.zip_cons_cons, List.zip_nil_right]
    refine ex_det 6 [0] rfl rfl (fun _ _ _ _ _ _ _ _ => rfl) ?_
    apply Exists.intro
    refine ⟨?_, ?_⟩
    · intro wx bX kX hk1 hk2 hC hb hd K hK
      have e0 := hb 0 rfl
      simp only [exSlot, List.getD_cons_succ, List.getD_cons_zero] at e0
      simp only [execOp, e0]
      clear hb hd
      go_simp
      exact hK _ hC (trivial)
    refine ex_det 7 [1] rfl rfl (fun _ _ _ _ _ _ _ _ => rfl) ?_
    apply Exists.intro
    refine ⟨?_, ?_⟩
    · intro wx bX kX hk1 hk2 hC hb hd K hK
      have e1 := hb 1 rfl
      simp only [exSlot, List.getD_cons_succ, List.getD_cons_zero] at e1
      simp only [execOp, e1]
      clear hb hd
      go_simp
      exact hK _ hC (trivial)
    refine ex_det 8 [6, 7] rfl rfl (fun _ _ _ _ _ _ _ _ => rfl) ?_
    apply Exists.intro
    refine ⟨?_, ?_⟩
    · intro wx bX kX hk1 hk2 hC hb hd K hK
      have e6 := hd 6 _ _ rfl rfl
      try dsimp only at e6
      have e7 := hd 7 _ _ rfl rfl
      try dsimp only at e7
      simp only [execOp, e6, e7]
      clear hb hd
      go_simp
      exact hK _ hC (trivial)
    refine ex_det 9 [8] rfl rfl (fun _ _ _ _ _ _ _ _ => rfl) ?_
    apply Exists.intro
    refine ⟨?_, ?_⟩
    · intro wx bX kX hk1 hk2 hC hb hd K hK
      have e8 := hd 8 _ _ rfl rfl
      try dsimp only at e8
      have d0 := hC.1.cell (Hc.out i p Hp.out).1 (by simp)
      have d1 := hC.1.cell (Hc.out i p Hp.out).2 (by simp)
      have d2 := hC.1.cell (Hc.out j q Hq.out).1 (by simp)
      have d3 := hC.1.cell (Hc.out j q Hq.out).2 (by simp)
      simp only [execOp, e8]
      clear hb hd
      go_simp
      exact hK _ hC (trivial)
    refine ex_det 10 [0] rfl rfl (fun _ _ _ _ _ _ _ _ => rfl) ?_
    apply Exists.intro
    refine ⟨?_, ?_⟩
    · intro wx bX kX hk1 hk2 hC hb hd K hK
      have e0 := hb 0 rfl
      simp only [exSlot, List.getD_cons_succ, List.getD_cons_zero] at e0
      simp only [execOp, e0]
      clear hb hd
      go_simp
      exact hK _ hC (trivial)
    refine ex_det 11 [1] rfl rfl (fun _ _ _ _ _ _ _ _ => rfl) ?_
    apply Exists.intro
    refine ⟨?_, ?_⟩
    · intro wx bX kX hk1 hk2 hC hb hd K hK
      have e1 := hb 1 rfl
      simp only [exSlot, List.getD_cons_succ, List.getD_cons_zero] at e1
      simp only [execOp, e1]
      clear hb hd
      go_simp
      exact hK _ hC (trivial)
    refine ex_det 12 [11] rfl rfl (fun _ _ _ _ _ _ _ _ => rfl) ?_
    apply Exists.intro
    refine ⟨?_, ?_⟩
    · intro wx bX kX hk1 hk2 hC hb hd K hK
      have e11 := hd 11 _ _ rfl rfl
      try dsimp only at e11
      simp only [execOp, e11]
      clear hb hd
      go_simp
      exact hK _ hC (trivial)
    refine ex_det 13 [0] rfl rfl (fun _ _ _ _ _ _ _ _ => rfl) ?_
    apply Exists.intro
    refine ⟨?_, ?_⟩
    · intro wx bX kX hk1 hk2 hC hb hd K hK
      have e0 := hb 0 rfl
      simp only [exSlot, List.getD_cons_succ, List.getD_cons_zero] at e0
      simp only [execOp, e0]
      clear hb hd
      go_simp
      exact hK _ hC (trivial)
    refine ex_det 14 [13] rfl rfl (fun _ _ _ _ _ _ _ _ => rfl) ?_
    apply Exists.intro
    refine ⟨?_, ?_⟩
    · intro wx bX kX hk1 hk2 hC hb hd K hK
      have e13 := hd 13 _ _ rfl rfl
      try dsimp only at e13
      simp only [execOp, resolve, List.map_toArray, List.map_cons, List.map_nil, e13]
      clear hb hd
      go_simp
      exact hK _ hC trivial
    refine ex_det 15 [12, 14] rfl rfl (fun _ _ _ _ _ _ _ _ => rfl) ?_
    apply Exists.intro
    refine ⟨?_, ?_⟩
    · intro wx bX kX hk1 hk2 hC hb hd K hK
      have e12 := hd 12 _ _ rfl rfl
      try dsimp only at e12
      have e14 := hd 14 _ _ rfl rfl
      try dsimp only at e14
      simp only [execOp, e12, e14]
      clear hb hd
      go_simp
      exact hK _ hC (trivial)
    refine ex_det 16 [10, 15] rfl rfl (fun _ _ _ _ _ _ _ _ => rfl) ?_
    apply Exists.intro
    refine ⟨?_, ?_⟩
    · intro wx bX kX hk1 hk2 hC hb hd K hK
      have e10 := hd 10 _ _ rfl rfl
      try dsimp only at e10
      have e15 := hd 15 _ _ rfl rfl
      try dsimp only at e15
      simp only [execOp, e10, e15]
      clear hb hd
      go_simp
      exact hK _ hC (trivial)
    refine ex_det 17 [16] rfl rfl (fun _ _ _ _ _ _ _ _ => rfl) ?_
    apply Exists.intro
    refine ⟨?_, ?_⟩
    · intro wx bX kX hk1 hk2 hC hb hd K hK
      have e16 := hd 16 _ _ rfl rfl
      try dsimp only at e16
      have d0 := hC.1.cell (Hc.out i p Hp.out).1 (by simp)
      have d1 := hC.1.cell (Hc.out i p Hp.out).2 (by simp)
      have d2 := hC.1.cell (Hc.out j q Hq.out).1 (by simp)
      have d3 := hC.1.cell (Hc.out j q Hq.out).2 (by simp)
      simp only [execOp, e16]
      clear hb hd
      go_simp
      exact hK _ hC (trivial)
    refine ex_unit (fun _ _ => True) [4, 9] rfl rfl (fun _ _ _ _ _ _ _ _ => rfl) (fun _ _ _ _ _ _ _ => trivial) ?_ ?_
    · intro wx bX kX hk1 hk2 hC hb hd K hK
      have e4 := hb 4 rfl
      simp only [exSlot, List.getD_cons_succ, List.getD_cons_zero] at e4
      have e9 := hd 9 _ _ rfl rfl
      try dsimp only at e9
      simp only [execOp, e4, e9]
      clear hb hd
      have hAA := hC.2.1 (by omega)
      obtain ⟨wy, hrun, hA2, hX2⟩ := hAA.store_ 53 #[.int .i64 p.x, .int .i64 p.y] rfl (by kernel_rfl) (by simp [Value.oneCell'])
      simp only [Sem.run_bind, hrun, Result.andThen_ok, Sem.run_pure, invUpon]
      exact hK _ trivial (⟨hC.1.then hX2 (fun x hx hl => by simp at hx; omega), fun h => absurd h (by first | (simp; done) | (simp; omega)), fun _ => hA2, fun _ => hX2.at (hC.2.2.2.1 (by omega)) (by simp), fun h => absurd h (by first | (simp; done) | (simp; omega))⟩) (trivial)
    refine ex_unit (fun _ _ => True) [5, 17] rfl rfl (fun _ _ _ _ _ _ _ _ => rfl) (fun _ _ _ _ _ _ _ => trivial) ?_ ?_
    · intro wx bX kX hk1 hk2 hC hb hd K hK
      have e5 := hb 5 rfl
      simp only [exSlot, List.getD_cons_succ, List.getD_cons_zero] at e5
      have e17 := hd 17 _ _ rfl rfl
      try dsimp only at e17
      simp only [execOp, e5, e17]
      clear hb hd
      have hAA := hC.2.2.2.1 (by omega)
      obtain ⟨wy, hrun, hA2, hX2⟩ := hAA.store_ 53 #[.int .i64 q.x, .int .i64 q.y] rfl (by kernel_rfl) (by simp [Value.oneCell'])
      simp only [Sem.run_bind, hrun, Result.andThen_ok, Sem.run_pure, invUpon]
      exact hK _ trivial (⟨hC.1.then hX2 (fun x hx hl => by simp at hx; omega), fun h => absurd h (by first | (simp; done) | (simp; omega)), fun _ => hX2.at (hC.2.2.1 (by omega)) (by simp), fun h => absurd h (by first | (simp; done) | (simp; omega)), fun _ => hA2⟩) (trivial)
    refine ex_end ?_
    intro us w2 hus hC hall
    obtain ⟨v0, us, rfl⟩ := List.exists_cons_of_length_eq_add_one hus
    replace hus := Nat.succ.inj hus
    obtain ⟨v1, us, rfl⟩ := List.exists_cons_of_length_eq_add_one hus
    replace hus := Nat.succ.inj hus
    obtain ⟨v2, us, rfl⟩ := List.exists_cons_of_length_eq_add_one hus
    replace hus := Nat.succ.inj hus
    obtain ⟨v3, us, rfl⟩ := List.exists_cons_of_length_eq_add_one hus
    replace hus := Nat.succ.inj hus
    obtain ⟨v4, us, rfl⟩ := List.exists_cons_of_length_eq_add_one hus
    replace hus := Nat.succ.inj hus
    obtain ⟨v5, us, rfl⟩ := List.exists_cons_of_length_eq_add_one hus
    replace hus := Nat.succ.inj hus
    obtain ⟨v6, us, rfl⟩ := List.exists_cons_of_length_eq_add_one hus
    replace hus := Nat.succ.inj hus
    obtain ⟨v7, us, rfl⟩ := List.exists_cons_of_length_eq_add_one hus
    replace hus := Nat.succ.inj hus
    obtain ⟨v8, us, rfl⟩ := List.exists_cons_of_length_eq_add_one hus
    replace hus := Nat.succ.inj hus
    obtain ⟨v9, us, rfl⟩ := List.exists_cons_of_length_eq_add_one hus
    replace hus := Nat.succ.inj hus
    obtain ⟨v10, us, rfl⟩ := List.exists_cons_of_length_eq_add_one hus
    replace hus := Nat.succ.inj hus
    obtain ⟨v11, us, rfl⟩ := List.exists_cons_of_length_eq_add_one hus
    replace hus := Nat.succ.inj hus
    obtain ⟨v12, us, rfl⟩ := List.exists_cons_of_length_eq_add_one hus
    replace hus := Nat.succ.inj hus
    obtain ⟨v13, us, rfl⟩ := List.exists_cons_of_length_eq_add_one hus
    replace hus := Nat.succ.inj hus
    obtain rfl := List.length_eq_zero_iff.1 hus
    clear hus
    generalize hbb : exPuts _ _ _ = bb at hall ⊢
    simp only [exPuts, Act.put, List.setIfInBounds_toArray, List.set_cons_succ, List.set_cons_zero] at hbb
    subst hbb
    obtain ⟨h13, h12, h11, h10, h9, h8, h7, h6, h5, h4, h3, h2, h1, h0, -⟩ := hall
    obtain rfl : v0 = _ := h0
    obtain rfl : v1 = _ := h1
    obtain rfl : v2 = _ := h2
    obtain rfl : v3 = _ := h3
    obtain rfl : v4 = _ := h4
    obtain rfl : v5 = _ := h5
    obtain rfl : v6 = _ := h6
    obtain rfl : v7 = _ := h7
    obtain rfl : v8 = _ := h8
    obtain rfl : v9 = _ := h9
    obtain rfl : v10 = _ := h10
    obtain rfl : v11 = _ := h11
    clear v12 v13
    go_wp2_with (with_reducible refine hold_post ?_)
    refine Lib.hid ?_
    exact bodyPost_ret (res_cc rfl (hC.2.2.1 (by decide)) (by kernel_rfl) rfl (hC.2.2.2.2 rfl) (by kernel_rfl) rfl) rfl ⟨rfl, hC.1⟩
end Go.Proofs.YtpfglmlpodjneaaGreat
namespace Go.Proofs.YtpfglmlpodjneaaGreat
open Go.RowKit

theorem CL.upd {W : World} {L : List (Nat × Array Value)} {k y : Nat} {w w' : World} {c : Array Value} (h : CL W L k w) (hX : Chg [y] w w') (hA : At w' y c) (hW : W.heap.size ≤ y) (L' : List (Nat × Array Value)) (hL : ∀ p ∈ L', p = (y, c) ∨ (p ∈ L ∧ p.1 ≠ y)) : CL W L' k w' := by
  refine ⟨fun p hp => ?_, h.x.then hX (fun x hx hl => by simp at hx; omega)⟩
  rcases hL p hp with rfl | ⟨h1, h2⟩
  · exact hA
  · exact hX.at (h.A p h1) (by simpa using h2)
def apartV (n i k : Nat) (a b c d : PtV) : Bool := if (i + 1) % n = k then (!onB d a b && !onB a c d) else if (k + 1) % n = i then (!onB c a b && !onB b c d) else !meetB a b c d
theorem tmod_nat (i n : Nat) : ((i : Int) + 1).tmod (n : Int) = (((i + 1) % n : Nat) : Int) := by
  rw [Int.tmod_eq_emod_of_nonneg (by omega)]; simp
theorem PtsR.len {w : World} {v : Value} {L : List PtV} (h : PtsR w v L) : L.length ≤ 9223372036854775807 ∧ ∃ a cap, v = .slice a L.length cap := by
  refine ⟨h.1, ?_⟩
  rcases h.2 with ⟨rfl, a, cap, rfl⟩ | ⟨b, off, cap, rfl, _⟩
  · exact ⟨a, cap, rfl⟩
  · exact ⟨_, cap, rfl⟩
set_option maxHeartbeats 4000000 in
set_option maxRecDepth 10000 in
theorem apart_any (W : World) (v : Value) (L : List PtV) (h : PtsR W v L) (i k : Nat) (a b c d : PtV) (ha : L[i]? = some a) (hb : L[(i + 1) % L.length]? = some b) (hc : L[k]? = some c) (hd : L[(k + 1) % L.length]? = some d) :
    Calls Tryz.prog 117 #[v, .int .i64 i, .int .i64 k] W fun e w' => e = .returned (.bool (apartV L.length i k a b c d)) ∧ Chg [] W w' := by
  have hi : i < L.length := (List.getElem?_eq_some_iff.1 ha).1
  have hk : k < L.length := (List.getElem?_eq_some_iff.1 hc).1
  have E1 := fun w (h : PtsR w v L) => edge_any w v L h i _ a b ha hb rfl
  have E2 := fun w (h : PtsR w v L) => edge_any w v L h k _ c d hc hd rfl
  have HO1 := fun w => on_any w d a b
  have HO2 := fun w => on_any w a c d
  have HO3 := fun w => on_any w c a b
  have HO4 := fun w => on_any w b c d
  have HM := fun w => meet_any w a b c d
  have Ho := Lib.hid (show apartV L.length i k a b c d = if (i + 1) % L.length = k then (!onB d a b && !onB a c d) else if (k + 1) % L.length = i then (!onB c a b && !onB b c d) else !meetB a b c d from rfl)
  obtain ⟨hm, ad, cap, rfl⟩ := h.len
  have hP := h
  clear h ha hb hc hd
  have hC := CL.new W 0
  generalize onB d a b = o1 at *
  generalize onB a c d = o2 at *
  generalize onB c a b = o3 at *
  generalize onB b c d = o4 at *
  generalize meetB a b c d = m at *
  have r1 := tmod_nat i L.length
  have r2 := tmod_nat k L.length
  generalize apartV L.length i k a b c d = R at *
  generalize (i + 1) % L.length = i1 at *
  generalize (k + 1) % L.length = k1 at *
  have hw1 : IntKind.i64.wrap ((i : Int) + 1) = (i : Int) + 1 := i64_in _ (by omega) (by omega)
  have hw2 : IntKind.i64.wrap ((k : Int) + 1) = (k : Int) + 1 := i64_in _ (by omega) (by omega)
  have hn0 : L.length ≠ 0 := by omega
  generalize hn : L.length = n at *
  have Hn := Lib.hid hn
  clear hn
  go_enter Tryz.func117, Tryz.ntmps117
  go_wp2_with fail
  refine (E1 _ (hP.keep hC.x)).mono ?_; rintro e w1 ⟨rfl, hX⟩
  replace hC := hC.step (j := 0) hX
  clear hX
  have hb1 := hC.bounds.2
  replace hC := (hC.push #[.int .i64 0, .int .i64 0] 53).push #[.int .i64 0, .int .i64 0] 53
  simp only [alloc_sz] at hC
  have hAA : At _ (w1.heap.size) #[.int .i64 0, .int .i64 0] := hC.get 1 rfl
  go_wp2_with (refine wpList_put rfl rfl rfl rfl hAA rfl (by kernel_rfl) (by simp [Value.oneCell']) ?_; intro w' hA' hX'; refine Hid.out ?_)
  refine Lib.hid ?_
  clear hAA
  replace hC : CL W [(w1.heap.size + 1, #[.int .i64 0, .int .i64 0]), (w1.heap.size, #[.int .i64 a.x, .int .i64 a.y])] 0 w' := hC.upd hX' hA' (by omega) _ (by simp)
  clear hA' hX'
  have hAA : At _ (w1.heap.size + 1) #[.int .i64 0, .int .i64 0] := hC.get 0 rfl
  go_wp2_with (refine wpList_put rfl rfl rfl rfl hAA rfl (by kernel_rfl) (by simp [Value.oneCell']) ?_; intro w' hA' hX'; refine Hid.out ?_)
  refine Lib.hid ?_
  clear hAA
  replace hC : CL W [(w1.heap.size + 1, #[.int .i64 b.x, .int .i64 b.y]), (w1.heap.size, #[.int .i64 a.x, .int .i64 a.y])] 0 w' := hC.upd hX' hA' (by omega) _ (by simp)
  clear hA' hX'
  generalize w1.heap.size = z at *
  go_wp2_with fail
  refine (E2 _ (hP.keep hC.x)).mono ?_; rintro e w1 ⟨rfl, hX⟩
  replace hC := hC.step (j := 0) hX
  clear hX
  have hb1 := hC.bounds.2
  have hb2 := hC.bounds.1 _ (List.mem_cons_self)
  replace hC := (hC.push #[.int .i64 0, .int .i64 0] 53).push #[.int .i64 0, .int .i64 0] 53
  simp only [alloc_sz] at hC
  dsimp only at hb2
  have hAA : At _ (w1.heap.size) #[.int .i64 0, .int .i64 0] := hC.get 1 rfl
  go_wp2_with (refine wpList_put rfl rfl rfl rfl hAA rfl (by kernel_rfl) (by simp [Value.oneCell']) ?_; intro w' hA' hX'; refine Hid.out ?_)
  refine Lib.hid ?_
  clear hAA
  replace hC : CL W [(w1.heap.size + 1, #[.int .i64 0, .int .i64 0]), (w1.heap.size, #[.int .i64 c.x, .int .i64 c.y]), (z + 1, #[.int .i64 b.x, .int .i64 b.y]), (z, #[.int .i64 a.x, .int .i64 a.y])] 0 w' := hC.upd hX' hA' (by omega) _ (by simp; omega)
  clear hA' hX'
  have hAA : At _ (w1.heap.size + 1) #[.int .i64 0, .int .i64 0] := hC.get 0 rfl
  go_wp2_with (refine wpList_put rfl rfl rfl rfl hAA rfl (by kernel_rfl) (by simp [Value.oneCell']) ?_; intro w' hA' hX'; refine Hid.out ?_)
  refine Lib.hid ?_
  clear hAA
  replace hC : CL W [(w1.heap.size + 1, #[.int .i64 d.x, .int .i64 d.y]), (w1.heap.size, #[.int .i64 c.x, .int .i64 c.y]), (z + 1, #[.int .i64 b.x, .int .i64 b.y]), (z, #[.int .i64 a.x, .int .i64 a.y])] 0 w' := hC.upd hX' hA' (by omega) _ (by simp; omega)
  clear hA' hX'
  generalize w1.heap.size = y at *
  obtain ⟨f0, f1⟩ := hC.cells 0 rfl
  obtain ⟨f2, f3⟩ := hC.cells 1 rfl
  obtain ⟨f4, f5⟩ := hC.cells 2 rfl
  obtain ⟨f6, f7⟩ := hC.cells 3 rfl
  by_cases h1 : i1 = k
  · rw [if_pos h1] at Ho
    subst h1
    go_wp2_with fail
    refine (HO1 _).mono ?_; rintro e w' ⟨rfl, hX⟩
    replace hC := hC.step (j := 0) hX
    clear hX
    clear f0 f1 f2 f3 f4 f5 f6 f7
    obtain ⟨f0, f1⟩ := hC.cells 0 rfl
    obtain ⟨f2, f3⟩ := hC.cells 1 rfl
    obtain ⟨f4, f5⟩ := hC.cells 2 rfl
    obtain ⟨f6, f7⟩ := hC.cells 3 rfl
    cases o1 with
    | false =>
      go_wp2_with fail
      refine (HO2 _).mono ?_; rintro e w' ⟨rfl, hX⟩
      replace hC := hC.step (j := 0) hX
      clear hX
      clear f0 f1 f2 f3 f4 f5 f6 f7
      obtain ⟨f0, f1⟩ := hC.cells 0 rfl
      obtain ⟨f2, f3⟩ := hC.cells 1 rfl
      obtain ⟨f4, f5⟩ := hC.cells 2 rfl
      obtain ⟨f6, f7⟩ := hC.cells 3 rfl
      cases o2 with
      | false =>
        go_wp2
        all_goals go_returns
        all_goals exact ⟨ret_bool (by rw [Ho.out]; rfl), hC.x⟩
      | true =>
        go_wp2
        all_goals go_returns
        all_goals exact ⟨ret_bool (by rw [Ho.out]; rfl), hC.x⟩
    | true =>
      go_wp2
      all_goals go_returns
      all_goals exact ⟨ret_bool (by rw [Ho.out]; rfl), hC.x⟩
  · rw [if_neg h1] at Ho
    by_cases h2 : k1 = i
    · rw [if_pos h2] at Ho
      subst h2
      go_wp2_with fail
      refine (HO3 _).mono ?_; rintro e w' ⟨rfl, hX⟩
      replace hC := hC.step (j := 0) hX
      clear hX
      clear f0 f1 f2 f3 f4 f5 f6 f7
      obtain ⟨f0, f1⟩ := hC.cells 0 rfl
      obtain ⟨f2, f3⟩ := hC.cells 1 rfl
      obtain ⟨f4, f5⟩ := hC.cells 2 rfl
      obtain ⟨f6, f7⟩ := hC.cells 3 rfl
      cases o3 with
      | false =>
        go_wp2_with fail
        refine (HO4 _).mono ?_; rintro e w' ⟨rfl, hX⟩
        replace hC := hC.step (j := 0) hX
        clear hX
        clear f0 f1 f2 f3 f4 f5 f6 f7
        obtain ⟨f0, f1⟩ := hC.cells 0 rfl
        obtain ⟨f2, f3⟩ := hC.cells 1 rfl
        obtain ⟨f4, f5⟩ := hC.cells 2 rfl
        obtain ⟨f6, f7⟩ := hC.cells 3 rfl
        cases o4 with
        | false =>
          go_wp2
          all_goals go_returns
          all_goals exact ⟨ret_bool (by rw [Ho.out]; rfl), hC.x⟩
        | true =>
          go_wp2
          all_goals go_returns
          all_goals exact ⟨ret_bool (by rw [Ho.out]; rfl), hC.x⟩
      | true =>
        go_wp2
        all_goals go_returns
        all_goals exact ⟨ret_bool (by rw [Ho.out]; rfl), hC.x⟩
    · rw [if_neg h2] at Ho
      go_wp2_with fail
      refine (HM _).mono ?_; rintro e w' ⟨rfl, hX⟩
      replace hC := hC.step (j := 0) hX
      clear hX
      clear f0 f1 f2 f3 f4 f5 f6 f7
      obtain ⟨f0, f1⟩ := hC.cells 0 rfl
      obtain ⟨f2, f3⟩ := hC.cells 1 rfl
      obtain ⟨f4, f5⟩ := hC.cells 2 rfl
      obtain ⟨f6, f7⟩ := hC.cells 3 rfl
      cases m with
      | false =>
        go_wp2
        all_goals go_returns
        all_goals exact ⟨ret_bool (by rw [Ho.out]; rfl), hC.x⟩
      | true =>
        go_wp2
        all_goals go_returns
        all_goals exact ⟨ret_bool (by rw [Ho.out]; rfl), hC.x⟩
end Go.Proofs.YtpfglmlpodjneaaGreat
namespace Go.Proofs.YtpfglmlpodjneaaGreat
open Go.RowKit

theorem clo_simple (w : World) (p : PtV) : Calls Tryz.prog 115 #[.agg #[.int .i64 p.x, .int .i64 p.y]] w fun e w' => e = .returned (.bool (!p.ok)) ∧ Chg [] w w' := by
  have H := fun w => ptright_any w p
  have hA := At.new w #[.int .i64 p.x, .int .i64 p.y] 53
  have hX : Chg [] w (w.alloc (.cells #[.int .i64 p.x, .int .i64 p.y] 53)) := (Chg.refl [] w).alloc _
  have c0 := hA.cell 0
  have c1 := hA.cell 1
  go_enter Tryz.func115, Tryz.ntmps115
  go_wp2_with fail
  refine (H _).mono ?_; rintro e w' ⟨rfl, hY⟩
  go_wp2
  go_returns
  exact ⟨rfl, hX.trans hY⟩
theorem run_max4 {P : Program} (w : World) (ts : Array TypeId) (t : TypeId) (x y z u : Int) : (Builtin.max_ ts t #[.int .i64 x, .int .i64 y, .int .i64 z, .int .i64 u]).run P w = .ok (.int .i64 (max (max (max x y) z) u)) w := by
  have e : ∀ a b : Int, (if b > a then b else a) = max a b := fun a b => by omega
  have : (Builtin.max_ ts t #[.int .i64 x, .int .i64 y, .int .i64 z, .int .i64 u]).run P w = .ok (.int .i64 (if u > (if z > (if y > x then y else x) then z else (if y > x then y else x)) then u else (if z > (if y > x then y else x) then z else (if y > x then y else x)))) w := by
    simp [Builtin.max_, Builtin.max2]
  rw [this]
  simp only [e]
/-- A corner too far out. -/
def PtV.far (p : PtV) : Bool := decide (1073741824 < max p.x (max (wrap64 (-p.x)) (max p.y (wrap64 (-p.y)))))
theorem clo_far (w : World) (p : PtV) : Calls Tryz.prog 102 #[.agg #[.int .i64 p.x, .int .i64 p.y]] w fun e w' => e = .returned (.bool p.far) ∧ Chg [] w w' := by
  have hA := At.new w #[.int .i64 p.x, .int .i64 p.y] 53
  have hX : Chg [] w (w.alloc (.cells #[.int .i64 p.x, .int .i64 p.y] 53)) := (Chg.refl [] w).alloc _
  have c0 := hA.cell 0
  have c1 := hA.cell 1
  have Hf := Lib.hid (show p.far = decide (1073741824 < max p.x (max (wrap64 (-p.x)) (max p.y (wrap64 (-p.y))))) from rfl)
  generalize p.far = R at *
  have hmx := fun (w : World) ts t x y z u => run_max4 (P := Tryz.prog) w ts t x y z u
  go_enter Tryz.func102, Tryz.ntmps102
  go_wp2_with (simp only [hmx])
  all_goals go_wp2
  go_returns
  exact ⟨ret_bool (by rw [Hf.out]), hX⟩
set_option maxHeartbeats 1000000 in
theorem idx_simple (W : World) (v : Value) (L : List PtV) (h : PtsR W v L) : Calls Tryz.prog 118 #[v, .func (.func 115) #[] #[]] W (IdxPost W (L.any fun p => (!p.ok))) := by
  obtain ⟨hm, h⟩ := h
  obtain ⟨R, hR⟩ : ∃ R, (L.any fun p => (!p.ok)) = R := ⟨_, rfl⟩
  rw [hR]
  have HC := fun w p => clo_simple w p
  rcases h with ⟨rfl, a, cap, rfl⟩ | ⟨b, off, cap, rfl, h0, hc⟩
  · have HR := Lib.hid hR
    clear hR
    go_enter Tryz.func118, Tryz.ntmps118
    go_wp2_with fail
    go_loopg [5, 8] 0 (fun g a i wr => i = .int .i64 0 ∧ wr = W)
    case atStart => exact ⟨rfl, rfl⟩
    case round =>
      obtain ⟨rfl, rfl⟩ := hrel
      go_wp2_with (with_reducible refine hold_post ?_)
      refine Lib.hid ?_
      exact bodyPost_ret (v := .int .i64 (-1)) (by simp [results, Tryz.results118]) rfl ⟨-1, rfl, by rw [← HR.out]; rfl, Chg.refl _ _⟩
  · have Hc := Lib.hid hc
    have HR := Lib.hid (show ((L.drop 0).any fun p => (!p.ok)) = R from hR)
    clear hR hc
    have hmi : (L.length : Int) ≤ 9223372036854775807 := by omega
    generalize hn : L.length = n at *
    have Hn := Lib.hid hn
    clear hn
    go_enter Tryz.func118, Tryz.ntmps118
    go_wp2_with fail
    go_loopg [5, 8] n (fun gk a i wr => ∃ k : Nat, k + gk = n ∧ i = .int .i64 k ∧ Chg [] W wr ∧ Hid (((L.drop k).any fun p => (!p.ok)) = R))
    case atStart => exact ⟨0, by omega, rfl, Chg.refl _ _, HR⟩
    case round =>
      obtain ⟨k, hk, rfl, hX, Hk⟩ := hrel
      by_cases hlt : k < n
      · obtain ⟨p, hp⟩ : ∃ p, L[k]? = some p := ⟨L[k]'(by rw [Hn.out]; exact hlt), List.getElem?_eq_getElem _⟩
        have d0 := hX.cell (Hc.out k p hp).1 (by simp)
        have d1 := hX.cell (Hc.out k p hp).2 (by simp)
        have Hd := Lib.hid (any_drop (fun p => (!p.ok)) L k p hp)
        have Hp := Lib.hid hp
        clear hp
        have g0 : (0 : Int) ≤ (k : Int) := by omega
        have g1 : (k : Int) < (n : Int) := by omega
        have g2 : (k : Int).toNat = k := by omega
        go_wp2_with fail
        refine (HC _ p).mono ?_; rintro e w' ⟨rfl, hY⟩
        replace hX := hX.trans hY
        clear d0 d1 hY
        cases hB : (fun p => (!p.ok)) p with
        | true =>
          try dsimp only at hB
          rw [hB]
          go_wp2_with (with_reducible refine hold_post ?_)
          refine Lib.hid ?_
          exact bodyPost_ret (v := .int .i64 k) (by simp [results, Tryz.results118]) rfl ⟨k, rfl, by rw [← Hk.out, Hd.out]; (try dsimp only); rw [hB, decide_eq_true g0]; rfl, hX⟩
        | false =>
          try dsimp only at hB
          rw [hB]
          have Hk2 := Lib.hid (show ((L.drop (k + 1)).any fun p => (!p.ok)) = R by have := Hk.out; rw [Hd.out] at this; (try dsimp only at this); rw [hB, Bool.false_or] at this; exact this)
          clear hB
          go_wp2_with fail
          go_roundg (gk - 1)
          case rel => exact ⟨k + 1, by omega, by go_num, hX, Hk2⟩
          case measure => omega
      · obtain rfl : gk = 0 := by omega
        have HRf : R = false := by rw [← Hk.out, List.drop_eq_nil_of_le (by rw [Hn.out]; omega)]; rfl
        have HRF := Lib.hid HRf
        clear HRf
        go_wp2_with (with_reducible refine hold_post ?_)
        refine Lib.hid ?_
        exact bodyPost_ret (v := .int .i64 (-1)) (by simp [results, Tryz.results118]) rfl ⟨-1, rfl, by rw [HRF.out]; rfl, hX⟩
theorem has_simple (W : World) (v : Value) (L : List PtV) (h : PtsR W v L) : Calls Tryz.prog 101 #[v, .func (.func 115) #[] #[]] W fun e w' => e = .returned (.bool (L.any fun p => (!p.ok))) ∧ Chg [] W w' := by
  have HI := idx_simple W v L h
  generalize (L.any fun p => (!p.ok)) = R at *
  clear h
  go_enter Tryz.func101, Tryz.ntmps101
  go_wp2_with fail
  refine HI.mono ?_; rintro e w' ⟨r, rfl, hr, hX⟩
  have Hr := Lib.hid hr
  clear hr
  go_wp2_with (with_reducible refine hold_post ?_)
  all_goals (first | refine Lib.hid ?_ | skip)
  all_goals exact bodyPost_ret (v := .bool R) (by rw [← Hr.out]; simp [results, Tryz.results101, *]) rfl ⟨rfl, hX⟩
set_option maxHeartbeats 1000000 in
theorem idx_far (W : World) (v : Value) (L : List PtV) (h : PtsR W v L) : Calls Tryz.prog 118 #[v, .func (.func 102) #[] #[]] W (IdxPost W (L.any fun p => (p.far))) := by
  obtain ⟨hm, h⟩ := h
  obtain ⟨R, hR⟩ : ∃ R, (L.any fun p => (p.far)) = R := ⟨_, rfl⟩
  rw [hR]
  have HC := fun w p => clo_far w p
  rcases h with ⟨rfl, a, cap, rfl⟩ | ⟨b, off, cap, rfl, h0, hc⟩
  · have HR := Lib.hid hR
    clear hR
    go_enter Tryz.func118, Tryz.ntmps118
    go_wp2_with fail
    go_loopg [5, 8] 0 (fun g a i wr => i = .int .i64 0 ∧ wr = W)
    case atStart => exact ⟨rfl, rfl⟩
    case round =>
      obtain ⟨rfl, rfl⟩ := hrel
      go_wp2_with (with_reducible refine hold_post ?_)
      refine Lib.hid ?_
      exact bodyPost_ret (v := .int .i64 (-1)) (by simp [results, Tryz.results118]) rfl ⟨-1, rfl, by rw [← HR.out]; rfl, Chg.refl _ _⟩
  · have Hc := Lib.hid hc
    have HR := Lib.hid (show ((L.drop 0).any fun p => (p.far)) = R from hR)
    clear hR hc
    have hmi : (L.length : Int) ≤ 9223372036854775807 := by omega
    generalize hn : L.length = n at *
    have Hn := Lib.hid hn
    clear hn
    go_enter Tryz.func118, Tryz.ntmps118
    go_wp2_with fail
    go_loopg [5, 8] n (fun gk a i wr => ∃ k : Nat, k + gk = n ∧ i = .int .i64 k ∧ Chg [] W wr ∧ Hid (((L.drop k).any fun p => (p.far)) = R))
    case atStart => exact ⟨0, by omega, rfl, Chg.refl _ _, HR⟩
    case round =>
      obtain ⟨k, hk, rfl, hX, Hk⟩ := hrel
      by_cases hlt : k < n
      · obtain ⟨p, hp⟩ : ∃ p, L[k]? = some p := ⟨L[k]'(by rw [Hn.out]; exact hlt), List.getElem?_eq_getElem _⟩
        have d0 := hX.cell (Hc.out k p hp).1 (by simp)
        have d1 := hX.cell (Hc.out k p hp).2 (by simp)
        have Hd := Lib.hid (any_drop (fun p => (p.far)) L k p hp)
        have Hp := Lib.hid hp
        clear hp
        have g0 : (0 : Int) ≤ (k : Int) := by omega
        have g1 : (k : Int) < (n : Int) := by omega
        have g2 : (k : Int).toNat = k := by omega
        go_wp2_with fail
        refine (HC _ p).mono ?_; rintro e w' ⟨rfl, hY⟩
        replace hX := hX.trans hY
        clear d0 d1 hY
        cases hB : (fun p => (p.far)) p with
        | true =>
          try dsimp only at hB
          rw [hB]
          go_wp2_with (with_reducible refine hold_post ?_)
          refine Lib.hid ?_
          exact bodyPost_ret (v := .int .i64 k) (by simp [results, Tryz.results118]) rfl ⟨k, rfl, by rw [← Hk.out, Hd.out]; (try dsimp only); rw [hB, decide_eq_true g0]; rfl, hX⟩
        | false =>
          try dsimp only at hB
          rw [hB]
          have Hk2 := Lib.hid (show ((L.drop (k + 1)).any fun p => (p.far)) = R by have := Hk.out; rw [Hd.out] at this; (try dsimp only at this); rw [hB, Bool.false_or] at this; exact this)
          clear hB
          go_wp2_with fail
          go_roundg (gk - 1)
          case rel => exact ⟨k + 1, by omega, by go_num, hX, Hk2⟩
          case measure => omega
      · obtain rfl : gk = 0 := by omega
        have HRf : R = false := by rw [← Hk.out, List.drop_eq_nil_of_le (by rw [Hn.out]; omega)]; rfl
        have HRF := Lib.hid HRf
        clear HRf
        go_wp2_with (with_reducible refine hold_post ?_)
        refine Lib.hid ?_
        exact bodyPost_ret (v := .int .i64 (-1)) (by simp [results, Tryz.results118]) rfl ⟨-1, rfl, by rw [HRF.out]; rfl, hX⟩
theorem has_far (W : World) (v : Value) (L : List PtV) (h : PtsR W v L) : Calls Tryz.prog 101 #[v, .func (.func 102) #[] #[]] W fun e w' => e = .returned (.bool (L.any fun p => (p.far))) ∧ Chg [] W w' := by
  have HI := idx_far W v L h
  generalize (L.any fun p => (p.far)) = R at *
  clear h
  go_enter Tryz.func101, Tryz.ntmps101
  go_wp2_with fail
  refine HI.mono ?_; rintro e w' ⟨r, rfl, hr, hX⟩
  have Hr := Lib.hid hr
  clear hr
  go_wp2_with (with_reducible refine hold_post ?_)
  all_goals (first | refine Lib.hid ?_ | skip)
  all_goals exact bodyPost_ret (v := .bool R) (by rw [← Hr.out]; simp [results, Tryz.results101, *]) rfl ⟨rfl, hX⟩
end Go.Proofs.YtpfglmlpodjneaaGreat
