/- Walk of the law WideTells. -/
import Derived.Test.YtlhnnfofdkjapaaWrc
namespace Go.Proofs.Ytlhnnfofdkjapaa
open Go.RowKit

theorem CL.alloc0 {W : World} {L : List (Nat × Array Value)} {k j : Nat} {w : World} (h : CL W L k w) (o : Obj) : CL W L j (w.alloc o) := ⟨fun p hp => (h.A p hp).alloc _, h.x.alloc _⟩
theorem CL.store2 {W : World} {L : List (Nat × Array Value)} {k j y zb : Nat} {w : World} (h : CL W L k w) (hy : zb ≤ y) (hbs : ∀ p ∈ L, p.1 < zb) (hbW : W.heap.size ≤ zb) (u v : Value) : CL W L j ((w.setCell ⟨y, 0, none⟩ u).setCell ⟨y, 1, none⟩ v) :=
  ⟨fun p hp => At.other (At.other (h.A p hp) ⟨y, 0, none⟩ u (by have := hbs p hp; simp only; omega)) ⟨y, 1, none⟩ v (by have := hbs p hp; simp only; omega), h.x.set2 (by omega) _ _⟩
theorem CL.cons {W : World} {L : List (Nat × Array Value)} {k y : Nat} {w : World} {c : Array Value} (h : CL W L k w) (hb : At w y c) : CL W ((y, c) :: L) k w := by
  refine ⟨fun p hp => ?_, h.x⟩
  rcases List.mem_cons.1 hp with rfl | hp
  · exact hb
  · exact h.A p hp
theorem CL.bounds {W : World} {L : List (Nat × Array Value)} {k : Nat} {w : World} (h : CL W L k w) : (∀ p ∈ L, p.1 < w.heap.size) ∧ W.heap.size ≤ w.heap.size := ⟨fun p hp => (h.A p hp).lt, h.x.size⟩
theorem like_any (w : World) (a : WV) : Calls Try.prog 12 #[.agg a.cells] w fun e w' => e = .returned (.agg a.cells) ∧ Chg [] w w' := by
  have A0 := (At.new w #[.int .i64 a.hi, .int .u64 a.lo] 24).alloc (.cells #[.int .i64 0, .int .u64 0] 27)
  have a0 := A0.cell 0; have a1 := A0.cell 1
  rw [wv_cells a]
  go_enter Try.func12, Try.ntmps12
  go_wp2_with fail
  go_returns
  exact ⟨rfl, ((Chg.refl [] w).alloc _).alloc _⟩
/-- What has come up of a region. -/
structure TlI5 (W : World) (z z1 z2 z3 zb : Nat) (a b s d n : WV) (p q r fi : Bool) (i : Int) (L : Array Bool) (ac : Act) (wx : World) : Prop where
  ex : ∃ v13 v14 v43 v44 v45 v46 v47 v48 v49 v50, ac = { tmps := #[.agg #[.int .i64 a.hi, .int .u64 a.lo], .agg #[.int .i64 b.hi, .int .u64 b.lo], .pointer (some ⟨z, 0, none⟩), .pointer (some ⟨z + 1, 0, none⟩), .bool false, .pointer (some ⟨z1, 0, none⟩), .bool p, .pointer (some ⟨z2, 0, none⟩), .bool q, .pointer (some ⟨z3, 0, none⟩), .bool r, .int .i64 i, .bool fi, v13, v14, undef, undef, undef, undef, undef, undef, .tuple #[.agg #[.int .i64 s.hi, .int .u64 s.lo], .bool p], .agg #[.int .i64 a.hi, .int .u64 a.lo], .agg #[.int .i64 b.hi, .int .u64 b.lo], .tuple #[.agg #[.int .i64 s.hi, .int .u64 s.lo], .bool p], .agg #[.int .i64 s.hi, .int .u64 s.lo], .bool p, .tuple #[.agg #[.int .i64 d.hi, .int .u64 d.lo], .bool q], .agg #[.int .i64 a.hi, .int .u64 a.lo], .agg #[.int .i64 b.hi, .int .u64 b.lo], .tuple #[.agg #[.int .i64 d.hi, .int .u64 d.lo], .bool q], .agg #[.int .i64 d.hi, .int .u64 d.lo], .bool q, .tuple #[.agg #[.int .i64 n.hi, .int .u64 n.lo], .bool r], .agg #[.int .i64 a.hi, .int .u64 a.lo], .tuple #[.agg #[.int .i64 n.hi, .int .u64 n.lo], .bool r], .agg #[.int .i64 n.hi, .int .u64 n.lo], .bool r, .tuple #[.int .i64 i, .bool fi], .agg #[.int .i64 a.hi, .int .u64 a.lo], .tuple #[.int .i64 i, .bool fi], .int .i64 i, .bool fi, v43, v44, v45, v46, v47, v48, v49, v50, undef, undef, undef, undef, undef, undef, undef, undef, undef, undef, undef, undef, undef, undef, undef, undef, undef, undef, undef, undef, undef, undef, undef, undef, undef, undef, undef, undef, undef, undef, undef, undef, undef, undef, undef, undef, undef, undef, undef, undef, undef, undef, undef, undef, undef, undef, undef, undef, undef, undef, undef, undef, undef, undef, undef, undef, undef, undef, undef, undef, undef, undef, undef, undef, undef, undef, undef, undef, undef, undef, undef, undef, undef, undef, undef, undef, undef, undef, undef, undef, undef, undef, undef, undef], defers := [] } ∧ (L.getD 0 false = true → v44 = .agg #[.int .i64 a.hi, .int .u64 a.lo]) ∧ (L.getD 1 false = true → v45 = .agg #[.int .i64 a.hi, .int .u64 a.lo]) ∧ (L.getD 2 false = true → v46 = .agg #[.int .i64 b.hi, .int .u64 b.lo]) ∧ (L.getD 3 false = true → v47 = .agg #[.int .i64 b.hi, .int .u64 b.lo]) ∧ (L.getD 4 false = true → v48 = .tuple #[.agg #[.int .i64 s.hi, .int .u64 s.lo], .bool p]) ∧ (L.getD 5 false = true → v43 = .tuple #[.agg #[.int .i64 s.hi, .int .u64 s.lo], .bool p]) ∧ (L.getD 6 false = true → v49 = .agg #[.int .i64 s.hi, .int .u64 s.lo]) ∧ (L.getD 7 false = true → v50 = .bool p) ∧ (L.getD 10 false = true → v14 = .bool p) ∧ (L.getD 8 false = true → ∃ y, v13 = .pointer (some ⟨y, 0, none⟩) ∧ zb ≤ y ∧ At wx y (if L.getD 9 false = true then #[.int .i64 s.hi, .int .u64 s.lo] else #[.int .i64 0, .int .u64 0])) ∧ (L.getD 9 false = true → L.getD 8 false = true) ∧ CL W [(z3, #[.int .i64 n.hi, .int .u64 n.lo]), (z2, #[.int .i64 d.hi, .int .u64 d.lo]), (z1, #[.int .i64 s.hi, .int .u64 s.lo]), (z + 1, #[.int .i64 b.hi, .int .u64 b.lo]), (z, #[.int .i64 a.hi, .int .u64 a.lo])] 0 wx ∧ zb ≤ wx.heap.size
/-- What has come up of a region. -/
structure TlI6 (W : World) (z z1 z2 z3 y1 zb : Nat) (a b s d n : WV) (p q r fi : Bool) (i : Int) (L : Array Bool) (ac : Act) (wx : World) : Prop where
  ex : ∃ v15 v16 v51 v52 v53 v54 v55 v56 v57 v58, ac = { tmps := #[.agg #[.int .i64 a.hi, .int .u64 a.lo], .agg #[.int .i64 b.hi, .int .u64 b.lo], .pointer (some ⟨z, 0, none⟩), .pointer (some ⟨z + 1, 0, none⟩), .bool false, .pointer (some ⟨z1, 0, none⟩), .bool p, .pointer (some ⟨z2, 0, none⟩), .bool q, .pointer (some ⟨z3, 0, none⟩), .bool r, .int .i64 i, .bool fi, .pointer (some ⟨y1, 0, none⟩), .bool p, v15, v16, undef, undef, undef, undef, .tuple #[.agg #[.int .i64 s.hi, .int .u64 s.lo], .bool p], .agg #[.int .i64 a.hi, .int .u64 a.lo], .agg #[.int .i64 b.hi, .int .u64 b.lo], .tuple #[.agg #[.int .i64 s.hi, .int .u64 s.lo], .bool p], .agg #[.int .i64 s.hi, .int .u64 s.lo], .bool p, .tuple #[.agg #[.int .i64 d.hi, .int .u64 d.lo], .bool q], .agg #[.int .i64 a.hi, .int .u64 a.lo], .agg #[.int .i64 b.hi, .int .u64 b.lo], .tuple #[.agg #[.int .i64 d.hi, .int .u64 d.lo], .bool q], .agg #[.int .i64 d.hi, .int .u64 d.lo], .bool q, .tuple #[.agg #[.int .i64 n.hi, .int .u64 n.lo], .bool r], .agg #[.int .i64 a.hi, .int .u64 a.lo], .tuple #[.agg #[.int .i64 n.hi, .int .u64 n.lo], .bool r], .agg #[.int .i64 n.hi, .int .u64 n.lo], .bool r, .tuple #[.int .i64 i, .bool fi], .agg #[.int .i64 a.hi, .int .u64 a.lo], .tuple #[.int .i64 i, .bool fi], .int .i64 i, .bool fi, .tuple #[.agg #[.int .i64 s.hi, .int .u64 s.lo], .bool p], .agg #[.int .i64 a.hi, .int .u64 a.lo], .agg #[.int .i64 a.hi, .int .u64 a.lo], .agg #[.int .i64 b.hi, .int .u64 b.lo], .agg #[.int .i64 b.hi, .int .u64 b.lo], .tuple #[.agg #[.int .i64 s.hi, .int .u64 s.lo], .bool p], .agg #[.int .i64 s.hi, .int .u64 s.lo], .bool p, v51, v52, v53, v54, v55, v56, v57, v58, undef, undef, undef, undef, undef, undef, undef, undef, undef, undef, undef, undef, undef, undef, undef, undef, undef, undef, undef, undef, undef, undef, undef, undef, undef, undef, undef, undef, undef, undef, undef, undef, undef, undef, undef, undef, undef, undef, undef, undef, undef, undef, undef, undef, undef, undef, undef, undef, undef, undef, undef, undef, undef, undef, undef, undef, undef, undef, undef, undef, undef, undef, undef, undef, undef, undef, undef, undef, undef, undef, undef, undef, undef, undef, undef, undef], defers := [] } ∧ (L.getD 0 false = true → v52 = .agg #[.int .i64 a.hi, .int .u64 a.lo]) ∧ (L.getD 1 false = true → v53 = .agg #[.int .i64 a.hi, .int .u64 a.lo]) ∧ (L.getD 2 false = true → v54 = .agg #[.int .i64 b.hi, .int .u64 b.lo]) ∧ (L.getD 3 false = true → v55 = .agg #[.int .i64 b.hi, .int .u64 b.lo]) ∧ (L.getD 4 false = true → v56 = .tuple #[.agg #[.int .i64 d.hi, .int .u64 d.lo], .bool q]) ∧ (L.getD 5 false = true → v51 = .tuple #[.agg #[.int .i64 d.hi, .int .u64 d.lo], .bool q]) ∧ (L.getD 6 false = true → v57 = .agg #[.int .i64 d.hi, .int .u64 d.lo]) ∧ (L.getD 7 false = true → v58 = .bool q) ∧ (L.getD 10 false = true → v16 = .bool q) ∧ (L.getD 8 false = true → ∃ y, v15 = .pointer (some ⟨y, 0, none⟩) ∧ zb ≤ y ∧ At wx y (if L.getD 9 false = true then #[.int .i64 d.hi, .int .u64 d.lo] else #[.int .i64 0, .int .u64 0])) ∧ (L.getD 9 false = true → L.getD 8 false = true) ∧ CL W [(y1, #[.int .i64 s.hi, .int .u64 s.lo]), (z3, #[.int .i64 n.hi, .int .u64 n.lo]), (z2, #[.int .i64 d.hi, .int .u64 d.lo]), (z1, #[.int .i64 s.hi, .int .u64 s.lo]), (z + 1, #[.int .i64 b.hi, .int .u64 b.lo]), (z, #[.int .i64 a.hi, .int .u64 a.lo])] 0 wx ∧ zb ≤ wx.heap.size
set_option maxRecDepth 100000 in
set_option maxHeartbeats 8000000 in
theorem WideTells_walk (W : World) (c1 : Array Value) (x1 : shWV.T) (h1 : shWV.rep W x1 c1.toList) (c2 : Array Value) (x2 : shWV.T) (h2 : shWV.rep W x2 c2.toList) :
    Calls Try.prog 9 #[.agg c1, .agg c2] W fun e w' => e = .returned (.bool true) ∧ Below W.heap.size W w' := by
  obtain ⟨rfl, ha⟩ := wv_of h1
  obtain ⟨rfl, hb⟩ := wv_of h2
  clear h1 h2
  generalize toWV x1 = a at *
  generalize toWV x2 = b at *
  have P1 := fun w => wadd_any w a b ha hb
  have P2 := fun w => wsub_any w a b ha hb
  have P3 := fun w => wneg_any w a ha
  have P4 := fun w => wint_any w a ha
  have R1 := fun w => radd_any w a b ha hb
  have R2 := fun w => rsub_any w a b ha hb
  have R3 := fun w => rneg_any w a ha
  have R4 := fun w => rint_any w a ha
  have K1 := fun w => like_any w a
  have K2 := fun w => like_any w b
  have N1 := fun w => wcmp_any w a b ha hb
  have N2 := fun w => rcmp_any w a b ha hb
  have N3 := fun w => wsign_any w a ha
  have N4 := fun w => rcmp_any w a WV.zero ha zero_ok
  rw [show cmpV a WV.zero = cmpI a.val 0 from rfl, show WV.zero.cells = #[.int .i64 0, .int .u64 0] from rfl] at N4
  generalize fitsV (a.val + b.val) = p at *
  generalize fitsV (a.val - b.val) = q at *
  generalize fitsV (-a.val) = r at *
  generalize addV (a.val + b.val) = s at *
  generalize addV (a.val - b.val) = d at *
  generalize addV (-a.val) = n at *
  generalize fits64 a.val = fi at *
  generalize int64V a.val = i at *
  generalize cmpV a b = cm at *
  generalize cmpI a.val 0 = sg at *
  have K3 := fun w => like_any w s
  have K4 := fun w => like_any w d
  have K5 := fun w => like_any w n
  clear ha hb
  simp only [wv_cells] at *
  replace P1 := Lib.hid P1
  replace P2 := Lib.hid P2
  replace P3 := Lib.hid P3
  replace P4 := Lib.hid P4
  replace R1 := Lib.hid R1
  replace R2 := Lib.hid R2
  replace R3 := Lib.hid R3
  replace R4 := Lib.hid R4
  replace K1 := Lib.hid K1
  replace K2 := Lib.hid K2
  replace K3 := Lib.hid K3
  replace K4 := Lib.hid K4
  replace K5 := Lib.hid K5
  replace N1 := Lib.hid N1
  replace N2 := Lib.hid N2
  replace N3 := Lib.hid N3
  replace N4 := Lib.hid N4
  have C := ((CL.new W 0).push #[.int .i64 a.hi, .int .u64 a.lo] 24).push #[.int .i64 b.hi, .int .u64 b.lo] 24
  rw [show (W.alloc (.cells #[.int .i64 a.hi, .int .u64 a.lo] 24)).heap.size = W.heap.size + 1 from by simp] at C
  go_enter Try.func9, Try.ntmps9
  generalize hzW : W.heap.size = z at *
  have cc0 := C.cells 0 rfl
  have cc1 := C.cells 1 rfl
  go_wp2_with fail
  refine (P1.out _).mono ?_; rintro e w1 ⟨rfl, hX⟩
  clear cc0 cc1
  replace C := (C.step (j := 0) hX).push #[.int .i64 s.hi, .int .u64 s.lo] 24
  clear hX
  generalize hz1 : w1.heap.size = z1 at *
  have cc0 := C.cells 0 rfl
  have cc1 := C.cells 1 rfl
  have cc2 := C.cells 2 rfl
  go_wp2_with fail
  refine (P2.out _).mono ?_; rintro e w2 ⟨rfl, hX⟩
  clear cc0 cc1 cc2
  replace C := (C.step (j := 0) hX).push #[.int .i64 d.hi, .int .u64 d.lo] 24
  clear hX
  generalize hz2 : w2.heap.size = z2 at *
  have cc0 := C.cells 0 rfl
  have cc1 := C.cells 1 rfl
  have cc2 := C.cells 2 rfl
  have cc3 := C.cells 3 rfl
  go_wp2_with fail
  refine (P3.out _).mono ?_; rintro e w3 ⟨rfl, hX⟩
  clear cc0 cc1 cc2 cc3
  replace C := (C.step (j := 0) hX).push #[.int .i64 n.hi, .int .u64 n.lo] 24
  clear hX
  generalize hz3 : w3.heap.size = z3 at *
  have cc0 := C.cells 0 rfl
  have cc1 := C.cells 1 rfl
  have cc2 := C.cells 2 rfl
  have cc3 := C.cells 3 rfl
  have cc4 := C.cells 4 rfl
  go_wp2_with fail
  refine (P4.out _).mono ?_; rintro e w4 ⟨rfl, hX⟩
  clear cc0 cc1 cc2 cc3 cc4
  replace C := C.step (j := 0) hX
  clear hX
  have cc0 := C.cells 0 rfl
  have cc1 := C.cells 1 rfl
  have cc2 := C.cells 2 rfl
  have cc3 := C.cells 3 rfl
  have cc4 := C.cells 4 rfl
  go_wp2_with fail
  clear cc0 cc1 cc2 cc3 cc4
  have hbb := C.bounds
  obtain ⟨zb, hzb⟩ : ∃ zb, w4.heap.size = zb := ⟨_, rfl⟩
  rw [hzb] at hbb
  obtain ⟨hbs, hbW⟩ := hbb
  have hsz : zb ≤ w4.drew.heap.size := Nat.le_of_eq hzb.symm
  clear hzb
  have Cd := C.drew
  clear C
  refine wp_region_inv (TlI5 W z z1 z2 z3 zb a b s d n p q r fi i) (by kernel_rfl) (by kernel_rfl)
    ⟨_, _, _, _, _, _, _, _, _, _, rfl, by simp, by simp, by simp, by simp, by simp, by simp, by simp, by simp, by simp, by simp, by simp, Cd, hsz⟩ ?_ ?_
  · clear Cd hsz
    intro i o ho L ac wx hs hl hall hI
    obtain ⟨v13, v14, v43, v44, v45, v46, v47, v48, v49, v50, rfl, i0, i1, i2, i3, i4, i5, i6, i7, i10, ia, ist, hC, hsz⟩ := hI
    replace hs : L.size = 11 := hs
    rcases i with _ | _ | _ | _ | _ | _ | _ | _ | _ | _ | _ | i
    · obtain rfl := Option.some.inj ho
      clear ho
      clear hall
      refine wpOp_inv (o := _) rfl rfl ?_
      have e1 : (L.setIfInBounds 0 true).getD 1 false = L.getD 1 false := getD_set_ne false (by decide)
      have e2 : (L.setIfInBounds 0 true).getD 2 false = L.getD 2 false := getD_set_ne false (by decide)
      have e3 : (L.setIfInBounds 0 true).getD 3 false = L.getD 3 false := getD_set_ne false (by decide)
      have e4 : (L.setIfInBounds 0 true).getD 4 false = L.getD 4 false := getD_set_ne false (by decide)
      have e5 : (L.setIfInBounds 0 true).getD 5 false = L.getD 5 false := getD_set_ne false (by decide)
      have e6 : (L.setIfInBounds 0 true).getD 6 false = L.getD 6 false := getD_set_ne false (by decide)
      have e7 : (L.setIfInBounds 0 true).getD 7 false = L.getD 7 false := getD_set_ne false (by decide)
      have e8 : (L.setIfInBounds 0 true).getD 8 false = L.getD 8 false := getD_set_ne false (by decide)
      have e9 : (L.setIfInBounds 0 true).getD 9 false = L.getD 9 false := getD_set_ne false (by decide)
      have e10 : (L.setIfInBounds 0 true).getD 10 false = L.getD 10 false := getD_set_ne false (by decide)
      have e0 : (L.setIfInBounds 0 true).getD 0 false = true := by rw [getD_set_if L 0 0 (by omega), if_pos rfl]
      have c0 := (hC.get 4 rfl).cell 0; have c1 := (hC.get 4 rfl).cell 1
      go_simp
      exact ⟨v13, v14, v43, _, v45, v46, v47, v48, v49, v50, rfl, fun _ => rfl, by rw [e1]; exact i1, by rw [e2]; exact i2, by rw [e3]; exact i3, by rw [e4]; exact i4, by rw [e5]; exact i5, by rw [e6]; exact i6, by rw [e7]; exact i7, by rw [e10]; exact i10, by rw [e8, e9]; exact ia, by rw [e8, e9]; exact ist, hC, hsz⟩
    · obtain rfl := Option.some.inj ho
      clear ho
      have l0 := hall ⟨0, .data⟩ (by simp) rfl
      clear hall
      refine wpOp_inv (o := _) rfl rfl ?_
      have e0 : (L.setIfInBounds 1 true).getD 0 false = L.getD 0 false := getD_set_ne false (by decide)
      have e2 : (L.setIfInBounds 1 true).getD 2 false = L.getD 2 false := getD_set_ne false (by decide)
      have e3 : (L.setIfInBounds 1 true).getD 3 false = L.getD 3 false := getD_set_ne false (by decide)
      have e4 : (L.setIfInBounds 1 true).getD 4 false = L.getD 4 false := getD_set_ne false (by decide)
      have e5 : (L.setIfInBounds 1 true).getD 5 false = L.getD 5 false := getD_set_ne false (by decide)
      have e6 : (L.setIfInBounds 1 true).getD 6 false = L.getD 6 false := getD_set_ne false (by decide)
      have e7 : (L.setIfInBounds 1 true).getD 7 false = L.getD 7 false := getD_set_ne false (by decide)
      have e8 : (L.setIfInBounds 1 true).getD 8 false = L.getD 8 false := getD_set_ne false (by decide)
      have e9 : (L.setIfInBounds 1 true).getD 9 false = L.getD 9 false := getD_set_ne false (by decide)
      have e10 : (L.setIfInBounds 1 true).getD 10 false = L.getD 10 false := getD_set_ne false (by decide)
      have e1 : (L.setIfInBounds 1 true).getD 1 false = true := by rw [getD_set_if L 1 1 (by omega), if_pos rfl]
      obtain rfl := i0 l0
      go_simp
      go_at_call 12; refine (K1.out _).mono ?_; rintro e w' ⟨rfl, hX1⟩
      exact ⟨_, rfl, v13, v14, v43, _, _, v46, v47, v48, v49, v50, rfl, fun _ => rfl, fun _ => rfl, by rw [e2]; exact i2, by rw [e3]; exact i3, by rw [e4]; exact i4, by rw [e5]; exact i5, by rw [e6]; exact i6, by rw [e7]; exact i7, by rw [e10]; exact i10, by rw [e8, e9]; exact fun h => by obtain ⟨y, h1, h2, h3⟩ := ia h; exact ⟨y, h1, h2, hX1.at h3 (by simp)⟩, by rw [e8, e9]; exact ist, hC.step hX1, Nat.le_trans hsz hX1.size⟩
    · obtain rfl := Option.some.inj ho
      clear ho
      clear hall
      refine wpOp_inv (o := _) rfl rfl ?_
      have e0 : (L.setIfInBounds 2 true).getD 0 false = L.getD 0 false := getD_set_ne false (by decide)
      have e1 : (L.setIfInBounds 2 true).getD 1 false = L.getD 1 false := getD_set_ne false (by decide)
      have e3 : (L.setIfInBounds 2 true).getD 3 false = L.getD 3 false := getD_set_ne false (by decide)
      have e4 : (L.setIfInBounds 2 true).getD 4 false = L.getD 4 false := getD_set_ne false (by decide)
      have e5 : (L.setIfInBounds 2 true).getD 5 false = L.getD 5 false := getD_set_ne false (by decide)
      have e6 : (L.setIfInBounds 2 true).getD 6 false = L.getD 6 false := getD_set_ne false (by decide)
      have e7 : (L.setIfInBounds 2 true).getD 7 false = L.getD 7 false := getD_set_ne false (by decide)
      have e8 : (L.setIfInBounds 2 true).getD 8 false = L.getD 8 false := getD_set_ne false (by decide)
      have e9 : (L.setIfInBounds 2 true).getD 9 false = L.getD 9 false := getD_set_ne false (by decide)
      have e10 : (L.setIfInBounds 2 true).getD 10 false = L.getD 10 false := getD_set_ne false (by decide)
      have e2 : (L.setIfInBounds 2 true).getD 2 false = true := by rw [getD_set_if L 2 2 (by omega), if_pos rfl]
      have c0 := (hC.get 3 rfl).cell 0; have c1 := (hC.get 3 rfl).cell 1
      go_simp
      exact ⟨v13, v14, v43, v44, v45, _, v47, v48, v49, v50, rfl, by rw [e0]; exact i0, by rw [e1]; exact i1, fun _ => rfl, by rw [e3]; exact i3, by rw [e4]; exact i4, by rw [e5]; exact i5, by rw [e6]; exact i6, by rw [e7]; exact i7, by rw [e10]; exact i10, by rw [e8, e9]; exact ia, by rw [e8, e9]; exact ist, hC, hsz⟩
    · obtain rfl := Option.some.inj ho
      clear ho
      have l2 := hall ⟨2, .data⟩ (by simp) rfl
      clear hall
      refine wpOp_inv (o := _) rfl rfl ?_
      have e0 : (L.setIfInBounds 3 true).getD 0 false = L.getD 0 false := getD_set_ne false (by decide)
      have e1 : (L.setIfInBounds 3 true).getD 1 false = L.getD 1 false := getD_set_ne false (by decide)
      have e2 : (L.setIfInBounds 3 true).getD 2 false = L.getD 2 false := getD_set_ne false (by decide)
      have e4 : (L.setIfInBounds 3 true).getD 4 false = L.getD 4 false := getD_set_ne false (by decide)
      have e5 : (L.setIfInBounds 3 true).getD 5 false = L.getD 5 false := getD_set_ne false (by decide)
      have e6 : (L.setIfInBounds 3 true).getD 6 false = L.getD 6 false := getD_set_ne false (by decide)
      have e7 : (L.setIfInBounds 3 true).getD 7 false = L.getD 7 false := getD_set_ne false (by decide)
      have e8 : (L.setIfInBounds 3 true).getD 8 false = L.getD 8 false := getD_set_ne false (by decide)
      have e9 : (L.setIfInBounds 3 true).getD 9 false = L.getD 9 false := getD_set_ne false (by decide)
      have e10 : (L.setIfInBounds 3 true).getD 10 false = L.getD 10 false := getD_set_ne false (by decide)
      have e3 : (L.setIfInBounds 3 true).getD 3 false = true := by rw [getD_set_if L 3 3 (by omega), if_pos rfl]
      obtain rfl := i2 l2
      go_simp
      go_at_call 12; refine (K2.out _).mono ?_; rintro e w' ⟨rfl, hX1⟩
      exact ⟨_, rfl, v13, v14, v43, v44, v45, _, _, v48, v49, v50, rfl, by rw [e0]; exact i0, by rw [e1]; exact i1, fun _ => rfl, fun _ => rfl, by rw [e4]; exact i4, by rw [e5]; exact i5, by rw [e6]; exact i6, by rw [e7]; exact i7, by rw [e10]; exact i10, by rw [e8, e9]; exact fun h => by obtain ⟨y, h1, h2, h3⟩ := ia h; exact ⟨y, h1, h2, hX1.at h3 (by simp)⟩, by rw [e8, e9]; exact ist, hC.step hX1, Nat.le_trans hsz hX1.size⟩
    · obtain rfl := Option.some.inj ho
      clear ho
      have l1 := hall ⟨1, .data⟩ (by simp) rfl
      have l3 := hall ⟨3, .data⟩ (by simp) rfl
      clear hall
      refine wpOp_inv (o := _) rfl rfl ?_
      have e0 : (L.setIfInBounds 4 true).getD 0 false = L.getD 0 false := getD_set_ne false (by decide)
      have e1 : (L.setIfInBounds 4 true).getD 1 false = L.getD 1 false := getD_set_ne false (by decide)
      have e2 : (L.setIfInBounds 4 true).getD 2 false = L.getD 2 false := getD_set_ne false (by decide)
      have e3 : (L.setIfInBounds 4 true).getD 3 false = L.getD 3 false := getD_set_ne false (by decide)
      have e5 : (L.setIfInBounds 4 true).getD 5 false = L.getD 5 false := getD_set_ne false (by decide)
      have e6 : (L.setIfInBounds 4 true).getD 6 false = L.getD 6 false := getD_set_ne false (by decide)
      have e7 : (L.setIfInBounds 4 true).getD 7 false = L.getD 7 false := getD_set_ne false (by decide)
      have e8 : (L.setIfInBounds 4 true).getD 8 false = L.getD 8 false := getD_set_ne false (by decide)
      have e9 : (L.setIfInBounds 4 true).getD 9 false = L.getD 9 false := getD_set_ne false (by decide)
      have e10 : (L.setIfInBounds 4 true).getD 10 false = L.getD 10 false := getD_set_ne false (by decide)
      have e4 : (L.setIfInBounds 4 true).getD 4 false = true := by rw [getD_set_if L 4 4 (by omega), if_pos rfl]
      obtain rfl := i1 l1
      obtain rfl := i3 l3
      go_simp
      go_at_call 23; refine (R1.out _).mono ?_; rintro e w' ⟨rfl, hX1⟩
      exact ⟨_, rfl, v13, v14, v43, v44, _, v46, _, _, v49, v50, rfl, by rw [e0]; exact i0, fun _ => rfl, by rw [e2]; exact i2, fun _ => rfl, fun _ => rfl, by rw [e5]; exact i5, by rw [e6]; exact i6, by rw [e7]; exact i7, by rw [e10]; exact i10, by rw [e8, e9]; exact fun h => by obtain ⟨y, h1, h2, h3⟩ := ia h; exact ⟨y, h1, h2, hX1.at h3 (by simp)⟩, by rw [e8, e9]; exact ist, hC.step hX1, Nat.le_trans hsz hX1.size⟩
    · obtain rfl := Option.some.inj ho
      clear ho
      have l4 := hall ⟨4, .data⟩ (by simp) rfl
      clear hall
      refine wpOp_inv (o := _) rfl rfl ?_
      have e0 : (L.setIfInBounds 5 true).getD 0 false = L.getD 0 false := getD_set_ne false (by decide)
      have e1 : (L.setIfInBounds 5 true).getD 1 false = L.getD 1 false := getD_set_ne false (by decide)
      have e2 : (L.setIfInBounds 5 true).getD 2 false = L.getD 2 false := getD_set_ne false (by decide)
      have e3 : (L.setIfInBounds 5 true).getD 3 false = L.getD 3 false := getD_set_ne false (by decide)
      have e4 : (L.setIfInBounds 5 true).getD 4 false = L.getD 4 false := getD_set_ne false (by decide)
      have e6 : (L.setIfInBounds 5 true).getD 6 false = L.getD 6 false := getD_set_ne false (by decide)
      have e7 : (L.setIfInBounds 5 true).getD 7 false = L.getD 7 false := getD_set_ne false (by decide)
      have e8 : (L.setIfInBounds 5 true).getD 8 false = L.getD 8 false := getD_set_ne false (by decide)
      have e9 : (L.setIfInBounds 5 true).getD 9 false = L.getD 9 false := getD_set_ne false (by decide)
      have e10 : (L.setIfInBounds 5 true).getD 10 false = L.getD 10 false := getD_set_ne false (by decide)
      have e5 : (L.setIfInBounds 5 true).getD 5 false = true := by rw [getD_set_if L 5 5 (by omega), if_pos rfl]
      obtain rfl := i4 l4
      go_simp
      exact ⟨v13, v14, _, v44, v45, v46, v47, _, v49, v50, rfl, by rw [e0]; exact i0, by rw [e1]; exact i1, by rw [e2]; exact i2, by rw [e3]; exact i3, fun _ => rfl, fun _ => rfl, by rw [e6]; exact i6, by rw [e7]; exact i7, by rw [e10]; exact i10, by rw [e8, e9]; exact ia, by rw [e8, e9]; exact ist, hC, hsz⟩
    · obtain rfl := Option.some.inj ho
      clear ho
      have l5 := hall ⟨5, .data⟩ (by simp) rfl
      clear hall
      refine wpOp_inv (o := _) rfl rfl ?_
      have e0 : (L.setIfInBounds 6 true).getD 0 false = L.getD 0 false := getD_set_ne false (by decide)
      have e1 : (L.setIfInBounds 6 true).getD 1 false = L.getD 1 false := getD_set_ne false (by decide)
      have e2 : (L.setIfInBounds 6 true).getD 2 false = L.getD 2 false := getD_set_ne false (by decide)
      have e3 : (L.setIfInBounds 6 true).getD 3 false = L.getD 3 false := getD_set_ne false (by decide)
      have e4 : (L.setIfInBounds 6 true).getD 4 false = L.getD 4 false := getD_set_ne false (by decide)
      have e5 : (L.setIfInBounds 6 true).getD 5 false = L.getD 5 false := getD_set_ne false (by decide)
      have e7 : (L.setIfInBounds 6 true).getD 7 false = L.getD 7 false := getD_set_ne false (by decide)
      have e8 : (L.setIfInBounds 6 true).getD 8 false = L.getD 8 false := getD_set_ne false (by decide)
      have e9 : (L.setIfInBounds 6 true).getD 9 false = L.getD 9 false := getD_set_ne false (by decide)
      have e10 : (L.setIfInBounds 6 true).getD 10 false = L.getD 10 false := getD_set_ne false (by decide)
      have e6 : (L.setIfInBounds 6 true).getD 6 false = true := by rw [getD_set_if L 6 6 (by omega), if_pos rfl]
      obtain rfl := i5 l5
      go_simp
      exact ⟨v13, v14, _, v44, v45, v46, v47, v48, _, v50, rfl, by rw [e0]; exact i0, by rw [e1]; exact i1, by rw [e2]; exact i2, by rw [e3]; exact i3, by rw [e4]; exact i4, fun _ => rfl, fun _ => rfl, by rw [e7]; exact i7, by rw [e10]; exact i10, by rw [e8, e9]; exact ia, by rw [e8, e9]; exact ist, hC, hsz⟩
    · obtain rfl := Option.some.inj ho
      clear ho
      have l5 := hall ⟨5, .data⟩ (by simp) rfl
      clear hall
      refine wpOp_inv (o := _) rfl rfl ?_
      have e0 : (L.setIfInBounds 7 true).getD 0 false = L.getD 0 false := getD_set_ne false (by decide)
      have e1 : (L.setIfInBounds 7 true).getD 1 false = L.getD 1 false := getD_set_ne false (by decide)
      have e2 : (L.setIfInBounds 7 true).getD 2 false = L.getD 2 false := getD_set_ne false (by decide)
      have e3 : (L.setIfInBounds 7 true).getD 3 false = L.getD 3 false := getD_set_ne false (by decide)
      have e4 : (L.setIfInBounds 7 true).getD 4 false = L.getD 4 false := getD_set_ne false (by decide)
      have e5 : (L.setIfInBounds 7 true).getD 5 false = L.getD 5 false := getD_set_ne false (by decide)
      have e6 : (L.setIfInBounds 7 true).getD 6 false = L.getD 6 false := getD_set_ne false (by decide)
      have e8 : (L.setIfInBounds 7 true).getD 8 false = L.getD 8 false := getD_set_ne false (by decide)
      have e9 : (L.setIfInBounds 7 true).getD 9 false = L.getD 9 false := getD_set_ne false (by decide)
      have e10 : (L.setIfInBounds 7 true).getD 10 false = L.getD 10 false := getD_set_ne false (by decide)
      have e7 : (L.setIfInBounds 7 true).getD 7 false = true := by rw [getD_set_if L 7 7 (by omega), if_pos rfl]
      obtain rfl := i5 l5
      go_simp
      exact ⟨v13, v14, _, v44, v45, v46, v47, v48, v49, _, rfl, by rw [e0]; exact i0, by rw [e1]; exact i1, by rw [e2]; exact i2, by rw [e3]; exact i3, by rw [e4]; exact i4, fun _ => rfl, by rw [e6]; exact i6, fun _ => rfl, by rw [e10]; exact i10, by rw [e8, e9]; exact ia, by rw [e8, e9]; exact ist, hC, hsz⟩
    · obtain rfl := Option.some.inj ho
      clear ho
      clear hall
      refine wpOp_inv (o := _) rfl rfl ?_
      have e0 : (L.setIfInBounds 8 true).getD 0 false = L.getD 0 false := getD_set_ne false (by decide)
      have e1 : (L.setIfInBounds 8 true).getD 1 false = L.getD 1 false := getD_set_ne false (by decide)
      have e2 : (L.setIfInBounds 8 true).getD 2 false = L.getD 2 false := getD_set_ne false (by decide)
      have e3 : (L.setIfInBounds 8 true).getD 3 false = L.getD 3 false := getD_set_ne false (by decide)
      have e4 : (L.setIfInBounds 8 true).getD 4 false = L.getD 4 false := getD_set_ne false (by decide)
      have e5 : (L.setIfInBounds 8 true).getD 5 false = L.getD 5 false := getD_set_ne false (by decide)
      have e6 : (L.setIfInBounds 8 true).getD 6 false = L.getD 6 false := getD_set_ne false (by decide)
      have e7 : (L.setIfInBounds 8 true).getD 7 false = L.getD 7 false := getD_set_ne false (by decide)
      have e9 : (L.setIfInBounds 8 true).getD 9 false = L.getD 9 false := getD_set_ne false (by decide)
      have e10 : (L.setIfInBounds 8 true).getD 10 false = L.getD 10 false := getD_set_ne false (by decide)
      have e8 : (L.setIfInBounds 8 true).getD 8 false = true := by rw [getD_set_if L 8 8 (by omega), if_pos rfl]
      have ls : L.getD 9 false = false := by rcases Bool.eq_false_or_eq_true (L.getD 9 false) with h | h; exact absurd (ist h) (by rw [hl]; decide); exact h
      go_simp
      exact ⟨_, v14, v43, v44, v45, v46, v47, v48, v49, v50, rfl, by rw [e0]; exact i0, by rw [e1]; exact i1, by rw [e2]; exact i2, by rw [e3]; exact i3, by rw [e4]; exact i4, by rw [e5]; exact i5, by rw [e6]; exact i6, by rw [e7]; exact i7, by rw [e10]; exact i10, fun _ => ⟨_, rfl, hsz, by rw [e9, ls]; exact At.new wx _ _⟩, fun _ => e8, hC.alloc0 _, by simp; omega⟩
    · obtain rfl := Option.some.inj ho
      clear ho
      have l8 := hall ⟨8, .data⟩ (by simp) rfl
      have l6 := hall ⟨6, .data⟩ (by simp) rfl
      clear hall
      refine wpOp_inv (o := _) rfl rfl ?_
      have e0 : (L.setIfInBounds 9 true).getD 0 false = L.getD 0 false := getD_set_ne false (by decide)
      have e1 : (L.setIfInBounds 9 true).getD 1 false = L.getD 1 false := getD_set_ne false (by decide)
      have e2 : (L.setIfInBounds 9 true).getD 2 false = L.getD 2 false := getD_set_ne false (by decide)
      have e3 : (L.setIfInBounds 9 true).getD 3 false = L.getD 3 false := getD_set_ne false (by decide)
      have e4 : (L.setIfInBounds 9 true).getD 4 false = L.getD 4 false := getD_set_ne false (by decide)
      have e5 : (L.setIfInBounds 9 true).getD 5 false = L.getD 5 false := getD_set_ne false (by decide)
      have e6 : (L.setIfInBounds 9 true).getD 6 false = L.getD 6 false := getD_set_ne false (by decide)
      have e7 : (L.setIfInBounds 9 true).getD 7 false = L.getD 7 false := getD_set_ne false (by decide)
      have e8 : (L.setIfInBounds 9 true).getD 8 false = L.getD 8 false := getD_set_ne false (by decide)
      have e10 : (L.setIfInBounds 9 true).getD 10 false = L.getD 10 false := getD_set_ne false (by decide)
      have e9 : (L.setIfInBounds 9 true).getD 9 false = true := by rw [getD_set_if L 9 9 (by omega), if_pos rfl]
      obtain ⟨y, rfl, hyz, K⟩ := ia l8
      obtain rfl := i6 l6
      rw [hl] at K
      have K : At wx y #[.int .i64 0, .int .u64 0] := K
      have k0 := K.cell 0; have k1 := K.cell 1; have k2 := K.frozen 0; have k3 := K.frozen 1
      go_simp
      exact ⟨_, v14, v43, v44, v45, v46, v47, v48, _, v50, rfl, by rw [e0]; exact i0, by rw [e1]; exact i1, by rw [e2]; exact i2, by rw [e3]; exact i3, by rw [e4]; exact i4, by rw [e5]; exact i5, fun _ => rfl, by rw [e7]; exact i7, by rw [e10]; exact i10, fun _ => ⟨y, rfl, hyz, by rw [e9]; exact K.set2 _ _⟩, fun _ => by rw [e8]; exact l8, hC.store2 hyz hbs hbW _ _, by simpa [World.setCell] using hsz⟩
    · obtain rfl := Option.some.inj ho
      clear ho
      have l7 := hall ⟨7, .data⟩ (by simp) rfl
      clear hall
      refine wpOp_inv (o := _) rfl rfl ?_
      have e0 : (L.setIfInBounds 10 true).getD 0 false = L.getD 0 false := getD_set_ne false (by decide)
      have e1 : (L.setIfInBounds 10 true).getD 1 false = L.getD 1 false := getD_set_ne false (by decide)
      have e2 : (L.setIfInBounds 10 true).getD 2 false = L.getD 2 false := getD_set_ne false (by decide)
      have e3 : (L.setIfInBounds 10 true).getD 3 false = L.getD 3 false := getD_set_ne false (by decide)
      have e4 : (L.setIfInBounds 10 true).getD 4 false = L.getD 4 false := getD_set_ne false (by decide)
      have e5 : (L.setIfInBounds 10 true).getD 5 false = L.getD 5 false := getD_set_ne false (by decide)
      have e6 : (L.setIfInBounds 10 true).getD 6 false = L.getD 6 false := getD_set_ne false (by decide)
      have e7 : (L.setIfInBounds 10 true).getD 7 false = L.getD 7 false := getD_set_ne false (by decide)
      have e8 : (L.setIfInBounds 10 true).getD 8 false = L.getD 8 false := getD_set_ne false (by decide)
      have e9 : (L.setIfInBounds 10 true).getD 9 false = L.getD 9 false := getD_set_ne false (by decide)
      have e10 : (L.setIfInBounds 10 true).getD 10 false = true := by rw [getD_set_if L 10 10 (by omega), if_pos rfl]
      obtain rfl := i7 l7
      go_simp
      exact ⟨v13, _, v43, v44, v45, v46, v47, v48, v49, _, rfl, by rw [e0]; exact i0, by rw [e1]; exact i1, by rw [e2]; exact i2, by rw [e3]; exact i3, by rw [e4]; exact i4, by rw [e5]; exact i5, by rw [e6]; exact i6, fun _ => rfl, fun _ => rfl, by rw [e8, e9]; exact ia, by rw [e8, e9]; exact ist, hC, hsz⟩
    · exact absurd ho (by simp)
  · intro L ac wx hall hI
    obtain ⟨v13, v14, v43, v44, v45, v46, v47, v48, v49, v50, rfl, i0, i1, i2, i3, i4, i5, i6, i7, i10, ia, ist, hC, hsz⟩ := hI
    obtain rfl := i0 (hall 0 (by decide))
    obtain rfl := i1 (hall 1 (by decide))
    obtain rfl := i2 (hall 2 (by decide))
    obtain rfl := i3 (hall 3 (by decide))
    obtain rfl := i4 (hall 4 (by decide))
    obtain rfl := i5 (hall 5 (by decide))
    obtain rfl := i6 (hall 6 (by decide))
    obtain rfl := i7 (hall 7 (by decide))
    obtain rfl := i10 (hall 10 (by decide))
    obtain ⟨y1, rfl, hyz, BS⟩ := ia (hall 8 (by decide))
    rw [if_pos (hall 9 (by decide))] at BS
    have C := hC.cons BS
    clear hC BS hall ist ia i0 i1 i2 i3 i4 i5 i6 i7 i10
    clear Cd
    clear hbs hbW hsz hyz
    generalize wx = w5 at *
    have cc0 := C.cells 0 rfl
    have cc1 := C.cells 1 rfl
    have cc2 := C.cells 2 rfl
    have cc3 := C.cells 3 rfl
    have cc4 := C.cells 4 rfl
    have cc5 := C.cells 5 rfl
    go_wp2_with fail
    clear cc0 cc1 cc2 cc3 cc4 cc5
    have hbb := C.bounds
    obtain ⟨zb, hzb⟩ : ∃ zb, w5.heap.size = zb := ⟨_, rfl⟩
    rw [hzb] at hbb
    obtain ⟨hbs, hbW⟩ := hbb
    have hsz : zb ≤ w5.drew.heap.size := Nat.le_of_eq hzb.symm
    clear hzb
    have Cd := C.drew
    clear C
    refine wp_region_inv (TlI6 W z z1 z2 z3 y1 zb a b s d n p q r fi i) (by kernel_rfl) (by kernel_rfl)
      ⟨_, _, _, _, _, _, _, _, _, _, rfl, by simp, by simp, by simp, by simp, by simp, by simp, by simp, by simp, by simp, by simp, by simp, Cd, hsz⟩ ?_ ?_
    · clear Cd hsz
      intro i o ho L ac wx hs hl hall hI
      obtain ⟨v15, v16, v51, v52, v53, v54, v55, v56, v57, v58, rfl, i0, i1, i2, i3, i4, i5, i6, i7, i10, ia, ist, hC, hsz⟩ := hI
      replace hs : L.size = 11 := hs
      rcases i with _ | _ | _ | _ | _ | _ | _ | _ | _ | _ | _ | i
      · obtain rfl := Option.some.inj ho
        clear ho
        clear hall
        refine wpOp_inv (o := _) rfl rfl ?_
        have e1 : (L.setIfInBounds 0 true).getD 1 false = L.getD 1 false := getD_set_ne false (by decide)
        have e2 : (L.setIfInBounds 0 true).getD 2 false = L.getD 2 false := getD_set_ne false (by decide)
        have e3 : (L.setIfInBounds 0 true).getD 3 false = L.getD 3 false := getD_set_ne false (by decide)
        have e4 : (L.setIfInBounds 0 true).getD 4 false = L.getD 4 false := getD_set_ne false (by decide)
        have e5 : (L.setIfInBounds 0 true).getD 5 false = L.getD 5 false := getD_set_ne false (by decide)
        have e6 : (L.setIfInBounds 0 true).getD 6 false = L.getD 6 false := getD_set_ne false (by decide)
        have e7 : (L.setIfInBounds 0 true).getD 7 false = L.getD 7 false := getD_set_ne false (by decide)
        have e8 : (L.setIfInBounds 0 true).getD 8 false = L.getD 8 false := getD_set_ne false (by decide)
        have e9 : (L.setIfInBounds 0 true).getD 9 false = L.getD 9 false := getD_set_ne false (by decide)
        have e10 : (L.setIfInBounds 0 true).getD 10 false = L.getD 10 false := getD_set_ne false (by decide)
        have e0 : (L.setIfInBounds 0 true).getD 0 false = true := by rw [getD_set_if L 0 0 (by omega), if_pos rfl]
        have c0 := (hC.get 5 rfl).cell 0; have c1 := (hC.get 5 rfl).cell 1
        go_simp
        exact ⟨v15, v16, v51, _, v53, v54, v55, v56, v57, v58, rfl, fun _ => rfl, by rw [e1]; exact i1, by rw [e2]; exact i2, by rw [e3]; exact i3, by rw [e4]; exact i4, by rw [e5]; exact i5, by rw [e6]; exact i6, by rw [e7]; exact i7, by rw [e10]; exact i10, by rw [e8, e9]; exact ia, by rw [e8, e9]; exact ist, hC, hsz⟩
      · obtain rfl := Option.some.inj ho
        clear ho
        have l0 := hall ⟨0, .data⟩ (by simp) rfl
        clear hall
        refine wpOp_inv (o := _) rfl rfl ?_
        have e0 : (L.setIfInBounds 1 true).getD 0 false = L.getD 0 false := getD_set_ne false (by decide)
        have e2 : (L.setIfInBounds 1 true).getD 2 false = L.getD 2 false := getD_set_ne false (by decide)
        have e3 : (L.setIfInBounds 1 true).getD 3 false = L.getD 3 false := getD_set_ne false (by decide)
        have e4 : (L.setIfInBounds 1 true).getD 4 false = L.getD 4 false := getD_set_ne false (by decide)
        have e5 : (L.setIfInBounds 1 true).getD 5 false = L.getD 5 false := getD_set_ne false (by decide)
        have e6 : (L.setIfInBounds 1 true).getD 6 false = L.getD 6 false := getD_set_ne false (by decide)
        have e7 : (L.setIfInBounds 1 true).getD 7 false = L.getD 7 false := getD_set_ne false (by decide)
        have e8 : (L.setIfInBounds 1 true).getD 8 false = L.getD 8 false := getD_set_ne false (by decide)
        have e9 : (L.setIfInBounds 1 true).getD 9 false = L.getD 9 false := getD_set_ne false (by decide)
        have e10 : (L.setIfInBounds 1 true).getD 10 false = L.getD 10 false := getD_set_ne false (by decide)
        have e1 : (L.setIfInBounds 1 true).getD 1 false = true := by rw [getD_set_if L 1 1 (by omega), if_pos rfl]
        obtain rfl := i0 l0
        go_simp
        go_at_call 12; refine (K1.out _).mono ?_; rintro e w' ⟨rfl, hX1⟩
        exact ⟨_, rfl, v15, v16, v51, _, _, v54, v55, v56, v57, v58, rfl, fun _ => rfl, fun _ => rfl, by rw [e2]; exact i2, by rw [e3]; exact i3, by rw [e4]; exact i4, by rw [e5]; exact i5, by rw [e6]; exact i6, by rw [e7]; exact i7, by rw [e10]; exact i10, by rw [e8, e9]; exact fun h => by obtain ⟨y, h1, h2, h3⟩ := ia h; exact ⟨y, h1, h2, hX1.at h3 (by simp)⟩, by rw [e8, e9]; exact ist, hC.step hX1, Nat.le_trans hsz hX1.size⟩
      · obtain rfl := Option.some.inj ho
        clear ho
        clear hall
        refine wpOp_inv (o := _) rfl rfl ?_
        have e0 : (L.setIfInBounds 2 true).getD 0 false = L.getD 0 false := getD_set_ne false (by decide)
        have e1 : (L.setIfInBounds 2 true).getD 1 false = L.getD 1 false := getD_set_ne false (by decide)
        have e3 : (L.setIfInBounds 2 true).getD 3 false = L.getD 3 false := getD_set_ne false (by decide)
        have e4 : (L.setIfInBounds 2 true).getD 4 false = L.getD 4 false := getD_set_ne false (by decide)
        have e5 : (L.setIfInBounds 2 true).getD 5 false = L.getD 5 false := getD_set_ne false (by decide)
        have e6 : (L.setIfInBounds 2 true).getD 6 false = L.getD 6 false := getD_set_ne false (by decide)
        have e7 : (L.setIfInBounds 2 true).getD 7 false = L.getD 7 false := getD_set_ne false (by decide)
        have e8 : (L.setIfInBounds 2 true).getD 8 false = L.getD 8 false := getD_set_ne false (by decide)
        have e9 : (L.setIfInBounds 2 true).getD 9 false = L.getD 9 false := getD_set_ne false (by decide)
        have e10 : (L.setIfInBounds 2 true).getD 10 false = L.getD 10 false := getD_set_ne false (by decide)
        have e2 : (L.setIfInBounds 2 true).getD 2 false = true := by rw [getD_set_if L 2 2 (by omega), if_pos rfl]
        have c0 := (hC.get 4 rfl).cell 0; have c1 := (hC.get 4 rfl).cell 1
        go_simp
        exact ⟨v15, v16, v51, v52, v53, _, v55, v56, v57, v58, rfl, by rw [e0]; exact i0, by rw [e1]; exact i1, fun _ => rfl, by rw [e3]; exact i3, by rw [e4]; exact i4, by rw [e5]; exact i5, by rw [e6]; exact i6, by rw [e7]; exact i7, by rw [e10]; exact i10, by rw [e8, e9]; exact ia, by rw [e8, e9]; exact ist, hC, hsz⟩
      · obtain rfl := Option.some.inj ho
        clear ho
        have l2 := hall ⟨2, .data⟩ (by simp) rfl
        clear hall
        refine wpOp_inv (o := _) rfl rfl ?_
        have e0 : (L.setIfInBounds 3 true).getD 0 false = L.getD 0 false := getD_set_ne false (by decide)
        have e1 : (L.setIfInBounds 3 true).getD 1 false = L.getD 1 false := getD_set_ne false (by decide)
        have e2 : (L.setIfInBounds 3 true).getD 2 false = L.getD 2 false := getD_set_ne false (by decide)
        have e4 : (L.setIfInBounds 3 true).getD 4 false = L.getD 4 false := getD_set_ne false (by decide)
        have e5 : (L.setIfInBounds 3 true).getD 5 false = L.getD 5 false := getD_set_ne false (by decide)
        have e6 : (L.setIfInBounds 3 true).getD 6 false = L.getD 6 false := getD_set_ne false (by decide)
        have e7 : (L.setIfInBounds 3 true).getD 7 false = L.getD 7 false := getD_set_ne false (by decide)
        have e8 : (L.setIfInBounds 3 true).getD 8 false = L.getD 8 false := getD_set_ne false (by decide)
        have e9 : (L.setIfInBounds 3 true).getD 9 false = L.getD 9 false := getD_set_ne false (by decide)
        have e10 : (L.setIfInBounds 3 true).getD 10 false = L.getD 10 false := getD_set_ne false (by decide)
        have e3 : (L.setIfInBounds 3 true).getD 3 false = true := by rw [getD_set_if L 3 3 (by omega), if_pos rfl]
        obtain rfl := i2 l2
        go_simp
        go_at_call 12; refine (K2.out _).mono ?_; rintro e w' ⟨rfl, hX1⟩
        exact ⟨_, rfl, v15, v16, v51, v52, v53, _, _, v56, v57, v58, rfl, by rw [e0]; exact i0, by rw [e1]; exact i1, fun _ => rfl, fun _ => rfl, by rw [e4]; exact i4, by rw [e5]; exact i5, by rw [e6]; exact i6, by rw [e7]; exact i7, by rw [e10]; exact i10, by rw [e8, e9]; exact fun h => by obtain ⟨y, h1, h2, h3⟩ := ia h; exact ⟨y, h1, h2, hX1.at h3 (by simp)⟩, by rw [e8, e9]; exact ist, hC.step hX1, Nat.le_trans hsz hX1.size⟩
      · obtain rfl := Option.some.inj ho
        clear ho
        have l1 := hall ⟨1, .data⟩ (by simp) rfl
        have l3 := hall ⟨3, .data⟩ (by simp) rfl
        clear hall
        refine wpOp_inv (o := _) rfl rfl ?_
        have e0 : (L.setIfInBounds 4 true).getD 0 false = L.getD 0 false := getD_set_ne false (by decide)
        have e1 : (L.setIfInBounds 4 true).getD 1 false = L.getD 1 false := getD_set_ne false (by decide)
        have e2 : (L.setIfInBounds 4 true).getD 2 false = L.getD 2 false := getD_set_ne false (by decide)
        have e3 : (L.setIfInBounds 4 true).getD 3 false = L.getD 3 false := getD_set_ne false (by decide)
        have e5 : (L.setIfInBounds 4 true).getD 5 false = L.getD 5 false := getD_set_ne false (by decide)
        have e6 : (L.setIfInBounds 4 true).getD 6 false = L.getD 6 false := getD_set_ne false (by decide)
        have e7 : (L.setIfInBounds 4 true).getD 7 false = L.getD 7 false := getD_set_ne false (by decide)
        have e8 : (L.setIfInBounds 4 true).getD 8 false = L.getD 8 false := getD_set_ne false (by decide)
        have e9 : (L.setIfInBounds 4 true).getD 9 false = L.getD 9 false := getD_set_ne false (by decide)
        have e10 : (L.setIfInBounds 4 true).getD 10 false = L.getD 10 false := getD_set_ne false (by decide)
        have e4 : (L.setIfInBounds 4 true).getD 4 false = true := by rw [getD_set_if L 4 4 (by omega), if_pos rfl]
        obtain rfl := i1 l1
        obtain rfl := i3 l3
        go_simp
        go_at_call 24; refine (R2.out _).mono ?_; rintro e w' ⟨rfl, hX1⟩
        exact ⟨_, rfl, v15, v16, v51, v52, _, v54, _, _, v57, v58, rfl, by rw [e0]; exact i0, fun _ => rfl, by rw [e2]; exact i2, fun _ => rfl, fun _ => rfl, by rw [e5]; exact i5, by rw [e6]; exact i6, by rw [e7]; exact i7, by rw [e10]; exact i10, by rw [e8, e9]; exact fun h => by obtain ⟨y, h1, h2, h3⟩ := ia h; exact ⟨y, h1, h2, hX1.at h3 (by simp)⟩, by rw [e8, e9]; exact ist, hC.step hX1, Nat.le_trans hsz hX1.size⟩
      · obtain rfl := Option.some.inj ho
        clear ho
        have l4 := hall ⟨4, .data⟩ (by simp) rfl
        clear hall
        refine wpOp_inv (o := _) rfl rfl ?_
        have e0 : (L.setIfInBounds 5 true).getD 0 false = L.getD 0 false := getD_set_ne false (by decide)
        have e1 : (L.setIfInBounds 5 true).getD 1 false = L.getD 1 false := getD_set_ne false (by decide)
        have e2 : (L.setIfInBounds 5 true).getD 2 false = L.getD 2 false := getD_set_ne false (by decide)
        have e3 : (L.setIfInBounds 5 true).getD 3 false = L.getD 3 false := getD_set_ne false (by decide)
        have e4 : (L.setIfInBounds 5 true).getD 4 false = L.getD 4 false := getD_set_ne false (by decide)
        have e6 : (L.setIfInBounds 5 true).getD 6 false = L.getD 6 false := getD_set_ne false (by decide)
        have e7 : (L.setIfInBounds 5 true).getD 7 false = L.getD 7 false := getD_set_ne false (by decide)
        have e8 : (L.setIfInBounds 5 true).getD 8 false = L.getD 8 false := getD_set_ne false (by decide)
        have e9 : (L.setIfInBounds 5 true).getD 9 false = L.getD 9 false := getD_set_ne false (by decide)
        have e10 : (L.setIfInBounds 5 true).getD 10 false = L.getD 10 false := getD_set_ne false (by decide)
        have e5 : (L.setIfInBounds 5 true).getD 5 false = true := by rw [getD_set_if L 5 5 (by omega), if_pos rfl]
        obtain rfl := i4 l4
        go_simp
        exact ⟨v15, v16, _, v52, v53, v54, v55, _, v57, v58, rfl, by rw [e0]; exact i0, by rw [e1]; exact i1, by rw [e2]; exact i2, by rw [e3]; exact i3, fun _ => rfl, fun _ => rfl, by rw [e6]; exact i6, by rw [e7]; exact i7, by rw [e10]; exact i10, by rw [e8, e9]; exact ia, by rw [e8, e9]; exact ist, hC, hsz⟩
      · obtain rfl := Option.some.inj ho
        clear ho
        have l5 := hall ⟨5, .data⟩ (by simp) rfl
        clear hall
        refine wpOp_inv (o := _) rfl rfl ?_
        have e0 : (L.setIfInBounds 6 true).getD 0 false = L.getD 0 false := getD_set_ne false (by decide)
        have e1 : (L.setIfInBounds 6 true).getD 1 false = L.getD 1 false := getD_set_ne false (by decide)
        have e2 : (L.setIfInBounds 6 true).getD 2 false = L.getD 2 false := getD_set_ne false (by decide)
        have e3 : (L.setIfInBounds 6 true).getD 3 false = L.getD 3 false := getD_set_ne false (by decide)
        have e4 : (L.setIfInBounds 6 true).getD 4 false = L.getD 4 false := getD_set_ne false (by decide)
        have e5 : (L.setIfInBounds 6 true).getD 5 false = L.getD 5 false := getD_set_ne false (by decide)
        have e7 : (L.setIfInBounds 6 true).getD 7 false = L.getD 7 false := getD_set_ne false (by decide)
        have e8 : (L.setIfInBounds 6 true).getD 8 false = L.getD 8 false := getD_set_ne false (by decide)
        have e9 : (L.setIfInBounds 6 true).getD 9 false = L.getD 9 false := getD_set_ne false (by decide)
        have e10 : (L.setIfInBounds 6 true).getD 10 false = L.getD 10 false := getD_set_ne false (by decide)
        have e6 : (L.setIfInBounds 6 true).getD 6 false = true := by rw [getD_set_if L 6 6 (by omega), if_pos rfl]
        obtain rfl := i5 l5
        go_simp
        exact ⟨v15, v16, _, v52, v53, v54, v55, v56, _, v58, rfl, by rw [e0]; exact i0, by rw [e1]; exact i1, by rw [e2]; exact i2, by rw [e3]; exact i3, by rw [e4]; exact i4, fun _ => rfl, fun _ => rfl, by rw [e7]; exact i7, by rw [e10]; exact i10, by rw [e8, e9]; exact ia, by rw [e8, e9]; exact ist, hC, hsz⟩
      · obtain rfl := Option.some.inj ho
        clear ho
        have l5 := hall ⟨5, .data⟩ (by simp) rfl
        clear hall
        refine wpOp_inv (o := _) rfl rfl ?_
        have e0 : (L.setIfInBounds 7 true).getD 0 false = L.getD 0 false := getD_set_ne false (by decide)
        have e1 : (L.setIfInBounds 7 true).getD 1 false = L.getD 1 false := getD_set_ne false (by decide)
        have e2 : (L.setIfInBounds 7 true).getD 2 false = L.getD 2 false := getD_set_ne false (by decide)
        have e3 : (L.setIfInBounds 7 true).getD 3 false = L.getD 3 false := getD_set_ne false (by decide)
        have e4 : (L.setIfInBounds 7 true).getD 4 false = L.getD 4 false := getD_set_ne false (by decide)
        have e5 : (L.setIfInBounds 7 true).getD 5 false = L.getD 5 false := getD_set_ne false (by decide)
        have e6 : (L.setIfInBounds 7 true).getD 6 false = L.getD 6 false := getD_set_ne false (by decide)
        have e8 : (L.setIfInBounds 7 true).getD 8 false = L.getD 8 false := getD_set_ne false (by decide)
        have e9 : (L.setIfInBounds 7 true).getD 9 false = L.getD 9 false := getD_set_ne false (by decide)
        have e10 : (L.setIfInBounds 7 true).getD 10 false = L.getD 10 false := getD_set_ne false (by decide)
        have e7 : (L.setIfInBounds 7 true).getD 7 false = true := by rw [getD_set_if L 7 7 (by omega), if_pos rfl]
        obtain rfl := i5 l5
        go_simp
        exact ⟨v15, v16, _, v52, v53, v54, v55, v56, v57, _, rfl, by rw [e0]; exact i0, by rw [e1]; exact i1, by rw [e2]; exact i2, by rw [e3]; exact i3, by rw [e4]; exact i4, fun _ => rfl, by rw [e6]; exact i6, fun _ => rfl, by rw [e10]; exact i10, by rw [e8, e9]; exact ia, by rw [e8, e9]; exact ist, hC, hsz⟩
      · obtain rfl := Option.some.inj ho
        clear ho
        clear hall
        refine wpOp_inv (o := _) rfl rfl ?_
        have e0 : (L.setIfInBounds 8 true).getD 0 false = L.getD 0 false := getD_set_ne false (by decide)
        have e1 : (L.setIfInBounds 8 true).getD 1 false = L.getD 1 false := getD_set_ne false (by decide)
        have e2 : (L.setIfInBounds 8 true).getD 2 false = L.getD 2 false := getD_set_ne false (by decide)
        have e3 : (L.setIfInBounds 8 true).getD 3 false = L.getD 3 false := getD_set_ne false (by decide)
        have e4 : (L.setIfInBounds 8 true).getD 4 false = L.getD 4 false := getD_set_ne false (by decide)
        have e5 : (L.setIfInBounds 8 true).getD 5 false = L.getD 5 false := getD_set_ne false (by decide)
        have e6 : (L.setIfInBounds 8 true).getD 6 false = L.getD 6 false := getD_set_ne false (by decide)
        have e7 : (L.setIfInBounds 8 true).getD 7 false = L.getD 7 false := getD_set_ne false (by decide)
        have e9 : (L.setIfInBounds 8 true).getD 9 false = L.getD 9 false := getD_set_ne false (by decide)
        have e10 : (L.setIfInBounds 8 true).getD 10 false = L.getD 10 false := getD_set_ne false (by decide)
        have e8 : (L.setIfInBounds 8 true).getD 8 false = true := by rw [getD_set_if L 8 8 (by omega), if_pos rfl]
        have ls : L.getD 9 false = false := by rcases Bool.eq_false_or_eq_true (L.getD 9 false) with h | h; exact absurd (ist h) (by rw [hl]; decide); exact h
        go_simp
        exact ⟨_, v16, v51, v52, v53, v54, v55, v56, v57, v58, rfl, by rw [e0]; exact i0, by rw [e1]; exact i1, by rw [e2]; exact i2, by rw [e3]; exact i3, by rw [e4]; exact i4, by rw [e5]; exact i5, by rw [e6]; exact i6, by rw [e7]; exact i7, by rw [e10]; exact i10, fun _ => ⟨_, rfl, hsz, by rw [e9, ls]; exact At.new wx _ _⟩, fun _ => e8, hC.alloc0 _, by simp; omega⟩
      · obtain rfl := Option.some.inj ho
        clear ho
        have l8 := hall ⟨8, .data⟩ (by simp) rfl
        have l6 := hall ⟨6, .data⟩ (by simp) rfl
        clear hall
        refine wpOp_inv (o := _) rfl rfl ?_
        have e0 : (L.setIfInBounds 9 true).getD 0 false = L.getD 0 false := getD_set_ne false (by decide)
        have e1 : (L.setIfInBounds 9 true).getD 1 false = L.getD 1 false := getD_set_ne false (by decide)
        have e2 : (L.setIfInBounds 9 true).getD 2 false = L.getD 2 false := getD_set_ne false (by decide)
        have e3 : (L.setIfInBounds 9 true).getD 3 false = L.getD 3 false := getD_set_ne false (by decide)
        have e4 : (L.setIfInBounds 9 true).getD 4 false = L.getD 4 false := getD_set_ne false (by decide)
        have e5 : (L.setIfInBounds 9 true).getD 5 false = L.getD 5 false := getD_set_ne false (by decide)
        have e6 : (L.setIfInBounds 9 true).getD 6 false = L.getD 6 false := getD_set_ne false (by decide)
        have e7 : (L.setIfInBounds 9 true).getD 7 false = L.getD 7 false := getD_set_ne false (by decide)
        have e8 : (L.setIfInBounds 9 true).getD 8 false = L.getD 8 false := getD_set_ne false (by decide)
        have e10 : (L.setIfInBounds 9 true).getD 10 false = L.getD 10 false := getD_set_ne false (by decide)
        have e9 : (L.setIfInBounds 9 true).getD 9 false = true := by rw [getD_set_if L 9 9 (by omega), if_pos rfl]
        obtain ⟨y, rfl, hyz, K⟩ := ia l8
        obtain rfl := i6 l6
        rw [hl] at K
        have K : At wx y #[.int .i64 0, .int .u64 0] := K
        have k0 := K.cell 0; have k1 := K.cell 1; have k2 := K.frozen 0; have k3 := K.frozen 1
        go_simp
        exact ⟨_, v16, v51, v52, v53, v54, v55, v56, _, v58, rfl, by rw [e0]; exact i0, by rw [e1]; exact i1, by rw [e2]; exact i2, by rw [e3]; exact i3, by rw [e4]; exact i4, by rw [e5]; exact i5, fun _ => rfl, by rw [e7]; exact i7, by rw [e10]; exact i10, fun _ => ⟨y, rfl, hyz, by rw [e9]; exact K.set2 _ _⟩, fun _ => by rw [e8]; exact l8, hC.store2 hyz hbs hbW _ _, by simpa [World.setCell] using hsz⟩
      · obtain rfl := Option.some.inj ho
        clear ho
        have l7 := hall ⟨7, .data⟩ (by simp) rfl
        clear hall
        refine wpOp_inv (o := _) rfl rfl ?_
        have e0 : (L.setIfInBounds 10 true).getD 0 false = L.getD 0 false := getD_set_ne false (by decide)
        have e1 : (L.setIfInBounds 10 true).getD 1 false = L.getD 1 false := getD_set_ne false (by decide)
        have e2 : (L.setIfInBounds 10 true).getD 2 false = L.getD 2 false := getD_set_ne false (by decide)
        have e3 : (L.setIfInBounds 10 true).getD 3 false = L.getD 3 false := getD_set_ne false (by decide)
        have e4 : (L.setIfInBounds 10 true).getD 4 false = L.getD 4 false := getD_set_ne false (by decide)
        have e5 : (L.setIfInBounds 10 true).getD 5 false = L.getD 5 false := getD_set_ne false (by decide)
        have e6 : (L.setIfInBounds 10 true).getD 6 false = L.getD 6 false := getD_set_ne false (by decide)
        have e7 : (L.setIfInBounds 10 true).getD 7 false = L.getD 7 false := getD_set_ne false (by decide)
        have e8 : (L.setIfInBounds 10 true).getD 8 false = L.getD 8 false := getD_set_ne false (by decide)
        have e9 : (L.setIfInBounds 10 true).getD 9 false = L.getD 9 false := getD_set_ne false (by decide)
        have e10 : (L.setIfInBounds 10 true).getD 10 false = true := by rw [getD_set_if L 10 10 (by omega), if_pos rfl]
        obtain rfl := i7 l7
        go_simp
        exact ⟨v15, _, v51, v52, v53, v54, v55, v56, v57, _, rfl, by rw [e0]; exact i0, by rw [e1]; exact i1, by rw [e2]; exact i2, by rw [e3]; exact i3, by rw [e4]; exact i4, by rw [e5]; exact i5, by rw [e6]; exact i6, fun _ => rfl, fun _ => rfl, by rw [e8, e9]; exact ia, by rw [e8, e9]; exact ist, hC, hsz⟩
      · exact absurd ho (by simp)
    · intro L ac wx hall hI
      obtain ⟨v15, v16, v51, v52, v53, v54, v55, v56, v57, v58, rfl, i0, i1, i2, i3, i4, i5, i6, i7, i10, ia, ist, hC, hsz⟩ := hI
      obtain rfl := i0 (hall 0 (by decide))
      obtain rfl := i1 (hall 1 (by decide))
      obtain rfl := i2 (hall 2 (by decide))
      obtain rfl := i3 (hall 3 (by decide))
      obtain rfl := i4 (hall 4 (by decide))
      obtain rfl := i5 (hall 5 (by decide))
      obtain rfl := i6 (hall 6 (by decide))
      obtain rfl := i7 (hall 7 (by decide))
      obtain rfl := i10 (hall 10 (by decide))
      obtain ⟨y2, rfl, hyz, BS⟩ := ia (hall 8 (by decide))
      rw [if_pos (hall 9 (by decide))] at BS
      have C := hC.cons BS
      clear hC BS hall ist ia i0 i1 i2 i3 i4 i5 i6 i7 i10
      clear Cd
      clear hbs hbW hsz hyz
      have cc0 := C.cells 0 rfl
      have cc1 := C.cells 1 rfl
      have cc2 := C.cells 2 rfl
      have cc3 := C.cells 3 rfl
      have cc4 := C.cells 4 rfl
      have cc5 := C.cells 5 rfl
      have cc6 := C.cells 6 rfl
      go_wp2_with fail
      refine (K1.out _).mono ?_; rintro e w31 ⟨rfl, hX⟩
      clear cc0 cc1 cc2 cc3 cc4 cc5 cc6
      replace C := C.step (j := 0) hX
      clear hX
      have cc0 := C.cells 0 rfl
      have cc1 := C.cells 1 rfl
      have cc2 := C.cells 2 rfl
      have cc3 := C.cells 3 rfl
      have cc4 := C.cells 4 rfl
      have cc5 := C.cells 5 rfl
      have cc6 := C.cells 6 rfl
      go_wp2_with fail
      refine (R3.out _).mono ?_; rintro e w32 ⟨rfl, hX⟩
      clear cc0 cc1 cc2 cc3 cc4 cc5 cc6
      replace C := (C.step (j := 0) hX).push #[.int .i64 n.hi, .int .u64 n.lo] 27
      clear hX
      generalize hz32 : w32.heap.size = z32 at *
      have cc0 := C.cells 0 rfl
      have cc1 := C.cells 1 rfl
      have cc2 := C.cells 2 rfl
      have cc3 := C.cells 3 rfl
      have cc4 := C.cells 4 rfl
      have cc5 := C.cells 5 rfl
      have cc6 := C.cells 6 rfl
      have cc7 := C.cells 7 rfl
      go_wp2_with fail
      refine (K1.out _).mono ?_; rintro e w33 ⟨rfl, hX⟩
      clear cc0 cc1 cc2 cc3 cc4 cc5 cc6 cc7
      replace C := C.step (j := 0) hX
      clear hX
      have cc0 := C.cells 0 rfl
      have cc1 := C.cells 1 rfl
      have cc2 := C.cells 2 rfl
      have cc3 := C.cells 3 rfl
      have cc4 := C.cells 4 rfl
      have cc5 := C.cells 5 rfl
      have cc6 := C.cells 6 rfl
      have cc7 := C.cells 7 rfl
      go_wp2_with fail
      refine (R4.out _).mono ?_; rintro e w34 ⟨rfl, hX⟩
      clear cc0 cc1 cc2 cc3 cc4 cc5 cc6 cc7
      replace C := C.step (j := 0) hX
      clear hX
      have cc0 := C.cells 0 rfl
      have cc1 := C.cells 1 rfl
      have cc2 := C.cells 2 rfl
      have cc3 := C.cells 3 rfl
      have cc4 := C.cells 4 rfl
      have cc5 := C.cells 5 rfl
      have cc6 := C.cells 6 rfl
      have cc7 := C.cells 7 rfl
      go_wp2_with fail
      clear cc0 cc1 cc2 cc3 cc4 cc5 cc6 cc7
      have Cd := C.drew
      clear C
      refine wp_region_stage (CL W [(z32, #[.int .i64 n.hi, .int .u64 n.lo]), (y2, #[.int .i64 d.hi, .int .u64 d.lo]), (y1, #[.int .i64 s.hi, .int .u64 s.lo]), (z3, #[.int .i64 n.hi, .int .u64 n.lo]), (z2, #[.int .i64 d.hi, .int .u64 d.lo]), (z1, #[.int .i64 s.hi, .int .u64 s.lo]), (z + 1, #[.int .i64 b.hi, .int .u64 b.lo]), (z, #[.int .i64 a.hi, .int .u64 a.lo])]) [] [(0, 0, false), (0, 0, false), (0, 0, false), (0, 0, false), (0, 0, false), (0, 0, false), (0, 0, false), (0, 0, false), (0, 0, false), (0, 0, false), (0, 0, false), (0, 0, false), (0, 0, false), (0, 0, false), (0, 0, false), (0, 0, false), (0, 0, false), (0, 0, false), (0, 0, false), (0, 0, false), (0, 0, false), (0, 0, false), (0, 0, false), (0, 0, false), (0, 0, false), (0, 0, false), (0, 0, false), (0, 0, false), (0, 0, false), (0, 0, false), (0, 0, false), (0, 0, false), (0, 0, false), (0, 0, false), (0, 0, false), (0, 0, false), (0, 0, false), (0, 0, false), (0, 0, false), (0, 0, false), (0, 0, false), (0, 0, false), (0, 0, false), (0, 0, false), (0, 0, false), (0, 0, false), (0, 0, false), (0, 0, false), (0, 0, false), (0, 0, false), (0, 0, false), (0, 0, false), (0, 0, false), (0, 0, false), (0, 0, false), (0, 0, false), (0, 0, false), (0, 0, false), (0, 0, false), (0, 0, false), (0, 0, false), (0, 0, false), (0, 0, false), (0, 0, false), (0, 0, false)]
        (by kernel_rfl) (by kernel_rfl) (by kernel_rfl) (Cd) ?_
      simp only [List.zip_cons_cons, List.zip_nil_right]
      refine wpStage_yes (by go_simp) ?_
      intro K hK
      apply Exists.intro
      refine ⟨fun kk ww hk1 hk2 hC => ?_, ?_⟩
      · go_simp
        go_at_call 11; refine (awake01 _).mono ?_; rintro e w' ⟨rfl, hX⟩
        exact ⟨rfl, hC.step hX⟩
      go_simp
      refine hK _ ?_
      clear hK K
      refine wpStage_yes (by go_simp) ?_
      intro K hK
      apply Exists.intro
      refine ⟨fun kk ww hk1 hk2 hC => ?_, ?_⟩
      · go_simp
        with_reducible exact rfl
      go_simp
      refine hK _ ?_
      clear hK K
      refine wpStage_yes (by go_simp) ?_
      intro K hK
      apply Exists.intro
      refine ⟨fun kk ww hk1 hk2 hC => ?_, ?_⟩
      · have c0 := (hC.get 5 rfl).cell 0; have c1 := (hC.get 5 rfl).cell 1
        go_simp
        with_reducible exact rfl
      go_simp
      refine hK _ ?_
      clear hK K
      refine wpStage_yes (by go_simp) ?_
      intro K hK
      apply Exists.intro
      refine ⟨fun kk ww hk1 hk2 hC => ?_, ?_⟩
      · go_simp
        go_at_call 12; refine (K3.out _).mono ?_; rintro e w' ⟨rfl, hX⟩
        exact ⟨rfl, hC.step hX⟩
      go_simp
      refine hK _ ?_
      clear hK K
      refine wpStage_yes (by go_simp) ?_
      intro K hK
      apply Exists.intro
      refine ⟨fun kk ww hk1 hk2 hC => ?_, ?_⟩
      · have c0 := (hC.get 2 rfl).cell 0; have c1 := (hC.get 2 rfl).cell 1
        go_simp
        with_reducible exact rfl
      go_simp
      refine hK _ ?_
      clear hK K
      refine wpStage_yes (by go_simp) ?_
      intro K hK
      apply Exists.intro
      refine ⟨fun kk ww hk1 hk2 hC => ?_, ?_⟩
      · go_simp
        with_reducible exact rfl
      go_simp
      refine hK _ ?_
      clear hK K
      refine wpStage_yes (by go_simp) ?_
      intro K hK
      apply Exists.intro
      refine ⟨fun kk ww hk1 hk2 hC => ?_, ?_⟩
      · go_simp
        with_reducible exact rfl
      go_simp
      refine hK _ ?_
      clear hK K
      refine wpStage_yes (by go_simp) ?_
      intro K hK
      apply Exists.intro
      refine ⟨fun kk ww hk1 hk2 hC => ?_, ?_⟩
      · go_simp
        with_reducible exact rfl
      go_simp
      refine hK _ ?_
      clear hK K
      refine wpStage_yes (by go_simp) ?_
      intro K hK
      apply Exists.intro
      refine ⟨fun kk ww hk1 hk2 hC => ?_, ?_⟩
      · go_simp
        with_reducible exact rfl
      go_simp
      refine hK _ ?_
      clear hK K
      refine wpStage_yes (by go_simp) ?_
      intro K hK
      apply Exists.intro
      refine ⟨fun kk ww hk1 hk2 hC => ?_, ?_⟩
      · go_simp
        with_reducible exact rfl
      go_simp
      refine hK _ ?_
      clear hK K
      refine wpStage_yes (by go_simp) ?_
      intro K hK
      apply Exists.intro
      refine ⟨fun kk ww hk1 hk2 hC => ?_, ?_⟩
      · go_simp
        with_reducible exact rfl
      go_simp
      refine hK _ ?_
      clear hK K
      refine wpStage_yes (by go_simp) ?_
      intro K hK
      apply Exists.intro
      refine ⟨fun kk ww hk1 hk2 hC => ?_, ?_⟩
      · go_simp
        with_reducible exact rfl
      go_simp
      refine hK _ ?_
      clear hK K
      refine wpStage_yes (by go_simp) ?_
      intro K hK
      apply Exists.intro
      refine ⟨fun kk ww hk1 hk2 hC => ?_, ?_⟩
      · go_simp
        with_reducible exact rfl
      go_simp
      refine hK _ ?_
      clear hK K
      refine wpStage_yes (by go_simp) ?_
      intro K hK
      apply Exists.intro
      refine ⟨fun kk ww hk1 hk2 hC => ?_, ?_⟩
      · have c0 := (hC.get 4 rfl).cell 0; have c1 := (hC.get 4 rfl).cell 1
        go_simp
        with_reducible exact rfl
      go_simp
      refine hK _ ?_
      clear hK K
      refine wpStage_yes (by go_simp) ?_
      intro K hK
      apply Exists.intro
      refine ⟨fun kk ww hk1 hk2 hC => ?_, ?_⟩
      · go_simp
        go_at_call 12; refine (K4.out _).mono ?_; rintro e w' ⟨rfl, hX⟩
        exact ⟨rfl, hC.step hX⟩
      go_simp
      refine hK _ ?_
      clear hK K
      refine wpStage_yes (by go_simp) ?_
      intro K hK
      apply Exists.intro
      refine ⟨fun kk ww hk1 hk2 hC => ?_, ?_⟩
      · have c0 := (hC.get 1 rfl).cell 0; have c1 := (hC.get 1 rfl).cell 1
        go_simp
        with_reducible exact rfl
      go_simp
      refine hK _ ?_
      clear hK K
      refine wpStage_yes (by go_simp) ?_
      intro K hK
      apply Exists.intro
      refine ⟨fun kk ww hk1 hk2 hC => ?_, ?_⟩
      · go_simp
        with_reducible exact rfl
      go_simp
      refine hK _ ?_
      clear hK K
      refine wpStage_yes (by go_simp) ?_
      intro K hK
      apply Exists.intro
      refine ⟨fun kk ww hk1 hk2 hC => ?_, ?_⟩
      · go_simp
        with_reducible exact rfl
      go_simp
      refine hK _ ?_
      clear hK K
      refine wpStage_yes (by go_simp) ?_
      intro K hK
      apply Exists.intro
      refine ⟨fun kk ww hk1 hk2 hC => ?_, ?_⟩
      · go_simp
        with_reducible exact rfl
      go_simp
      refine hK _ ?_
      clear hK K
      refine wpStage_yes (by go_simp) ?_
      intro K hK
      apply Exists.intro
      refine ⟨fun kk ww hk1 hk2 hC => ?_, ?_⟩
      · go_simp
        with_reducible exact rfl
      go_simp
      refine hK _ ?_
      clear hK K
      refine wpStage_yes (by go_simp) ?_
      intro K hK
      apply Exists.intro
      refine ⟨fun kk ww hk1 hk2 hC => ?_, ?_⟩
      · go_simp
        with_reducible exact rfl
      go_simp
      refine hK _ ?_
      clear hK K
      refine wpStage_yes (by go_simp) ?_
      intro K hK
      apply Exists.intro
      refine ⟨fun kk ww hk1 hk2 hC => ?_, ?_⟩
      · go_simp
        with_reducible exact rfl
      go_simp
      refine hK _ ?_
      clear hK K
      refine wpStage_yes (by go_simp) ?_
      intro K hK
      apply Exists.intro
      refine ⟨fun kk ww hk1 hk2 hC => ?_, ?_⟩
      · go_simp
        with_reducible exact rfl
      go_simp
      refine hK _ ?_
      clear hK K
      refine wpStage_yes (by go_simp) ?_
      intro K hK
      apply Exists.intro
      refine ⟨fun kk ww hk1 hk2 hC => ?_, ?_⟩
      · go_simp
        with_reducible exact rfl
      go_simp
      refine hK _ ?_
      clear hK K
      refine wpStage_yes (by go_simp) ?_
      intro K hK
      apply Exists.intro
      refine ⟨fun kk ww hk1 hk2 hC => ?_, ?_⟩
      · have c0 := (hC.get 3 rfl).cell 0; have c1 := (hC.get 3 rfl).cell 1
        go_simp
        with_reducible exact rfl
      go_simp
      refine hK _ ?_
      clear hK K
      refine wpStage_yes (by go_simp) ?_
      intro K hK
      apply Exists.intro
      refine ⟨fun kk ww hk1 hk2 hC => ?_, ?_⟩
      · go_simp
        go_at_call 12; refine (K5.out _).mono ?_; rintro e w' ⟨rfl, hX⟩
        exact ⟨rfl, hC.step hX⟩
      go_simp
      refine hK _ ?_
      clear hK K
      refine wpStage_yes (by go_simp) ?_
      intro K hK
      apply Exists.intro
      refine ⟨fun kk ww hk1 hk2 hC => ?_, ?_⟩
      · have c0 := (hC.get 0 rfl).cell 0; have c1 := (hC.get 0 rfl).cell 1
        go_simp
        with_reducible exact rfl
      go_simp
      refine hK _ ?_
      clear hK K
      refine wpStage_yes (by go_simp) ?_
      intro K hK
      apply Exists.intro
      refine ⟨fun kk ww hk1 hk2 hC => ?_, ?_⟩
      · go_simp
        with_reducible exact rfl
      go_simp
      refine hK _ ?_
      clear hK K
      refine wpStage_yes (by go_simp) ?_
      intro K hK
      apply Exists.intro
      refine ⟨fun kk ww hk1 hk2 hC => ?_, ?_⟩
      · go_simp
        with_reducible exact rfl
      go_simp
      refine hK _ ?_
      clear hK K
      refine wpStage_yes (by go_simp) ?_
      intro K hK
      apply Exists.intro
      refine ⟨fun kk ww hk1 hk2 hC => ?_, ?_⟩
      · go_simp
        with_reducible exact rfl
      go_simp
      refine hK _ ?_
      clear hK K
      refine wpStage_yes (by go_simp) ?_
      intro K hK
      apply Exists.intro
      refine ⟨fun kk ww hk1 hk2 hC => ?_, ?_⟩
      · go_simp
        with_reducible exact rfl
      go_simp
      refine hK _ ?_
      clear hK K
      refine wpStage_yes (by go_simp) ?_
      intro K hK
      apply Exists.intro
      refine ⟨fun kk ww hk1 hk2 hC => ?_, ?_⟩
      · go_simp
        with_reducible exact rfl
      go_simp
      refine hK _ ?_
      clear hK K
      refine wpStage_yes (by go_simp) ?_
      intro K hK
      apply Exists.intro
      refine ⟨fun kk ww hk1 hk2 hC => ?_, ?_⟩
      · go_simp
        with_reducible exact rfl
      go_simp
      refine hK _ ?_
      clear hK K
      refine wpStage_yes (by go_simp) ?_
      intro K hK
      apply Exists.intro
      refine ⟨fun kk ww hk1 hk2 hC => ?_, ?_⟩
      · go_simp
        with_reducible exact rfl
      go_simp
      refine hK _ ?_
      clear hK K
      refine wpStage_yes (by go_simp) ?_
      intro K hK
      apply Exists.intro
      refine ⟨fun kk ww hk1 hk2 hC => ?_, ?_⟩
      · go_simp
        with_reducible exact rfl
      go_simp
      refine hK _ ?_
      clear hK K
      refine wpStage_yes (by go_simp) ?_
      intro K hK
      apply Exists.intro
      refine ⟨fun kk ww hk1 hk2 hC => ?_, ?_⟩
      · go_simp
        with_reducible exact rfl
      go_simp
      refine hK _ ?_
      clear hK K
      refine wpStage_yes (by go_simp) ?_
      intro K hK
      apply Exists.intro
      refine ⟨fun kk ww hk1 hk2 hC => ?_, ?_⟩
      · go_simp
        with_reducible exact rfl
      go_simp
      refine hK _ ?_
      clear hK K
      refine wpStage_yes (by go_simp) ?_
      intro K hK
      apply Exists.intro
      refine ⟨fun kk ww hk1 hk2 hC => ?_, ?_⟩
      · go_simp
        with_reducible exact rfl
      go_simp
      refine hK _ ?_
      clear hK K
      refine wpStage_yes (by go_simp) ?_
      intro K hK
      apply Exists.intro
      refine ⟨fun kk ww hk1 hk2 hC => ?_, ?_⟩
      · go_simp
        with_reducible exact rfl
      go_simp
      refine hK _ ?_
      clear hK K
      refine wpStage_yes (by go_simp) ?_
      intro K hK
      apply Exists.intro
      refine ⟨fun kk ww hk1 hk2 hC => ?_, ?_⟩
      · go_simp
        with_reducible exact rfl
      go_simp
      refine hK _ ?_
      clear hK K
      refine wpStage_yes (by go_simp) ?_
      intro K hK
      apply Exists.intro
      refine ⟨fun kk ww hk1 hk2 hC => ?_, ?_⟩
      · go_simp
        with_reducible exact rfl
      go_simp
      refine hK _ ?_
      clear hK K
      refine wpStage_yes (by go_simp) ?_
      intro K hK
      apply Exists.intro
      refine ⟨fun kk ww hk1 hk2 hC => ?_, ?_⟩
      · go_simp
        with_reducible exact rfl
      go_simp
      refine hK _ ?_
      clear hK K
      refine wpStage_yes (by go_simp) ?_
      intro K hK
      apply Exists.intro
      refine ⟨fun kk ww hk1 hk2 hC => ?_, ?_⟩
      · go_simp
        with_reducible exact rfl
      go_simp
      refine hK _ ?_
      clear hK K
      refine wpStage_yes (by go_simp) ?_
      intro K hK
      apply Exists.intro
      refine ⟨fun kk ww hk1 hk2 hC => ?_, ?_⟩
      · go_simp
        with_reducible exact rfl
      go_simp
      refine hK _ ?_
      clear hK K
      refine wpStage_yes (by go_simp) ?_
      intro K hK
      apply Exists.intro
      refine ⟨fun kk ww hk1 hk2 hC => ?_, ?_⟩
      · go_simp
        with_reducible exact rfl
      go_simp
      refine hK _ ?_
      clear hK K
      refine wpStage_yes (by go_simp) ?_
      intro K hK
      apply Exists.intro
      refine ⟨fun kk ww hk1 hk2 hC => ?_, ?_⟩
      · have c0 := (hC.get 7 rfl).cell 0; have c1 := (hC.get 7 rfl).cell 1
        go_simp
        with_reducible exact rfl
      go_simp
      refine hK _ ?_
      clear hK K
      refine wpStage_yes (by go_simp) ?_
      intro K hK
      apply Exists.intro
      refine ⟨fun kk ww hk1 hk2 hC => ?_, ?_⟩
      · have c0 := (hC.get 6 rfl).cell 0; have c1 := (hC.get 6 rfl).cell 1
        go_simp
        with_reducible exact rfl
      go_simp
      refine hK _ ?_
      clear hK K
      refine wpStage_yes (by go_simp) ?_
      intro K hK
      apply Exists.intro
      refine ⟨fun kk ww hk1 hk2 hC => ?_, ?_⟩
      · go_simp
        go_at_call 20; refine (N1.out _).mono ?_; rintro e w' ⟨rfl, hX⟩
        exact ⟨rfl, hC.step hX⟩
      go_simp
      refine hK _ ?_
      clear hK K
      refine wpStage_yes (by go_simp) ?_
      intro K hK
      apply Exists.intro
      refine ⟨fun kk ww hk1 hk2 hC => ?_, ?_⟩
      · have c0 := (hC.get 7 rfl).cell 0; have c1 := (hC.get 7 rfl).cell 1
        go_simp
        with_reducible exact rfl
      go_simp
      refine hK _ ?_
      clear hK K
      refine wpStage_yes (by go_simp) ?_
      intro K hK
      apply Exists.intro
      refine ⟨fun kk ww hk1 hk2 hC => ?_, ?_⟩
      · go_simp
        go_at_call 12; refine (K1.out _).mono ?_; rintro e w' ⟨rfl, hX⟩
        exact ⟨rfl, hC.step hX⟩
      go_simp
      refine hK _ ?_
      clear hK K
      refine wpStage_yes (by go_simp) ?_
      intro K hK
      apply Exists.intro
      refine ⟨fun kk ww hk1 hk2 hC => ?_, ?_⟩
      · have c0 := (hC.get 6 rfl).cell 0; have c1 := (hC.get 6 rfl).cell 1
        go_simp
        with_reducible exact rfl
      go_simp
      refine hK _ ?_
      clear hK K
      refine wpStage_yes (by go_simp) ?_
      intro K hK
      apply Exists.intro
      refine ⟨fun kk ww hk1 hk2 hC => ?_, ?_⟩
      · go_simp
        go_at_call 12; refine (K2.out _).mono ?_; rintro e w' ⟨rfl, hX⟩
        exact ⟨rfl, hC.step hX⟩
      go_simp
      refine hK _ ?_
      clear hK K
      refine wpStage_yes (by go_simp) ?_
      intro K hK
      apply Exists.intro
      refine ⟨fun kk ww hk1 hk2 hC => ?_, ?_⟩
      · go_simp
        go_at_call 27; refine (N2.out _).mono ?_; rintro e w' ⟨rfl, hX⟩
        exact ⟨rfl, hC.step hX⟩
      go_simp
      refine hK _ ?_
      clear hK K
      refine wpStage_yes (by go_simp) ?_
      intro K hK
      apply Exists.intro
      refine ⟨fun kk ww hk1 hk2 hC => ?_, ?_⟩
      · go_simp
        with_reducible exact rfl
      go_simp
      refine hK _ ?_
      clear hK K
      refine wpStage_yes (by go_simp) ?_
      intro K hK
      apply Exists.intro
      refine ⟨fun kk ww hk1 hk2 hC => ?_, ?_⟩
      · go_simp
        with_reducible exact rfl
      go_simp
      refine hK _ ?_
      clear hK K
      refine wpStage_yes (by go_simp) ?_
      intro K hK
      apply Exists.intro
      refine ⟨fun kk ww hk1 hk2 hC => ?_, ?_⟩
      · go_simp
        with_reducible exact rfl
      go_simp
      refine hK _ ?_
      clear hK K
      refine wpStage_yes (by go_simp) ?_
      intro K hK
      apply Exists.intro
      refine ⟨fun kk ww hk1 hk2 hC => ?_, ?_⟩
      · have c0 := (hC.get 7 rfl).cell 0; have c1 := (hC.get 7 rfl).cell 1
        go_simp
        with_reducible exact rfl
      go_simp
      refine hK _ ?_
      clear hK K
      refine wpStage_yes (by go_simp) ?_
      intro K hK
      apply Exists.intro
      refine ⟨fun kk ww hk1 hk2 hC => ?_, ?_⟩
      · go_simp
        go_at_call 28; refine (N3.out _).mono ?_; rintro e w' ⟨rfl, hX⟩
        exact ⟨rfl, hC.step hX⟩
      go_simp
      refine hK _ ?_
      clear hK K
      refine wpStage_yes (by go_simp) ?_
      intro K hK
      apply Exists.intro
      refine ⟨fun kk ww hk1 hk2 hC => ?_, ?_⟩
      · have c0 := (hC.get 7 rfl).cell 0; have c1 := (hC.get 7 rfl).cell 1
        go_simp
        with_reducible exact rfl
      go_simp
      refine hK _ ?_
      clear hK K
      refine wpStage_yes (by go_simp) ?_
      intro K hK
      apply Exists.intro
      refine ⟨fun kk ww hk1 hk2 hC => ?_, ?_⟩
      · go_simp
        go_at_call 12; refine (K1.out _).mono ?_; rintro e w' ⟨rfl, hX⟩
        exact ⟨rfl, hC.step hX⟩
      go_simp
      refine hK _ ?_
      clear hK K
      refine wpStage_yes (by go_simp) ?_
      intro K hK
      apply Exists.intro
      refine ⟨fun kk ww hk1 hk2 hC => ?_, ?_⟩
      · go_simp
        with_reducible exact rfl
      go_simp
      refine hK _ ?_
      clear hK K
      refine wpStage_yes (by go_simp) ?_
      intro K hK
      apply Exists.intro
      refine ⟨fun kk ww hk1 hk2 hC => ?_, ?_⟩
      · go_simp
        go_at_call 27; refine (N4.out _).mono ?_; rintro e w' ⟨rfl, hX⟩
        exact ⟨rfl, hC.step hX⟩
      go_simp
      refine hK _ ?_
      clear hK K
      refine wpStage_yes (by go_simp) ?_
      intro K hK
      apply Exists.intro
      refine ⟨fun kk ww hk1 hk2 hC => ?_, ?_⟩
      · go_simp
        with_reducible exact rfl
      go_simp
      refine hK _ ?_
      clear hK K
      refine wpStage_yes (by go_simp) ?_
      intro K hK
      apply Exists.intro
      refine ⟨fun kk ww hk1 hk2 hC => ?_, ?_⟩
      · go_simp
        with_reducible exact rfl
      go_simp
      refine hK _ ?_
      clear hK K
      refine wpStage_yes (by go_simp) ?_
      intro K hK
      apply Exists.intro
      refine ⟨fun kk ww hk1 hk2 hC => ?_, ?_⟩
      · go_simp
        with_reducible exact rfl
      go_simp
      refine hK _ ?_
      clear hK K
      refine wpStage_nil (fun ww hC => ?_)
      clear Cd
      have C := hC
      clear hC
      have cc0 := C.cells 0 rfl
      have cc1 := C.cells 1 rfl
      have cc2 := C.cells 2 rfl
      have cc3 := C.cells 3 rfl
      have cc4 := C.cells 4 rfl
      have cc5 := C.cells 5 rfl
      have cc6 := C.cells 6 rfl
      have cc7 := C.cells 7 rfl
      go_wp2_with fail
      go_returns
      exact ⟨rfl, hzW ▸ C.x.to_below⟩
end Go.Proofs.Ytlhnnfofdkjapaa
