/- The reference of package latch: Kept. -/
import Derived.Test.YtjneidmkllhbjaaLrr
namespace Go.Proofs.Ytjneidmkllhbjaa
open Go.RowKit

/-- Of two slots' bytes: which one is kept, and its record. -/
def keptK (a b : ByteArray) : Int := if isRec a = true ∧ (isRec b = false ∨ (lread b).seq ≤ (lread a).seq) then 0 else if isRec b = true then 1 else -1
def keptR (a b : ByteArray) : RcV := if isRec a = true ∧ (isRec b = false ∨ (lread b).seq ≤ (lread a).seq) then lread a else if isRec b = true then lread b else RcV.zero
theorem cells_one (r : RcV) : r.cells.all (·.oneCell') = true := by unfold RcV.cells; simp [Value.oneCell']
set_option maxRecDepth 100000 in
set_option maxHeartbeats 4000000 in
theorem rkept_any (W : World) (a b : ByteArray) (ha : a.size ≤ maxLen) (hb : b.size ≤ maxLen) : Calls Try.prog 18 #[.string a, .string b] W fun e w' => e = .returned (.tuple #[.int .i64 (keptK a b), .agg (keptR a b).cells]) ∧ Chg [] W w' := by
  have HA := fun w => rread_any w a ha
  have HB := fun w => rread_any w b hb
  have HK := Lib.hid (show keptK a b = (if isRec a = true ∧ (isRec b = false ∨ (lread b).seq ≤ (lread a).seq) then 0 else if isRec b = true then 1 else -1) from rfl)
  have HR := Lib.hid (show keptR a b = (if isRec a = true ∧ (isRec b = false ∨ (lread b).seq ≤ (lread a).seq) then lread a else if isRec b = true then lread b else RcV.zero) from rfl)
  generalize keptK a b = kk at *
  generalize keptR a b = kr at *
  have oa := cells_one (lread a)
  have ob := cells_one (lread b)
  have sa : (lread a).cells.size = 9 := rfl
  have sb : (lread b).cells.size = 9 := rfl
  have qa : (lread a).cells[0]? = some (.int .i64 (lread a).seq) := rfl
  have qb : (lread b).cells[0]? = some (.int .i64 (lread b).seq) := rfl
  have hze : RcV.zero.cells = #[.int .i64 0, .int .i64 0, .int .i64 0, .int .i64 0, .int .i64 0, .int .i64 0, .int .i64 0, .int .i64 0, .int .i64 0] := rfl
  have C := (CL.new W 0).push #[.int .i64 0, .int .i64 0, .int .i64 0, .int .i64 0, .int .i64 0, .int .i64 0, .int .i64 0, .int .i64 0, .int .i64 0] 28
  generalize lread a = ra at *
  generalize lread b = rb at *
  have Oa := Lib.hid oa
  have Ob := Lib.hid ob
  have Sa := Lib.hid sa
  have Sb := Lib.hid sb
  have Qa := Lib.hid qa
  have Qb := Lib.hid qb
  clear oa ob sa sb qa qb
  go_enter Try.func18, Try.ntmps18
  go_upto_region 1 with fail
  generalize hz : W.heap.size = z at *
  have hzW : W.heap.size ≤ z := by omega
  clear hz
  generalize W.alloc (.cells #[.int .i64 0, .int .i64 0, .int .i64 0, .int .i64 0, .int .i64 0, .int .i64 0, .int .i64 0, .int .i64 0, .int .i64 0] 28) = w1 at *
  go_wp2_with fail
  refine (HA _).mono ?_; rintro e w2 ⟨rfl, hX⟩
  replace C := C.step (j := 0) hX
  clear hX
  go_wp2_with (refine wpList_put rfl rfl rfl rfl (At.new _ _ _) Sa.out (by rw [Sa.out]; kernel_rfl) Oa.out ?_; intro w3 hz3 hX3; refine Hid.out ?_)
  refine Lib.hid ?_
  replace C := C.fill hX3 hz3
  clear hz3 hX3
  generalize w2.heap.size = za at *
  go_wp2_with fail
  refine (HB _).mono ?_; rintro e w4 ⟨rfl, hX⟩
  replace C := C.step (j := 0) hX
  clear hX
  go_wp2_with (refine wpList_put rfl rfl rfl rfl (At.new _ _ _) Sb.out (by rw [Sb.out]; kernel_rfl) Ob.out ?_; intro w5 hz5 hX5; refine Hid.out ?_)
  refine Lib.hid ?_
  have hl0 := (C.get 0 rfl).lt
  have hl1 := (C.get 1 rfl).lt
  replace C := C.fill hX5 hz5
  clear hz5 hX5
  generalize w4.heap.size = zb at *
  have a0 := ((C.get 1 rfl).cell 0).trans Qa.out
  have b0 := ((C.get 0 rfl).cell 0).trans Qb.out
  dsimp only at a0 b0 hl0 hl1
  -- the end
  have Hkk := HK.out
  have Hkr := HR.out
  clear HK HR HA HB
  generalize isRec a = pa at *
  generalize isRec b = pb at *
  cases pa with
  | true =>
    cases pb with
    | false =>
      obtain ⟨rfl, rfl⟩ : 0 = kk ∧ ra = kr := by rw [Hkk, Hkr]; simp
      clear Hkk Hkr
      go_upto_region 4 with fail
      refine wp_region_ex (fun k w => (k = 0 → CL W [(zb, rb.cells), (za, ra.cells), (z, #[.int .i64 0, .int .i64 0, .int .i64 0, .int .i64 0, .int .i64 0, .int .i64 0, .int .i64 0, .int .i64 0, .int .i64 0])] 0 w) ∧ (k = 1 → At w z ra.cells ∧ Chg [] W w)) (fun _ _ => True) [2] [(0, 0, false), (0, 0, false), (0, 0, true)] [32, 4] (by kernel_rfl) rfl (by kernel_rfl) (by kernel_rfl) (⟨fun _ => C.drew, fun h => absurd h (by decide)⟩) ?_
      simp only [List.zip_cons_cons, List.zip_nil_right]
      refine ex_det 32 [6] rfl rfl (fun _ _ _ _ _ _ _ _ => rfl) ?_
      apply Exists.intro
      refine ⟨?_, ?_⟩
      · intro wx b k hk1 hk2 hC hb hd K hK
        have e6 := hb 6 rfl
        simp only [exSlot, List.getD_cons_succ, List.getD_cons_zero] at e6
        simp only [execOp, e6]
        clear hb hd
        have hrun := ((hC.1 (by omega)).get 1 rfl).load 28 (by rw [Sa.out]; kernel_rfl)
        simp only [Sem.run_bind, hrun, Result.andThen_ok, Sem.run_pure, invUpon]
        exact hK _ hC (trivial)
      refine ex_det 4 [] rfl rfl (fun _ _ _ _ _ _ _ _ => rfl) ?_
      apply Exists.intro
      refine ⟨?_, ?_⟩
      · intro wx b k hk1 hk2 hC hb hd K hK
        simp only [execOp]
        clear hb hd
        go_simp
        exact hK _ hC (trivial)
      refine ex_unit (fun _ _ => True) [5, 32] rfl rfl (fun _ _ _ _ _ _ _ _ => rfl) (fun _ _ _ _ _ => trivial) ?_ ?_
      · intro wx b k hk1 hk2 hC hb hd K hK
        have e5 := hb 5 rfl
        simp only [exSlot, List.getD_cons_succ, List.getD_cons_zero] at e5
        have e32 := hd 32 _ _ rfl rfl
        try dsimp only at e32
        simp only [execOp, e5, e32]
        clear hb hd
        have hAA := (hC.1 (by omega)).get 2 rfl
        obtain ⟨wy, hrun, hA2, hX2⟩ := hAA.store_ 28 ra.cells Sa.out (by rw [Sa.out]; kernel_rfl) Oa.out
        simp only [Sem.run_bind, hrun, Result.andThen_ok, Sem.run_pure, invUpon]
        exact hK _ trivial (⟨fun h => absurd h (by simp), fun _ => ⟨hA2, (hC.1 (by omega)).x.then hX2 (fun x hx hl => by simp at hx; omega)⟩⟩) (trivial)
      refine ex_end ?_
      intro us w2 hus hC hall
      obtain ⟨v0, us, rfl⟩ := List.exists_cons_of_length_eq_add_one hus
      replace hus := Nat.succ.inj hus
      obtain ⟨v1, us, rfl⟩ := List.exists_cons_of_length_eq_add_one hus
      replace hus := Nat.succ.inj hus
      obtain ⟨v2, us, rfl⟩ := List.exists_cons_of_length_eq_add_one hus
      replace hus := Nat.succ.inj hus
      obtain rfl := List.length_eq_zero_iff.1 hus
      clear hus
      generalize hbb : exPuts _ _ _ = bb at hall ⊢
      simp only [exPuts, Act.put, List.setIfInBounds_toArray, List.set_cons_succ, List.set_cons_zero] at hbb
      subst hbb
      obtain ⟨h2, h1, h0, -⟩ := hall
      obtain rfl : v0 = _ := h0
      obtain rfl : v1 = _ := h1
      clear v2
      obtain ⟨hA, hX⟩ := hC.2 rfl
      clear hC
      go_wp2_with (with_reducible refine hold_post ?_)
      refine Lib.hid ?_
      exact bodyPost_ret (res_tc rfl hA (by rw [Sa.out]; kernel_rfl) rfl) rfl ⟨rfl, hX⟩
    | true =>
      by_cases hle : rb.seq ≤ ra.seq
      · obtain ⟨rfl, rfl⟩ : 0 = kk ∧ ra = kr := by rw [Hkk, Hkr]; simp [hle]
        clear Hkk Hkr
        go_upto_region 4 with fail
        refine wp_region_ex (fun k w => (k = 0 → CL W [(zb, rb.cells), (za, ra.cells), (z, #[.int .i64 0, .int .i64 0, .int .i64 0, .int .i64 0, .int .i64 0, .int .i64 0, .int .i64 0, .int .i64 0, .int .i64 0])] 0 w) ∧ (k = 1 → At w z ra.cells ∧ Chg [] W w)) (fun _ _ => True) [2] [(0, 0, false), (0, 0, false), (0, 0, true)] [32, 4] (by kernel_rfl) rfl (by kernel_rfl) (by kernel_rfl) (⟨fun _ => C.drew, fun h => absurd h (by decide)⟩) ?_
        simp only [List.zip_cons_cons, List.zip_nil_right]
        refine ex_det 32 [6] rfl rfl (fun _ _ _ _ _ _ _ _ => rfl) ?_
        apply Exists.intro
        refine ⟨?_, ?_⟩
        · intro wx b k hk1 hk2 hC hb hd K hK
          have e6 := hb 6 rfl
          simp only [exSlot, List.getD_cons_succ, List.getD_cons_zero] at e6
          simp only [execOp, e6]
          clear hb hd
          have hrun := ((hC.1 (by omega)).get 1 rfl).load 28 (by rw [Sa.out]; kernel_rfl)
          simp only [Sem.run_bind, hrun, Result.andThen_ok, Sem.run_pure, invUpon]
          exact hK _ hC (trivial)
        refine ex_det 4 [] rfl rfl (fun _ _ _ _ _ _ _ _ => rfl) ?_
        apply Exists.intro
        refine ⟨?_, ?_⟩
        · intro wx b k hk1 hk2 hC hb hd K hK
          simp only [execOp]
          clear hb hd
          go_simp
          exact hK _ hC (trivial)
        refine ex_unit (fun _ _ => True) [5, 32] rfl rfl (fun _ _ _ _ _ _ _ _ => rfl) (fun _ _ _ _ _ => trivial) ?_ ?_
        · intro wx b k hk1 hk2 hC hb hd K hK
          have e5 := hb 5 rfl
          simp only [exSlot, List.getD_cons_succ, List.getD_cons_zero] at e5
          have e32 := hd 32 _ _ rfl rfl
          try dsimp only at e32
          simp only [execOp, e5, e32]
          clear hb hd
          have hAA := (hC.1 (by omega)).get 2 rfl
          obtain ⟨wy, hrun, hA2, hX2⟩ := hAA.store_ 28 ra.cells Sa.out (by rw [Sa.out]; kernel_rfl) Oa.out
          simp only [Sem.run_bind, hrun, Result.andThen_ok, Sem.run_pure, invUpon]
          exact hK _ trivial (⟨fun h => absurd h (by simp), fun _ => ⟨hA2, (hC.1 (by omega)).x.then hX2 (fun x hx hl => by simp at hx; omega)⟩⟩) (trivial)
        refine ex_end ?_
        intro us w2 hus hC hall
        obtain ⟨v0, us, rfl⟩ := List.exists_cons_of_length_eq_add_one hus
        replace hus := Nat.succ.inj hus
        obtain ⟨v1, us, rfl⟩ := List.exists_cons_of_length_eq_add_one hus
        replace hus := Nat.succ.inj hus
        obtain ⟨v2, us, rfl⟩ := List.exists_cons_of_length_eq_add_one hus
        replace hus := Nat.succ.inj hus
        obtain rfl := List.length_eq_zero_iff.1 hus
        clear hus
        generalize hbb : exPuts _ _ _ = bb at hall ⊢
        simp only [exPuts, Act.put, List.setIfInBounds_toArray, List.set_cons_succ, List.set_cons_zero] at hbb
        subst hbb
        obtain ⟨h2, h1, h0, -⟩ := hall
        obtain rfl : v0 = _ := h0
        obtain rfl : v1 = _ := h1
        clear v2
        obtain ⟨hA, hX⟩ := hC.2 rfl
        clear hC
        go_wp2_with (with_reducible refine hold_post ?_)
        refine Lib.hid ?_
        exact bodyPost_ret (res_tc rfl hA (by rw [Sa.out]; kernel_rfl) rfl) rfl ⟨rfl, hX⟩
      · obtain ⟨rfl, rfl⟩ : 1 = kk ∧ rb = kr := by rw [Hkk, Hkr]; simp [hle]
        clear Hkk Hkr
        go_upto_region 6 with fail
        refine wp_region_ex (fun k w => (k = 0 → CL W [(zb, rb.cells), (za, ra.cells), (z, #[.int .i64 0, .int .i64 0, .int .i64 0, .int .i64 0, .int .i64 0, .int .i64 0, .int .i64 0, .int .i64 0, .int .i64 0])] 0 w) ∧ (k = 1 → At w z rb.cells ∧ Chg [] W w)) (fun _ _ => True) [2] [(0, 0, false), (0, 0, false), (0, 0, true)] [34, 4] (by kernel_rfl) rfl (by kernel_rfl) (by kernel_rfl) (⟨fun _ => C.drew, fun h => absurd h (by decide)⟩) ?_
        simp only [List.zip_cons_cons, List.zip_nil_right]
        refine ex_det 34 [8] rfl rfl (fun _ _ _ _ _ _ _ _ => rfl) ?_
        apply Exists.intro
        refine ⟨?_, ?_⟩
        · intro wx b k hk1 hk2 hC hb hd K hK
          have e8 := hb 8 rfl
          simp only [exSlot, List.getD_cons_succ, List.getD_cons_zero] at e8
          simp only [execOp, e8]
          clear hb hd
          have hrun := ((hC.1 (by omega)).get 0 rfl).load 28 (by rw [Sb.out]; kernel_rfl)
          simp only [Sem.run_bind, hrun, Result.andThen_ok, Sem.run_pure, invUpon]
          exact hK _ hC (trivial)
        refine ex_det 4 [] rfl rfl (fun _ _ _ _ _ _ _ _ => rfl) ?_
        apply Exists.intro
        refine ⟨?_, ?_⟩
        · intro wx b k hk1 hk2 hC hb hd K hK
          simp only [execOp]
          clear hb hd
          go_simp
          exact hK _ hC (trivial)
        refine ex_unit (fun _ _ => True) [5, 34] rfl rfl (fun _ _ _ _ _ _ _ _ => rfl) (fun _ _ _ _ _ => trivial) ?_ ?_
        · intro wx b k hk1 hk2 hC hb hd K hK
          have e5 := hb 5 rfl
          simp only [exSlot, List.getD_cons_succ, List.getD_cons_zero] at e5
          have e34 := hd 34 _ _ rfl rfl
          try dsimp only at e34
          simp only [execOp, e5, e34]
          clear hb hd
          have hAA := (hC.1 (by omega)).get 2 rfl
          obtain ⟨wy, hrun, hA2, hX2⟩ := hAA.store_ 28 rb.cells Sb.out (by rw [Sb.out]; kernel_rfl) Ob.out
          simp only [Sem.run_bind, hrun, Result.andThen_ok, Sem.run_pure, invUpon]
          exact hK _ trivial (⟨fun h => absurd h (by simp), fun _ => ⟨hA2, (hC.1 (by omega)).x.then hX2 (fun x hx hl => by simp at hx; omega)⟩⟩) (trivial)
        refine ex_end ?_
        intro us w2 hus hC hall
        obtain ⟨v0, us, rfl⟩ := List.exists_cons_of_length_eq_add_one hus
        replace hus := Nat.succ.inj hus
        obtain ⟨v1, us, rfl⟩ := List.exists_cons_of_length_eq_add_one hus
        replace hus := Nat.succ.inj hus
        obtain ⟨v2, us, rfl⟩ := List.exists_cons_of_length_eq_add_one hus
        replace hus := Nat.succ.inj hus
        obtain rfl := List.length_eq_zero_iff.1 hus
        clear hus
        generalize hbb : exPuts _ _ _ = bb at hall ⊢
        simp only [exPuts, Act.put, List.setIfInBounds_toArray, List.set_cons_succ, List.set_cons_zero] at hbb
        subst hbb
        obtain ⟨h2, h1, h0, -⟩ := hall
        obtain rfl : v0 = _ := h0
        obtain rfl : v1 = _ := h1
        clear v2
        obtain ⟨hA, hX⟩ := hC.2 rfl
        clear hC
        go_wp2_with (with_reducible refine hold_post ?_)
        refine Lib.hid ?_
        exact bodyPost_ret (res_tc rfl hA (by rw [Sb.out]; kernel_rfl) rfl) rfl ⟨rfl, hX⟩
  | false =>
    cases pb with
    | true =>
      obtain ⟨rfl, rfl⟩ : 1 = kk ∧ rb = kr := by rw [Hkk, Hkr]; simp
      clear Hkk Hkr
      go_upto_region 6 with fail
      refine wp_region_ex (fun k w => (k = 0 → CL W [(zb, rb.cells), (za, ra.cells), (z, #[.int .i64 0, .int .i64 0, .int .i64 0, .int .i64 0, .int .i64 0, .int .i64 0, .int .i64 0, .int .i64 0, .int .i64 0])] 0 w) ∧ (k = 1 → At w z rb.cells ∧ Chg [] W w)) (fun _ _ => True) [2] [(0, 0, false), (0, 0, false), (0, 0, true)] [34, 4] (by kernel_rfl) rfl (by kernel_rfl) (by kernel_rfl) (⟨fun _ => C.drew, fun h => absurd h (by decide)⟩) ?_
      simp only [List.zip_cons_cons, List.zip_nil_right]
      refine ex_det 34 [8] rfl rfl (fun _ _ _ _ _ _ _ _ => rfl) ?_
      apply Exists.intro
      refine ⟨?_, ?_⟩
      · intro wx b k hk1 hk2 hC hb hd K hK
        have e8 := hb 8 rfl
        simp only [exSlot, List.getD_cons_succ, List.getD_cons_zero] at e8
        simp only [execOp, e8]
        clear hb hd
        have hrun := ((hC.1 (by omega)).get 0 rfl).load 28 (by rw [Sb.out]; kernel_rfl)
        simp only [Sem.run_bind, hrun, Result.andThen_ok, Sem.run_pure, invUpon]
        exact hK _ hC (trivial)
      refine ex_det 4 [] rfl rfl (fun _ _ _ _ _ _ _ _ => rfl) ?_
      apply Exists.intro
      refine ⟨?_, ?_⟩
      · intro wx b k hk1 hk2 hC hb hd K hK
        simp only [execOp]
        clear hb hd
        go_simp
        exact hK _ hC (trivial)
      refine ex_unit (fun _ _ => True) [5, 34] rfl rfl (fun _ _ _ _ _ _ _ _ => rfl) (fun _ _ _ _ _ => trivial) ?_ ?_
      · intro wx b k hk1 hk2 hC hb hd K hK
        have e5 := hb 5 rfl
        simp only [exSlot, List.getD_cons_succ, List.getD_cons_zero] at e5
        have e34 := hd 34 _ _ rfl rfl
        try dsimp only at e34
        simp only [execOp, e5, e34]
        clear hb hd
        have hAA := (hC.1 (by omega)).get 2 rfl
        obtain ⟨wy, hrun, hA2, hX2⟩ := hAA.store_ 28 rb.cells Sb.out (by rw [Sb.out]; kernel_rfl) Ob.out
        simp only [Sem.run_bind, hrun, Result.andThen_ok, Sem.run_pure, invUpon]
        exact hK _ trivial (⟨fun h => absurd h (by simp), fun _ => ⟨hA2, (hC.1 (by omega)).x.then hX2 (fun x hx hl => by simp at hx; omega)⟩⟩) (trivial)
      refine ex_end ?_
      intro us w2 hus hC hall
      obtain ⟨v0, us, rfl⟩ := List.exists_cons_of_length_eq_add_one hus
      replace hus := Nat.succ.inj hus
      obtain ⟨v1, us, rfl⟩ := List.exists_cons_of_length_eq_add_one hus
      replace hus := Nat.succ.inj hus
      obtain ⟨v2, us, rfl⟩ := List.exists_cons_of_length_eq_add_one hus
      replace hus := Nat.succ.inj hus
      obtain rfl := List.length_eq_zero_iff.1 hus
      clear hus
      generalize hbb : exPuts _ _ _ = bb at hall ⊢
      simp only [exPuts, Act.put, List.setIfInBounds_toArray, List.set_cons_succ, List.set_cons_zero] at hbb
      subst hbb
      obtain ⟨h2, h1, h0, -⟩ := hall
      obtain rfl : v0 = _ := h0
      obtain rfl : v1 = _ := h1
      clear v2
      obtain ⟨hA, hX⟩ := hC.2 rfl
      clear hC
      go_wp2_with (with_reducible refine hold_post ?_)
      refine Lib.hid ?_
      exact bodyPost_ret (res_tc rfl hA (by rw [Sb.out]; kernel_rfl) rfl) rfl ⟨rfl, hX⟩
    | false =>
      obtain ⟨rfl, rfl⟩ : -1 = kk ∧ RcV.zero = kr := by rw [Hkk, Hkr]; simp
      clear Hkk Hkr
      have hz := C.get 2 rfl
      dsimp only at hz
      go_upto_region 7 with fail
      refine wp_region_lit ?_
      refine wpList_bld rfl rfl #[.int .i64 0, .int .i64 0, .int .i64 0, .int .i64 0, .int .i64 0, .int .i64 0, .int .i64 0, .int .i64 0, .int .i64 0] (by kernel_rfl) ?_
      go_wp2_with (refine wpList_put rfl rfl rfl rfl hz rfl (by kernel_rfl) (by simp [Value.oneCell']) ?_; intro w6 hA hX6; refine Hid.out ?_)
      refine Lib.hid ?_
      have hX := C.x.then hX6 (fun x hx hl => by simp at hx; omega)
      go_wp2_with (with_reducible refine hold_post ?_)
      refine Lib.hid ?_
      exact bodyPost_ret (res_tc rfl hA (by kernel_rfl) rfl) rfl ⟨rfl, hX⟩
end Go.Proofs.Ytjneidmkllhbjaa
