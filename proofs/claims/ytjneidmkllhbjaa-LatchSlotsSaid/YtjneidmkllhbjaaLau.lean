/- Package latch: Print. -/
import Derived.Test.YtjneidmkllhbjaaLat
import Derived.Test.YtjneidmkllhbjaaInv
namespace Go.Proofs.Ytjneidmkllhbjaa
open Go.RowKit

theorem BRow.nil (w : World) (base : Nat) : BRow w base (.slice none 0 0) [] := World.ownsRow_nil w base 5 1
theorem u32_in (n : Int) (h0 : 0 ≤ n) (h1 : n ≤ 4294967295) : IntKind.u32.wrap n = n := by simp [IntKind.wrap, IntKind.bits, IntKind.signed]; omega
/-- What has come up of a region. -/
structure P3 (w0 : World) (z : Nat) (r : RcV) (L : Array Bool) (ac : Act) (wx : World) : Prop where
  ex : ∃ v3 v7 v8 v9 v10 v11 v12 v13 v14, ac = { tmps := #[.agg #[.int .i64 r.seq, .int .i64 r.cyc, .int .i64 r.ph, .int .i64 r.st, .int .i64 r.fl, .int .i64 r.vi, .int .i64 r.di, .int .i64 r.inv, .int .i64 r.inph], .pointer (some ⟨z, 0, none⟩), .string ByteArray.empty, v3, .agg #[.int .i64 r.seq, .int .i64 r.cyc, .int .i64 r.ph, .int .i64 r.st, .int .i64 r.fl, .int .i64 r.vi, .int .i64 r.di, .int .i64 r.inv, .int .i64 r.inph], .bool true, .bool false, v7, v8, v9, v10, v11, v12, v13, v14, undef, undef, undef, undef, undef, undef, undef, undef, undef, undef, undef, undef, undef, undef, undef, undef, undef, undef, undef, undef, undef, undef, undef, undef, undef, undef, undef, undef, undef, undef, undef, undef, undef, undef, undef, undef, undef, undef, undef], defers := [] } ∧ (L.getD 0 false = true → v7 = .pointer (some ⟨z, 0, none⟩)) ∧ (L.getD 1 false = true → v8 = .int .i64 r.seq) ∧ (L.getD 2 false = true → v9 = .int .u32 r.seq) ∧ (L.getD 4 false = true → v11 = .pointer (some ⟨z, 1, none⟩)) ∧ (L.getD 5 false = true → v12 = .int .i64 r.cyc) ∧ (L.getD 6 false = true → v13 = .int .u32 r.cyc) ∧ (L.getD 3 false = true → L.getD 7 false = false → BRow wx w0.heap.size v10 (be4 r.seq)) ∧ (L.getD 7 false = true → BRow wx w0.heap.size v14 (be4 r.seq ++ be4 r.cyc)) ∧ (L.getD 8 false = true → v3 = v14) ∧ (L.getD 8 false = true → L.getD 7 false = true) ∧ (L.getD 7 false = true → L.getD 3 false = true) ∧ Chg [] w0 wx ∧ w0.heap.size ≤ wx.heap.size

set_option maxRecDepth 100000 in
set_option maxHeartbeats 2000000 in
theorem lprint_any (w : World) (r : RcV) : Calls Try.prog 8 #[.agg r.cells] w fun e w' => e = .returned (.string r.print) ∧ Chg [] w w' := by
  have HR := fun w => lright_any w r
  have Hp := Lib.hid (show r.print = if r.right then strOfNums r.all else ByteArray.empty from rfl)
  have hri := r.right_iff
  have hA := At.new w r.cells 23
  have hX0 : Chg [] w (w.alloc (.cells r.cells 23)) := (Chg.refl _ _).alloc _
  generalize r.print = res at *
  generalize r.right = b at *
  unfold RcV.cells at *
  go_enter Try.func8, Try.ntmps8
  go_upto_region 1 with fail
  generalize hz : w.heap.size = z at *
  generalize w.alloc (.cells #[.int .i64 r.seq, .int .i64 r.cyc, .int .i64 r.ph, .int .i64 r.st, .int .i64 r.fl, .int .i64 r.vi, .int .i64 r.di, .int .i64 r.inv, .int .i64 r.inph] 23) = wa at *
  have c0 : wa.cell? ⟨z, 0, none⟩ = some (.int .i64 r.seq) := hA.cell 0
  have c1 : wa.cell? ⟨z, 1, none⟩ = some (.int .i64 r.cyc) := hA.cell 1
  have c2 : wa.cell? ⟨z, 2, none⟩ = some (.int .i64 r.ph) := hA.cell 2
  have c3 : wa.cell? ⟨z, 3, none⟩ = some (.int .i64 r.st) := hA.cell 3
  have c4 : wa.cell? ⟨z, 4, none⟩ = some (.int .i64 r.fl) := hA.cell 4
  have c5 : wa.cell? ⟨z, 5, none⟩ = some (.int .i64 r.vi) := hA.cell 5
  have c6 : wa.cell? ⟨z, 6, none⟩ = some (.int .i64 r.di) := hA.cell 6
  have c7 : wa.cell? ⟨z, 7, none⟩ = some (.int .i64 r.inv) := hA.cell 7
  have c8 : wa.cell? ⟨z, 8, none⟩ = some (.int .i64 r.inph) := hA.cell 8
  go_wp2_with fail
  refine (HR _).mono ?_; rintro e w0 ⟨rfl, hY⟩
  clear c0 c1 c2 c3 c4 c5 c6 c7 c8
  have hA0 := hY.at hA (by simp)
  replace hX0 := hX0.trans hY
  clear hA hY HR
  cases b
  · go_wp2
    go_returns
    exact ⟨by rw [Hp.out]; rfl, hX0⟩
  · have hr := hri.1 rfl
    clear hri
    have hq : 0 ≤ r.seq ∧ r.seq ≤ 4294967295 := by omega
    have hcy : 0 ≤ r.cyc ∧ r.cyc ≤ 4294967295 := by omega
    have hws := u32_in r.seq hq.1 hq.2
    have hwc := u32_in r.cyc hcy.1 hcy.2
    have hwi := u32_in r.inph (by omega) (by omega)
    go_upto_region 3 with fail
    have hX := Chg.refl [] w0
    have hsb : w0.heap.size ≤ w0.heap.size := Nat.le_refl _
    refine wp_region_inv (P3 w0 z r) (by kernel_rfl) (by kernel_rfl)
      ⟨_, _, _, _, _, _, _, _, _, rfl, by simp, by simp, by simp, by simp, by simp, by simp, by simp, by simp, by simp, by simp, by simp, hX.drew, hsb⟩ ?_ ?_
    · clear hX hsb
      intro i o ho L ac wx hs hl hall hI
      obtain ⟨v3, v7, v8, v9, v10, v11, v12, v13, v14, rfl, i0, i1, i2, i4, i5, i6, r3, r7, c8, k8, p7, hX, hs0⟩ := hI
      have hA := hX.at hA0 (by simp)
      replace hs : L.size = 9 := hs
      rcases i with _ | _ | _ | _ | _ | _ | _ | _ | _ | i
      · obtain rfl := Option.some.inj ho
        clear ho
        clear hall
        refine wpOp_inv (o := _) rfl rfl ?_
        have e1 : (L.setIfInBounds 0 true).getD 1 false = L.getD 1 false := getD_set_ne false (by decide)
        have e2 : (L.setIfInBounds 0 true).getD 2 false = L.getD 2 false := getD_set_ne false (by decide)
        have e3 : (L.setIfInBounds 0 true).getD 3 false = L.getD 3 false := getD_set_ne false (by decide)
        have e4 : (L.setIfInBounds 0 true).getD 4 false = L.getD 4 false := getD_set_ne false (by decide)
        have e5 : (L.setIfInBounds 0 true).getD 5 false = L.getD 5 false := getD_set_ne false (by decide)
        have e6 : (L.setIfInBounds 0 true).getD 6 false = L.getD 6 false := getD_set_ne false (by decide)
        have e7 : (L.setIfInBounds 0 true).getD 7 false = L.getD 7 false := getD_set_ne false (by decide)
        have e8 : (L.setIfInBounds 0 true).getD 8 false = L.getD 8 false := getD_set_ne false (by decide)
        have e0 : (L.setIfInBounds 0 true).getD 0 false = true := by rw [getD_set_if L 0 0 (by omega), if_pos rfl]
        go_simp
        exact ⟨v3, _, v8, v9, v10, v11, v12, v13, v14, rfl, fun _ => rfl, by rw [e1]; exact i1, by rw [e2]; exact i2, by rw [e4]; exact i4, by rw [e5]; exact i5, by rw [e6]; exact i6, by rw [e3, e7]; exact r3, by rw [e7]; exact r7, by rw [e8]; exact c8, by rw [e8, e7]; exact k8, by rw [e7, e3]; exact p7, hX, hs0⟩
      · obtain rfl := Option.some.inj ho
        clear ho
        have l0 := hall ⟨0, .data⟩ (by simp) rfl
        clear hall
        refine wpOp_inv (o := _) rfl rfl ?_
        have e0 : (L.setIfInBounds 1 true).getD 0 false = L.getD 0 false := getD_set_ne false (by decide)
        have e2 : (L.setIfInBounds 1 true).getD 2 false = L.getD 2 false := getD_set_ne false (by decide)
        have e3 : (L.setIfInBounds 1 true).getD 3 false = L.getD 3 false := getD_set_ne false (by decide)
        have e4 : (L.setIfInBounds 1 true).getD 4 false = L.getD 4 false := getD_set_ne false (by decide)
        have e5 : (L.setIfInBounds 1 true).getD 5 false = L.getD 5 false := getD_set_ne false (by decide)
        have e6 : (L.setIfInBounds 1 true).getD 6 false = L.getD 6 false := getD_set_ne false (by decide)
        have e7 : (L.setIfInBounds 1 true).getD 7 false = L.getD 7 false := getD_set_ne false (by decide)
        have e8 : (L.setIfInBounds 1 true).getD 8 false = L.getD 8 false := getD_set_ne false (by decide)
        have e1 : (L.setIfInBounds 1 true).getD 1 false = true := by rw [getD_set_if L 1 1 (by omega), if_pos rfl]
        obtain rfl := i0 l0
        have c0 := hA.cell 0
        go_simp
        exact ⟨v3, _, _, v9, v10, v11, v12, v13, v14, rfl, fun _ => rfl, fun _ => rfl, by rw [e2]; exact i2, by rw [e4]; exact i4, by rw [e5]; exact i5, by rw [e6]; exact i6, by rw [e3, e7]; exact r3, by rw [e7]; exact r7, by rw [e8]; exact c8, by rw [e8, e7]; exact k8, by rw [e7, e3]; exact p7, hX, hs0⟩
      · obtain rfl := Option.some.inj ho
        clear ho
        have l1 := hall ⟨1, .data⟩ (by simp) rfl
        clear hall
        refine wpOp_inv (o := _) rfl rfl ?_
        have e0 : (L.setIfInBounds 2 true).getD 0 false = L.getD 0 false := getD_set_ne false (by decide)
        have e1 : (L.setIfInBounds 2 true).getD 1 false = L.getD 1 false := getD_set_ne false (by decide)
        have e3 : (L.setIfInBounds 2 true).getD 3 false = L.getD 3 false := getD_set_ne false (by decide)
        have e4 : (L.setIfInBounds 2 true).getD 4 false = L.getD 4 false := getD_set_ne false (by decide)
        have e5 : (L.setIfInBounds 2 true).getD 5 false = L.getD 5 false := getD_set_ne false (by decide)
        have e6 : (L.setIfInBounds 2 true).getD 6 false = L.getD 6 false := getD_set_ne false (by decide)
        have e7 : (L.setIfInBounds 2 true).getD 7 false = L.getD 7 false := getD_set_ne false (by decide)
        have e8 : (L.setIfInBounds 2 true).getD 8 false = L.getD 8 false := getD_set_ne false (by decide)
        have e2 : (L.setIfInBounds 2 true).getD 2 false = true := by rw [getD_set_if L 2 2 (by omega), if_pos rfl]
        obtain rfl := i1 l1
        have hw := hws
        go_simp
        exact ⟨v3, v7, _, _, v10, v11, v12, v13, v14, rfl, by rw [e0]; exact i0, fun _ => rfl, fun _ => rfl, by rw [e4]; exact i4, by rw [e5]; exact i5, by rw [e6]; exact i6, by rw [e3, e7]; exact r3, by rw [e7]; exact r7, by rw [e8]; exact c8, by rw [e8, e7]; exact k8, by rw [e7, e3]; exact p7, hX, hs0⟩
      · obtain rfl := Option.some.inj ho
        clear ho
        have l2 := hall ⟨2, .data⟩ (by simp) rfl
        clear hall
        refine wpOp_inv (o := _) rfl rfl ?_
        have e0 : (L.setIfInBounds 3 true).getD 0 false = L.getD 0 false := getD_set_ne false (by decide)
        have e1 : (L.setIfInBounds 3 true).getD 1 false = L.getD 1 false := getD_set_ne false (by decide)
        have e2 : (L.setIfInBounds 3 true).getD 2 false = L.getD 2 false := getD_set_ne false (by decide)
        have e4 : (L.setIfInBounds 3 true).getD 4 false = L.getD 4 false := getD_set_ne false (by decide)
        have e5 : (L.setIfInBounds 3 true).getD 5 false = L.getD 5 false := getD_set_ne false (by decide)
        have e6 : (L.setIfInBounds 3 true).getD 6 false = L.getD 6 false := getD_set_ne false (by decide)
        have e7 : (L.setIfInBounds 3 true).getD 7 false = L.getD 7 false := getD_set_ne false (by decide)
        have e8 : (L.setIfInBounds 3 true).getD 8 false = L.getD 8 false := getD_set_ne false (by decide)
        have e3 : (L.setIfInBounds 3 true).getD 3 false = true := by rw [getD_set_if L 3 3 (by omega), if_pos rfl]
        obtain rfl := i2 l2
        go_simp
        go_at_call 24; refine (lput_any w0 wx w0.heap.size _ _ (BRow.nil wx w0.heap.size) hX (Nat.le_refl _) hs0 (by simp [be4]) _ hq.1 hq.2).mono ?_; rintro e w' ⟨v', rfl, hB2, hX2, hs2⟩
        exact ⟨v', rfl, ⟨v3, v7, v8, _, _, v11, v12, v13, v14, rfl, by rw [e0]; exact i0, by rw [e1]; exact i1, fun _ => rfl, by rw [e4]; exact i4, by rw [e5]; exact i5, by rw [e6]; exact i6, by rw [e3, e7]; intro _ _; exact hB2, by rw [e7]; intro h; exact absurd (p7 h) (by rw [hl]; decide), by rw [e8]; exact c8, by rw [e8, e7]; exact k8, fun _ => e3, hX2, hs2⟩⟩
      · obtain rfl := Option.some.inj ho
        clear ho
        clear hall
        refine wpOp_inv (o := _) rfl rfl ?_
        have e0 : (L.setIfInBounds 4 true).getD 0 false = L.getD 0 false := getD_set_ne false (by decide)
        have e1 : (L.setIfInBounds 4 true).getD 1 false = L.getD 1 false := getD_set_ne false (by decide)
        have e2 : (L.setIfInBounds 4 true).getD 2 false = L.getD 2 false := getD_set_ne false (by decide)
        have e3 : (L.setIfInBounds 4 true).getD 3 false = L.getD 3 false := getD_set_ne false (by decide)
        have e5 : (L.setIfInBounds 4 true).getD 5 false = L.getD 5 false := getD_set_ne false (by decide)
        have e6 : (L.setIfInBounds 4 true).getD 6 false = L.getD 6 false := getD_set_ne false (by decide)
        have e7 : (L.setIfInBounds 4 true).getD 7 false = L.getD 7 false := getD_set_ne false (by decide)
        have e8 : (L.setIfInBounds 4 true).getD 8 false = L.getD 8 false := getD_set_ne false (by decide)
        have e4 : (L.setIfInBounds 4 true).getD 4 false = true := by rw [getD_set_if L 4 4 (by omega), if_pos rfl]
        go_simp
        exact ⟨v3, v7, v8, v9, v10, _, v12, v13, v14, rfl, by rw [e0]; exact i0, by rw [e1]; exact i1, by rw [e2]; exact i2, fun _ => rfl, by rw [e5]; exact i5, by rw [e6]; exact i6, by rw [e3, e7]; exact r3, by rw [e7]; exact r7, by rw [e8]; exact c8, by rw [e8, e7]; exact k8, by rw [e7, e3]; exact p7, hX, hs0⟩
      · obtain rfl := Option.some.inj ho
        clear ho
        have l4 := hall ⟨4, .data⟩ (by simp) rfl
        clear hall
        refine wpOp_inv (o := _) rfl rfl ?_
        have e0 : (L.setIfInBounds 5 true).getD 0 false = L.getD 0 false := getD_set_ne false (by decide)
        have e1 : (L.setIfInBounds 5 true).getD 1 false = L.getD 1 false := getD_set_ne false (by decide)
        have e2 : (L.setIfInBounds 5 true).getD 2 false = L.getD 2 false := getD_set_ne false (by decide)
        have e3 : (L.setIfInBounds 5 true).getD 3 false = L.getD 3 false := getD_set_ne false (by decide)
        have e4 : (L.setIfInBounds 5 true).getD 4 false = L.getD 4 false := getD_set_ne false (by decide)
        have e6 : (L.setIfInBounds 5 true).getD 6 false = L.getD 6 false := getD_set_ne false (by decide)
        have e7 : (L.setIfInBounds 5 true).getD 7 false = L.getD 7 false := getD_set_ne false (by decide)
        have e8 : (L.setIfInBounds 5 true).getD 8 false = L.getD 8 false := getD_set_ne false (by decide)
        have e5 : (L.setIfInBounds 5 true).getD 5 false = true := by rw [getD_set_if L 5 5 (by omega), if_pos rfl]
        obtain rfl := i4 l4
        have c1 := hA.cell 1
        go_simp
        exact ⟨v3, v7, v8, v9, v10, _, _, v13, v14, rfl, by rw [e0]; exact i0, by rw [e1]; exact i1, by rw [e2]; exact i2, fun _ => rfl, fun _ => rfl, by rw [e6]; exact i6, by rw [e3, e7]; exact r3, by rw [e7]; exact r7, by rw [e8]; exact c8, by rw [e8, e7]; exact k8, by rw [e7, e3]; exact p7, hX, hs0⟩
      · obtain rfl := Option.some.inj ho
        clear ho
        have l5 := hall ⟨5, .data⟩ (by simp) rfl
        clear hall
        refine wpOp_inv (o := _) rfl rfl ?_
        have e0 : (L.setIfInBounds 6 true).getD 0 false = L.getD 0 false := getD_set_ne false (by decide)
        have e1 : (L.setIfInBounds 6 true).getD 1 false = L.getD 1 false := getD_set_ne false (by decide)
        have e2 : (L.setIfInBounds 6 true).getD 2 false = L.getD 2 false := getD_set_ne false (by decide)
        have e3 : (L.setIfInBounds 6 true).getD 3 false = L.getD 3 false := getD_set_ne false (by decide)
        have e4 : (L.setIfInBounds 6 true).getD 4 false = L.getD 4 false := getD_set_ne false (by decide)
        have e5 : (L.setIfInBounds 6 true).getD 5 false = L.getD 5 false := getD_set_ne false (by decide)
        have e7 : (L.setIfInBounds 6 true).getD 7 false = L.getD 7 false := getD_set_ne false (by decide)
        have e8 : (L.setIfInBounds 6 true).getD 8 false = L.getD 8 false := getD_set_ne false (by decide)
        have e6 : (L.setIfInBounds 6 true).getD 6 false = true := by rw [getD_set_if L 6 6 (by omega), if_pos rfl]
        obtain rfl := i5 l5
        have hw := hwc
        go_simp
        exact ⟨v3, v7, v8, v9, v10, v11, _, _, v14, rfl, by rw [e0]; exact i0, by rw [e1]; exact i1, by rw [e2]; exact i2, by rw [e4]; exact i4, fun _ => rfl, fun _ => rfl, by rw [e3, e7]; exact r3, by rw [e7]; exact r7, by rw [e8]; exact c8, by rw [e8, e7]; exact k8, by rw [e7, e3]; exact p7, hX, hs0⟩
      · obtain rfl := Option.some.inj ho
        clear ho
        have l3 := hall ⟨3, .data⟩ (by simp) rfl
        have l6 := hall ⟨6, .data⟩ (by simp) rfl
        clear hall
        refine wpOp_inv (o := _) rfl rfl ?_
        have e0 : (L.setIfInBounds 7 true).getD 0 false = L.getD 0 false := getD_set_ne false (by decide)
        have e1 : (L.setIfInBounds 7 true).getD 1 false = L.getD 1 false := getD_set_ne false (by decide)
        have e2 : (L.setIfInBounds 7 true).getD 2 false = L.getD 2 false := getD_set_ne false (by decide)
        have e3 : (L.setIfInBounds 7 true).getD 3 false = L.getD 3 false := getD_set_ne false (by decide)
        have e4 : (L.setIfInBounds 7 true).getD 4 false = L.getD 4 false := getD_set_ne false (by decide)
        have e5 : (L.setIfInBounds 7 true).getD 5 false = L.getD 5 false := getD_set_ne false (by decide)
        have e6 : (L.setIfInBounds 7 true).getD 6 false = L.getD 6 false := getD_set_ne false (by decide)
        have e8 : (L.setIfInBounds 7 true).getD 8 false = L.getD 8 false := getD_set_ne false (by decide)
        have e7 : (L.setIfInBounds 7 true).getD 7 false = true := by rw [getD_set_if L 7 7 (by omega), if_pos rfl]
        obtain rfl := i6 l6
        go_simp
        go_at_call 24; refine (lput_any w0 wx w0.heap.size _ _ (r3 l3 hl) hX (Nat.le_refl _) hs0 (by simp [be4]) _ hcy.1 hcy.2).mono ?_; rintro e w' ⟨v', rfl, hB2, hX2, hs2⟩
        exact ⟨v', rfl, ⟨v3, v7, v8, v9, v10, v11, v12, _, _, rfl, by rw [e0]; exact i0, by rw [e1]; exact i1, by rw [e2]; exact i2, by rw [e4]; exact i4, by rw [e5]; exact i5, fun _ => rfl, by rw [e3, e7]; intro _ h; exact absurd h (by decide), by rw [e7]; intro _; exact hB2, by rw [e8]; intro h; exact absurd (k8 h) (by rw [hl]; decide), fun _ => e7, fun _ => by rw [e3]; exact l3, hX2, hs2⟩⟩
      · obtain rfl := Option.some.inj ho
        clear ho
        have l7 := hall ⟨7, .data⟩ (by simp) rfl
        clear hall
        refine wpOp_inv (o := _) rfl rfl ?_
        have e0 : (L.setIfInBounds 8 true).getD 0 false = L.getD 0 false := getD_set_ne false (by decide)
        have e1 : (L.setIfInBounds 8 true).getD 1 false = L.getD 1 false := getD_set_ne false (by decide)
        have e2 : (L.setIfInBounds 8 true).getD 2 false = L.getD 2 false := getD_set_ne false (by decide)
        have e3 : (L.setIfInBounds 8 true).getD 3 false = L.getD 3 false := getD_set_ne false (by decide)
        have e4 : (L.setIfInBounds 8 true).getD 4 false = L.getD 4 false := getD_set_ne false (by decide)
        have e5 : (L.setIfInBounds 8 true).getD 5 false = L.getD 5 false := getD_set_ne false (by decide)
        have e6 : (L.setIfInBounds 8 true).getD 6 false = L.getD 6 false := getD_set_ne false (by decide)
        have e7 : (L.setIfInBounds 8 true).getD 7 false = L.getD 7 false := getD_set_ne false (by decide)
        have e8 : (L.setIfInBounds 8 true).getD 8 false = true := by rw [getD_set_if L 8 8 (by omega), if_pos rfl]
        go_simp
        exact ⟨_, v7, v8, v9, v10, v11, v12, v13, v14, rfl, by rw [e0]; exact i0, by rw [e1]; exact i1, by rw [e2]; exact i2, by rw [e4]; exact i4, by rw [e5]; exact i5, by rw [e6]; exact i6, by rw [e3, e7]; exact r3, by rw [e7]; exact r7, fun _ => rfl, fun _ => by rw [e7]; exact l7, by rw [e7, e3]; exact p7, hX, hs0⟩
      · exact absurd ho (by simp)
    · intro L ac wx hall hI
      obtain ⟨v3, v7, v8, v9, v10, v11, v12, v13, v14, rfl, i0, i1, i2, i4, i5, i6, r3, r7, c8, k8, p7, hX, hs0⟩ := hI
      obtain rfl := i0 (hall 0 (by decide))
      obtain rfl := i1 (hall 1 (by decide))
      obtain rfl := i2 (hall 2 (by decide))
      obtain rfl := i4 (hall 4 (by decide))
      obtain rfl := i5 (hall 5 (by decide))
      obtain rfl := i6 (hall 6 (by decide))
      obtain rfl := c8 (hall 8 (by decide))
      have hB := r7 (hall 7 (by decide))
      clear hall i0 i1 i2 i4 i5 i6 r3 r7 k8 p7
      dsimp only
      have b0 : IntKind.u8.wrap (r.ph + 4 * r.fl + 16 * r.st) = r.ph + 4 * r.fl + 16 * r.st := by rw [conv8]; omega
      have b1 : IntKind.u8.wrap r.vi = r.vi := by rw [conv8]; omega
      have b2 : IntKind.u8.wrap r.di = r.di := by rw [conv8]; omega
      have b3 : IntKind.u8.wrap r.inv = r.inv := by rw [conv8]; omega
      have hA := hX.at hA0 (by simp)
      have c0 : wx.cell? ⟨z, 0, none⟩ = some (.int .i64 r.seq) := hA.cell 0
      have c1 : wx.cell? ⟨z, 1, none⟩ = some (.int .i64 r.cyc) := hA.cell 1
      have c2 : wx.cell? ⟨z, 2, none⟩ = some (.int .i64 r.ph) := hA.cell 2
      have c3 : wx.cell? ⟨z, 3, none⟩ = some (.int .i64 r.st) := hA.cell 3
      have c4 : wx.cell? ⟨z, 4, none⟩ = some (.int .i64 r.fl) := hA.cell 4
      have c5 : wx.cell? ⟨z, 5, none⟩ = some (.int .i64 r.vi) := hA.cell 5
      have c6 : wx.cell? ⟨z, 6, none⟩ = some (.int .i64 r.di) := hA.cell 6
      have c7 : wx.cell? ⟨z, 7, none⟩ = some (.int .i64 r.inv) := hA.cell 7
      have c8 : wx.cell? ⟨z, 8, none⟩ = some (.int .i64 r.inph) := hA.cell 8
      have hN := At.new wx #[.int .u8 (r.ph + 4 * r.fl + 16 * r.st), .int .u8 r.vi, .int .u8 r.di, .int .u8 r.inv] 5
      have hB2 := hB.alloc (.cells #[.int .u8 (r.ph + 4 * r.fl + 16 * r.st), .int .u8 r.vi, .int .u8 r.di, .int .u8 r.inv] 5)
      have hX2 : Chg [] w0 (wx.alloc (.cells #[.int .u8 (r.ph + 4 * r.fl + 16 * r.st), .int .u8 r.vi, .int .u8 r.di, .int .u8 r.inv] 5)) := hX.alloc _
      have hs2 : w0.heap.size ≤ (wx.alloc (.cells #[.int .u8 (r.ph + 4 * r.fl + 16 * r.st), .int .u8 r.vi, .int .u8 r.di, .int .u8 r.inv] 5)).heap.size := by simp; omega
      clear hB hX hs0
      go_wp2_with (at_builtin; refine wpList_app rfl (.tmp 15) (.tmp 36) rfl rfl hB2 (M := [r.ph + 4 * r.fl + 16 * r.st, r.vi, r.di, r.inv]) rfl hN rfl rfl (by simp [be4]) hs2 ?_; intro v1 w1 hQ g; refine Hid.out ?_)
      refine Lib.hid ?_
      have hX3 := BRow.grown hB2 hX2 g (Nat.le_refl _)
      have hs3 : w0.heap.size ≤ w1.heap.size := Nat.le_trans hs2 g.size
      clear g hX2 hB2 hN hs2 hA c0 c1 c2 c3 c4 c5 c6 c7 c8
      have hA := hX3.at hA0 (by simp)
      have c8 : w1.cell? ⟨z, 8, none⟩ = some (.int .i64 r.inph) := hA.cell 8
      go_wp2_with fail
      refine (lput_any w0 _ w0.heap.size _ _ hQ hX3 (Nat.le_refl _) hs3 (by simp [be4]) r.inph (by omega) (by omega)).mono ?_; rintro e w2 ⟨v2, rfl, hB, hX, hs⟩
      clear hQ hX3 hs3 hA c8
      have Hh := Lib.hid (show r.all = (r.head ++ be4 (sum32 (strOfNums r.head)).toNat) ++ be4 r.seq from rfl)
      have hl := r.head_len
      replace hB : BRow w2 w0.heap.size v2 r.head := hB
      generalize r.head = h at *
      obtain ⟨g, cap, rfl, hcv⟩ := hB.out hl (by omega)
      go_wp2_with fail
      refine (sum32_any _ (strOfNums h) (by rw [strOfNums_size, hl]; unfold maxLen; omega)).mono ?_; rintro e w3 ⟨rfl, hY⟩
      replace hB := hB.keep hY (by simp)
      replace hX := hX.trans hY
      replace hs := Nat.le_trans hs hY.size
      clear hY hcv
      have hsm := sum32_bd (strOfNums h)
      generalize ((sum32 (strOfNums h)).toNat : Int) = sm at *
      go_wp2_with fail
      refine (lput_any w0 _ w0.heap.size _ _ hB hX (Nat.le_refl _) hs (by omega) sm hsm.1 hsm.2).mono ?_; rintro e w4 ⟨v4, rfl, hB4, hX4, hs4⟩
      clear hB hX hs
      have hA := hX4.at hA0 (by simp)
      have c0 : w4.cell? ⟨z, 0, none⟩ = some (.int .i64 r.seq) := hA.cell 0
      have hl4 : (h ++ be4 sm).length = 20 := by rw [List.length_append, hl, be4_len]
      generalize hq4 : h ++ be4 sm = h4 at *
      go_wp2_with fail
      refine (lput_any w0 _ w0.heap.size _ _ hB4 hX4 (Nat.le_refl _) hs4 (by omega) r.seq hq.1 hq.2).mono ?_; rintro e w5 ⟨v5, rfl, hB5, hX5, hs5⟩
      clear hB4 hX4 hs4 hA c0
      obtain ⟨g5, cap5, rfl, hcv5⟩ := hB5.out (k := 24) (by rw [List.length_append, hl4, be4_len]) (by omega)
      go_wp2
      go_returns
      exact ⟨by rw [Hp.out.trans (if_pos trivial), Hh.out]; rfl, hX0.trans hX5⟩
end Go.Proofs.Ytjneidmkllhbjaa
