/- Tst. -/
import Derived.Test.YtpfglmlpodjneaaGreatZ20
set_option linter.unusedSimpArgs false
set_option linter.unusedVariables false
namespace Go.Proofs.YtpfglmlpodjneaaGreat
open Go.RowKit

/-- What Test tells. -/
def testV (s : ByteArray) (port : Int) : RuV × Int := ((readV s).1, faultN (readV s).2 port)
set_option maxRecDepth 100000 in
set_option maxHeartbeats 4000000 in
theorem btest_any (W : World) (s : ByteArray) (port : Int) (hs0 : s.size ≤ 1000000) : Calls Tryz.prog 8 #[.string s, .int .i64 port] W (RdPost W (testV s port)) := by
  have HT := Lib.hid (show testV s port = ((readV s).1, faultN (readV s).2 port) from rfl)
  have HR := fun w => read_any w s hs0
  have HSu := Lib.hid bsums_any
  have HNu := Lib.hid bnums_any
  have C := (CL.new W 0).push #[.slice none 0 0, .int .i64 0, .int .i64 0, .int .i64 0, .int .i64 0, .int .i64 0, .int .i64 0, .int .i64 0, .int .i64 0] 25
  have ha1 := and_1 port
  have ha2 := and_2 port
  generalize testV s port = tv at *
  generalize readV s = rv at *
  obtain ⟨⟨ph, rn, rd, rg, re, rs, ra, rl, rf⟩, er⟩ := rv
  unfold RdPost RuV.cells at *
  dsimp only at *
  replace HR := Lib.hid HR
  go_enter Tryz.func8, Tryz.ntmps8
  go_upto_region 1 with fail
  generalize hz : W.heap.size = z at *
  have hzW : W.heap.size ≤ z := by omega
  generalize W.alloc (.cells #[.slice none 0 0, .int .i64 0, .int .i64 0, .int .i64 0, .int .i64 0, .int .i64 0, .int .i64 0, .int .i64 0, .int .i64 0] 25) = w1 at *
  clear hz
  have hz1 : z < w1.heap.size := (C.get 0 rfl).lt
  have HR1 := HR.out w1
  go_wp2_with fail
  refine HR1.mono ?_; rintro e w2 ⟨va, rfl, hD, hX2⟩
  clear HR1
  replace C := C.step (j := 0) hX2
  have hone : va.oneCell' = true := by obtain ⟨_, ad, cap, rfl⟩ := (hD [] w2 (by simp) (Chg.refl _ _)).len; rfl
  replace hD := Lib.hid hD
  have hN := At.new w2 #[.slice none 0 0, .int .i64 0, .int .i64 0, .int .i64 0, .int .i64 0, .int .i64 0, .int .i64 0, .int .i64 0, .int .i64 0] 25
  have CN := C.push #[.slice none 0 0, .int .i64 0, .int .i64 0, .int .i64 0, .int .i64 0, .int .i64 0, .int .i64 0, .int .i64 0, .int .i64 0] 25
  have hXn := (Chg.refl [] w2).alloc (.cells #[.slice none 0 0, .int .i64 0, .int .i64 0, .int .i64 0, .int .i64 0, .int .i64 0, .int .i64 0, .int .i64 0, .int .i64 0] 25)
  go_wp2_with (refine wpList_put rfl rfl rfl rfl hN rfl (by kernel_rfl) (by simp [hone, one_int]) ?_; intro w3 hY3 hX3; refine Hid.out ?_)
  refine Lib.hid ?_
  have hXr : Chg [] w2 w3 := hXn.then hX3 (fun x hx hl => by simp at hx; omega)
  generalize hyy : w2.heap.size = y at *
  have hzy : z < y := by rw [← hyy]; exact (C.get 0 rfl).lt
  have hWy : W.heap.size ≤ y := by omega
  have C3 : CL W [(y, #[va, .int .i64 rn, .int .i64 rd, .int .i64 rg, .int .i64 re, .int .i64 rs, .int .i64 ra, .int .i64 rl, .int .i64 rf]), (z, #[.slice none 0 0, .int .i64 0, .int .i64 0, .int .i64 0, .int .i64 0, .int .i64 0, .int .i64 0, .int .i64 0, .int .i64 0])] 0 w3 := CN.upd hX3 hY3 hWy _ (by intro q hq; simp only [List.mem_cons, List.not_mem_nil, or_false] at hq; rcases hq with rfl | rfl; exact .inl rfl; exact .inr ⟨by simp, by simp; omega⟩)
  clear C CN hN hX3 hY3 hyy hXn
  have C := C3
  clear C3
  by_cases he : er = 0
  · subst he
    cases hb1 : bitN port 1 with
    | false =>
      rw [hb1] at ha1
      simp only [if_true, Bool.false_eq_true, if_false] at ha1
      cases hb2 : bitN port 2 with
      | false =>
        rw [hb2] at ha2
        simp only [if_true, Bool.false_eq_true, if_false] at ha2
        have HF : Hid (faultN 0 port = 0) := Lib.hid (by unfold faultN; rw [hb1, hb2]; simp)
        clear hb1 hb2
        go_wp2_with fail
        refine (HSu.out _).mono ?_; rintro e w4 ⟨rfl, hX⟩
        replace C := C.step (j := 0) hX
        replace hXr := hXr.trans hX
        clear hX
        go_wp2_with fail
        refine (HNu.out _).mono ?_; rintro e w5 ⟨rfl, hX⟩
        replace C := C.step (j := 0) hX
        replace hXr := hXr.trans hX
        clear hX
        have CA := C.push #[.bool false, .int .i64 1, .bool false, .int .i64 2, .bool false, .int .i64 4, .bool false, .int .i64 8, .bool false, .int .i64 16] 46
        have hXa := hXr.alloc (.cells #[.bool false, .int .i64 1, .bool false, .int .i64 2, .bool false, .int .i64 4, .bool false, .int .i64 8, .bool false, .int .i64 16] 46)
        go_wp2_with fail
        generalize w5.heap.size = bb at *
        generalize w5.alloc (.cells #[.bool false, .int .i64 1, .bool false, .int .i64 2, .bool false, .int .i64 4, .bool false, .int .i64 8, .bool false, .int .i64 16] 46) = w6 at *
        clear C hXr
        go_loopg [8, 35] 5 (fun gk aa ii wr => ∃ k : Nat, k + gk = 5 ∧ ii = .int .i64 k ∧ aa = .int .i64 (([0, 0, 0, 0, 0, 0] : List Int).getD k 0) ∧ CL W [(bb, #[.bool false, .int .i64 1, .bool false, .int .i64 2, .bool false, .int .i64 4, .bool false, .int .i64 8, .bool false, .int .i64 16]), (y, #[va, .int .i64 rn, .int .i64 rd, .int .i64 rg, .int .i64 re, .int .i64 rs, .int .i64 ra, .int .i64 rl, .int .i64 rf]), (z, #[.slice none 0 0, .int .i64 0, .int .i64 0, .int .i64 0, .int .i64 0, .int .i64 0, .int .i64 0, .int .i64 0, .int .i64 0])] 0 wr ∧ Chg [] w2 wr)
        case atStart => exact ⟨0, by omega, rfl, rfl, CA, hXa⟩
        case round =>
          clear CA hXa
          obtain ⟨k, hk, rfl, rfl, C, hXr⟩ := hrel
          by_cases hlt : k < 5
          · have hcs : k = 0 ∨ k = 1 ∨ k = 2 ∨ k = 3 ∨ k = 4 := by omega
            rcases hcs with rfl | rfl | rfl | rfl | rfl
            · have c0 := (C.get 0 rfl).cell 0; have c1 := (C.get 0 rfl).cell 1
              try dsimp only at c0 c1
              have hZ := At.new wr #[.bool false, .int .i64 0] 46
              have hXz := (Chg.refl [] wr).alloc (.cells #[.bool false, .int .i64 0] 46)
              simp only [List.getD_cons_zero, List.getD_cons_succ]
              go_wp2_with (refine wpList_put rfl rfl rfl rfl hZ rfl (by kernel_rfl) (by simp [Value.oneCell']) ?_; intro wB hB hXB; refine Hid.out ?_)
              refine Lib.hid ?_
              have hXC : Chg [] wr wB := hXz.then hXB (fun x hx hl => by simp at hx; omega)
              have c0 := hB.cell 0; have c1 := hB.cell 1
              try dsimp only at c0 c1
              go_wp2_with fail
              go_roundg (gk - 1)
              case rel => exact ⟨1, by omega, by go_num, by rfl, C.step hXC, hXr.trans hXC⟩
              case measure => omega
            · have c0 := (C.get 0 rfl).cell 2; have c1 := (C.get 0 rfl).cell 3
              try dsimp only at c0 c1
              have hZ := At.new wr #[.bool false, .int .i64 0] 46
              have hXz := (Chg.refl [] wr).alloc (.cells #[.bool false, .int .i64 0] 46)
              simp only [List.getD_cons_zero, List.getD_cons_succ]
              go_wp2_with (refine wpList_put rfl rfl rfl rfl hZ rfl (by kernel_rfl) (by simp [Value.oneCell']) ?_; intro wB hB hXB; refine Hid.out ?_)
              refine Lib.hid ?_
              have hXC : Chg [] wr wB := hXz.then hXB (fun x hx hl => by simp at hx; omega)
              have c0 := hB.cell 0; have c1 := hB.cell 1
              try dsimp only at c0 c1
              go_wp2_with fail
              go_roundg (gk - 1)
              case rel => exact ⟨2, by omega, by go_num, by rfl, C.step hXC, hXr.trans hXC⟩
              case measure => omega
            · have c0 := (C.get 0 rfl).cell 4; have c1 := (C.get 0 rfl).cell 5
              try dsimp only at c0 c1
              have hZ := At.new wr #[.bool false, .int .i64 0] 46
              have hXz := (Chg.refl [] wr).alloc (.cells #[.bool false, .int .i64 0] 46)
              simp only [List.getD_cons_zero, List.getD_cons_succ]
              go_wp2_with (refine wpList_put rfl rfl rfl rfl hZ rfl (by kernel_rfl) (by simp [Value.oneCell']) ?_; intro wB hB hXB; refine Hid.out ?_)
              refine Lib.hid ?_
              have hXC : Chg [] wr wB := hXz.then hXB (fun x hx hl => by simp at hx; omega)
              have c0 := hB.cell 0; have c1 := hB.cell 1
              try dsimp only at c0 c1
              go_wp2_with fail
              go_roundg (gk - 1)
              case rel => exact ⟨3, by omega, by go_num, by rfl, C.step hXC, hXr.trans hXC⟩
              case measure => omega
            · have c0 := (C.get 0 rfl).cell 6; have c1 := (C.get 0 rfl).cell 7
              try dsimp only at c0 c1
              have hZ := At.new wr #[.bool false, .int .i64 0] 46
              have hXz := (Chg.refl [] wr).alloc (.cells #[.bool false, .int .i64 0] 46)
              simp only [List.getD_cons_zero, List.getD_cons_succ]
              go_wp2_with (refine wpList_put rfl rfl rfl rfl hZ rfl (by kernel_rfl) (by simp [Value.oneCell']) ?_; intro wB hB hXB; refine Hid.out ?_)
              refine Lib.hid ?_
              have hXC : Chg [] wr wB := hXz.then hXB (fun x hx hl => by simp at hx; omega)
              have c0 := hB.cell 0; have c1 := hB.cell 1
              try dsimp only at c0 c1
              go_wp2_with fail
              go_roundg (gk - 1)
              case rel => exact ⟨4, by omega, by go_num, by rfl, C.step hXC, hXr.trans hXC⟩
              case measure => omega
            · have c0 := (C.get 0 rfl).cell 8; have c1 := (C.get 0 rfl).cell 9
              try dsimp only at c0 c1
              have hZ := At.new wr #[.bool false, .int .i64 0] 46
              have hXz := (Chg.refl [] wr).alloc (.cells #[.bool false, .int .i64 0] 46)
              simp only [List.getD_cons_zero, List.getD_cons_succ]
              go_wp2_with (refine wpList_put rfl rfl rfl rfl hZ rfl (by kernel_rfl) (by simp [Value.oneCell']) ?_; intro wB hB hXB; refine Hid.out ?_)
              refine Lib.hid ?_
              have hXC : Chg [] wr wB := hXz.then hXB (fun x hx hl => by simp at hx; omega)
              have c0 := hB.cell 0; have c1 := hB.cell 1
              try dsimp only at c0 c1
              go_wp2_with fail
              go_roundg (gk - 1)
              case rel => exact ⟨5, by omega, by go_num, by rfl, C.step hXC, hXr.trans hXC⟩
              case measure => omega
          · obtain rfl : gk = 0 := by omega
            obtain rfl : k = 5 := by omega
            simp only [List.getD_cons_zero, List.getD_cons_succ]
            have hy := C.get 1 rfl
            have hz := C.get 2 rfl
            dsimp only at hy hz
            go_upto_region 9 with fail
            go_wp2_with (first | (refine wpList_get rfl rfl rfl hy (by kernel_rfl) ?_) | (refine wpList_put rfl rfl rfl rfl hz rfl (by kernel_rfl) (by simp [hone, one_int]) ?_; intro w8 hz8 hX8; refine Hid.out ?_))
            refine Lib.hid ?_
            go_wp2_with (with_reducible refine hold_post ?_)
            refine Lib.hid ?_
            exact bodyPost_ret (res_ct rfl hz8 (by kernel_rfl) rfl) rfl ⟨va, by rw [HT.out, HF.out]; rfl, fun S wq hS hq => by rw [HT.out]; exact hD.out (z :: S) wq (by intro b hb; rcases List.mem_cons.1 hb with rfl | hb; exact hz1; have := hS b hb; omega) (((hXr.mono (by simp)).trans (hX8.mono (by simp))).trans (hq.mono (by intro b hb _; simp [hb]))), C.x.then hX8 (fun x hx hl => by simp at hx; omega)⟩
      | true =>
        rw [hb2] at ha2
        simp only [if_true, Bool.false_eq_true, if_false] at ha2
        have HF : Hid (faultN 0 port = 4) := Lib.hid (by unfold faultN; rw [hb1, hb2]; simp)
        clear hb1 hb2
        go_wp2_with fail
        refine (HSu.out _).mono ?_; rintro e w4 ⟨rfl, hX⟩
        replace C := C.step (j := 0) hX
        replace hXr := hXr.trans hX
        clear hX
        go_wp2_with fail
        refine (HNu.out _).mono ?_; rintro e w5 ⟨rfl, hX⟩
        replace C := C.step (j := 0) hX
        replace hXr := hXr.trans hX
        clear hX
        have CA := C.push #[.bool false, .int .i64 1, .bool false, .int .i64 2, .bool true, .int .i64 4, .bool false, .int .i64 8, .bool false, .int .i64 16] 46
        have hXa := hXr.alloc (.cells #[.bool false, .int .i64 1, .bool false, .int .i64 2, .bool true, .int .i64 4, .bool false, .int .i64 8, .bool false, .int .i64 16] 46)
        go_wp2_with fail
        generalize w5.heap.size = bb at *
        generalize w5.alloc (.cells #[.bool false, .int .i64 1, .bool false, .int .i64 2, .bool true, .int .i64 4, .bool false, .int .i64 8, .bool false, .int .i64 16] 46) = w6 at *
        clear C hXr
        go_loopg [8, 35] 5 (fun gk aa ii wr => ∃ k : Nat, k + gk = 5 ∧ ii = .int .i64 k ∧ aa = .int .i64 (([0, 0, 0, 4, 4, 4] : List Int).getD k 0) ∧ CL W [(bb, #[.bool false, .int .i64 1, .bool false, .int .i64 2, .bool true, .int .i64 4, .bool false, .int .i64 8, .bool false, .int .i64 16]), (y, #[va, .int .i64 rn, .int .i64 rd, .int .i64 rg, .int .i64 re, .int .i64 rs, .int .i64 ra, .int .i64 rl, .int .i64 rf]), (z, #[.slice none 0 0, .int .i64 0, .int .i64 0, .int .i64 0, .int .i64 0, .int .i64 0, .int .i64 0, .int .i64 0, .int .i64 0])] 0 wr ∧ Chg [] w2 wr)
        case atStart => exact ⟨0, by omega, rfl, rfl, CA, hXa⟩
        case round =>
          clear CA hXa
          obtain ⟨k, hk, rfl, rfl, C, hXr⟩ := hrel
          by_cases hlt : k < 5
          · have hcs : k = 0 ∨ k = 1 ∨ k = 2 ∨ k = 3 ∨ k = 4 := by omega
            rcases hcs with rfl | rfl | rfl | rfl | rfl
            · have c0 := (C.get 0 rfl).cell 0; have c1 := (C.get 0 rfl).cell 1
              try dsimp only at c0 c1
              have hZ := At.new wr #[.bool false, .int .i64 0] 46
              have hXz := (Chg.refl [] wr).alloc (.cells #[.bool false, .int .i64 0] 46)
              simp only [List.getD_cons_zero, List.getD_cons_succ]
              go_wp2_with (refine wpList_put rfl rfl rfl rfl hZ rfl (by kernel_rfl) (by simp [Value.oneCell']) ?_; intro wB hB hXB; refine Hid.out ?_)
              refine Lib.hid ?_
              have hXC : Chg [] wr wB := hXz.then hXB (fun x hx hl => by simp at hx; omega)
              have c0 := hB.cell 0; have c1 := hB.cell 1
              try dsimp only at c0 c1
              go_wp2_with fail
              go_roundg (gk - 1)
              case rel => exact ⟨1, by omega, by go_num, by rfl, C.step hXC, hXr.trans hXC⟩
              case measure => omega
            · have c0 := (C.get 0 rfl).cell 2; have c1 := (C.get 0 rfl).cell 3
              try dsimp only at c0 c1
              have hZ := At.new wr #[.bool false, .int .i64 0] 46
              have hXz := (Chg.refl [] wr).alloc (.cells #[.bool false, .int .i64 0] 46)
              simp only [List.getD_cons_zero, List.getD_cons_succ]
              go_wp2_with (refine wpList_put rfl rfl rfl rfl hZ rfl (by kernel_rfl) (by simp [Value.oneCell']) ?_; intro wB hB hXB; refine Hid.out ?_)
              refine Lib.hid ?_
              have hXC : Chg [] wr wB := hXz.then hXB (fun x hx hl => by simp at hx; omega)
              have c0 := hB.cell 0; have c1 := hB.cell 1
              try dsimp only at c0 c1
              go_wp2_with fail
              go_roundg (gk - 1)
              case rel => exact ⟨2, by omega, by go_num, by rfl, C.step hXC, hXr.trans hXC⟩
              case measure => omega
            · have c0 := (C.get 0 rfl).cell 4; have c1 := (C.get 0 rfl).cell 5
              try dsimp only at c0 c1
              have hZ := At.new wr #[.bool false, .int .i64 0] 46
              have hXz := (Chg.refl [] wr).alloc (.cells #[.bool false, .int .i64 0] 46)
              have hor : bits .or .i64 0 4 = 4 := by decide
              simp only [List.getD_cons_zero, List.getD_cons_succ]
              go_wp2_with (refine wpList_put rfl rfl rfl rfl hZ rfl (by kernel_rfl) (by simp [Value.oneCell']) ?_; intro wB hB hXB; refine Hid.out ?_)
              refine Lib.hid ?_
              have hXC : Chg [] wr wB := hXz.then hXB (fun x hx hl => by simp at hx; omega)
              have c0 := hB.cell 0; have c1 := hB.cell 1
              try dsimp only at c0 c1
              go_wp2_with fail
              go_roundg (gk - 1)
              case rel => exact ⟨3, by omega, by go_num, by rfl, C.step hXC, hXr.trans hXC⟩
              case measure => omega
            · have c0 := (C.get 0 rfl).cell 6; have c1 := (C.get 0 rfl).cell 7
              try dsimp only at c0 c1
              have hZ := At.new wr #[.bool false, .int .i64 0] 46
              have hXz := (Chg.refl [] wr).alloc (.cells #[.bool false, .int .i64 0] 46)
              simp only [List.getD_cons_zero, List.getD_cons_succ]
              go_wp2_with (refine wpList_put rfl rfl rfl rfl hZ rfl (by kernel_rfl) (by simp [Value.oneCell']) ?_; intro wB hB hXB; refine Hid.out ?_)
              refine Lib.hid ?_
              have hXC : Chg [] wr wB := hXz.then hXB (fun x hx hl => by simp at hx; omega)
              have c0 := hB.cell 0; have c1 := hB.cell 1
              try dsimp only at c0 c1
              go_wp2_with fail
              go_roundg (gk - 1)
              case rel => exact ⟨4, by omega, by go_num, by rfl, C.step hXC, hXr.trans hXC⟩
              case measure => omega
            · have c0 := (C.get 0 rfl).cell 8; have c1 := (C.get 0 rfl).cell 9
              try dsimp only at c0 c1
              have hZ := At.new wr #[.bool false, .int .i64 0] 46
              have hXz := (Chg.refl [] wr).alloc (.cells #[.bool false, .int .i64 0] 46)
              simp only [List.getD_cons_zero, List.getD_cons_succ]
              go_wp2_with (refine wpList_put rfl rfl rfl rfl hZ rfl (by kernel_rfl) (by simp [Value.oneCell']) ?_; intro wB hB hXB; refine Hid.out ?_)
              refine Lib.hid ?_
              have hXC : Chg [] wr wB := hXz.then hXB (fun x hx hl => by simp at hx; omega)
              have c0 := hB.cell 0; have c1 := hB.cell 1
              try dsimp only at c0 c1
              go_wp2_with fail
              go_roundg (gk - 1)
              case rel => exact ⟨5, by omega, by go_num, by rfl, C.step hXC, hXr.trans hXC⟩
              case measure => omega
          · obtain rfl : gk = 0 := by omega
            obtain rfl : k = 5 := by omega
            simp only [List.getD_cons_zero, List.getD_cons_succ]
            have hy := C.get 1 rfl
            have hz := C.get 2 rfl
            dsimp only at hy hz
            go_upto_region 9 with fail
            go_wp2_with (first | (refine wpList_get rfl rfl rfl hy (by kernel_rfl) ?_) | (refine wpList_put rfl rfl rfl rfl hz rfl (by kernel_rfl) (by simp [hone, one_int]) ?_; intro w8 hz8 hX8; refine Hid.out ?_))
            refine Lib.hid ?_
            go_wp2_with (with_reducible refine hold_post ?_)
            refine Lib.hid ?_
            exact bodyPost_ret (res_ct rfl hz8 (by kernel_rfl) rfl) rfl ⟨va, by rw [HT.out, HF.out]; rfl, fun S wq hS hq => by rw [HT.out]; exact hD.out (z :: S) wq (by intro b hb; rcases List.mem_cons.1 hb with rfl | hb; exact hz1; have := hS b hb; omega) (((hXr.mono (by simp)).trans (hX8.mono (by simp))).trans (hq.mono (by intro b hb _; simp [hb]))), C.x.then hX8 (fun x hx hl => by simp at hx; omega)⟩
    | true =>
      rw [hb1] at ha1
      simp only [if_true, Bool.false_eq_true, if_false] at ha1
      cases hb2 : bitN port 2 with
      | false =>
        rw [hb2] at ha2
        simp only [if_true, Bool.false_eq_true, if_false] at ha2
        have HF : Hid (faultN 0 port = 2) := Lib.hid (by unfold faultN; rw [hb1, hb2]; simp)
        clear hb1 hb2
        go_wp2_with fail
        refine (HSu.out _).mono ?_; rintro e w4 ⟨rfl, hX⟩
        replace C := C.step (j := 0) hX
        replace hXr := hXr.trans hX
        clear hX
        go_wp2_with fail
        refine (HNu.out _).mono ?_; rintro e w5 ⟨rfl, hX⟩
        replace C := C.step (j := 0) hX
        replace hXr := hXr.trans hX
        clear hX
        have CA := C.push #[.bool false, .int .i64 1, .bool true, .int .i64 2, .bool false, .int .i64 4, .bool false, .int .i64 8, .bool false, .int .i64 16] 46
        have hXa := hXr.alloc (.cells #[.bool false, .int .i64 1, .bool true, .int .i64 2, .bool false, .int .i64 4, .bool false, .int .i64 8, .bool false, .int .i64 16] 46)
        go_wp2_with fail
        generalize w5.heap.size = bb at *
        generalize w5.alloc (.cells #[.bool false, .int .i64 1, .bool true, .int .i64 2, .bool false, .int .i64 4, .bool false, .int .i64 8, .bool false, .int .i64 16] 46) = w6 at *
        clear C hXr
        go_loopg [8, 35] 5 (fun gk aa ii wr => ∃ k : Nat, k + gk = 5 ∧ ii = .int .i64 k ∧ aa = .int .i64 (([0, 0, 2, 2, 2, 2] : List Int).getD k 0) ∧ CL W [(bb, #[.bool false, .int .i64 1, .bool true, .int .i64 2, .bool false, .int .i64 4, .bool false, .int .i64 8, .bool false, .int .i64 16]), (y, #[va, .int .i64 rn, .int .i64 rd, .int .i64 rg, .int .i64 re, .int .i64 rs, .int .i64 ra, .int .i64 rl, .int .i64 rf]), (z, #[.slice none 0 0, .int .i64 0, .int .i64 0, .int .i64 0, .int .i64 0, .int .i64 0, .int .i64 0, .int .i64 0, .int .i64 0])] 0 wr ∧ Chg [] w2 wr)
        case atStart => exact ⟨0, by omega, rfl, rfl, CA, hXa⟩
        case round =>
          clear CA hXa
          obtain ⟨k, hk, rfl, rfl, C, hXr⟩ := hrel
          by_cases hlt : k < 5
          · have hcs : k = 0 ∨ k = 1 ∨ k = 2 ∨ k = 3 ∨ k = 4 := by omega
            rcases hcs with rfl | rfl | rfl | rfl | rfl
            · have c0 := (C.get 0 rfl).cell 0; have c1 := (C.get 0 rfl).cell 1
              try dsimp only at c0 c1
              have hZ := At.new wr #[.bool false, .int .i64 0] 46
              have hXz := (Chg.refl [] wr).alloc (.cells #[.bool false, .int .i64 0] 46)
              simp only [List.getD_cons_zero, List.getD_cons_succ]
              go_wp2_with (refine wpList_put rfl rfl rfl rfl hZ rfl (by kernel_rfl) (by simp [Value.oneCell']) ?_; intro wB hB hXB; refine Hid.out ?_)
              refine Lib.hid ?_
              have hXC : Chg [] wr wB := hXz.then hXB (fun x hx hl => by simp at hx; omega)
              have c0 := hB.cell 0; have c1 := hB.cell 1
              try dsimp only at c0 c1
              go_wp2_with fail
              go_roundg (gk - 1)
              case rel => exact ⟨1, by omega, by go_num, by rfl, C.step hXC, hXr.trans hXC⟩
              case measure => omega
            · have c0 := (C.get 0 rfl).cell 2; have c1 := (C.get 0 rfl).cell 3
              try dsimp only at c0 c1
              have hZ := At.new wr #[.bool false, .int .i64 0] 46
              have hXz := (Chg.refl [] wr).alloc (.cells #[.bool false, .int .i64 0] 46)
              have hor : bits .or .i64 0 2 = 2 := by decide
              simp only [List.getD_cons_zero, List.getD_cons_succ]
              go_wp2_with (refine wpList_put rfl rfl rfl rfl hZ rfl (by kernel_rfl) (by simp [Value.oneCell']) ?_; intro wB hB hXB; refine Hid.out ?_)
              refine Lib.hid ?_
              have hXC : Chg [] wr wB := hXz.then hXB (fun x hx hl => by simp at hx; omega)
              have c0 := hB.cell 0; have c1 := hB.cell 1
              try dsimp only at c0 c1
              go_wp2_with fail
              go_roundg (gk - 1)
              case rel => exact ⟨2, by omega, by go_num, by rfl, C.step hXC, hXr.trans hXC⟩
              case measure => omega
            · have c0 := (C.get 0 rfl).cell 4; have c1 := (C.get 0 rfl).cell 5
              try dsimp only at c0 c1
              have hZ := At.new wr #[.bool false, .int .i64 0] 46
              have hXz := (Chg.refl [] wr).alloc (.cells #[.bool false, .int .i64 0] 46)
              simp only [List.getD_cons_zero, List.getD_cons_succ]
              go_wp2_with (refine wpList_put rfl rfl rfl rfl hZ rfl (by kernel_rfl) (by simp [Value.oneCell']) ?_; intro wB hB hXB; refine Hid.out ?_)
              refine Lib.hid ?_
              have hXC : Chg [] wr wB := hXz.then hXB (fun x hx hl => by simp at hx; omega)
              have c0 := hB.cell 0; have c1 := hB.cell 1
              try dsimp only at c0 c1
              go_wp2_with fail
              go_roundg (gk - 1)
              case rel => exact ⟨3, by omega, by go_num, by rfl, C.step hXC, hXr.trans hXC⟩
              case measure => omega
            · have c0 := (C.get 0 rfl).cell 6; have c1 := (C.get 0 rfl).cell 7
              try dsimp only at c0 c1
              have hZ := At.new wr #[.bool false, .int .i64 0] 46
              have hXz := (Chg.refl [] wr).alloc (.cells #[.bool false, .int .i64 0] 46)
              simp only [List.getD_cons_zero, List.getD_cons_succ]
              go_wp2_with (refine wpList_put rfl rfl rfl rfl hZ rfl (by kernel_rfl) (by simp [Value.oneCell']) ?_; intro wB hB hXB; refine Hid.out ?_)
              refine Lib.hid ?_
              have hXC : Chg [] wr wB := hXz.then hXB (fun x hx hl => by simp at hx; omega)
              have c0 := hB.cell 0; have c1 := hB.cell 1
              try dsimp only at c0 c1
              go_wp2_with fail
              go_roundg (gk - 1)
              case rel => exact ⟨4, by omega, by go_num, by rfl, C.step hXC, hXr.trans hXC⟩
              case measure => omega
            · have c0 := (C.get 0 rfl).cell 8; have c1 := (C.get 0 rfl).cell 9
              try dsimp only at c0 c1
              have hZ := At.new wr #[.bool false, .int .i64 0] 46
              have hXz := (Chg.refl [] wr).alloc (.cells #[.bool false, .int .i64 0] 46)
              simp only [List.getD_cons_zero, List.getD_cons_succ]
              go_wp2_with (refine wpList_put rfl rfl rfl rfl hZ rfl (by kernel_rfl) (by simp [Value.oneCell']) ?_; intro wB hB hXB; refine Hid.out ?_)
              refine Lib.hid ?_
              have hXC : Chg [] wr wB := hXz.then hXB (fun x hx hl => by simp at hx; omega)
              have c0 := hB.cell 0; have c1 := hB.cell 1
              try dsimp only at c0 c1
              go_wp2_with fail
              go_roundg (gk - 1)
              case rel => exact ⟨5, by omega, by go_num, by rfl, C.step hXC, hXr.trans hXC⟩
              case measure => omega
          · obtain rfl : gk = 0 := by omega
            obtain rfl : k = 5 := by omega
            simp only [List.getD_cons_zero, List.getD_cons_succ]
            have hy := C.get 1 rfl
            have hz := C.get 2 rfl
            dsimp only at hy hz
            go_upto_region 9 with fail
            go_wp2_with (first | (refine wpList_get rfl rfl rfl hy (by kernel_rfl) ?_) | (refine wpList_put rfl rfl rfl rfl hz rfl (by kernel_rfl) (by simp [hone, one_int]) ?_; intro w8 hz8 hX8; refine Hid.out ?_))
            refine Lib.hid ?_
            go_wp2_with (with_reducible refine hold_post ?_)
            refine Lib.hid ?_
            exact bodyPost_ret (res_ct rfl hz8 (by kernel_rfl) rfl) rfl ⟨va, by rw [HT.out, HF.out]; rfl, fun S wq hS hq => by rw [HT.out]; exact hD.out (z :: S) wq (by intro b hb; rcases List.mem_cons.1 hb with rfl | hb; exact hz1; have := hS b hb; omega) (((hXr.mono (by simp)).trans (hX8.mono (by simp))).trans (hq.mono (by intro b hb _; simp [hb]))), C.x.then hX8 (fun x hx hl => by simp at hx; omega)⟩
      | true =>
        rw [hb2] at ha2
        simp only [if_true, Bool.false_eq_true, if_false] at ha2
        have HF : Hid (faultN 0 port = 6) := Lib.hid (by unfold faultN; rw [hb1, hb2]; simp)
        clear hb1 hb2
        go_wp2_with fail
        refine (HSu.out _).mono ?_; rintro e w4 ⟨rfl, hX⟩
        replace C := C.step (j := 0) hX
        replace hXr := hXr.trans hX
        clear hX
        go_wp2_with fail
        refine (HNu.out _).mono ?_; rintro e w5 ⟨rfl, hX⟩
        replace C := C.step (j := 0) hX
        replace hXr := hXr.trans hX
        clear hX
        have CA := C.push #[.bool false, .int .i64 1, .bool true, .int .i64 2, .bool true, .int .i64 4, .bool false, .int .i64 8, .bool false, .int .i64 16] 46
        have hXa := hXr.alloc (.cells #[.bool false, .int .i64 1, .bool true, .int .i64 2, .bool true, .int .i64 4, .bool false, .int .i64 8, .bool false, .int .i64 16] 46)
        go_wp2_with fail
        generalize w5.heap.size = bb at *
        generalize w5.alloc (.cells #[.bool false, .int .i64 1, .bool true, .int .i64 2, .bool true, .int .i64 4, .bool false, .int .i64 8, .bool false, .int .i64 16] 46) = w6 at *
        clear C hXr
        go_loopg [8, 35] 5 (fun gk aa ii wr => ∃ k : Nat, k + gk = 5 ∧ ii = .int .i64 k ∧ aa = .int .i64 (([0, 0, 2, 6, 6, 6] : List Int).getD k 0) ∧ CL W [(bb, #[.bool false, .int .i64 1, .bool true, .int .i64 2, .bool true, .int .i64 4, .bool false, .int .i64 8, .bool false, .int .i64 16]), (y, #[va, .int .i64 rn, .int .i64 rd, .int .i64 rg, .int .i64 re, .int .i64 rs, .int .i64 ra, .int .i64 rl, .int .i64 rf]), (z, #[.slice none 0 0, .int .i64 0, .int .i64 0, .int .i64 0, .int .i64 0, .int .i64 0, .int .i64 0, .int .i64 0, .int .i64 0])] 0 wr ∧ Chg [] w2 wr)
        case atStart => exact ⟨0, by omega, rfl, rfl, CA, hXa⟩
        case round =>
          clear CA hXa
          obtain ⟨k, hk, rfl, rfl, C, hXr⟩ := hrel
          by_cases hlt : k < 5
          · have hcs : k = 0 ∨ k = 1 ∨ k = 2 ∨ k = 3 ∨ k = 4 := by omega
            rcases hcs with rfl | rfl | rfl | rfl | rfl
            · have c0 := (C.get 0 rfl).cell 0; have c1 := (C.get 0 rfl).cell 1
              try dsimp only at c0 c1
              have hZ := At.new wr #[.bool false, .int .i64 0] 46
              have hXz := (Chg.refl [] wr).alloc (.cells #[.bool false, .int .i64 0] 46)
              simp only [List.getD_cons_zero, List.getD_cons_succ]
              go_wp2_with (refine wpList_put rfl rfl rfl rfl hZ rfl (by kernel_rfl) (by simp [Value.oneCell']) ?_; intro wB hB hXB; refine Hid.out ?_)
              refine Lib.hid ?_
              have hXC : Chg [] wr wB := hXz.then hXB (fun x hx hl => by simp at hx; omega)
              have c0 := hB.cell 0; have c1 := hB.cell 1
              try dsimp only at c0 c1
              go_wp2_with fail
              go_roundg (gk - 1)
              case rel => exact ⟨1, by omega, by go_num, by rfl, C.step hXC, hXr.trans hXC⟩
              case measure => omega
            · have c0 := (C.get 0 rfl).cell 2; have c1 := (C.get 0 rfl).cell 3
              try dsimp only at c0 c1
              have hZ := At.new wr #[.bool false, .int .i64 0] 46
              have hXz := (Chg.refl [] wr).alloc (.cells #[.bool false, .int .i64 0] 46)
              have hor : bits .or .i64 0 2 = 2 := by decide
              simp only [List.getD_cons_zero, List.getD_cons_succ]
              go_wp2_with (refine wpList_put rfl rfl rfl rfl hZ rfl (by kernel_rfl) (by simp [Value.oneCell']) ?_; intro wB hB hXB; refine Hid.out ?_)
              refine Lib.hid ?_
              have hXC : Chg [] wr wB := hXz.then hXB (fun x hx hl => by simp at hx; omega)
              have c0 := hB.cell 0; have c1 := hB.cell 1
              try dsimp only at c0 c1
              go_wp2_with fail
              go_roundg (gk - 1)
              case rel => exact ⟨2, by omega, by go_num, by rfl, C.step hXC, hXr.trans hXC⟩
              case measure => omega
            · have c0 := (C.get 0 rfl).cell 4; have c1 := (C.get 0 rfl).cell 5
              try dsimp only at c0 c1
              have hZ := At.new wr #[.bool false, .int .i64 0] 46
              have hXz := (Chg.refl [] wr).alloc (.cells #[.bool false, .int .i64 0] 46)
              have hor : bits .or .i64 2 4 = 6 := by decide
              simp only [List.getD_cons_zero, List.getD_cons_succ]
              go_wp2_with (refine wpList_put rfl rfl rfl rfl hZ rfl (by kernel_rfl) (by simp [Value.oneCell']) ?_; intro wB hB hXB; refine Hid.out ?_)
              refine Lib.hid ?_
              have hXC : Chg [] wr wB := hXz.then hXB (fun x hx hl => by simp at hx; omega)
              have c0 := hB.cell 0; have c1 := hB.cell 1
              try dsimp only at c0 c1
              go_wp2_with fail
              go_roundg (gk - 1)
              case rel => exact ⟨3, by omega, by go_num, by rfl, C.step hXC, hXr.trans hXC⟩
              case measure => omega
            · have c0 := (C.get 0 rfl).cell 6; have c1 := (C.get 0 rfl).cell 7
              try dsimp only at c0 c1
              have hZ := At.new wr #[.bool false, .int .i64 0] 46
              have hXz := (Chg.refl [] wr).alloc (.cells #[.bool false, .int .i64 0] 46)
              simp only [List.getD_cons_zero, List.getD_cons_succ]
              go_wp2_with (refine wpList_put rfl rfl rfl rfl hZ rfl (by kernel_rfl) (by simp [Value.oneCell']) ?_; intro wB hB hXB; refine Hid.out ?_)
              refine Lib.hid ?_
              have hXC : Chg [] wr wB := hXz.then hXB (fun x hx hl => by simp at hx; omega)
              have c0 := hB.cell 0; have c1 := hB.cell 1
              try dsimp only at c0 c1
              go_wp2_with fail
              go_roundg (gk - 1)
              case rel => exact ⟨4, by omega, by go_num, by rfl, C.step hXC, hXr.trans hXC⟩
              case measure => omega
            · have c0 := (C.get 0 rfl).cell 8; have c1 := (C.get 0 rfl).cell 9
              try dsimp only at c0 c1
              have hZ := At.new wr #[.bool false, .int .i64 0] 46
              have hXz := (Chg.refl [] wr).alloc (.cells #[.bool false, .int .i64 0] 46)
              simp only [List.getD_cons_zero, List.getD_cons_succ]
              go_wp2_with (refine wpList_put rfl rfl rfl rfl hZ rfl (by kernel_rfl) (by simp [Value.oneCell']) ?_; intro wB hB hXB; refine Hid.out ?_)
              refine Lib.hid ?_
              have hXC : Chg [] wr wB := hXz.then hXB (fun x hx hl => by simp at hx; omega)
              have c0 := hB.cell 0; have c1 := hB.cell 1
              try dsimp only at c0 c1
              go_wp2_with fail
              go_roundg (gk - 1)
              case rel => exact ⟨5, by omega, by go_num, by rfl, C.step hXC, hXr.trans hXC⟩
              case measure => omega
          · obtain rfl : gk = 0 := by omega
            obtain rfl : k = 5 := by omega
            simp only [List.getD_cons_zero, List.getD_cons_succ]
            have hy := C.get 1 rfl
            have hz := C.get 2 rfl
            dsimp only at hy hz
            go_upto_region 9 with fail
            go_wp2_with (first | (refine wpList_get rfl rfl rfl hy (by kernel_rfl) ?_) | (refine wpList_put rfl rfl rfl rfl hz rfl (by kernel_rfl) (by simp [hone, one_int]) ?_; intro w8 hz8 hX8; refine Hid.out ?_))
            refine Lib.hid ?_
            go_wp2_with (with_reducible refine hold_post ?_)
            refine Lib.hid ?_
            exact bodyPost_ret (res_ct rfl hz8 (by kernel_rfl) rfl) rfl ⟨va, by rw [HT.out, HF.out]; rfl, fun S wq hS hq => by rw [HT.out]; exact hD.out (z :: S) wq (by intro b hb; rcases List.mem_cons.1 hb with rfl | hb; exact hz1; have := hS b hb; omega) (((hXr.mono (by simp)).trans (hX8.mono (by simp))).trans (hq.mono (by intro b hb _; simp [hb]))), C.x.then hX8 (fun x hx hl => by simp at hx; omega)⟩
  · have he2 : ¬(er = 0) := he
    have he3 : (er != 0) = true := by simpa using he
    cases hb1 : bitN port 1 with
    | false =>
      rw [hb1] at ha1
      simp only [if_true, Bool.false_eq_true, if_false] at ha1
      cases hb2 : bitN port 2 with
      | false =>
        rw [hb2] at ha2
        simp only [if_true, Bool.false_eq_true, if_false] at ha2
        have HF : Hid (faultN er port = 1) := Lib.hid (by unfold faultN; rw [hb1, hb2]; simp [he2])
        clear hb1 hb2
        go_wp2_with fail
        refine (HSu.out _).mono ?_; rintro e w4 ⟨rfl, hX⟩
        replace C := C.step (j := 0) hX
        replace hXr := hXr.trans hX
        clear hX
        go_wp2_with fail
        refine (HNu.out _).mono ?_; rintro e w5 ⟨rfl, hX⟩
        replace C := C.step (j := 0) hX
        replace hXr := hXr.trans hX
        clear hX
        have CA := C.push #[.bool true, .int .i64 1, .bool false, .int .i64 2, .bool false, .int .i64 4, .bool false, .int .i64 8, .bool false, .int .i64 16] 46
        have hXa := hXr.alloc (.cells #[.bool true, .int .i64 1, .bool false, .int .i64 2, .bool false, .int .i64 4, .bool false, .int .i64 8, .bool false, .int .i64 16] 46)
        go_wp2_with fail
        generalize w5.heap.size = bb at *
        generalize w5.alloc (.cells #[.bool true, .int .i64 1, .bool false, .int .i64 2, .bool false, .int .i64 4, .bool false, .int .i64 8, .bool false, .int .i64 16] 46) = w6 at *
        clear C hXr
        go_loopg [8, 35] 5 (fun gk aa ii wr => ∃ k : Nat, k + gk = 5 ∧ ii = .int .i64 k ∧ aa = .int .i64 (([0, 1, 1, 1, 1, 1] : List Int).getD k 0) ∧ CL W [(bb, #[.bool true, .int .i64 1, .bool false, .int .i64 2, .bool false, .int .i64 4, .bool false, .int .i64 8, .bool false, .int .i64 16]), (y, #[va, .int .i64 rn, .int .i64 rd, .int .i64 rg, .int .i64 re, .int .i64 rs, .int .i64 ra, .int .i64 rl, .int .i64 rf]), (z, #[.slice none 0 0, .int .i64 0, .int .i64 0, .int .i64 0, .int .i64 0, .int .i64 0, .int .i64 0, .int .i64 0, .int .i64 0])] 0 wr ∧ Chg [] w2 wr)
        case atStart => exact ⟨0, by omega, rfl, rfl, CA, hXa⟩
        case round =>
          clear CA hXa
          obtain ⟨k, hk, rfl, rfl, C, hXr⟩ := hrel
          by_cases hlt : k < 5
          · have hcs : k = 0 ∨ k = 1 ∨ k = 2 ∨ k = 3 ∨ k = 4 := by omega
            rcases hcs with rfl | rfl | rfl | rfl | rfl
            · have c0 := (C.get 0 rfl).cell 0; have c1 := (C.get 0 rfl).cell 1
              try dsimp only at c0 c1
              have hZ := At.new wr #[.bool false, .int .i64 0] 46
              have hXz := (Chg.refl [] wr).alloc (.cells #[.bool false, .int .i64 0] 46)
              have hor : bits .or .i64 0 1 = 1 := by decide
              simp only [List.getD_cons_zero, List.getD_cons_succ]
              go_wp2_with (refine wpList_put rfl rfl rfl rfl hZ rfl (by kernel_rfl) (by simp [Value.oneCell']) ?_; intro wB hB hXB; refine Hid.out ?_)
              refine Lib.hid ?_
              have hXC : Chg [] wr wB := hXz.then hXB (fun x hx hl => by simp at hx; omega)
              have c0 := hB.cell 0; have c1 := hB.cell 1
              try dsimp only at c0 c1
              go_wp2_with fail
              go_roundg (gk - 1)
              case rel => exact ⟨1, by omega, by go_num, by rfl, C.step hXC, hXr.trans hXC⟩
              case measure => omega
            · have c0 := (C.get 0 rfl).cell 2; have c1 := (C.get 0 rfl).cell 3
              try dsimp only at c0 c1
              have hZ := At.new wr #[.bool false, .int .i64 0] 46
              have hXz := (Chg.refl [] wr).alloc (.cells #[.bool false, .int .i64 0] 46)
              simp only [List.getD_cons_zero, List.getD_cons_succ]
              go_wp2_with (refine wpList_put rfl rfl rfl rfl hZ rfl (by kernel_rfl) (by simp [Value.oneCell']) ?_; intro wB hB hXB; refine Hid.out ?_)
              refine Lib.hid ?_
              have hXC : Chg [] wr wB := hXz.then hXB (fun x hx hl => by simp at hx; omega)
              have c0 := hB.cell 0; have c1 := hB.cell 1
              try dsimp only at c0 c1
              go_wp2_with fail
              go_roundg (gk - 1)
              case rel => exact ⟨2, by omega, by go_num, by rfl, C.step hXC, hXr.trans hXC⟩
              case measure => omega
            · have c0 := (C.get 0 rfl).cell 4; have c1 := (C.get 0 rfl).cell 5
              try dsimp only at c0 c1
              have hZ := At.new wr #[.bool false, .int .i64 0] 46
              have hXz := (Chg.refl [] wr).alloc (.cells #[.bool false, .int .i64 0] 46)
              simp only [List.getD_cons_zero, List.getD_cons_succ]
              go_wp2_with (refine wpList_put rfl rfl rfl rfl hZ rfl (by kernel_rfl) (by simp [Value.oneCell']) ?_; intro wB hB hXB; refine Hid.out ?_)
              refine Lib.hid ?_
              have hXC : Chg [] wr wB := hXz.then hXB (fun x hx hl => by simp at hx; omega)
              have c0 := hB.cell 0; have c1 := hB.cell 1
              try dsimp only at c0 c1
              go_wp2_with fail
              go_roundg (gk - 1)
              case rel => exact ⟨3, by omega, by go_num, by rfl, C.step hXC, hXr.trans hXC⟩
              case measure => omega
            · have c0 := (C.get 0 rfl).cell 6; have c1 := (C.get 0 rfl).cell 7
              try dsimp only at c0 c1
              have hZ := At.new wr #[.bool false, .int .i64 0] 46
              have hXz := (Chg.refl [] wr).alloc (.cells #[.bool false, .int .i64 0] 46)
              simp only [List.getD_cons_zero, List.getD_cons_succ]
              go_wp2_with (refine wpList_put rfl rfl rfl rfl hZ rfl (by kernel_rfl) (by simp [Value.oneCell']) ?_; intro wB hB hXB; refine Hid.out ?_)
              refine Lib.hid ?_
              have hXC : Chg [] wr wB := hXz.then hXB (fun x hx hl => by simp at hx; omega)
              have c0 := hB.cell 0; have c1 := hB.cell 1
              try dsimp only at c0 c1
              go_wp2_with fail
              go_roundg (gk - 1)
              case rel => exact ⟨4, by omega, by go_num, by rfl, C.step hXC, hXr.trans hXC⟩
              case measure => omega
            · have c0 := (C.get 0 rfl).cell 8; have c1 := (C.get 0 rfl).cell 9
              try dsimp only at c0 c1
              have hZ := At.new wr #[.bool false, .int .i64 0] 46
              have hXz := (Chg.refl [] wr).alloc (.cells #[.bool false, .int .i64 0] 46)
              simp only [List.getD_cons_zero, List.getD_cons_succ]
              go_wp2_with (refine wpList_put rfl rfl rfl rfl hZ rfl (by kernel_rfl) (by simp [Value.oneCell']) ?_; intro wB hB hXB; refine Hid.out ?_)
              refine Lib.hid ?_
              have hXC : Chg [] wr wB := hXz.then hXB (fun x hx hl => by simp at hx; omega)
              have c0 := hB.cell 0; have c1 := hB.cell 1
              try dsimp only at c0 c1
              go_wp2_with fail
              go_roundg (gk - 1)
              case rel => exact ⟨5, by omega, by go_num, by rfl, C.step hXC, hXr.trans hXC⟩
              case measure => omega
          · obtain rfl : gk = 0 := by omega
            obtain rfl : k = 5 := by omega
            simp only [List.getD_cons_zero, List.getD_cons_succ]
            have hy := C.get 1 rfl
            have hz := C.get 2 rfl
            dsimp only at hy hz
            go_upto_region 9 with fail
            go_wp2_with (first | (refine wpList_get rfl rfl rfl hy (by kernel_rfl) ?_) | (refine wpList_put rfl rfl rfl rfl hz rfl (by kernel_rfl) (by simp [hone, one_int]) ?_; intro w8 hz8 hX8; refine Hid.out ?_))
            refine Lib.hid ?_
            go_wp2_with (with_reducible refine hold_post ?_)
            refine Lib.hid ?_
            exact bodyPost_ret (res_ct rfl hz8 (by kernel_rfl) rfl) rfl ⟨va, by rw [HT.out, HF.out]; rfl, fun S wq hS hq => by rw [HT.out]; exact hD.out (z :: S) wq (by intro b hb; rcases List.mem_cons.1 hb with rfl | hb; exact hz1; have := hS b hb; omega) (((hXr.mono (by simp)).trans (hX8.mono (by simp))).trans (hq.mono (by intro b hb _; simp [hb]))), C.x.then hX8 (fun x hx hl => by simp at hx; omega)⟩
      | true =>
        rw [hb2] at ha2
        simp only [if_true, Bool.false_eq_true, if_false] at ha2
        have HF : Hid (faultN er port = 5) := Lib.hid (by unfold faultN; rw [hb1, hb2]; simp [he2])
        clear hb1 hb2
        go_wp2_with fail
        refine (HSu.out _).mono ?_; rintro e w4 ⟨rfl, hX⟩
        replace C := C.step (j := 0) hX
        replace hXr := hXr.trans hX
        clear hX
        go_wp2_with fail
        refine (HNu.out _).mono ?_; rintro e w5 ⟨rfl, hX⟩
        replace C := C.step (j := 0) hX
        replace hXr := hXr.trans hX
        clear hX
        have CA := C.push #[.bool true, .int .i64 1, .bool false, .int .i64 2, .bool true, .int .i64 4, .bool false, .int .i64 8, .bool false, .int .i64 16] 46
        have hXa := hXr.alloc (.cells #[.bool true, .int .i64 1, .bool false, .int .i64 2, .bool true, .int .i64 4, .bool false, .int .i64 8, .bool false, .int .i64 16] 46)
        go_wp2_with fail
        generalize w5.heap.size = bb at *
        generalize w5.alloc (.cells #[.bool true, .int .i64 1, .bool false, .int .i64 2, .bool true, .int .i64 4, .bool false, .int .i64 8, .bool false, .int .i64 16] 46) = w6 at *
        clear C hXr
        go_loopg [8, 35] 5 (fun gk aa ii wr => ∃ k : Nat, k + gk = 5 ∧ ii = .int .i64 k ∧ aa = .int .i64 (([0, 1, 1, 5, 5, 5] : List Int).getD k 0) ∧ CL W [(bb, #[.bool true, .int .i64 1, .bool false, .int .i64 2, .bool true, .int .i64 4, .bool false, .int .i64 8, .bool false, .int .i64 16]), (y, #[va, .int .i64 rn, .int .i64 rd, .int .i64 rg, .int .i64 re, .int .i64 rs, .int .i64 ra, .int .i64 rl, .int .i64 rf]), (z, #[.slice none 0 0, .int .i64 0, .int .i64 0, .int .i64 0, .int .i64 0, .int .i64 0, .int .i64 0, .int .i64 0, .int .i64 0])] 0 wr ∧ Chg [] w2 wr)
        case atStart => exact ⟨0, by omega, rfl, rfl, CA, hXa⟩
        case round =>
          clear CA hXa
          obtain ⟨k, hk, rfl, rfl, C, hXr⟩ := hrel
          by_cases hlt : k < 5
          · have hcs : k = 0 ∨ k = 1 ∨ k = 2 ∨ k = 3 ∨ k = 4 := by omega
            rcases hcs with rfl | rfl | rfl | rfl | rfl
            · have c0 := (C.get 0 rfl).cell 0; have c1 := (C.get 0 rfl).cell 1
              try dsimp only at c0 c1
              have hZ := At.new wr #[.bool false, .int .i64 0] 46
              have hXz := (Chg.refl [] wr).alloc (.cells #[.bool false, .int .i64 0] 46)
              have hor : bits .or .i64 0 1 = 1 := by decide
              simp only [List.getD_cons_zero, List.getD_cons_succ]
              go_wp2_with (refine wpList_put rfl rfl rfl rfl hZ rfl (by kernel_rfl) (by simp [Value.oneCell']) ?_; intro wB hB hXB; refine Hid.out ?_)
              refine Lib.hid ?_
              have hXC : Chg [] wr wB := hXz.then hXB (fun x hx hl => by simp at hx; omega)
              have c0 := hB.cell 0; have c1 := hB.cell 1
              try dsimp only at c0 c1
              go_wp2_with fail
              go_roundg (gk - 1)
              case rel => exact ⟨1, by omega, by go_num, by rfl, C.step hXC, hXr.trans hXC⟩
              case measure => omega
            · have c0 := (C.get 0 rfl).cell 2; have c1 := (C.get 0 rfl).cell 3
              try dsimp only at c0 c1
              have hZ := At.new wr #[.bool false, .int .i64 0] 46
              have hXz := (Chg.refl [] wr).alloc (.cells #[.bool false, .int .i64 0] 46)
              simp only [List.getD_cons_zero, List.getD_cons_succ]
              go_wp2_with (refine wpList_put rfl rfl rfl rfl hZ rfl (by kernel_rfl) (by simp [Value.oneCell']) ?_; intro wB hB hXB; refine Hid.out ?_)
              refine Lib.hid ?_
              have hXC : Chg [] wr wB := hXz.then hXB (fun x hx hl => by simp at hx; omega)
              have c0 := hB.cell 0; have c1 := hB.cell 1
              try dsimp only at c0 c1
              go_wp2_with fail
              go_roundg (gk - 1)
              case rel => exact ⟨2, by omega, by go_num, by rfl, C.step hXC, hXr.trans hXC⟩
              case measure => omega
            · have c0 := (C.get 0 rfl).cell 4; have c1 := (C.get 0 rfl).cell 5
              try dsimp only at c0 c1
              have hZ := At.new wr #[.bool false, .int .i64 0] 46
              have hXz := (Chg.refl [] wr).alloc (.cells #[.bool false, .int .i64 0] 46)
              have hor : bits .or .i64 1 4 = 5 := by decide
              simp only [List.getD_cons_zero, List.getD_cons_succ]
              go_wp2_with (refine wpList_put rfl rfl rfl rfl hZ rfl (by kernel_rfl) (by simp [Value.oneCell']) ?_; intro wB hB hXB; refine Hid.out ?_)
              refine Lib.hid ?_
              have hXC : Chg [] wr wB := hXz.then hXB (fun x hx hl => by simp at hx; omega)
              have c0 := hB.cell 0; have c1 := hB.cell 1
              try dsimp only at c0 c1
              go_wp2_with fail
              go_roundg (gk - 1)
              case rel => exact ⟨3, by omega, by go_num, by rfl, C.step hXC, hXr.trans hXC⟩
              case measure => omega
            · have c0 := (C.get 0 rfl).cell 6; have c1 := (C.get 0 rfl).cell 7
              try dsimp only at c0 c1
              have hZ := At.new wr #[.bool false, .int .i64 0] 46
              have hXz := (Chg.refl [] wr).alloc (.cells #[.bool false, .int .i64 0] 46)
              simp only [List.getD_cons_zero, List.getD_cons_succ]
              go_wp2_with (refine wpList_put rfl rfl rfl rfl hZ rfl (by kernel_rfl) (by simp [Value.oneCell']) ?_; intro wB hB hXB; refine Hid.out ?_)
              refine Lib.hid ?_
              have hXC : Chg [] wr wB := hXz.then hXB (fun x hx hl => by simp at hx; omega)
              have c0 := hB.cell 0; have c1 := hB.cell 1
              try dsimp only at c0 c1
              go_wp2_with fail
              go_roundg (gk - 1)
              case rel => exact ⟨4, by omega, by go_num, by rfl, C.step hXC, hXr.trans hXC⟩
              case measure => omega
            · have c0 := (C.get 0 rfl).cell 8; have c1 := (C.get 0 rfl).cell 9
              try dsimp only at c0 c1
              have hZ := At.new wr #[.bool false, .int .i64 0] 46
              have hXz := (Chg.refl [] wr).alloc (.cells #[.bool false, .int .i64 0] 46)
              simp only [List.getD_cons_zero, List.getD_cons_succ]
              go_wp2_with (refine wpList_put rfl rfl rfl rfl hZ rfl (by kernel_rfl) (by simp [Value.oneCell']) ?_; intro wB hB hXB; refine Hid.out ?_)
              refine Lib.hid ?_
              have hXC : Chg [] wr wB := hXz.then hXB (fun x hx hl => by simp at hx; omega)
              have c0 := hB.cell 0; have c1 := hB.cell 1
              try dsimp only at c0 c1
              go_wp2_with fail
              go_roundg (gk - 1)
              case rel => exact ⟨5, by omega, by go_num, by rfl, C.step hXC, hXr.trans hXC⟩
              case measure => omega
          · obtain rfl : gk = 0 := by omega
            obtain rfl : k = 5 := by omega
            simp only [List.getD_cons_zero, List.getD_cons_succ]
            have hy := C.get 1 rfl
            have hz := C.get 2 rfl
            dsimp only at hy hz
            go_upto_region 9 with fail
            go_wp2_with (first | (refine wpList_get rfl rfl rfl hy (by kernel_rfl) ?_) | (refine wpList_put rfl rfl rfl rfl hz rfl (by kernel_rfl) (by simp [hone, one_int]) ?_; intro w8 hz8 hX8; refine Hid.out ?_))
            refine Lib.hid ?_
            go_wp2_with (with_reducible refine hold_post ?_)
            refine Lib.hid ?_
            exact bodyPost_ret (res_ct rfl hz8 (by kernel_rfl) rfl) rfl ⟨va, by rw [HT.out, HF.out]; rfl, fun S wq hS hq => by rw [HT.out]; exact hD.out (z :: S) wq (by intro b hb; rcases List.mem_cons.1 hb with rfl | hb; exact hz1; have := hS b hb; omega) (((hXr.mono (by simp)).trans (hX8.mono (by simp))).trans (hq.mono (by intro b hb _; simp [hb]))), C.x.then hX8 (fun x hx hl => by simp at hx; omega)⟩
    | true =>
      rw [hb1] at ha1
      simp only [if_true, Bool.false_eq_true, if_false] at ha1
      cases hb2 : bitN port 2 with
      | false =>
        rw [hb2] at ha2
        simp only [if_true, Bool.false_eq_true, if_false] at ha2
        have HF : Hid (faultN er port = 3) := Lib.hid (by unfold faultN; rw [hb1, hb2]; simp [he2])
        clear hb1 hb2
        go_wp2_with fail
        refine (HSu.out _).mono ?_; rintro e w4 ⟨rfl, hX⟩
        replace C := C.step (j := 0) hX
        replace hXr := hXr.trans hX
        clear hX
        go_wp2_with fail
        refine (HNu.out _).mono ?_; rintro e w5 ⟨rfl, hX⟩
        replace C := C.step (j := 0) hX
        replace hXr := hXr.trans hX
        clear hX
        have CA := C.push #[.bool true, .int .i64 1, .bool true, .int .i64 2, .bool false, .int .i64 4, .bool false, .int .i64 8, .bool false, .int .i64 16] 46
        have hXa := hXr.alloc (.cells #[.bool true, .int .i64 1, .bool true, .int .i64 2, .bool false, .int .i64 4, .bool false, .int .i64 8, .bool false, .int .i64 16] 46)
        go_wp2_with fail
        generalize w5.heap.size = bb at *
        generalize w5.alloc (.cells #[.bool true, .int .i64 1, .bool true, .int .i64 2, .bool false, .int .i64 4, .bool false, .int .i64 8, .bool false, .int .i64 16] 46) = w6 at *
        clear C hXr
        go_loopg [8, 35] 5 (fun gk aa ii wr => ∃ k : Nat, k + gk = 5 ∧ ii = .int .i64 k ∧ aa = .int .i64 (([0, 1, 3, 3, 3, 3] : List Int).getD k 0) ∧ CL W [(bb, #[.bool true, .int .i64 1, .bool true, .int .i64 2, .bool false, .int .i64 4, .bool false, .int .i64 8, .bool false, .int .i64 16]), (y, #[va, .int .i64 rn, .int .i64 rd, .int .i64 rg, .int .i64 re, .int .i64 rs, .int .i64 ra, .int .i64 rl, .int .i64 rf]), (z, #[.slice none 0 0, .int .i64 0, .int .i64 0, .int .i64 0, .int .i64 0, .int .i64 0, .int .i64 0, .int .i64 0, .int .i64 0])] 0 wr ∧ Chg [] w2 wr)
        case atStart => exact ⟨0, by omega, rfl, rfl, CA, hXa⟩
        case round =>
          clear CA hXa
          obtain ⟨k, hk, rfl, rfl, C, hXr⟩ := hrel
          by_cases hlt : k < 5
          · have hcs : k = 0 ∨ k = 1 ∨ k = 2 ∨ k = 3 ∨ k = 4 := by omega
            rcases hcs with rfl | rfl | rfl | rfl | rfl
            · have c0 := (C.get 0 rfl).cell 0; have c1 := (C.get 0 rfl).cell 1
              try dsimp only at c0 c1
              have hZ := At.new wr #[.bool false, .int .i64 0] 46
              have hXz := (Chg.refl [] wr).alloc (.cells #[.bool false, .int .i64 0] 46)
              have hor : bits .or .i64 0 1 = 1 := by decide
              simp only [List.getD_cons_zero, List.getD_cons_succ]
              go_wp2_with (refine wpList_put rfl rfl rfl rfl hZ rfl (by kernel_rfl) (by simp [Value.oneCell']) ?_; intro wB hB hXB; refine Hid.out ?_)
              refine Lib.hid ?_
              have hXC : Chg [] wr wB := hXz.then hXB (fun x hx hl => by simp at hx; omega)
              have c0 := hB.cell 0; have c1 := hB.cell 1
              try dsimp only at c0 c1
              go_wp2_with fail
              go_roundg (gk - 1)
              case rel => exact ⟨1, by omega, by go_num, by rfl, C.step hXC, hXr.trans hXC⟩
              case measure => omega
            · have c0 := (C.get 0 rfl).cell 2; have c1 := (C.get 0 rfl).cell 3
              try dsimp only at c0 c1
              have hZ := At.new wr #[.bool false, .int .i64 0] 46
              have hXz := (Chg.refl [] wr).alloc (.cells #[.bool false, .int .i64 0] 46)
              have hor : bits .or .i64 1 2 = 3 := by decide
              simp only [List.getD_cons_zero, List.getD_cons_succ]
              go_wp2_with (refine wpList_put rfl rfl rfl rfl hZ rfl (by kernel_rfl) (by simp [Value.oneCell']) ?_; intro wB hB hXB; refine Hid.out ?_)
              refine Lib.hid ?_
              have hXC : Chg [] wr wB := hXz.then hXB (fun x hx hl => by simp at hx; omega)
              have c0 := hB.cell 0; have c1 := hB.cell 1
              try dsimp only at c0 c1
              go_wp2_with fail
              go_roundg (gk - 1)
              case rel => exact ⟨2, by omega, by go_num, by rfl, C.step hXC, hXr.trans hXC⟩
              case measure => omega
            · have c0 := (C.get 0 rfl).cell 4; have c1 := (C.get 0 rfl).cell 5
              try dsimp only at c0 c1
              have hZ := At.new wr #[.bool false, .int .i64 0] 46
              have hXz := (Chg.refl [] wr).alloc (.cells #[.bool false, .int .i64 0] 46)
              simp only [List.getD_cons_zero, List.getD_cons_succ]
              go_wp2_with (refine wpList_put rfl rfl rfl rfl hZ rfl (by kernel_rfl) (by simp [Value.oneCell']) ?_; intro wB hB hXB; refine Hid.out ?_)
              refine Lib.hid ?_
              have hXC : Chg [] wr wB := hXz.then hXB (fun x hx hl => by simp at hx; omega)
              have c0 := hB.cell 0; have c1 := hB.cell 1
              try dsimp only at c0 c1
              go_wp2_with fail
              go_roundg (gk - 1)
              case rel => exact ⟨3, by omega, by go_num, by rfl, C.step hXC, hXr.trans hXC⟩
              case measure => omega
            · have c0 := (C.get 0 rfl).cell 6; have c1 := (C.get 0 rfl).cell 7
              try dsimp only at c0 c1
              have hZ := At.new wr #[.bool false, .int .i64 0] 46
              have hXz := (Chg.refl [] wr).alloc (.cells #[.bool false, .int .i64 0] 46)
              simp only [List.getD_cons_zero, List.getD_cons_succ]
              go_wp2_with (refine wpList_put rfl rfl rfl rfl hZ rfl (by kernel_rfl) (by simp [Value.oneCell']) ?_; intro wB hB hXB; refine Hid.out ?_)
              refine Lib.hid ?_
              have hXC : Chg [] wr wB := hXz.then hXB (fun x hx hl => by simp at hx; omega)
              have c0 := hB.cell 0; have c1 := hB.cell 1
              try dsimp only at c0 c1
              go_wp2_with fail
              go_roundg (gk - 1)
              case rel => exact ⟨4, by omega, by go_num, by rfl, C.step hXC, hXr.trans hXC⟩
              case measure => omega
            · have c0 := (C.get 0 rfl).cell 8; have c1 := (C.get 0 rfl).cell 9
              try dsimp only at c0 c1
              have hZ := At.new wr #[.bool false, .int .i64 0] 46
              have hXz := (Chg.refl [] wr).alloc (.cells #[.bool false, .int .i64 0] 46)
              simp only [List.getD_cons_zero, List.getD_cons_succ]
              go_wp2_with (refine wpList_put rfl rfl rfl rfl hZ rfl (by kernel_rfl) (by simp [Value.oneCell']) ?_; intro wB hB hXB; refine Hid.out ?_)
              refine Lib.hid ?_
              have hXC : Chg [] wr wB := hXz.then hXB (fun x hx hl => by simp at hx; omega)
              have c0 := hB.cell 0; have c1 := hB.cell 1
              try dsimp only at c0 c1
              go_wp2_with fail
              go_roundg (gk - 1)
              case rel => exact ⟨5, by omega, by go_num, by rfl, C.step hXC, hXr.trans hXC⟩
              case measure => omega
          · obtain rfl : gk = 0 := by omega
            obtain rfl : k = 5 := by omega
            simp only [List.getD_cons_zero, List.getD_cons_succ]
            have hy := C.get 1 rfl
            have hz := C.get 2 rfl
            dsimp only at hy hz
            go_upto_region 9 with fail
            go_wp2_with (first | (refine wpList_get rfl rfl rfl hy (by kernel_rfl) ?_) | (refine wpList_put rfl rfl rfl rfl hz rfl (by kernel_rfl) (by simp [hone, one_int]) ?_; intro w8 hz8 hX8; refine Hid.out ?_))
            refine Lib.hid ?_
            go_wp2_with (with_reducible refine hold_post ?_)
            refine Lib.hid ?_
            exact bodyPost_ret (res_ct rfl hz8 (by kernel_rfl) rfl) rfl ⟨va, by rw [HT.out, HF.out]; rfl, fun S wq hS hq => by rw [HT.out]; exact hD.out (z :: S) wq (by intro b hb; rcases List.mem_cons.1 hb with rfl | hb; exact hz1; have := hS b hb; omega) (((hXr.mono (by simp)).trans (hX8.mono (by simp))).trans (hq.mono (by intro b hb _; simp [hb]))), C.x.then hX8 (fun x hx hl => by simp at hx; omega)⟩
      | true =>
        rw [hb2] at ha2
        simp only [if_true, Bool.false_eq_true, if_false] at ha2
        have HF : Hid (faultN er port = 7) := Lib.hid (by unfold faultN; rw [hb1, hb2]; simp [he2])
        clear hb1 hb2
        go_wp2_with fail
        refine (HSu.out _).mono ?_; rintro e w4 ⟨rfl, hX⟩
        replace C := C.step (j := 0) hX
        replace hXr := hXr.trans hX
        clear hX
        go_wp2_with fail
        refine (HNu.out _).mono ?_; rintro e w5 ⟨rfl, hX⟩
        replace C := C.step (j := 0) hX
        replace hXr := hXr.trans hX
        clear hX
        have CA := C.push #[.bool true, .int .i64 1, .bool true, .int .i64 2, .bool true, .int .i64 4, .bool false, .int .i64 8, .bool false, .int .i64 16] 46
        have hXa := hXr.alloc (.cells #[.bool true, .int .i64 1, .bool true, .int .i64 2, .bool true, .int .i64 4, .bool false, .int .i64 8, .bool false, .int .i64 16] 46)
        go_wp2_with fail
        generalize w5.heap.size = bb at *
        generalize w5.alloc (.cells #[.bool true, .int .i64 1, .bool true, .int .i64 2, .bool true, .int .i64 4, .bool false, .int .i64 8, .bool false, .int .i64 16] 46) = w6 at *
        clear C hXr
        go_loopg [8, 35] 5 (fun gk aa ii wr => ∃ k : Nat, k + gk = 5 ∧ ii = .int .i64 k ∧ aa = .int .i64 (([0, 1, 3, 7, 7, 7] : List Int).getD k 0) ∧ CL W [(bb, #[.bool true, .int .i64 1, .bool true, .int .i64 2, .bool true, .int .i64 4, .bool false, .int .i64 8, .bool false, .int .i64 16]), (y, #[va, .int .i64 rn, .int .i64 rd, .int .i64 rg, .int .i64 re, .int .i64 rs, .int .i64 ra, .int .i64 rl, .int .i64 rf]), (z, #[.slice none 0 0, .int .i64 0, .int .i64 0, .int .i64 0, .int .i64 0, .int .i64 0, .int .i64 0, .int .i64 0, .int .i64 0])] 0 wr ∧ Chg [] w2 wr)
        case atStart => exact ⟨0, by omega, rfl, rfl, CA, hXa⟩
        case round =>
          clear CA hXa
          obtain ⟨k, hk, rfl, rfl, C, hXr⟩ := hrel
          by_cases hlt : k < 5
          · have hcs : k = 0 ∨ k = 1 ∨ k = 2 ∨ k = 3 ∨ k = 4 := by omega
            rcases hcs with rfl | rfl | rfl | rfl | rfl
            · have c0 := (C.get 0 rfl).cell 0; have c1 := (C.get 0 rfl).cell 1
              try dsimp only at c0 c1
              have hZ := At.new wr #[.bool false, .int .i64 0] 46
              have hXz := (Chg.refl [] wr).alloc (.cells #[.bool false, .int .i64 0] 46)
              have hor : bits .or .i64 0 1 = 1 := by decide
              simp only [List.getD_cons_zero, List.getD_cons_succ]
              go_wp2_with (refine wpList_put rfl rfl rfl rfl hZ rfl (by kernel_rfl) (by simp [Value.oneCell']) ?_; intro wB hB hXB; refine Hid.out ?_)
              refine Lib.hid ?_
              have hXC : Chg [] wr wB := hXz.then hXB (fun x hx hl => by simp at hx; omega)
              have c0 := hB.cell 0; have c1 := hB.cell 1
              try dsimp only at c0 c1
              go_wp2_with fail
              go_roundg (gk - 1)
              case rel => exact ⟨1, by omega, by go_num, by rfl, C.step hXC, hXr.trans hXC⟩
              case measure => omega
            · have c0 := (C.get 0 rfl).cell 2; have c1 := (C.get 0 rfl).cell 3
              try dsimp only at c0 c1
              have hZ := At.new wr #[.bool false, .int .i64 0] 46
              have hXz := (Chg.refl [] wr).alloc (.cells #[.bool false, .int .i64 0] 46)
              have hor : bits .or .i64 1 2 = 3 := by decide
              simp only [List.getD_cons_zero, List.getD_cons_succ]
              go_wp2_with (refine wpList_put rfl rfl rfl rfl hZ rfl (by kernel_rfl) (by simp [Value.oneCell']) ?_; intro wB hB hXB; refine Hid.out ?_)
              refine Lib.hid ?_
              have hXC : Chg [] wr wB := hXz.then hXB (fun x hx hl => by simp at hx; omega)
              have c0 := hB.cell 0; have c1 := hB.cell 1
              try dsimp only at c0 c1
              go_wp2_with fail
              go_roundg (gk - 1)
              case rel => exact ⟨2, by omega, by go_num, by rfl, C.step hXC, hXr.trans hXC⟩
              case measure => omega
            · have c0 := (C.get 0 rfl).cell 4; have c1 := (C.get 0 rfl).cell 5
              try dsimp only at c0 c1
              have hZ := At.new wr #[.bool false, .int .i64 0] 46
              have hXz := (Chg.refl [] wr).alloc (.cells #[.bool false, .int .i64 0] 46)
              have hor : bits .or .i64 3 4 = 7 := by decide
              simp only [List.getD_cons_zero, List.getD_cons_succ]
              go_wp2_with (refine wpList_put rfl rfl rfl rfl hZ rfl (by kernel_rfl) (by simp [Value.oneCell']) ?_; intro wB hB hXB; refine Hid.out ?_)
              refine Lib.hid ?_
              have hXC : Chg [] wr wB := hXz.then hXB (fun x hx hl => by simp at hx; omega)
              have c0 := hB.cell 0; have c1 := hB.cell 1
              try dsimp only at c0 c1
              go_wp2_with fail
              go_roundg (gk - 1)
              case rel => exact ⟨3, by omega, by go_num, by rfl, C.step hXC, hXr.trans hXC⟩
              case measure => omega
            · have c0 := (C.get 0 rfl).cell 6; have c1 := (C.get 0 rfl).cell 7
              try dsimp only at c0 c1
              have hZ := At.new wr #[.bool false, .int .i64 0] 46
              have hXz := (Chg.refl [] wr).alloc (.cells #[.bool false, .int .i64 0] 46)
              simp only [List.getD_cons_zero, List.getD_cons_succ]
              go_wp2_with (refine wpList_put rfl rfl rfl rfl hZ rfl (by kernel_rfl) (by simp [Value.oneCell']) ?_; intro wB hB hXB; refine Hid.out ?_)
              refine Lib.hid ?_
              have hXC : Chg [] wr wB := hXz.then hXB (fun x hx hl => by simp at hx; omega)
              have c0 := hB.cell 0; have c1 := hB.cell 1
              try dsimp only at c0 c1
              go_wp2_with fail
              go_roundg (gk - 1)
              case rel => exact ⟨4, by omega, by go_num, by rfl, C.step hXC, hXr.trans hXC⟩
              case measure => omega
            · have c0 := (C.get 0 rfl).cell 8; have c1 := (C.get 0 rfl).cell 9
              try dsimp only at c0 c1
              have hZ := At.new wr #[.bool false, .int .i64 0] 46
              have hXz := (Chg.refl [] wr).alloc (.cells #[.bool false, .int .i64 0] 46)
              simp only [List.getD_cons_zero, List.getD_cons_succ]
              go_wp2_with (refine wpList_put rfl rfl rfl rfl hZ rfl (by kernel_rfl) (by simp [Value.oneCell']) ?_; intro wB hB hXB; refine Hid.out ?_)
              refine Lib.hid ?_
              have hXC : Chg [] wr wB := hXz.then hXB (fun x hx hl => by simp at hx; omega)
              have c0 := hB.cell 0; have c1 := hB.cell 1
              try dsimp only at c0 c1
              go_wp2_with fail
              go_roundg (gk - 1)
              case rel => exact ⟨5, by omega, by go_num, by rfl, C.step hXC, hXr.trans hXC⟩
              case measure => omega
          · obtain rfl : gk = 0 := by omega
            obtain rfl : k = 5 := by omega
            simp only [List.getD_cons_zero, List.getD_cons_succ]
            have hy := C.get 1 rfl
            have hz := C.get 2 rfl
            dsimp only at hy hz
            go_upto_region 9 with fail
            go_wp2_with (first | (refine wpList_get rfl rfl rfl hy (by kernel_rfl) ?_) | (refine wpList_put rfl rfl rfl rfl hz rfl (by kernel_rfl) (by simp [hone, one_int]) ?_; intro w8 hz8 hX8; refine Hid.out ?_))
            refine Lib.hid ?_
            go_wp2_with (with_reducible refine hold_post ?_)
            refine Lib.hid ?_
            exact bodyPost_ret (res_ct rfl hz8 (by kernel_rfl) rfl) rfl ⟨va, by rw [HT.out, HF.out]; rfl, fun S wq hS hq => by rw [HT.out]; exact hD.out (z :: S) wq (by intro b hb; rcases List.mem_cons.1 hb with rfl | hb; exact hz1; have := hS b hb; omega) (((hXr.mono (by simp)).trans (hX8.mono (by simp))).trans (hq.mono (by intro b hb _; simp [hb]))), C.x.then hX8 (fun x hx hl => by simp at hx; omega)⟩
set_option maxRecDepth 100000 in
set_option maxHeartbeats 4000000 in
theorem rtest_any (W : World) (s : ByteArray) (port : Int) (hs0 : s.size ≤ 1000000) : Calls Tryz.prog 9 #[.string s, .int .i64 port] W (RdPost W (testV s port)) := by
  have HT := Lib.hid (show testV s port = ((readV s).1, faultN (readV s).2 port) from rfl)
  have HR := fun w => qread_any w s hs0
  have HSu := Lib.hid bsums_any
  have HNu := Lib.hid bnums_any
  have C := (CL.new W 0).push #[.slice none 0 0, .int .i64 0, .int .i64 0, .int .i64 0, .int .i64 0, .int .i64 0, .int .i64 0, .int .i64 0, .int .i64 0] 25
  have ha1 := and_1 port
  have ha2 := and_2 port
  generalize testV s port = tv at *
  generalize readV s = rv at *
  obtain ⟨⟨ph, rn, rd, rg, re, rs, ra, rl, rf⟩, er⟩ := rv
  unfold RdPost RuV.cells at *
  dsimp only at *
  replace HR := Lib.hid HR
  go_enter Tryz.func9, Tryz.ntmps9
  go_upto_region 1 with fail
  generalize hz : W.heap.size = z at *
  have hzW : W.heap.size ≤ z := by omega
  generalize W.alloc (.cells #[.slice none 0 0, .int .i64 0, .int .i64 0, .int .i64 0, .int .i64 0, .int .i64 0, .int .i64 0, .int .i64 0, .int .i64 0] 25) = w1 at *
  clear hz
  have hz1 : z < w1.heap.size := (C.get 0 rfl).lt
  have HR1 := HR.out w1
  go_wp2_with fail
  refine HR1.mono ?_; rintro e w2 ⟨va, rfl, hD, hX2⟩
  clear HR1
  replace C := C.step (j := 0) hX2
  have hone : va.oneCell' = true := by obtain ⟨_, ad, cap, rfl⟩ := (hD [] w2 (by simp) (Chg.refl _ _)).len; rfl
  replace hD := Lib.hid hD
  have hN := At.new w2 #[.slice none 0 0, .int .i64 0, .int .i64 0, .int .i64 0, .int .i64 0, .int .i64 0, .int .i64 0, .int .i64 0, .int .i64 0] 25
  have CN := C.push #[.slice none 0 0, .int .i64 0, .int .i64 0, .int .i64 0, .int .i64 0, .int .i64 0, .int .i64 0, .int .i64 0, .int .i64 0] 25
  have hXn := (Chg.refl [] w2).alloc (.cells #[.slice none 0 0, .int .i64 0, .int .i64 0, .int .i64 0, .int .i64 0, .int .i64 0, .int .i64 0, .int .i64 0, .int .i64 0] 25)
  go_wp2_with (refine wpList_put rfl rfl rfl rfl hN rfl (by kernel_rfl) (by simp [hone, one_int]) ?_; intro w3 hY3 hX3; refine Hid.out ?_)
  refine Lib.hid ?_
  have hXr : Chg [] w2 w3 := hXn.then hX3 (fun x hx hl => by simp at hx; omega)
  generalize hyy : w2.heap.size = y at *
  have hzy : z < y := by rw [← hyy]; exact (C.get 0 rfl).lt
  have hWy : W.heap.size ≤ y := by omega
  have C3 : CL W [(y, #[va, .int .i64 rn, .int .i64 rd, .int .i64 rg, .int .i64 re, .int .i64 rs, .int .i64 ra, .int .i64 rl, .int .i64 rf]), (z, #[.slice none 0 0, .int .i64 0, .int .i64 0, .int .i64 0, .int .i64 0, .int .i64 0, .int .i64 0, .int .i64 0, .int .i64 0])] 0 w3 := CN.upd hX3 hY3 hWy _ (by intro q hq; simp only [List.mem_cons, List.not_mem_nil, or_false] at hq; rcases hq with rfl | rfl; exact .inl rfl; exact .inr ⟨by simp, by simp; omega⟩)
  clear C CN hN hX3 hY3 hyy hXn
  have C := C3
  clear C3
  by_cases he : er = 0
  · subst he
    cases hb1 : bitN port 1 with
    | false =>
      rw [hb1] at ha1
      simp only [if_true, Bool.false_eq_true, if_false] at ha1
      cases hb2 : bitN port 2 with
      | false =>
        rw [hb2] at ha2
        simp only [if_true, Bool.false_eq_true, if_false] at ha2
        have HF : Hid (faultN 0 port = 0) := Lib.hid (by unfold faultN; rw [hb1, hb2]; simp)
        clear hb1 hb2
        have hy := C.get 0 rfl
        have hz := C.get 1 rfl
        dsimp only at hy hz
        go_upto_region 9 with fail
        go_wp2_with (first | (refine wpList_get rfl rfl rfl hy (by kernel_rfl) ?_) | (refine wpList_put rfl rfl rfl rfl hz rfl (by kernel_rfl) (by simp [hone, one_int]) ?_; intro w8 hz8 hX8; refine Hid.out ?_))
        refine Lib.hid ?_
        go_wp2_with (with_reducible refine hold_post ?_)
        refine Lib.hid ?_
        exact bodyPost_ret (res_ct rfl hz8 (by kernel_rfl) rfl) rfl ⟨va, by rw [HT.out, HF.out]; rfl, fun S wq hS hq => by rw [HT.out]; exact hD.out (z :: S) wq (by intro b hb; rcases List.mem_cons.1 hb with rfl | hb; exact hz1; have := hS b hb; omega) (((hXr.mono (by simp)).trans (hX8.mono (by simp))).trans (hq.mono (by intro b hb _; simp [hb]))), C.x.then hX8 (fun x hx hl => by simp at hx; omega)⟩
      | true =>
        rw [hb2] at ha2
        simp only [if_true, Bool.false_eq_true, if_false] at ha2
        have HF : Hid (faultN 0 port = 4) := Lib.hid (by unfold faultN; rw [hb1, hb2]; simp)
        clear hb1 hb2
        have hy := C.get 0 rfl
        have hz := C.get 1 rfl
        dsimp only at hy hz
        go_upto_region 9 with fail
        go_wp2_with (first | (refine wpList_get rfl rfl rfl hy (by kernel_rfl) ?_) | (refine wpList_put rfl rfl rfl rfl hz rfl (by kernel_rfl) (by simp [hone, one_int]) ?_; intro w8 hz8 hX8; refine Hid.out ?_))
        refine Lib.hid ?_
        go_wp2_with (with_reducible refine hold_post ?_)
        refine Lib.hid ?_
        exact bodyPost_ret (res_ct rfl hz8 (by kernel_rfl) rfl) rfl ⟨va, by rw [HT.out, HF.out]; rfl, fun S wq hS hq => by rw [HT.out]; exact hD.out (z :: S) wq (by intro b hb; rcases List.mem_cons.1 hb with rfl | hb; exact hz1; have := hS b hb; omega) (((hXr.mono (by simp)).trans (hX8.mono (by simp))).trans (hq.mono (by intro b hb _; simp [hb]))), C.x.then hX8 (fun x hx hl => by simp at hx; omega)⟩
    | true =>
      rw [hb1] at ha1
      simp only [if_true, Bool.false_eq_true, if_false] at ha1
      cases hb2 : bitN port 2 with
      | false =>
        rw [hb2] at ha2
        simp only [if_true, Bool.false_eq_true, if_false] at ha2
        have HF : Hid (faultN 0 port = 2) := Lib.hid (by unfold faultN; rw [hb1, hb2]; simp)
        clear hb1 hb2
        have hy := C.get 0 rfl
        have hz := C.get 1 rfl
        dsimp only at hy hz
        go_upto_region 9 with fail
        go_wp2_with (first | (refine wpList_get rfl rfl rfl hy (by kernel_rfl) ?_) | (refine wpList_put rfl rfl rfl rfl hz rfl (by kernel_rfl) (by simp [hone, one_int]) ?_; intro w8 hz8 hX8; refine Hid.out ?_))
        refine Lib.hid ?_
        go_wp2_with (with_reducible refine hold_post ?_)
        refine Lib.hid ?_
        exact bodyPost_ret (res_ct rfl hz8 (by kernel_rfl) rfl) rfl ⟨va, by rw [HT.out, HF.out]; rfl, fun S wq hS hq => by rw [HT.out]; exact hD.out (z :: S) wq (by intro b hb; rcases List.mem_cons.1 hb with rfl | hb; exact hz1; have := hS b hb; omega) (((hXr.mono (by simp)).trans (hX8.mono (by simp))).trans (hq.mono (by intro b hb _; simp [hb]))), C.x.then hX8 (fun x hx hl => by simp at hx; omega)⟩
      | true =>
        rw [hb2] at ha2
        simp only [if_true, Bool.false_eq_true, if_false] at ha2
        have HF : Hid (faultN 0 port = 6) := Lib.hid (by unfold faultN; rw [hb1, hb2]; simp)
        clear hb1 hb2
        have hy := C.get 0 rfl
        have hz := C.get 1 rfl
        dsimp only at hy hz
        go_upto_region 9 with fail
        go_wp2_with (first | (refine wpList_get rfl rfl rfl hy (by kernel_rfl) ?_) | (refine wpList_put rfl rfl rfl rfl hz rfl (by kernel_rfl) (by simp [hone, one_int]) ?_; intro w8 hz8 hX8; refine Hid.out ?_))
        refine Lib.hid ?_
        go_wp2_with (with_reducible refine hold_post ?_)
        refine Lib.hid ?_
        exact bodyPost_ret (res_ct rfl hz8 (by kernel_rfl) rfl) rfl ⟨va, by rw [HT.out, HF.out]; rfl, fun S wq hS hq => by rw [HT.out]; exact hD.out (z :: S) wq (by intro b hb; rcases List.mem_cons.1 hb with rfl | hb; exact hz1; have := hS b hb; omega) (((hXr.mono (by simp)).trans (hX8.mono (by simp))).trans (hq.mono (by intro b hb _; simp [hb]))), C.x.then hX8 (fun x hx hl => by simp at hx; omega)⟩
  · have he2 : ¬(er = 0) := he
    have he3 : (er != 0) = true := by simpa using he
    cases hb1 : bitN port 1 with
    | false =>
      rw [hb1] at ha1
      simp only [if_true, Bool.false_eq_true, if_false] at ha1
      cases hb2 : bitN port 2 with
      | false =>
        rw [hb2] at ha2
        simp only [if_true, Bool.false_eq_true, if_false] at ha2
        have HF : Hid (faultN er port = 1) := Lib.hid (by unfold faultN; rw [hb1, hb2]; simp [he2])
        clear hb1 hb2
        have hy := C.get 0 rfl
        have hz := C.get 1 rfl
        dsimp only at hy hz
        go_upto_region 9 with fail
        go_wp2_with (first | (refine wpList_get rfl rfl rfl hy (by kernel_rfl) ?_) | (refine wpList_put rfl rfl rfl rfl hz rfl (by kernel_rfl) (by simp [hone, one_int]) ?_; intro w8 hz8 hX8; refine Hid.out ?_))
        refine Lib.hid ?_
        go_wp2_with (with_reducible refine hold_post ?_)
        refine Lib.hid ?_
        exact bodyPost_ret (res_ct rfl hz8 (by kernel_rfl) rfl) rfl ⟨va, by rw [HT.out, HF.out]; rfl, fun S wq hS hq => by rw [HT.out]; exact hD.out (z :: S) wq (by intro b hb; rcases List.mem_cons.1 hb with rfl | hb; exact hz1; have := hS b hb; omega) (((hXr.mono (by simp)).trans (hX8.mono (by simp))).trans (hq.mono (by intro b hb _; simp [hb]))), C.x.then hX8 (fun x hx hl => by simp at hx; omega)⟩
      | true =>
        rw [hb2] at ha2
        simp only [if_true, Bool.false_eq_true, if_false] at ha2
        have HF : Hid (faultN er port = 5) := Lib.hid (by unfold faultN; rw [hb1, hb2]; simp [he2])
        clear hb1 hb2
        have hy := C.get 0 rfl
        have hz := C.get 1 rfl
        dsimp only at hy hz
        go_upto_region 9 with fail
        go_wp2_with (first | (refine wpList_get rfl rfl rfl hy (by kernel_rfl) ?_) | (refine wpList_put rfl rfl rfl rfl hz rfl (by kernel_rfl) (by simp [hone, one_int]) ?_; intro w8 hz8 hX8; refine Hid.out ?_))
        refine Lib.hid ?_
        go_wp2_with (with_reducible refine hold_post ?_)
        refine Lib.hid ?_
        exact bodyPost_ret (res_ct rfl hz8 (by kernel_rfl) rfl) rfl ⟨va, by rw [HT.out, HF.out]; rfl, fun S wq hS hq => by rw [HT.out]; exact hD.out (z :: S) wq (by intro b hb; rcases List.mem_cons.1 hb with rfl | hb; exact hz1; have := hS b hb; omega) (((hXr.mono (by simp)).trans (hX8.mono (by simp))).trans (hq.mono (by intro b hb _; simp [hb]))), C.x.then hX8 (fun x hx hl => by simp at hx; omega)⟩
    | true =>
      rw [hb1] at ha1
      simp only [if_true, Bool.false_eq_true, if_false] at ha1
      cases hb2 : bitN port 2 with
      | false =>
        rw [hb2] at ha2
        simp only [if_true, Bool.false_eq_true, if_false] at ha2
        have HF : Hid (faultN er port = 3) := Lib.hid (by unfold faultN; rw [hb1, hb2]; simp [he2])
        clear hb1 hb2
        have hy := C.get 0 rfl
        have hz := C.get 1 rfl
        dsimp only at hy hz
        go_upto_region 9 with fail
        go_wp2_with (first | (refine wpList_get rfl rfl rfl hy (by kernel_rfl) ?_) | (refine wpList_put rfl rfl rfl rfl hz rfl (by kernel_rfl) (by simp [hone, one_int]) ?_; intro w8 hz8 hX8; refine Hid.out ?_))
        refine Lib.hid ?_
        go_wp2_with (with_reducible refine hold_post ?_)
        refine Lib.hid ?_
        exact bodyPost_ret (res_ct rfl hz8 (by kernel_rfl) rfl) rfl ⟨va, by rw [HT.out, HF.out]; rfl, fun S wq hS hq => by rw [HT.out]; exact hD.out (z :: S) wq (by intro b hb; rcases List.mem_cons.1 hb with rfl | hb; exact hz1; have := hS b hb; omega) (((hXr.mono (by simp)).trans (hX8.mono (by simp))).trans (hq.mono (by intro b hb _; simp [hb]))), C.x.then hX8 (fun x hx hl => by simp at hx; omega)⟩
      | true =>
        rw [hb2] at ha2
        simp only [if_true, Bool.false_eq_true, if_false] at ha2
        have HF : Hid (faultN er port = 7) := Lib.hid (by unfold faultN; rw [hb1, hb2]; simp [he2])
        clear hb1 hb2
        have hy := C.get 0 rfl
        have hz := C.get 1 rfl
        dsimp only at hy hz
        go_upto_region 9 with fail
        go_wp2_with (first | (refine wpList_get rfl rfl rfl hy (by kernel_rfl) ?_) | (refine wpList_put rfl rfl rfl rfl hz rfl (by kernel_rfl) (by simp [hone, one_int]) ?_; intro w8 hz8 hX8; refine Hid.out ?_))
        refine Lib.hid ?_
        go_wp2_with (with_reducible refine hold_post ?_)
        refine Lib.hid ?_
        exact bodyPost_ret (res_ct rfl hz8 (by kernel_rfl) rfl) rfl ⟨va, by rw [HT.out, HF.out]; rfl, fun S wq hS hq => by rw [HT.out]; exact hD.out (z :: S) wq (by intro b hb; rcases List.mem_cons.1 hb with rfl | hb; exact hz1; have := hS b hb; omega) (((hXr.mono (by simp)).trans (hX8.mono (by simp))).trans (hq.mono (by intro b hb _; simp [hb]))), C.x.then hX8 (fun x hx hl => by simp at hx; omega)⟩
end Go.Proofs.YtpfglmlpodjneaaGreat
