/- Walk of the law FrameNoise: behind noise that has no byte a5 frames are all told, and the noise is dropped, byte by byte. -/
import Derived.Test.YtgdahhpenlbhoaaFA05
namespace Go.Proofs.Ytgdahhpenlbhoaa
open Go.RowKit

theorem scan_noisy (a : ByteArray) (hk : ∀ k, k < a.size → by_ a k ≠ 165) (f : FV) (hr : f.right = true) : scan (ByteArray.empty ++ (a ++ f.print)) = ([f], ByteArray.empty, a.size) := by
  rw [empty_app, scan_noise a.size a f.print rfl hk]
  have := scan_print f hr ByteArray.empty
  rw [app_empty, scan_none (s := ByteArray.empty) rfl] at this
  rw [this]
  simp
theorem cAdd_mul (k n : Nat) (h : (k + 1) * n ≤ 1000000) : cAdd ((k * n : Nat) : Int) 1000000 (n : Int) = (((k + 1) * n : Nat) : Int) := by
  rw [Nat.succ_mul] at *
  unfold cAdd
  omega

set_option maxRecDepth 100000 in
set_option maxHeartbeats 4000000 in
theorem FrameNoise_walk (W : World) (a : ByteArray) (ha : a.size ≤ maxLen) (v : Value) (l : List shFV.T) (h : (Sh.slice shFV).rep W l [v]) :
    Calls Try.prog 7 #[.string a, v] W fun e w' => e = .returned (.bool true) ∧ Below W.heap.size W w' := by
  obtain ⟨M, hM⟩ := frames_of h
  clear h
  obtain ⟨ad, cap, rfl, hlen, hcell⟩ := hM.out
  unfold maxLen at hlen ha
  clear hM
  go_enter Try.func7, Try.ntmps7
  go_wp2_with fail
  refine (awake05 _).mono ?_; rintro e w1 ⟨rfl, hX⟩
  by_cases hb1 : 300 < a.size
  · go_wp2_with fail
    refine (awake05 _).mono ?_; rintro e w2 ⟨rfl, hX2⟩
    go_wp2
    go_returns
    exact ⟨rfl, Chg.to_below (hX.trans hX2)⟩
  by_cases hb2 : 20 < M.length
  · go_wp2_with fail
    refine (awake05 _).mono ?_; rintro e w2 ⟨rfl, hX2⟩
    go_wp2
    go_returns
    exact ⟨rfl, Chg.to_below (hX.trans hX2)⟩
  go_wp2_with fail
  have hB := Chg.to_below hX
  clear hX
  go_loopg [25] a.size (fun g i wr => ∃ k : Nat, k + g = a.size ∧ i = .int .i64 k ∧ wr = w1 ∧ Hid (∀ j, j < k → by_ a j ≠ 165))
  case atStart => exact ⟨0, by omega, rfl, rfl, Lib.hid fun j hj => absurd hj (by omega)⟩
  case round =>
    obtain ⟨k, hk, rfl, rfl, Hn⟩ := hrel
    by_cases hlt : k < a.size
    · have hg := by_get a k hlt
      by_cases h5 : by_ a k = 165
      · go_wp2
        go_returns
        exact ⟨rfl, hB⟩
      · have Hk := Lib.hid hk
        clear hk
        go_wp2_with fail
        go_roundg (gk - 1)
        case rel =>
          have hk := Hk.out
          exact ⟨k + 1, by omega, by go_num, rfl, Lib.hid fun j hj => if h : j < k then Hn.out j h else by rw [show j = k by omega]; exact h5⟩
        case measure => have hk := Hk.out; omega
    · obtain rfl : gk = 0 := by omega
      obtain rfl : k = a.size := by omega
      go_wp2_with fail
      refine (fnew_any _).mono ?_; rintro e w2 ⟨x, c, rfl, hx, hc, hS, hX1⟩
      have hBx := Chg.below hB hX1 hB.size (by simp)
      have hxW : W.heap.size ≤ x := by have := hB.size; omega
      have hcW : W.heap.size ≤ c := by have := hB.size; omega
      clear hX1 hx hc hB hk hlt
      go_wp2_with fail
      rw [show (0 : Int) = ((0 * a.size : Nat) : Int) by simp] at hS
      go_loopg [36] M.length (fun g i wr => ∃ k : Nat, k + g = M.length ∧ i = .int .i64 k ∧ Below W.heap.size W wr ∧ Strm wr x c ByteArray.empty ((k * a.size : Nat) : Int))
      case atStart => exact ⟨0, by omega, rfl, hBx, hS⟩
      case round =>
        obtain ⟨k, hk, rfl, hBr, hSr⟩ := hrel
        have hkn : (k + 1) * a.size ≤ 21 * 300 := Nat.mul_le_mul (by omega) (by omega)
        by_cases hlt : k < M.length
        · obtain ⟨f, hf⟩ : ∃ f, M[k]? = some f := ⟨_, List.getElem?_eq_getElem hlt⟩
          obtain ⟨b, off, rfl, hb, c0, c1, hp⟩ := hcell k f hf
          unfold maxLen at hp
          replace c0 := (hBr.cell (p := ⟨b, off + k * 2, none⟩) hb).trans c0
          replace c1 := (hBr.cell (p := ⟨b, off + k * 2 + 1, none⟩) hb).trans c1
          have Hk := Lib.hid hk
          have Hkn := Lib.hid hkn
          clear hcell hk hkn hf
          have HL : ∀ w, Calls Try.prog 12 #[.agg #[.int .i64 f.k, .string f.p]] w fun e w' => e = .returned (.agg #[.int .i64 f.k, .string f.p]) ∧ Chg [] w w' := fun w => flike_any w f
          have HU : ∀ w, Calls Try.prog 11 #[.agg #[.int .i64 f.k, .string f.p]] w fun e w' => e = .returned (.bool f.right) ∧ Chg [] w w' := fun w => frright_any w f
          have HP : ∀ w, Calls Try.prog 10 #[.agg #[.int .i64 f.k, .string f.p]] w fun e w' => e = .returned (.string f.print) ∧ Chg [] w w' := fun w => fprint_any w f
          have Hpr := Lib.hid (fun hr : f.right = true => print_size f hr)
          have Hri := Lib.hid (f.right_iff.1)
          have Hsc := Lib.hid (fun hr : f.right = true => scan_noisy a Hn.out f hr)
          go_wp2_with fail
          refine (HL _).mono ?_; rintro e w3 ⟨rfl, hX1⟩
          have hA := hX1.at (At.new wr #[.int .i64 f.k, .string f.p] 23) (by simp)
          have hS3 := (hSr.alloc (.cells #[.int .i64 f.k, .string f.p] 23)).keep hX1 (by simp) (by simp)
          have hB2 := Chg.below (hBr.alloc hBr.size (.cells #[.int .i64 f.k, .string f.p] 23)) hX1 (by simp; have := hBr.size; omega) (by simp)
          have hzx : wr.heap.size ≠ x := by have := hSr.at_.lt; omega
          have hzc : wr.heap.size ≠ c := by have := hSr.ctr.lt; omega
          clear hX1 c0 c1 hBr hSr
          generalize wr.heap.size = z at *
          go_wp2_with fail
          refine (HU _).mono ?_; rintro e w4 ⟨rfl, hX1⟩
          replace hA := hX1.at hA (by simp)
          replace hS3 := hS3.keep hX1 (by simp) (by simp)
          replace hB2 := Chg.below hB2 hX1 hB2.size (by simp)
          clear hX1
          cases hr : f.right
          · go_wp2
            go_returns
            exact ⟨rfl, hB2⟩
          · have c0 := hA.cell 0
            have c1 := hA.cell 1
            go_wp2_with fail
            refine (HP _).mono ?_; rintro e w5 ⟨rfl, hX1⟩
            replace hA := hX1.at hA (by simp)
            replace hS3 := hS3.keep hX1 (by simp) (by simp)
            replace hB2 := Chg.below hB2 hX1 hB2.size (by simp)
            clear hX1 c0 c1
            have hz := Hpr.out hr
            have h64 := (Hri.out hr).2.2
            have hsc := Hsc.out hr
            clear HL HU HP Hpr Hri Hsc
            have hsz : (a ++ f.print).size ≤ 400 := by rw [ByteArray.size_append]; omega
            go_wp2_with fail
            refine (ffeed_any _ x c ByteArray.empty (a ++ f.print) _ hS3 (by omega) (by have := Hkn.out; rw [Nat.succ_mul] at this; omega) (by have : ByteArray.empty.size = 0 := rfl; omega)).mono ?_; rintro e w6 ⟨v1, rfl, hF1, hS1, hX1⟩
            rw [hsc] at hF1 hS1
            rw [cAdd_mul k a.size (by have := Hkn.out; omega)] at hS1
            replace hA := hX1.at hA (by simp; omega)
            replace hB2 := Chg.below hB2 hX1 hB2.size (by simp; omega)
            obtain ⟨g, cap2, rfl, -, -, hcell2⟩ := hF1.out Nat.zero_lt_one
            obtain ⟨d0, d1⟩ := hcell2 0 f rfl
            clear hF1 hS3 hX1 hcell2
            have c0 := hA.cell 0
            have c1 := hA.cell 1
            go_wp2_with fail
            go_quiet (fail)
            clear c0 c1 d0 d1
            go_wp2_with fail
            go_roundg (gk - 1)
            case rel => have hk := Hk.out; exact ⟨k + 1, by omega, by go_num, hB2.drewN _, hS1.keep ((Chg.refl [] _).drewN _) (by simp) (by simp)⟩
            case measure => have hk := Hk.out; omega
        · obtain rfl : gk = 0 := by omega
          obtain rfl : k = M.length := by omega
          have hm : (M.length : Int) * (a.size : Int) = ((M.length * a.size : Nat) : Int) := by simp
          have hmb : M.length * a.size ≤ 6300 := by rw [Nat.succ_mul] at hkn; omega
          have Hm := Lib.hid hm
          have hl1 : (M.length : Int) * (a.size : Int) ≤ 6300 := by omega
          have hl2 : 0 ≤ (M.length : Int) * (a.size : Int) := by omega
          rw [← hm] at hSr
          clear hkn hm hmb
          have hwm : wrap64 ((M.length : Int) * (a.size : Int)) = (M.length : Int) * (a.size : Int) := IntWalk.wrap64_in _ ⟨by omega, by omega⟩
          go_wp2_with (first
            | (go_at_call 20; (with_reducible refine (fleft_any _ x c _ _ hSr).mono ?_); rintro e w' ⟨rfl, rfl⟩)
            | (go_at_call 21; (with_reducible refine (fdropped_any _ x c _ _ hSr).mono ?_); rintro e w' ⟨rfl, rfl⟩))
          go_returns
          exact ⟨rfl, hBr⟩
end Go.Proofs.Ytgdahhpenlbhoaa
