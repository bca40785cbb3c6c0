/- Package latch: Read. -/
import Derived.Test.YtjneidmkllhbjaaLau
import Derived.Test.YtjneidmkllhbjaaCl0
import Derived.Test.YtjneidmkllhbjaaStTl
namespace Go.Proofs.Ytjneidmkllhbjaa
open Go.RowKit

theorem num4_from (s : ByteArray) (k : Nat) (hk : k + 4 ≤ s.size) : num4 (s.extract k s.size) 0 = num4 s k := by
  unfold num4
  rw [by_extract _ _ _ _ (by omega) (by omega), by_extract _ _ _ _ (by omega) (by omega), by_extract _ _ _ _ (by omega) (by omega), by_extract _ _ _ _ (by omega) (by omega)]
  rfl
theorem lget_from (w : World) (s : ByteArray) (k : Nat) (hk : k + 4 ≤ s.size) (hs : s.size ≤ 1000) : Calls Try.prog 26 #[.string (s.extract k s.size)] w fun e w' => e = .returned (.int .i64 (num4 s k)) ∧ Chg [] w w' := by
  have hz : (s.extract k s.size).size = s.size - k := by simp
  have h := lget_any w (s.extract k s.size) (by omega) (by unfold maxLen; omega)
  rwa [num4_from s k hk] at h

/-- What has come up of a region. -/
structure R3 (w : World) (z zb : Nat) (s t0 t4 t12 t16 t20 : ByteArray) (sm : Int) (L : Array Bool) (ac : Act) (wx : World) : Prop where
  ex : ∃ v4 v27 v28 v29 v30 v31 v32 v33 v34 v35 v36 v37 v38 v39 v40 v41 v42 v43 v44 v45 v46 v47 v48 v49 v50 v51 v52 v53 v54 v55 v56 v57, ac = { tmps := #[.string s, undef, .pointer (some ⟨z, 0, none⟩), .bool false, v4, .string s, .int .i64 24, .bool false, .bool false, .string s, .string t0, .int .u32 sm, .int .i64 sm, .string s, .string t16, .int .i64 (num4 s 16), .bool false, .bool false, .bool false, .string s, .int .i64 (num4 s 0), .string s, .string t20, .int .i64 (num4 s 20), .bool false, .bool false, undef, v27, v28, v29, v30, v31, v32, v33, v34, v35, v36, v37, v38, v39, v40, v41, v42, v43, v44, v45, v46, v47, v48, v49, v50, v51, v52, v53, v54, v55, v56, v57, undef, undef, undef, undef, undef], defers := [] } ∧ (L.getD 0 false = true → v27 = .string s) ∧ (L.getD 1 false = true → v28 = .int .i64 (num4 s 0)) ∧ (L.getD 2 false = true → v29 = .string s) ∧ (L.getD 3 false = true → v30 = .string t4) ∧ (L.getD 4 false = true → v31 = .int .i64 (num4 s 4)) ∧ (L.getD 5 false = true → v32 = .string s) ∧ (L.getD 6 false = true → v33 = .int .u8 (by_ s 8)) ∧ (L.getD 7 false = true → v34 = .int .u8 (by_ s 8 % 4)) ∧ (L.getD 8 false = true → v35 = .int .i64 (by_ s 8 % 4)) ∧ (L.getD 9 false = true → v36 = .string s) ∧ (L.getD 10 false = true → v37 = .int .u8 (by_ s 8)) ∧ (L.getD 11 false = true → v38 = .int .u8 (by_ s 8 % 16)) ∧ (L.getD 12 false = true → v39 = .int .u8 (by_ s 8 % 16 / 4)) ∧ (L.getD 13 false = true → v40 = .int .i64 (by_ s 8 % 16 / 4)) ∧ (L.getD 14 false = true → v41 = .string s) ∧ (L.getD 15 false = true → v42 = .int .u8 (by_ s 8)) ∧ (L.getD 16 false = true → v43 = .int .u8 (by_ s 8 / 16)) ∧ (L.getD 17 false = true → v44 = .int .i64 (by_ s 8 / 16)) ∧ (L.getD 18 false = true → v45 = .string s) ∧ (L.getD 19 false = true → v46 = .int .u8 (by_ s 9)) ∧ (L.getD 20 false = true → v47 = .int .i64 (by_ s 9)) ∧ (L.getD 21 false = true → v48 = .string s) ∧ (L.getD 22 false = true → v49 = .int .u8 (by_ s 10)) ∧ (L.getD 23 false = true → v50 = .int .i64 (by_ s 10)) ∧ (L.getD 24 false = true → v51 = .string s) ∧ (L.getD 25 false = true → v52 = .int .u8 (by_ s 11)) ∧ (L.getD 26 false = true → v53 = .int .i64 (by_ s 11)) ∧ (L.getD 27 false = true → v54 = .string s) ∧ (L.getD 28 false = true → v55 = .string t12) ∧ (L.getD 29 false = true → v56 = .int .i64 (num4 s 12)) ∧ (L.getD 30 false = true → v57 = .agg #[.int .i64 (num4 s 0), .int .i64 (num4 s 4), .int .i64 (by_ s 8 % 4), .int .i64 (by_ s 8 / 16), .int .i64 (by_ s 8 % 16 / 4), .int .i64 (by_ s 9), .int .i64 (by_ s 10), .int .i64 (by_ s 11), .int .i64 (num4 s 12)]) ∧ (L.getD 31 false = true → ∃ y, v4 = .pointer (some ⟨y, 0, none⟩) ∧ zb ≤ y ∧ At wx y (if L.getD 32 false = true then #[.int .i64 (num4 s 0), .int .i64 (num4 s 4), .int .i64 (by_ s 8 % 4), .int .i64 (by_ s 8 / 16), .int .i64 (by_ s 8 % 16 / 4), .int .i64 (by_ s 9), .int .i64 (by_ s 10), .int .i64 (by_ s 11), .int .i64 (num4 s 12)] else #[.int .i64 0, .int .i64 0, .int .i64 0, .int .i64 0, .int .i64 0, .int .i64 0, .int .i64 0, .int .i64 0, .int .i64 0])) ∧ (L.getD 32 false = true → L.getD 31 false = true) ∧ CL w [(z, #[.int .i64 0, .int .i64 0, .int .i64 0, .int .i64 0, .int .i64 0, .int .i64 0, .int .i64 0, .int .i64 0, .int .i64 0])] 0 wx ∧ zb ≤ wx.heap.size

set_option maxRecDepth 100000 in
set_option maxHeartbeats 2000000 in
theorem lread_any (w : World) (s : ByteArray) (hs : s.size ≤ 1000000) : Calls Try.prog 9 #[.string s] w fun e w' => e = .returned (.tuple #[.agg (lread s).cells, .bool (isRec s)]) ∧ Chg [] w w' := by
  obtain ⟨LW, hL⟩ : ∃ L, L = lread s := ⟨_, rfl⟩
  obtain ⟨b, hb⟩ : ∃ b, b = isRec s := ⟨_, rfl⟩
  rw [← hL, ← hb]
  have HL := Lib.hid (hL.trans (show lread s = if isRec s then RcV.of s else RcV.zero from rfl))
  have HB := Lib.hid (hb.trans (show isRec s = (decide (s.size = 24) && decide (((sum32 (s.extract 0 16)).toNat : Int) = num4 s 16) && decide (num4 s 0 = num4 s 20) && (RcV.of s).right) from rfl))
  have HLB := Lib.hid (show LW = if b then RcV.of s else RcV.zero by rw [HL.out, hb])
  clear hL hb HL
  have hZ := At.new w #[.int .i64 0, .int .i64 0, .int .i64 0, .int .i64 0, .int .i64 0, .int .i64 0, .int .i64 0, .int .i64 0, .int .i64 0] 23
  have hX0 : Chg [] w (w.alloc (.cells #[.int .i64 0, .int .i64 0, .int .i64 0, .int .i64 0, .int .i64 0, .int .i64 0, .int .i64 0, .int .i64 0, .int .i64 0] 23)) := (Chg.refl _ _).alloc _
  unfold RcV.cells
  go_enter Try.func9, Try.ntmps9
  go_upto_region 1 with fail
  have hzW : w.heap.size ≤ w.heap.size := Nat.le_refl _
  generalize hz : w.heap.size = z at *
  generalize w.alloc (.cells #[.int .i64 0, .int .i64 0, .int .i64 0, .int .i64 0, .int .i64 0, .int .i64 0, .int .i64 0, .int .i64 0, .int .i64 0] 23) = wa at *
  have C : CL w [(z, #[.int .i64 0, .int .i64 0, .int .i64 0, .int .i64 0, .int .i64 0, .int .i64 0, .int .i64 0, .int .i64 0, .int .i64 0])] 0 wa := (⟨fun _ h => absurd h (by simp), hX0⟩ : CL w [] 0 wa).cons hZ
  clear hZ hX0
  by_cases h24 : s.size = 24
  · have HS := fun w => sum32_any w (s.extract 0 16) (by simp; unfold maxLen; omega)
    have G0 := fun w => lget_any w s (by omega) (by unfold maxLen; omega)
    have G4 := fun w => lget_from w s 4 (by omega) (by omega)
    have G12 := fun w => lget_from w s 12 (by omega) (by omega)
    have G16 := fun w => lget_from w s 16 (by omega) (by omega)
    have G20 := fun w => lget_from w s 20 (by omega) (by omega)
    have S16 := fun w => slice_to w s (j := 16) (b := 16) rfl (by omega)
    have F4 := fun w => slice_from w s (i := 4) (a := 4) rfl (by omega)
    have F12 := fun w => slice_from w s (i := 12) (a := 12) rfl (by omega)
    have F16 := fun w => slice_from w s (i := 16) (a := 16) rfl (by omega)
    have F20 := fun w => slice_from w s (i := 20) (a := 20) rfl (by omega)
    have hsm := sum32_bd (s.extract 0 16)
    have hcv : IntKind.i64.wrap ((sum32 (s.extract 0 16)).toNat : Int) = (sum32 (s.extract 0 16)).toNat := by rw [IntKind.wrap_i64]; omega
    generalize ((sum32 (s.extract 0 16)).toNat : Int) = sm at *
    generalize s.extract 0 16 = t0 at *
    generalize s.extract 4 s.size = t4 at *
    generalize s.extract 12 s.size = t12 at *
    generalize s.extract 16 s.size = t16 at *
    generalize s.extract 20 s.size = t20 at *
    have hn : ∀ k, 0 ≤ num4 s k ∧ num4 s k ≤ 4294967295 := num4_bd s
    by_cases hsum : sm = num4 s 16
    · have hne : (sm != num4 s 16) = false := by simpa using hsum
      by_cases h20 : num4 s 0 = num4 s 20
      · have hne2 : (num4 s 0 != num4 s 20) = false := by simpa using h20
        have HH := Lib.hid hsum
        have HH2 := Lib.hid h20
        clear hsum h20
        have Cd := C.drew
        clear C
        refine wp_region_stage (CL w [(z, #[.int .i64 0, .int .i64 0, .int .i64 0, .int .i64 0, .int .i64 0, .int .i64 0, .int .i64 0, .int .i64 0, .int .i64 0])]) [6, 10, 15, 18] [(0, 0, false), (0, 0, false), (0, 0, false), (0, 0, false), (0, 0, false), (0, 0, false), (0, 0, true), (1, 2, false), (0, 1, false), (0, 1, false), (1, 1, true), (2, 2, false), (2, 2, false), (2, 2, false), (2, 2, false), (2, 2, true), (2, 3, false), (2, 3, false), (3, 3, true), (4, 4, false), (4, 4, false)]
          (by kernel_rfl) (by kernel_rfl) (by kernel_rfl) (Cd) ?_
        simp only [List.zip_cons_cons, List.zip_nil_right]
        refine wpStage_yes (by go_simp) ?_
        intro K hK
        apply Exists.intro
        refine ⟨fun kk ww hk1 hk2 hC => ?_, ?_⟩
        · go_simp
          with_reducible exact rfl
        go_simp
        refine hK _ ?_
        clear hK K
        refine wpStage_yes (by go_simp) ?_
        intro K hK
        apply Exists.intro
        refine ⟨fun kk ww hk1 hk2 hC => ?_, ?_⟩
        · go_simp
          with_reducible exact rfl
        go_simp
        refine hK _ ?_
        clear hK K
        refine wpStage_yes (by go_simp) ?_
        intro K hK
        apply Exists.intro
        refine ⟨fun kk ww hk1 hk2 hC => ?_, ?_⟩
        · go_simp
          with_reducible exact rfl
        go_simp
        refine hK _ ?_
        clear hK K
        refine wpStage_yes (by go_simp) ?_
        intro K hK
        apply Exists.intro
        refine ⟨fun kk ww hk1 hk2 hC => ?_, ?_⟩
        · go_simp
          with_reducible exact rfl
        go_simp
        refine hK _ ?_
        clear hK K
        refine wpStage_yes (by go_simp) ?_
        intro K hK
        apply Exists.intro
        refine ⟨fun kk ww hk1 hk2 hC => ?_, ?_⟩
        · go_simp
          with_reducible exact rfl
        go_simp
        refine hK _ ?_
        clear hK K
        refine wpStage_yes (by go_simp) ?_
        intro K hK
        apply Exists.intro
        refine ⟨fun kk ww hk1 hk2 hC => ?_, ?_⟩
        · go_simp
          with_reducible exact rfl
        go_simp
        refine hK _ ?_
        clear hK K
        refine wpStage_yes (by go_simp) ?_
        intro K hK
        apply Exists.intro
        refine ⟨fun kk ww hk1 hk2 hC => ?_, ?_⟩
        · go_simp
          go_at_call 25; refine (HS _).mono ?_; rintro e w' ⟨rfl, hX⟩
          exact ⟨rfl, hC.step hX⟩
        go_simp
        refine hK _ ?_
        clear hK K
        refine wpStage_yes (by go_simp) ?_
        intro K hK
        apply Exists.intro
        refine ⟨fun kk ww hk1 hk2 hC => ?_, ?_⟩
        · go_simp
          with_reducible exact rfl
        go_simp
        refine hK _ ?_
        clear hK K
        refine wpStage_yes (by go_simp) ?_
        intro K hK
        apply Exists.intro
        refine ⟨fun kk ww hk1 hk2 hC => ?_, ?_⟩
        · go_simp
          with_reducible exact rfl
        go_simp
        refine hK _ ?_
        clear hK K
        refine wpStage_yes (by go_simp) ?_
        intro K hK
        apply Exists.intro
        refine ⟨fun kk ww hk1 hk2 hC => ?_, ?_⟩
        · go_simp
          with_reducible exact rfl
        go_simp
        refine hK _ ?_
        clear hK K
        refine wpStage_yes (by go_simp) ?_
        intro K hK
        apply Exists.intro
        refine ⟨fun kk ww hk1 hk2 hC => ?_, ?_⟩
        · go_simp
          go_at_call 26; refine (G16 _).mono ?_; rintro e w' ⟨rfl, hX⟩
          exact ⟨rfl, hC.step hX⟩
        go_simp
        refine hK _ ?_
        clear hK K
        refine wpStage_yes (by go_simp) ?_
        intro K hK
        apply Exists.intro
        refine ⟨fun kk ww hk1 hk2 hC => ?_, ?_⟩
        · go_simp
          with_reducible exact rfl
        go_simp
        refine hK _ ?_
        clear hK K
        refine wpStage_yes (by go_simp) ?_
        intro K hK
        apply Exists.intro
        refine ⟨fun kk ww hk1 hk2 hC => ?_, ?_⟩
        · go_simp
          with_reducible exact rfl
        go_simp
        refine hK _ ?_
        clear hK K
        refine wpStage_yes (by go_simp) ?_
        intro K hK
        apply Exists.intro
        refine ⟨fun kk ww hk1 hk2 hC => ?_, ?_⟩
        · go_simp
          with_reducible exact rfl
        go_simp
        refine hK _ ?_
        clear hK K
        refine wpStage_yes (by go_simp) ?_
        intro K hK
        apply Exists.intro
        refine ⟨fun kk ww hk1 hk2 hC => ?_, ?_⟩
        · go_simp
          with_reducible exact rfl
        go_simp
        refine hK _ ?_
        clear hK K
        refine wpStage_yes (by go_simp) ?_
        intro K hK
        apply Exists.intro
        refine ⟨fun kk ww hk1 hk2 hC => ?_, ?_⟩
        · go_simp
          go_at_call 26; refine (G0 _).mono ?_; rintro e w' ⟨rfl, hX⟩
          exact ⟨rfl, hC.step hX⟩
        go_simp
        refine hK _ ?_
        clear hK K
        refine wpStage_yes (by go_simp) ?_
        intro K hK
        apply Exists.intro
        refine ⟨fun kk ww hk1 hk2 hC => ?_, ?_⟩
        · go_simp
          with_reducible exact rfl
        go_simp
        refine hK _ ?_
        clear hK K
        refine wpStage_yes (by go_simp) ?_
        intro K hK
        apply Exists.intro
        refine ⟨fun kk ww hk1 hk2 hC => ?_, ?_⟩
        · go_simp
          with_reducible exact rfl
        go_simp
        refine hK _ ?_
        clear hK K
        refine wpStage_yes (by go_simp) ?_
        intro K hK
        apply Exists.intro
        refine ⟨fun kk ww hk1 hk2 hC => ?_, ?_⟩
        · go_simp
          go_at_call 26; refine (G20 _).mono ?_; rintro e w' ⟨rfl, hX⟩
          exact ⟨rfl, hC.step hX⟩
        go_simp
        refine hK _ ?_
        clear hK K
        refine wpStage_yes (by go_simp) ?_
        intro K hK
        apply Exists.intro
        refine ⟨fun kk ww hk1 hk2 hC => ?_, ?_⟩
        · go_simp
          with_reducible exact rfl
        go_simp
        refine hK _ ?_
        clear hK K
        refine wpStage_yes (by go_simp) ?_
        intro K hK
        apply Exists.intro
        refine ⟨fun kk ww hk1 hk2 hC => ?_, ?_⟩
        · go_simp
          with_reducible exact rfl
        go_simp
        refine hK _ ?_
        clear hK K
        refine wpStage_nil (fun ww hC => ?_)
        clear Cd
        have C := hC
        clear hC
        go_upto_region 3 with fail
        replace C : CL w [(z, #[.int .i64 0, .int .i64 0, .int .i64 0, .int .i64 0, .int .i64 0, .int .i64 0, .int .i64 0, .int .i64 0, .int .i64 0])] 0 ww := ⟨C.A, C.x⟩
        obtain ⟨zb, hzb⟩ : ∃ q, q = z + 1 := ⟨_, rfl⟩
        have hbW : w.heap.size ≤ zb := by omega
        have hsz : zb ≤ ww.heap.size := by have h1 := (C.get 0 rfl).lt; simp only at h1; omega
        have hbs : ∀ p ∈ ([(z, #[.int .i64 0, .int .i64 0, .int .i64 0, .int .i64 0, .int .i64 0, .int .i64 0, .int .i64 0, .int .i64 0, .int .i64 0])] : List (Nat × Array Value)), p.1 < zb := by simp; omega
        have hzzb : z < zb := by omega
        clear hzb
        have g8 := by_get s 8 (by omega); have bb8 := by_bd s 8
        have g9 := by_get s 9 (by omega); have bb9 := by_bd s 9
        have g10 := by_get s 10 (by omega); have bb10 := by_bd s 10
        have g11 := by_get s 11 (by omega); have bb11 := by_bd s 11
        have m4 : (by_ s 8).tmod 4 = by_ s 8 % 4 := Int.tmod_eq_emod_of_nonneg bb8.1
        have m16 : (by_ s 8).tmod 16 = by_ s 8 % 16 := Int.tmod_eq_emod_of_nonneg bb8.1
        have d4 : (by_ s 8 % 16).tdiv 4 = by_ s 8 % 16 / 4 := Int.tdiv_eq_ediv_of_nonneg (by omega)
        have d16 : (by_ s 8).tdiv 16 = by_ s 8 / 16 := Int.tdiv_eq_ediv_of_nonneg bb8.1
        have wf0 : IntKind.i64.wrap (by_ s 8 % 4) = by_ s 8 % 4 := by rw [IntKind.wrap_i64]; omega
        have wf1 : IntKind.u8.wrap (by_ s 8 % 16 / 4) = by_ s 8 % 16 / 4 := by rw [conv8]; omega
        have wf2 : IntKind.i64.wrap (by_ s 8 % 16 / 4) = by_ s 8 % 16 / 4 := by rw [IntKind.wrap_i64]; omega
        have wf3 : IntKind.u8.wrap (by_ s 8 / 16) = by_ s 8 / 16 := by rw [conv8]; omega
        have wf4 : IntKind.i64.wrap (by_ s 8 / 16) = by_ s 8 / 16 := by rw [IntKind.wrap_i64]; omega
        have wf5 : IntKind.i64.wrap (by_ s 9) = by_ s 9 := by rw [IntKind.wrap_i64]; omega
        have wf6 : IntKind.i64.wrap (by_ s 10) = by_ s 10 := by rw [IntKind.wrap_i64]; omega
        have wf7 : IntKind.i64.wrap (by_ s 11) = by_ s 11 := by rw [IntKind.wrap_i64]; omega
        have Cd := C.drew
        clear C
        refine wp_region_inv (R3 w z zb s t0 t4 t12 t16 t20 sm) (by kernel_rfl) (by kernel_rfl)
          ⟨_, _, _, _, _, _, _, _, _, _, _, _, _, _, _, _, _, _, _, _, _, _, _, _, _, _, _, _, _, _, _, _, rfl, by simp, by simp, by simp, by simp, by simp, by simp, by simp, by simp, by simp, by simp, by simp, by simp, by simp, by simp, by simp, by simp, by simp, by simp, by simp, by simp, by simp, by simp, by simp, by simp, by simp, by simp, by simp, by simp, by simp, by simp, by simp, by simp, by simp, Cd, hsz⟩ ?_ ?_
        · clear Cd hsz
          intro i o ho L ac wx hs hl hall hI
          obtain ⟨v4, v27, v28, v29, v30, v31, v32, v33, v34, v35, v36, v37, v38, v39, v40, v41, v42, v43, v44, v45, v46, v47, v48, v49, v50, v51, v52, v53, v54, v55, v56, v57, rfl, i0, i1, i2, i3, i4, i5, i6, i7, i8, i9, i10, i11, i12, i13, i14, i15, i16, i17, i18, i19, i20, i21, i22, i23, i24, i25, i26, i27, i28, i29, i30, ia, ist, hC, hsz⟩ := hI
          replace hs : L.size = 33 := hs
          rcases i with _ | _ | _ | _ | _ | _ | _ | _ | _ | _ | _ | _ | _ | _ | _ | _ | _ | _ | _ | _ | _ | _ | _ | _ | _ | _ | _ | _ | _ | _ | _ | _ | _ | i
          · obtain rfl := Option.some.inj ho
            clear ho
            clear hall
            refine wpOp_inv (o := _) rfl rfl ?_
            have e1 : (L.setIfInBounds 0 true).getD 1 false = L.getD 1 false := getD_set_ne false (by decide)
            have e2 : (L.setIfInBounds 0 true).getD 2 false = L.getD 2 false := getD_set_ne false (by decide)
            have e3 : (L.setIfInBounds 0 true).getD 3 false = L.getD 3 false := getD_set_ne false (by decide)
            have e4 : (L.setIfInBounds 0 true).getD 4 false = L.getD 4 false := getD_set_ne false (by decide)
            have e5 : (L.setIfInBounds 0 true).getD 5 false = L.getD 5 false := getD_set_ne false (by decide)
            have e6 : (L.setIfInBounds 0 true).getD 6 false = L.getD 6 false := getD_set_ne false (by decide)
            have e7 : (L.setIfInBounds 0 true).getD 7 false = L.getD 7 false := getD_set_ne false (by decide)
            have e8 : (L.setIfInBounds 0 true).getD 8 false = L.getD 8 false := getD_set_ne false (by decide)
            have e9 : (L.setIfInBounds 0 true).getD 9 false = L.getD 9 false := getD_set_ne false (by decide)
            have e10 : (L.setIfInBounds 0 true).getD 10 false = L.getD 10 false := getD_set_ne false (by decide)
            have e11 : (L.setIfInBounds 0 true).getD 11 false = L.getD 11 false := getD_set_ne false (by decide)
            have e12 : (L.setIfInBounds 0 true).getD 12 false = L.getD 12 false := getD_set_ne false (by decide)
            have e13 : (L.setIfInBounds 0 true).getD 13 false = L.getD 13 false := getD_set_ne false (by decide)
            have e14 : (L.setIfInBounds 0 true).getD 14 false = L.getD 14 false := getD_set_ne false (by decide)
            have e15 : (L.setIfInBounds 0 true).getD 15 false = L.getD 15 false := getD_set_ne false (by decide)
            have e16 : (L.setIfInBounds 0 true).getD 16 false = L.getD 16 false := getD_set_ne false (by decide)
            have e17 : (L.setIfInBounds 0 true).getD 17 false = L.getD 17 false := getD_set_ne false (by decide)
            have e18 : (L.setIfInBounds 0 true).getD 18 false = L.getD 18 false := getD_set_ne false (by decide)
            have e19 : (L.setIfInBounds 0 true).getD 19 false = L.getD 19 false := getD_set_ne false (by decide)
            have e20 : (L.setIfInBounds 0 true).getD 20 false = L.getD 20 false := getD_set_ne false (by decide)
            have e21 : (L.setIfInBounds 0 true).getD 21 false = L.getD 21 false := getD_set_ne false (by decide)
            have e22 : (L.setIfInBounds 0 true).getD 22 false = L.getD 22 false := getD_set_ne false (by decide)
            have e23 : (L.setIfInBounds 0 true).getD 23 false = L.getD 23 false := getD_set_ne false (by decide)
            have e24 : (L.setIfInBounds 0 true).getD 24 false = L.getD 24 false := getD_set_ne false (by decide)
            have e25 : (L.setIfInBounds 0 true).getD 25 false = L.getD 25 false := getD_set_ne false (by decide)
            have e26 : (L.setIfInBounds 0 true).getD 26 false = L.getD 26 false := getD_set_ne false (by decide)
            have e27 : (L.setIfInBounds 0 true).getD 27 false = L.getD 27 false := getD_set_ne false (by decide)
            have e28 : (L.setIfInBounds 0 true).getD 28 false = L.getD 28 false := getD_set_ne false (by decide)
            have e29 : (L.setIfInBounds 0 true).getD 29 false = L.getD 29 false := getD_set_ne false (by decide)
            have e30 : (L.setIfInBounds 0 true).getD 30 false = L.getD 30 false := getD_set_ne false (by decide)
            have e31 : (L.setIfInBounds 0 true).getD 31 false = L.getD 31 false := getD_set_ne false (by decide)
            have e32 : (L.setIfInBounds 0 true).getD 32 false = L.getD 32 false := getD_set_ne false (by decide)
            have e0 : (L.setIfInBounds 0 true).getD 0 false = true := by rw [getD_set_if L 0 0 (by omega), if_pos rfl]
            go_simp
            exact ⟨v4, _, v28, v29, v30, v31, v32, v33, v34, v35, v36, v37, v38, v39, v40, v41, v42, v43, v44, v45, v46, v47, v48, v49, v50, v51, v52, v53, v54, v55, v56, v57, rfl, fun _ => rfl, by rw [e1]; exact i1, by rw [e2]; exact i2, by rw [e3]; exact i3, by rw [e4]; exact i4, by rw [e5]; exact i5, by rw [e6]; exact i6, by rw [e7]; exact i7, by rw [e8]; exact i8, by rw [e9]; exact i9, by rw [e10]; exact i10, by rw [e11]; exact i11, by rw [e12]; exact i12, by rw [e13]; exact i13, by rw [e14]; exact i14, by rw [e15]; exact i15, by rw [e16]; exact i16, by rw [e17]; exact i17, by rw [e18]; exact i18, by rw [e19]; exact i19, by rw [e20]; exact i20, by rw [e21]; exact i21, by rw [e22]; exact i22, by rw [e23]; exact i23, by rw [e24]; exact i24, by rw [e25]; exact i25, by rw [e26]; exact i26, by rw [e27]; exact i27, by rw [e28]; exact i28, by rw [e29]; exact i29, by rw [e30]; exact i30, by rw [e31, e32]; exact ia, by rw [e31, e32]; exact ist, hC, hsz⟩
          · obtain rfl := Option.some.inj ho
            clear ho
            have l0 := hall ⟨0, .data⟩ (by simp) rfl
            clear hall
            refine wpOp_inv (o := _) rfl rfl ?_
            have e0 : (L.setIfInBounds 1 true).getD 0 false = L.getD 0 false := getD_set_ne false (by decide)
            have e2 : (L.setIfInBounds 1 true).getD 2 false = L.getD 2 false := getD_set_ne false (by decide)
            have e3 : (L.setIfInBounds 1 true).getD 3 false = L.getD 3 false := getD_set_ne false (by decide)
            have e4 : (L.setIfInBounds 1 true).getD 4 false = L.getD 4 false := getD_set_ne false (by decide)
            have e5 : (L.setIfInBounds 1 true).getD 5 false = L.getD 5 false := getD_set_ne false (by decide)
            have e6 : (L.setIfInBounds 1 true).getD 6 false = L.getD 6 false := getD_set_ne false (by decide)
            have e7 : (L.setIfInBounds 1 true).getD 7 false = L.getD 7 false := getD_set_ne false (by decide)
            have e8 : (L.setIfInBounds 1 true).getD 8 false = L.getD 8 false := getD_set_ne false (by decide)
            have e9 : (L.setIfInBounds 1 true).getD 9 false = L.getD 9 false := getD_set_ne false (by decide)
            have e10 : (L.setIfInBounds 1 true).getD 10 false = L.getD 10 false := getD_set_ne false (by decide)
            have e11 : (L.setIfInBounds 1 true).getD 11 false = L.getD 11 false := getD_set_ne false (by decide)
            have e12 : (L.setIfInBounds 1 true).getD 12 false = L.getD 12 false := getD_set_ne false (by decide)
            have e13 : (L.setIfInBounds 1 true).getD 13 false = L.getD 13 false := getD_set_ne false (by decide)
            have e14 : (L.setIfInBounds 1 true).getD 14 false = L.getD 14 false := getD_set_ne false (by decide)
            have e15 : (L.setIfInBounds 1 true).getD 15 false = L.getD 15 false := getD_set_ne false (by decide)
            have e16 : (L.setIfInBounds 1 true).getD 16 false = L.getD 16 false := getD_set_ne false (by decide)
            have e17 : (L.setIfInBounds 1 true).getD 17 false = L.getD 17 false := getD_set_ne false (by decide)
            have e18 : (L.setIfInBounds 1 true).getD 18 false = L.getD 18 false := getD_set_ne false (by decide)
            have e19 : (L.setIfInBounds 1 true).getD 19 false = L.getD 19 false := getD_set_ne false (by decide)
            have e20 : (L.setIfInBounds 1 true).getD 20 false = L.getD 20 false := getD_set_ne false (by decide)
            have e21 : (L.setIfInBounds 1 true).getD 21 false = L.getD 21 false := getD_set_ne false (by decide)
            have e22 : (L.setIfInBounds 1 true).getD 22 false = L.getD 22 false := getD_set_ne false (by decide)
            have e23 : (L.setIfInBounds 1 true).getD 23 false = L.getD 23 false := getD_set_ne false (by decide)
            have e24 : (L.setIfInBounds 1 true).getD 24 false = L.getD 24 false := getD_set_ne false (by decide)
            have e25 : (L.setIfInBounds 1 true).getD 25 false = L.getD 25 false := getD_set_ne false (by decide)
            have e26 : (L.setIfInBounds 1 true).getD 26 false = L.getD 26 false := getD_set_ne false (by decide)
            have e27 : (L.setIfInBounds 1 true).getD 27 false = L.getD 27 false := getD_set_ne false (by decide)
            have e28 : (L.setIfInBounds 1 true).getD 28 false = L.getD 28 false := getD_set_ne false (by decide)
            have e29 : (L.setIfInBounds 1 true).getD 29 false = L.getD 29 false := getD_set_ne false (by decide)
            have e30 : (L.setIfInBounds 1 true).getD 30 false = L.getD 30 false := getD_set_ne false (by decide)
            have e31 : (L.setIfInBounds 1 true).getD 31 false = L.getD 31 false := getD_set_ne false (by decide)
            have e32 : (L.setIfInBounds 1 true).getD 32 false = L.getD 32 false := getD_set_ne false (by decide)
            have e1 : (L.setIfInBounds 1 true).getD 1 false = true := by rw [getD_set_if L 1 1 (by omega), if_pos rfl]
            obtain rfl := i0 l0
            go_simp
            go_at_call 26; refine (G0 _).mono ?_; rintro e w' ⟨rfl, hX1⟩
            exact ⟨_, rfl, v4, _, _, v29, v30, v31, v32, v33, v34, v35, v36, v37, v38, v39, v40, v41, v42, v43, v44, v45, v46, v47, v48, v49, v50, v51, v52, v53, v54, v55, v56, v57, rfl, fun _ => rfl, fun _ => rfl, by rw [e2]; exact i2, by rw [e3]; exact i3, by rw [e4]; exact i4, by rw [e5]; exact i5, by rw [e6]; exact i6, by rw [e7]; exact i7, by rw [e8]; exact i8, by rw [e9]; exact i9, by rw [e10]; exact i10, by rw [e11]; exact i11, by rw [e12]; exact i12, by rw [e13]; exact i13, by rw [e14]; exact i14, by rw [e15]; exact i15, by rw [e16]; exact i16, by rw [e17]; exact i17, by rw [e18]; exact i18, by rw [e19]; exact i19, by rw [e20]; exact i20, by rw [e21]; exact i21, by rw [e22]; exact i22, by rw [e23]; exact i23, by rw [e24]; exact i24, by rw [e25]; exact i25, by rw [e26]; exact i26, by rw [e27]; exact i27, by rw [e28]; exact i28, by rw [e29]; exact i29, by rw [e30]; exact i30, by rw [e31, e32]; exact fun h => by obtain ⟨y, h1, h2, h3⟩ := ia h; exact ⟨y, h1, h2, hX1.at h3 (by simp)⟩, by rw [e31, e32]; exact ist, hC.step hX1, Nat.le_trans hsz hX1.size⟩
          · obtain rfl := Option.some.inj ho
            clear ho
            clear hall
            refine wpOp_inv (o := _) rfl rfl ?_
            have e0 : (L.setIfInBounds 2 true).getD 0 false = L.getD 0 false := getD_set_ne false (by decide)
            have e1 : (L.setIfInBounds 2 true).getD 1 false = L.getD 1 false := getD_set_ne false (by decide)
            have e3 : (L.setIfInBounds 2 true).getD 3 false = L.getD 3 false := getD_set_ne false (by decide)
            have e4 : (L.setIfInBounds 2 true).getD 4 false = L.getD 4 false := getD_set_ne false (by decide)
            have e5 : (L.setIfInBounds 2 true).getD 5 false = L.getD 5 false := getD_set_ne false (by decide)
            have e6 : (L.setIfInBounds 2 true).getD 6 false = L.getD 6 false := getD_set_ne false (by decide)
            have e7 : (L.setIfInBounds 2 true).getD 7 false = L.getD 7 false := getD_set_ne false (by decide)
            have e8 : (L.setIfInBounds 2 true).getD 8 false = L.getD 8 false := getD_set_ne false (by decide)
            have e9 : (L.setIfInBounds 2 true).getD 9 false = L.getD 9 false := getD_set_ne false (by decide)
            have e10 : (L.setIfInBounds 2 true).getD 10 false = L.getD 10 false := getD_set_ne false (by decide)
            have e11 : (L.setIfInBounds 2 true).getD 11 false = L.getD 11 false := getD_set_ne false (by decide)
            have e12 : (L.setIfInBounds 2 true).getD 12 false = L.getD 12 false := getD_set_ne false (by decide)
            have e13 : (L.setIfInBounds 2 true).getD 13 false = L.getD 13 false := getD_set_ne false (by decide)
            have e14 : (L.setIfInBounds 2 true).getD 14 false = L.getD 14 false := getD_set_ne false (by decide)
            have e15 : (L.setIfInBounds 2 true).getD 15 false = L.getD 15 false := getD_set_ne false (by decide)
            have e16 : (L.setIfInBounds 2 true).getD 16 false = L.getD 16 false := getD_set_ne false (by decide)
            have e17 : (L.setIfInBounds 2 true).getD 17 false = L.getD 17 false := getD_set_ne false (by decide)
            have e18 : (L.setIfInBounds 2 true).getD 18 false = L.getD 18 false := getD_set_ne false (by decide)
            have e19 : (L.setIfInBounds 2 true).getD 19 false = L.getD 19 false := getD_set_ne false (by decide)
            have e20 : (L.setIfInBounds 2 true).getD 20 false = L.getD 20 false := getD_set_ne false (by decide)
            have e21 : (L.setIfInBounds 2 true).getD 21 false = L.getD 21 false := getD_set_ne false (by decide)
            have e22 : (L.setIfInBounds 2 true).getD 22 false = L.getD 22 false := getD_set_ne false (by decide)
            have e23 : (L.setIfInBounds 2 true).getD 23 false = L.getD 23 false := getD_set_ne false (by decide)
            have e24 : (L.setIfInBounds 2 true).getD 24 false = L.getD 24 false := getD_set_ne false (by decide)
            have e25 : (L.setIfInBounds 2 true).getD 25 false = L.getD 25 false := getD_set_ne false (by decide)
            have e26 : (L.setIfInBounds 2 true).getD 26 false = L.getD 26 false := getD_set_ne false (by decide)
            have e27 : (L.setIfInBounds 2 true).getD 27 false = L.getD 27 false := getD_set_ne false (by decide)
            have e28 : (L.setIfInBounds 2 true).getD 28 false = L.getD 28 false := getD_set_ne false (by decide)
            have e29 : (L.setIfInBounds 2 true).getD 29 false = L.getD 29 false := getD_set_ne false (by decide)
            have e30 : (L.setIfInBounds 2 true).getD 30 false = L.getD 30 false := getD_set_ne false (by decide)
            have e31 : (L.setIfInBounds 2 true).getD 31 false = L.getD 31 false := getD_set_ne false (by decide)
            have e32 : (L.setIfInBounds 2 true).getD 32 false = L.getD 32 false := getD_set_ne false (by decide)
            have e2 : (L.setIfInBounds 2 true).getD 2 false = true := by rw [getD_set_if L 2 2 (by omega), if_pos rfl]
            go_simp
            exact ⟨v4, v27, v28, _, v30, v31, v32, v33, v34, v35, v36, v37, v38, v39, v40, v41, v42, v43, v44, v45, v46, v47, v48, v49, v50, v51, v52, v53, v54, v55, v56, v57, rfl, by rw [e0]; exact i0, by rw [e1]; exact i1, fun _ => rfl, by rw [e3]; exact i3, by rw [e4]; exact i4, by rw [e5]; exact i5, by rw [e6]; exact i6, by rw [e7]; exact i7, by rw [e8]; exact i8, by rw [e9]; exact i9, by rw [e10]; exact i10, by rw [e11]; exact i11, by rw [e12]; exact i12, by rw [e13]; exact i13, by rw [e14]; exact i14, by rw [e15]; exact i15, by rw [e16]; exact i16, by rw [e17]; exact i17, by rw [e18]; exact i18, by rw [e19]; exact i19, by rw [e20]; exact i20, by rw [e21]; exact i21, by rw [e22]; exact i22, by rw [e23]; exact i23, by rw [e24]; exact i24, by rw [e25]; exact i25, by rw [e26]; exact i26, by rw [e27]; exact i27, by rw [e28]; exact i28, by rw [e29]; exact i29, by rw [e30]; exact i30, by rw [e31, e32]; exact ia, by rw [e31, e32]; exact ist, hC, hsz⟩
          · obtain rfl := Option.some.inj ho
            clear ho
            have l2 := hall ⟨2, .data⟩ (by simp) rfl
            clear hall
            refine wpOp_inv (o := _) rfl rfl ?_
            have e0 : (L.setIfInBounds 3 true).getD 0 false = L.getD 0 false := getD_set_ne false (by decide)
            have e1 : (L.setIfInBounds 3 true).getD 1 false = L.getD 1 false := getD_set_ne false (by decide)
            have e2 : (L.setIfInBounds 3 true).getD 2 false = L.getD 2 false := getD_set_ne false (by decide)
            have e4 : (L.setIfInBounds 3 true).getD 4 false = L.getD 4 false := getD_set_ne false (by decide)
            have e5 : (L.setIfInBounds 3 true).getD 5 false = L.getD 5 false := getD_set_ne false (by decide)
            have e6 : (L.setIfInBounds 3 true).getD 6 false = L.getD 6 false := getD_set_ne false (by decide)
            have e7 : (L.setIfInBounds 3 true).getD 7 false = L.getD 7 false := getD_set_ne false (by decide)
            have e8 : (L.setIfInBounds 3 true).getD 8 false = L.getD 8 false := getD_set_ne false (by decide)
            have e9 : (L.setIfInBounds 3 true).getD 9 false = L.getD 9 false := getD_set_ne false (by decide)
            have e10 : (L.setIfInBounds 3 true).getD 10 false = L.getD 10 false := getD_set_ne false (by decide)
            have e11 : (L.setIfInBounds 3 true).getD 11 false = L.getD 11 false := getD_set_ne false (by decide)
            have e12 : (L.setIfInBounds 3 true).getD 12 false = L.getD 12 false := getD_set_ne false (by decide)
            have e13 : (L.setIfInBounds 3 true).getD 13 false = L.getD 13 false := getD_set_ne false (by decide)
            have e14 : (L.setIfInBounds 3 true).getD 14 false = L.getD 14 false := getD_set_ne false (by decide)
            have e15 : (L.setIfInBounds 3 true).getD 15 false = L.getD 15 false := getD_set_ne false (by decide)
            have e16 : (L.setIfInBounds 3 true).getD 16 false = L.getD 16 false := getD_set_ne false (by decide)
            have e17 : (L.setIfInBounds 3 true).getD 17 false = L.getD 17 false := getD_set_ne false (by decide)
            have e18 : (L.setIfInBounds 3 true).getD 18 false = L.getD 18 false := getD_set_ne false (by decide)
            have e19 : (L.setIfInBounds 3 true).getD 19 false = L.getD 19 false := getD_set_ne false (by decide)
            have e20 : (L.setIfInBounds 3 true).getD 20 false = L.getD 20 false := getD_set_ne false (by decide)
            have e21 : (L.setIfInBounds 3 true).getD 21 false = L.getD 21 false := getD_set_ne false (by decide)
            have e22 : (L.setIfInBounds 3 true).getD 22 false = L.getD 22 false := getD_set_ne false (by decide)
            have e23 : (L.setIfInBounds 3 true).getD 23 false = L.getD 23 false := getD_set_ne false (by decide)
            have e24 : (L.setIfInBounds 3 true).getD 24 false = L.getD 24 false := getD_set_ne false (by decide)
            have e25 : (L.setIfInBounds 3 true).getD 25 false = L.getD 25 false := getD_set_ne false (by decide)
            have e26 : (L.setIfInBounds 3 true).getD 26 false = L.getD 26 false := getD_set_ne false (by decide)
            have e27 : (L.setIfInBounds 3 true).getD 27 false = L.getD 27 false := getD_set_ne false (by decide)
            have e28 : (L.setIfInBounds 3 true).getD 28 false = L.getD 28 false := getD_set_ne false (by decide)
            have e29 : (L.setIfInBounds 3 true).getD 29 false = L.getD 29 false := getD_set_ne false (by decide)
            have e30 : (L.setIfInBounds 3 true).getD 30 false = L.getD 30 false := getD_set_ne false (by decide)
            have e31 : (L.setIfInBounds 3 true).getD 31 false = L.getD 31 false := getD_set_ne false (by decide)
            have e32 : (L.setIfInBounds 3 true).getD 32 false = L.getD 32 false := getD_set_ne false (by decide)
            have e3 : (L.setIfInBounds 3 true).getD 3 false = true := by rw [getD_set_if L 3 3 (by omega), if_pos rfl]
            obtain rfl := i2 l2
            go_simp
            exact ⟨v4, v27, v28, _, _, v31, v32, v33, v34, v35, v36, v37, v38, v39, v40, v41, v42, v43, v44, v45, v46, v47, v48, v49, v50, v51, v52, v53, v54, v55, v56, v57, rfl, by rw [e0]; exact i0, by rw [e1]; exact i1, fun _ => rfl, fun _ => rfl, by rw [e4]; exact i4, by rw [e5]; exact i5, by rw [e6]; exact i6, by rw [e7]; exact i7, by rw [e8]; exact i8, by rw [e9]; exact i9, by rw [e10]; exact i10, by rw [e11]; exact i11, by rw [e12]; exact i12, by rw [e13]; exact i13, by rw [e14]; exact i14, by rw [e15]; exact i15, by rw [e16]; exact i16, by rw [e17]; exact i17, by rw [e18]; exact i18, by rw [e19]; exact i19, by rw [e20]; exact i20, by rw [e21]; exact i21, by rw [e22]; exact i22, by rw [e23]; exact i23, by rw [e24]; exact i24, by rw [e25]; exact i25, by rw [e26]; exact i26, by rw [e27]; exact i27, by rw [e28]; exact i28, by rw [e29]; exact i29, by rw [e30]; exact i30, by rw [e31, e32]; exact ia, by rw [e31, e32]; exact ist, hC, hsz⟩
          · obtain rfl := Option.some.inj ho
            clear ho
            have l3 := hall ⟨3, .data⟩ (by simp) rfl
            clear hall
            refine wpOp_inv (o := _) rfl rfl ?_
            have e0 : (L.setIfInBounds 4 true).getD 0 false = L.getD 0 false := getD_set_ne false (by decide)
            have e1 : (L.setIfInBounds 4 true).getD 1 false = L.getD 1 false := getD_set_ne false (by decide)
            have e2 : (L.setIfInBounds 4 true).getD 2 false = L.getD 2 false := getD_set_ne false (by decide)
            have e3 : (L.setIfInBounds 4 true).getD 3 false = L.getD 3 false := getD_set_ne false (by decide)
            have e5 : (L.setIfInBounds 4 true).getD 5 false = L.getD 5 false := getD_set_ne false (by decide)
            have e6 : (L.setIfInBounds 4 true).getD 6 false = L.getD 6 false := getD_set_ne false (by decide)
            have e7 : (L.setIfInBounds 4 true).getD 7 false = L.getD 7 false := getD_set_ne false (by decide)
            have e8 : (L.setIfInBounds 4 true).getD 8 false = L.getD 8 false := getD_set_ne false (by decide)
            have e9 : (L.setIfInBounds 4 true).getD 9 false = L.getD 9 false := getD_set_ne false (by decide)
            have e10 : (L.setIfInBounds 4 true).getD 10 false = L.getD 10 false := getD_set_ne false (by decide)
            have e11 : (L.setIfInBounds 4 true).getD 11 false = L.getD 11 false := getD_set_ne false (by decide)
            have e12 : (L.setIfInBounds 4 true).getD 12 false = L.getD 12 false := getD_set_ne false (by decide)
            have e13 : (L.setIfInBounds 4 true).getD 13 false = L.getD 13 false := getD_set_ne false (by decide)
            have e14 : (L.setIfInBounds 4 true).getD 14 false = L.getD 14 false := getD_set_ne false (by decide)
            have e15 : (L.setIfInBounds 4 true).getD 15 false = L.getD 15 false := getD_set_ne false (by decide)
            have e16 : (L.setIfInBounds 4 true).getD 16 false = L.getD 16 false := getD_set_ne false (by decide)
            have e17 : (L.setIfInBounds 4 true).getD 17 false = L.getD 17 false := getD_set_ne false (by decide)
            have e18 : (L.setIfInBounds 4 true).getD 18 false = L.getD 18 false := getD_set_ne false (by decide)
            have e19 : (L.setIfInBounds 4 true).getD 19 false = L.getD 19 false := getD_set_ne false (by decide)
            have e20 : (L.setIfInBounds 4 true).getD 20 false = L.getD 20 false := getD_set_ne false (by decide)
            have e21 : (L.setIfInBounds 4 true).getD 21 false = L.getD 21 false := getD_set_ne false (by decide)
            have e22 : (L.setIfInBounds 4 true).getD 22 false = L.getD 22 false := getD_set_ne false (by decide)
            have e23 : (L.setIfInBounds 4 true).getD 23 false = L.getD 23 false := getD_set_ne false (by decide)
            have e24 : (L.setIfInBounds 4 true).getD 24 false = L.getD 24 false := getD_set_ne false (by decide)
            have e25 : (L.setIfInBounds 4 true).getD 25 false = L.getD 25 false := getD_set_ne false (by decide)
            have e26 : (L.setIfInBounds 4 true).getD 26 false = L.getD 26 false := getD_set_ne false (by decide)
            have e27 : (L.setIfInBounds 4 true).getD 27 false = L.getD 27 false := getD_set_ne false (by decide)
            have e28 : (L.setIfInBounds 4 true).getD 28 false = L.getD 28 false := getD_set_ne false (by decide)
            have e29 : (L.setIfInBounds 4 true).getD 29 false = L.getD 29 false := getD_set_ne false (by decide)
            have e30 : (L.setIfInBounds 4 true).getD 30 false = L.getD 30 false := getD_set_ne false (by decide)
            have e31 : (L.setIfInBounds 4 true).getD 31 false = L.getD 31 false := getD_set_ne false (by decide)
            have e32 : (L.setIfInBounds 4 true).getD 32 false = L.getD 32 false := getD_set_ne false (by decide)
            have e4 : (L.setIfInBounds 4 true).getD 4 false = true := by rw [getD_set_if L 4 4 (by omega), if_pos rfl]
            obtain rfl := i3 l3
            go_simp
            go_at_call 26; refine (G4 _).mono ?_; rintro e w' ⟨rfl, hX1⟩
            exact ⟨_, rfl, v4, v27, v28, v29, _, _, v32, v33, v34, v35, v36, v37, v38, v39, v40, v41, v42, v43, v44, v45, v46, v47, v48, v49, v50, v51, v52, v53, v54, v55, v56, v57, rfl, by rw [e0]; exact i0, by rw [e1]; exact i1, by rw [e2]; exact i2, fun _ => rfl, fun _ => rfl, by rw [e5]; exact i5, by rw [e6]; exact i6, by rw [e7]; exact i7, by rw [e8]; exact i8, by rw [e9]; exact i9, by rw [e10]; exact i10, by rw [e11]; exact i11, by rw [e12]; exact i12, by rw [e13]; exact i13, by rw [e14]; exact i14, by rw [e15]; exact i15, by rw [e16]; exact i16, by rw [e17]; exact i17, by rw [e18]; exact i18, by rw [e19]; exact i19, by rw [e20]; exact i20, by rw [e21]; exact i21, by rw [e22]; exact i22, by rw [e23]; exact i23, by rw [e24]; exact i24, by rw [e25]; exact i25, by rw [e26]; exact i26, by rw [e27]; exact i27, by rw [e28]; exact i28, by rw [e29]; exact i29, by rw [e30]; exact i30, by rw [e31, e32]; exact fun h => by obtain ⟨y, h1, h2, h3⟩ := ia h; exact ⟨y, h1, h2, hX1.at h3 (by simp)⟩, by rw [e31, e32]; exact ist, hC.step hX1, Nat.le_trans hsz hX1.size⟩
          · obtain rfl := Option.some.inj ho
            clear ho
            clear hall
            refine wpOp_inv (o := _) rfl rfl ?_
            have e0 : (L.setIfInBounds 5 true).getD 0 false = L.getD 0 false := getD_set_ne false (by decide)
            have e1 : (L.setIfInBounds 5 true).getD 1 false = L.getD 1 false := getD_set_ne false (by decide)
            have e2 : (L.setIfInBounds 5 true).getD 2 false = L.getD 2 false := getD_set_ne false (by decide)
            have e3 : (L.setIfInBounds 5 true).getD 3 false = L.getD 3 false := getD_set_ne false (by decide)
            have e4 : (L.setIfInBounds 5 true).getD 4 false = L.getD 4 false := getD_set_ne false (by decide)
            have e6 : (L.setIfInBounds 5 true).getD 6 false = L.getD 6 false := getD_set_ne false (by decide)
            have e7 : (L.setIfInBounds 5 true).getD 7 false = L.getD 7 false := getD_set_ne false (by decide)
            have e8 : (L.setIfInBounds 5 true).getD 8 false = L.getD 8 false := getD_set_ne false (by decide)
            have e9 : (L.setIfInBounds 5 true).getD 9 false = L.getD 9 false := getD_set_ne false (by decide)
            have e10 : (L.setIfInBounds 5 true).getD 10 false = L.getD 10 false := getD_set_ne false (by decide)
            have e11 : (L.setIfInBounds 5 true).getD 11 false = L.getD 11 false := getD_set_ne false (by decide)
            have e12 : (L.setIfInBounds 5 true).getD 12 false = L.getD 12 false := getD_set_ne false (by decide)
            have e13 : (L.setIfInBounds 5 true).getD 13 false = L.getD 13 false := getD_set_ne false (by decide)
            have e14 : (L.setIfInBounds 5 true).getD 14 false = L.getD 14 false := getD_set_ne false (by decide)
            have e15 : (L.setIfInBounds 5 true).getD 15 false = L.getD 15 false := getD_set_ne false (by decide)
            have e16 : (L.setIfInBounds 5 true).getD 16 false = L.getD 16 false := getD_set_ne false (by decide)
            have e17 : (L.setIfInBounds 5 true).getD 17 false = L.getD 17 false := getD_set_ne false (by decide)
            have e18 : (L.setIfInBounds 5 true).getD 18 false = L.getD 18 false := getD_set_ne false (by decide)
            have e19 : (L.setIfInBounds 5 true).getD 19 false = L.getD 19 false := getD_set_ne false (by decide)
            have e20 : (L.setIfInBounds 5 true).getD 20 false = L.getD 20 false := getD_set_ne false (by decide)
            have e21 : (L.setIfInBounds 5 true).getD 21 false = L.getD 21 false := getD_set_ne false (by decide)
            have e22 : (L.setIfInBounds 5 true).getD 22 false = L.getD 22 false := getD_set_ne false (by decide)
            have e23 : (L.setIfInBounds 5 true).getD 23 false = L.getD 23 false := getD_set_ne false (by decide)
            have e24 : (L.setIfInBounds 5 true).getD 24 false = L.getD 24 false := getD_set_ne false (by decide)
            have e25 : (L.setIfInBounds 5 true).getD 25 false = L.getD 25 false := getD_set_ne false (by decide)
            have e26 : (L.setIfInBounds 5 true).getD 26 false = L.getD 26 false := getD_set_ne false (by decide)
            have e27 : (L.setIfInBounds 5 true).getD 27 false = L.getD 27 false := getD_set_ne false (by decide)
            have e28 : (L.setIfInBounds 5 true).getD 28 false = L.getD 28 false := getD_set_ne false (by decide)
            have e29 : (L.setIfInBounds 5 true).getD 29 false = L.getD 29 false := getD_set_ne false (by decide)
            have e30 : (L.setIfInBounds 5 true).getD 30 false = L.getD 30 false := getD_set_ne false (by decide)
            have e31 : (L.setIfInBounds 5 true).getD 31 false = L.getD 31 false := getD_set_ne false (by decide)
            have e32 : (L.setIfInBounds 5 true).getD 32 false = L.getD 32 false := getD_set_ne false (by decide)
            have e5 : (L.setIfInBounds 5 true).getD 5 false = true := by rw [getD_set_if L 5 5 (by omega), if_pos rfl]
            go_simp
            exact ⟨v4, v27, v28, v29, v30, v31, _, v33, v34, v35, v36, v37, v38, v39, v40, v41, v42, v43, v44, v45, v46, v47, v48, v49, v50, v51, v52, v53, v54, v55, v56, v57, rfl, by rw [e0]; exact i0, by rw [e1]; exact i1, by rw [e2]; exact i2, by rw [e3]; exact i3, by rw [e4]; exact i4, fun _ => rfl, by rw [e6]; exact i6, by rw [e7]; exact i7, by rw [e8]; exact i8, by rw [e9]; exact i9, by rw [e10]; exact i10, by rw [e11]; exact i11, by rw [e12]; exact i12, by rw [e13]; exact i13, by rw [e14]; exact i14, by rw [e15]; exact i15, by rw [e16]; exact i16, by rw [e17]; exact i17, by rw [e18]; exact i18, by rw [e19]; exact i19, by rw [e20]; exact i20, by rw [e21]; exact i21, by rw [e22]; exact i22, by rw [e23]; exact i23, by rw [e24]; exact i24, by rw [e25]; exact i25, by rw [e26]; exact i26, by rw [e27]; exact i27, by rw [e28]; exact i28, by rw [e29]; exact i29, by rw [e30]; exact i30, by rw [e31, e32]; exact ia, by rw [e31, e32]; exact ist, hC, hsz⟩
          · obtain rfl := Option.some.inj ho
            clear ho
            have l5 := hall ⟨5, .data⟩ (by simp) rfl
            clear hall
            refine wpOp_inv (o := _) rfl rfl ?_
            have e0 : (L.setIfInBounds 6 true).getD 0 false = L.getD 0 false := getD_set_ne false (by decide)
            have e1 : (L.setIfInBounds 6 true).getD 1 false = L.getD 1 false := getD_set_ne false (by decide)
            have e2 : (L.setIfInBounds 6 true).getD 2 false = L.getD 2 false := getD_set_ne false (by decide)
            have e3 : (L.setIfInBounds 6 true).getD 3 false = L.getD 3 false := getD_set_ne false (by decide)
            have e4 : (L.setIfInBounds 6 true).getD 4 false = L.getD 4 false := getD_set_ne false (by decide)
            have e5 : (L.setIfInBounds 6 true).getD 5 false = L.getD 5 false := getD_set_ne false (by decide)
            have e7 : (L.setIfInBounds 6 true).getD 7 false = L.getD 7 false := getD_set_ne false (by decide)
            have e8 : (L.setIfInBounds 6 true).getD 8 false = L.getD 8 false := getD_set_ne false (by decide)
            have e9 : (L.setIfInBounds 6 true).getD 9 false = L.getD 9 false := getD_set_ne false (by decide)
            have e10 : (L.setIfInBounds 6 true).getD 10 false = L.getD 10 false := getD_set_ne false (by decide)
            have e11 : (L.setIfInBounds 6 true).getD 11 false = L.getD 11 false := getD_set_ne false (by decide)
            have e12 : (L.setIfInBounds 6 true).getD 12 false = L.getD 12 false := getD_set_ne false (by decide)
            have e13 : (L.setIfInBounds 6 true).getD 13 false = L.getD 13 false := getD_set_ne false (by decide)
            have e14 : (L.setIfInBounds 6 true).getD 14 false = L.getD 14 false := getD_set_ne false (by decide)
            have e15 : (L.setIfInBounds 6 true).getD 15 false = L.getD 15 false := getD_set_ne false (by decide)
            have e16 : (L.setIfInBounds 6 true).getD 16 false = L.getD 16 false := getD_set_ne false (by decide)
            have e17 : (L.setIfInBounds 6 true).getD 17 false = L.getD 17 false := getD_set_ne false (by decide)
            have e18 : (L.setIfInBounds 6 true).getD 18 false = L.getD 18 false := getD_set_ne false (by decide)
            have e19 : (L.setIfInBounds 6 true).getD 19 false = L.getD 19 false := getD_set_ne false (by decide)
            have e20 : (L.setIfInBounds 6 true).getD 20 false = L.getD 20 false := getD_set_ne false (by decide)
            have e21 : (L.setIfInBounds 6 true).getD 21 false = L.getD 21 false := getD_set_ne false (by decide)
            have e22 : (L.setIfInBounds 6 true).getD 22 false = L.getD 22 false := getD_set_ne false (by decide)
            have e23 : (L.setIfInBounds 6 true).getD 23 false = L.getD 23 false := getD_set_ne false (by decide)
            have e24 : (L.setIfInBounds 6 true).getD 24 false = L.getD 24 false := getD_set_ne false (by decide)
            have e25 : (L.setIfInBounds 6 true).getD 25 false = L.getD 25 false := getD_set_ne false (by decide)
            have e26 : (L.setIfInBounds 6 true).getD 26 false = L.getD 26 false := getD_set_ne false (by decide)
            have e27 : (L.setIfInBounds 6 true).getD 27 false = L.getD 27 false := getD_set_ne false (by decide)
            have e28 : (L.setIfInBounds 6 true).getD 28 false = L.getD 28 false := getD_set_ne false (by decide)
            have e29 : (L.setIfInBounds 6 true).getD 29 false = L.getD 29 false := getD_set_ne false (by decide)
            have e30 : (L.setIfInBounds 6 true).getD 30 false = L.getD 30 false := getD_set_ne false (by decide)
            have e31 : (L.setIfInBounds 6 true).getD 31 false = L.getD 31 false := getD_set_ne false (by decide)
            have e32 : (L.setIfInBounds 6 true).getD 32 false = L.getD 32 false := getD_set_ne false (by decide)
            have e6 : (L.setIfInBounds 6 true).getD 6 false = true := by rw [getD_set_if L 6 6 (by omega), if_pos rfl]
            obtain rfl := i5 l5
            go_simp
            exact ⟨v4, v27, v28, v29, v30, v31, _, _, v34, v35, v36, v37, v38, v39, v40, v41, v42, v43, v44, v45, v46, v47, v48, v49, v50, v51, v52, v53, v54, v55, v56, v57, rfl, by rw [e0]; exact i0, by rw [e1]; exact i1, by rw [e2]; exact i2, by rw [e3]; exact i3, by rw [e4]; exact i4, fun _ => rfl, fun _ => rfl, by rw [e7]; exact i7, by rw [e8]; exact i8, by rw [e9]; exact i9, by rw [e10]; exact i10, by rw [e11]; exact i11, by rw [e12]; exact i12, by rw [e13]; exact i13, by rw [e14]; exact i14, by rw [e15]; exact i15, by rw [e16]; exact i16, by rw [e17]; exact i17, by rw [e18]; exact i18, by rw [e19]; exact i19, by rw [e20]; exact i20, by rw [e21]; exact i21, by rw [e22]; exact i22, by rw [e23]; exact i23, by rw [e24]; exact i24, by rw [e25]; exact i25, by rw [e26]; exact i26, by rw [e27]; exact i27, by rw [e28]; exact i28, by rw [e29]; exact i29, by rw [e30]; exact i30, by rw [e31, e32]; exact ia, by rw [e31, e32]; exact ist, hC, hsz⟩
          · obtain rfl := Option.some.inj ho
            clear ho
            have l6 := hall ⟨6, .data⟩ (by simp) rfl
            clear hall
            refine wpOp_inv (o := _) rfl rfl ?_
            have e0 : (L.setIfInBounds 7 true).getD 0 false = L.getD 0 false := getD_set_ne false (by decide)
            have e1 : (L.setIfInBounds 7 true).getD 1 false = L.getD 1 false := getD_set_ne false (by decide)
            have e2 : (L.setIfInBounds 7 true).getD 2 false = L.getD 2 false := getD_set_ne false (by decide)
            have e3 : (L.setIfInBounds 7 true).getD 3 false = L.getD 3 false := getD_set_ne false (by decide)
            have e4 : (L.setIfInBounds 7 true).getD 4 false = L.getD 4 false := getD_set_ne false (by decide)
            have e5 : (L.setIfInBounds 7 true).getD 5 false = L.getD 5 false := getD_set_ne false (by decide)
            have e6 : (L.setIfInBounds 7 true).getD 6 false = L.getD 6 false := getD_set_ne false (by decide)
            have e8 : (L.setIfInBounds 7 true).getD 8 false = L.getD 8 false := getD_set_ne false (by decide)
            have e9 : (L.setIfInBounds 7 true).getD 9 false = L.getD 9 false := getD_set_ne false (by decide)
            have e10 : (L.setIfInBounds 7 true).getD 10 false = L.getD 10 false := getD_set_ne false (by decide)
            have e11 : (L.setIfInBounds 7 true).getD 11 false = L.getD 11 false := getD_set_ne false (by decide)
            have e12 : (L.setIfInBounds 7 true).getD 12 false = L.getD 12 false := getD_set_ne false (by decide)
            have e13 : (L.setIfInBounds 7 true).getD 13 false = L.getD 13 false := getD_set_ne false (by decide)
            have e14 : (L.setIfInBounds 7 true).getD 14 false = L.getD 14 false := getD_set_ne false (by decide)
            have e15 : (L.setIfInBounds 7 true).getD 15 false = L.getD 15 false := getD_set_ne false (by decide)
            have e16 : (L.setIfInBounds 7 true).getD 16 false = L.getD 16 false := getD_set_ne false (by decide)
            have e17 : (L.setIfInBounds 7 true).getD 17 false = L.getD 17 false := getD_set_ne false (by decide)
            have e18 : (L.setIfInBounds 7 true).getD 18 false = L.getD 18 false := getD_set_ne false (by decide)
            have e19 : (L.setIfInBounds 7 true).getD 19 false = L.getD 19 false := getD_set_ne false (by decide)
            have e20 : (L.setIfInBounds 7 true).getD 20 false = L.getD 20 false := getD_set_ne false (by decide)
            have e21 : (L.setIfInBounds 7 true).getD 21 false = L.getD 21 false := getD_set_ne false (by decide)
            have e22 : (L.setIfInBounds 7 true).getD 22 false = L.getD 22 false := getD_set_ne false (by decide)
            have e23 : (L.setIfInBounds 7 true).getD 23 false = L.getD 23 false := getD_set_ne false (by decide)
            have e24 : (L.setIfInBounds 7 true).getD 24 false = L.getD 24 false := getD_set_ne false (by decide)
            have e25 : (L.setIfInBounds 7 true).getD 25 false = L.getD 25 false := getD_set_ne false (by decide)
            have e26 : (L.setIfInBounds 7 true).getD 26 false = L.getD 26 false := getD_set_ne false (by decide)
            have e27 : (L.setIfInBounds 7 true).getD 27 false = L.getD 27 false := getD_set_ne false (by decide)
            have e28 : (L.setIfInBounds 7 true).getD 28 false = L.getD 28 false := getD_set_ne false (by decide)
            have e29 : (L.setIfInBounds 7 true).getD 29 false = L.getD 29 false := getD_set_ne false (by decide)
            have e30 : (L.setIfInBounds 7 true).getD 30 false = L.getD 30 false := getD_set_ne false (by decide)
            have e31 : (L.setIfInBounds 7 true).getD 31 false = L.getD 31 false := getD_set_ne false (by decide)
            have e32 : (L.setIfInBounds 7 true).getD 32 false = L.getD 32 false := getD_set_ne false (by decide)
            have e7 : (L.setIfInBounds 7 true).getD 7 false = true := by rw [getD_set_if L 7 7 (by omega), if_pos rfl]
            obtain rfl := i6 l6
            go_simp
            exact ⟨v4, v27, v28, v29, v30, v31, v32, _, _, v35, v36, v37, v38, v39, v40, v41, v42, v43, v44, v45, v46, v47, v48, v49, v50, v51, v52, v53, v54, v55, v56, v57, rfl, by rw [e0]; exact i0, by rw [e1]; exact i1, by rw [e2]; exact i2, by rw [e3]; exact i3, by rw [e4]; exact i4, by rw [e5]; exact i5, fun _ => rfl, fun _ => rfl, by rw [e8]; exact i8, by rw [e9]; exact i9, by rw [e10]; exact i10, by rw [e11]; exact i11, by rw [e12]; exact i12, by rw [e13]; exact i13, by rw [e14]; exact i14, by rw [e15]; exact i15, by rw [e16]; exact i16, by rw [e17]; exact i17, by rw [e18]; exact i18, by rw [e19]; exact i19, by rw [e20]; exact i20, by rw [e21]; exact i21, by rw [e22]; exact i22, by rw [e23]; exact i23, by rw [e24]; exact i24, by rw [e25]; exact i25, by rw [e26]; exact i26, by rw [e27]; exact i27, by rw [e28]; exact i28, by rw [e29]; exact i29, by rw [e30]; exact i30, by rw [e31, e32]; exact ia, by rw [e31, e32]; exact ist, hC, hsz⟩
          · obtain rfl := Option.some.inj ho
            clear ho
            have l7 := hall ⟨7, .data⟩ (by simp) rfl
            clear hall
            refine wpOp_inv (o := _) rfl rfl ?_
            have e0 : (L.setIfInBounds 8 true).getD 0 false = L.getD 0 false := getD_set_ne false (by decide)
            have e1 : (L.setIfInBounds 8 true).getD 1 false = L.getD 1 false := getD_set_ne false (by decide)
            have e2 : (L.setIfInBounds 8 true).getD 2 false = L.getD 2 false := getD_set_ne false (by decide)
            have e3 : (L.setIfInBounds 8 true).getD 3 false = L.getD 3 false := getD_set_ne false (by decide)
            have e4 : (L.setIfInBounds 8 true).getD 4 false = L.getD 4 false := getD_set_ne false (by decide)
            have e5 : (L.setIfInBounds 8 true).getD 5 false = L.getD 5 false := getD_set_ne false (by decide)
            have e6 : (L.setIfInBounds 8 true).getD 6 false = L.getD 6 false := getD_set_ne false (by decide)
            have e7 : (L.setIfInBounds 8 true).getD 7 false = L.getD 7 false := getD_set_ne false (by decide)
            have e9 : (L.setIfInBounds 8 true).getD 9 false = L.getD 9 false := getD_set_ne false (by decide)
            have e10 : (L.setIfInBounds 8 true).getD 10 false = L.getD 10 false := getD_set_ne false (by decide)
            have e11 : (L.setIfInBounds 8 true).getD 11 false = L.getD 11 false := getD_set_ne false (by decide)
            have e12 : (L.setIfInBounds 8 true).getD 12 false = L.getD 12 false := getD_set_ne false (by decide)
            have e13 : (L.setIfInBounds 8 true).getD 13 false = L.getD 13 false := getD_set_ne false (by decide)
            have e14 : (L.setIfInBounds 8 true).getD 14 false = L.getD 14 false := getD_set_ne false (by decide)
            have e15 : (L.setIfInBounds 8 true).getD 15 false = L.getD 15 false := getD_set_ne false (by decide)
            have e16 : (L.setIfInBounds 8 true).getD 16 false = L.getD 16 false := getD_set_ne false (by decide)
            have e17 : (L.setIfInBounds 8 true).getD 17 false = L.getD 17 false := getD_set_ne false (by decide)
            have e18 : (L.setIfInBounds 8 true).getD 18 false = L.getD 18 false := getD_set_ne false (by decide)
            have e19 : (L.setIfInBounds 8 true).getD 19 false = L.getD 19 false := getD_set_ne false (by decide)
            have e20 : (L.setIfInBounds 8 true).getD 20 false = L.getD 20 false := getD_set_ne false (by decide)
            have e21 : (L.setIfInBounds 8 true).getD 21 false = L.getD 21 false := getD_set_ne false (by decide)
            have e22 : (L.setIfInBounds 8 true).getD 22 false = L.getD 22 false := getD_set_ne false (by decide)
            have e23 : (L.setIfInBounds 8 true).getD 23 false = L.getD 23 false := getD_set_ne false (by decide)
            have e24 : (L.setIfInBounds 8 true).getD 24 false = L.getD 24 false := getD_set_ne false (by decide)
            have e25 : (L.setIfInBounds 8 true).getD 25 false = L.getD 25 false := getD_set_ne false (by decide)
            have e26 : (L.setIfInBounds 8 true).getD 26 false = L.getD 26 false := getD_set_ne false (by decide)
            have e27 : (L.setIfInBounds 8 true).getD 27 false = L.getD 27 false := getD_set_ne false (by decide)
            have e28 : (L.setIfInBounds 8 true).getD 28 false = L.getD 28 false := getD_set_ne false (by decide)
            have e29 : (L.setIfInBounds 8 true).getD 29 false = L.getD 29 false := getD_set_ne false (by decide)
            have e30 : (L.setIfInBounds 8 true).getD 30 false = L.getD 30 false := getD_set_ne false (by decide)
            have e31 : (L.setIfInBounds 8 true).getD 31 false = L.getD 31 false := getD_set_ne false (by decide)
            have e32 : (L.setIfInBounds 8 true).getD 32 false = L.getD 32 false := getD_set_ne false (by decide)
            have e8 : (L.setIfInBounds 8 true).getD 8 false = true := by rw [getD_set_if L 8 8 (by omega), if_pos rfl]
            obtain rfl := i7 l7
            go_simp
            exact ⟨v4, v27, v28, v29, v30, v31, v32, v33, _, _, v36, v37, v38, v39, v40, v41, v42, v43, v44, v45, v46, v47, v48, v49, v50, v51, v52, v53, v54, v55, v56, v57, rfl, by rw [e0]; exact i0, by rw [e1]; exact i1, by rw [e2]; exact i2, by rw [e3]; exact i3, by rw [e4]; exact i4, by rw [e5]; exact i5, by rw [e6]; exact i6, fun _ => rfl, fun _ => rfl, by rw [e9]; exact i9, by rw [e10]; exact i10, by rw [e11]; exact i11, by rw [e12]; exact i12, by rw [e13]; exact i13, by rw [e14]; exact i14, by rw [e15]; exact i15, by rw [e16]; exact i16, by rw [e17]; exact i17, by rw [e18]; exact i18, by rw [e19]; exact i19, by rw [e20]; exact i20, by rw [e21]; exact i21, by rw [e22]; exact i22, by rw [e23]; exact i23, by rw [e24]; exact i24, by rw [e25]; exact i25, by rw [e26]; exact i26, by rw [e27]; exact i27, by rw [e28]; exact i28, by rw [e29]; exact i29, by rw [e30]; exact i30, by rw [e31, e32]; exact ia, by rw [e31, e32]; exact ist, hC, hsz⟩
          · obtain rfl := Option.some.inj ho
            clear ho
            clear hall
            refine wpOp_inv (o := _) rfl rfl ?_
            have e0 : (L.setIfInBounds 9 true).getD 0 false = L.getD 0 false := getD_set_ne false (by decide)
            have e1 : (L.setIfInBounds 9 true).getD 1 false = L.getD 1 false := getD_set_ne false (by decide)
            have e2 : (L.setIfInBounds 9 true).getD 2 false = L.getD 2 false := getD_set_ne false (by decide)
            have e3 : (L.setIfInBounds 9 true).getD 3 false = L.getD 3 false := getD_set_ne false (by decide)
            have e4 : (L.setIfInBounds 9 true).getD 4 false = L.getD 4 false := getD_set_ne false (by decide)
            have e5 : (L.setIfInBounds 9 true).getD 5 false = L.getD 5 false := getD_set_ne false (by decide)
            have e6 : (L.setIfInBounds 9 true).getD 6 false = L.getD 6 false := getD_set_ne false (by decide)
            have e7 : (L.setIfInBounds 9 true).getD 7 false = L.getD 7 false := getD_set_ne false (by decide)
            have e8 : (L.setIfInBounds 9 true).getD 8 false = L.getD 8 false := getD_set_ne false (by decide)
            have e10 : (L.setIfInBounds 9 true).getD 10 false = L.getD 10 false := getD_set_ne false (by decide)
            have e11 : (L.setIfInBounds 9 true).getD 11 false = L.getD 11 false := getD_set_ne false (by decide)
            have e12 : (L.setIfInBounds 9 true).getD 12 false = L.getD 12 false := getD_set_ne false (by decide)
            have e13 : (L.setIfInBounds 9 true).getD 13 false = L.getD 13 false := getD_set_ne false (by decide)
            have e14 : (L.setIfInBounds 9 true).getD 14 false = L.getD 14 false := getD_set_ne false (by decide)
            have e15 : (L.setIfInBounds 9 true).getD 15 false = L.getD 15 false := getD_set_ne false (by decide)
            have e16 : (L.setIfInBounds 9 true).getD 16 false = L.getD 16 false := getD_set_ne false (by decide)
            have e17 : (L.setIfInBounds 9 true).getD 17 false = L.getD 17 false := getD_set_ne false (by decide)
            have e18 : (L.setIfInBounds 9 true).getD 18 false = L.getD 18 false := getD_set_ne false (by decide)
            have e19 : (L.setIfInBounds 9 true).getD 19 false = L.getD 19 false := getD_set_ne false (by decide)
            have e20 : (L.setIfInBounds 9 true).getD 20 false = L.getD 20 false := getD_set_ne false (by decide)
            have e21 : (L.setIfInBounds 9 true).getD 21 false = L.getD 21 false := getD_set_ne false (by decide)
            have e22 : (L.setIfInBounds 9 true).getD 22 false = L.getD 22 false := getD_set_ne false (by decide)
            have e23 : (L.setIfInBounds 9 true).getD 23 false = L.getD 23 false := getD_set_ne false (by decide)
            have e24 : (L.setIfInBounds 9 true).getD 24 false = L.getD 24 false := getD_set_ne false (by decide)
            have e25 : (L.setIfInBounds 9 true).getD 25 false = L.getD 25 false := getD_set_ne false (by decide)
            have e26 : (L.setIfInBounds 9 true).getD 26 false = L.getD 26 false := getD_set_ne false (by decide)
            have e27 : (L.setIfInBounds 9 true).getD 27 false = L.getD 27 false := getD_set_ne false (by decide)
            have e28 : (L.setIfInBounds 9 true).getD 28 false = L.getD 28 false := getD_set_ne false (by decide)
            have e29 : (L.setIfInBounds 9 true).getD 29 false = L.getD 29 false := getD_set_ne false (by decide)
            have e30 : (L.setIfInBounds 9 true).getD 30 false = L.getD 30 false := getD_set_ne false (by decide)
            have e31 : (L.setIfInBounds 9 true).getD 31 false = L.getD 31 false := getD_set_ne false (by decide)
            have e32 : (L.setIfInBounds 9 true).getD 32 false = L.getD 32 false := getD_set_ne false (by decide)
            have e9 : (L.setIfInBounds 9 true).getD 9 false = true := by rw [getD_set_if L 9 9 (by omega), if_pos rfl]
            go_simp
            exact ⟨v4, v27, v28, v29, v30, v31, v32, v33, v34, v35, _, v37, v38, v39, v40, v41, v42, v43, v44, v45, v46, v47, v48, v49, v50, v51, v52, v53, v54, v55, v56, v57, rfl, by rw [e0]; exact i0, by rw [e1]; exact i1, by rw [e2]; exact i2, by rw [e3]; exact i3, by rw [e4]; exact i4, by rw [e5]; exact i5, by rw [e6]; exact i6, by rw [e7]; exact i7, by rw [e8]; exact i8, fun _ => rfl, by rw [e10]; exact i10, by rw [e11]; exact i11, by rw [e12]; exact i12, by rw [e13]; exact i13, by rw [e14]; exact i14, by rw [e15]; exact i15, by rw [e16]; exact i16, by rw [e17]; exact i17, by rw [e18]; exact i18, by rw [e19]; exact i19, by rw [e20]; exact i20, by rw [e21]; exact i21, by rw [e22]; exact i22, by rw [e23]; exact i23, by rw [e24]; exact i24, by rw [e25]; exact i25, by rw [e26]; exact i26, by rw [e27]; exact i27, by rw [e28]; exact i28, by rw [e29]; exact i29, by rw [e30]; exact i30, by rw [e31, e32]; exact ia, by rw [e31, e32]; exact ist, hC, hsz⟩
          · obtain rfl := Option.some.inj ho
            clear ho
            have l9 := hall ⟨9, .data⟩ (by simp) rfl
            clear hall
            refine wpOp_inv (o := _) rfl rfl ?_
            have e0 : (L.setIfInBounds 10 true).getD 0 false = L.getD 0 false := getD_set_ne false (by decide)
            have e1 : (L.setIfInBounds 10 true).getD 1 false = L.getD 1 false := getD_set_ne false (by decide)
            have e2 : (L.setIfInBounds 10 true).getD 2 false = L.getD 2 false := getD_set_ne false (by decide)
            have e3 : (L.setIfInBounds 10 true).getD 3 false = L.getD 3 false := getD_set_ne false (by decide)
            have e4 : (L.setIfInBounds 10 true).getD 4 false = L.getD 4 false := getD_set_ne false (by decide)
            have e5 : (L.setIfInBounds 10 true).getD 5 false = L.getD 5 false := getD_set_ne false (by decide)
            have e6 : (L.setIfInBounds 10 true).getD 6 false = L.getD 6 false := getD_set_ne false (by decide)
            have e7 : (L.setIfInBounds 10 true).getD 7 false = L.getD 7 false := getD_set_ne false (by decide)
            have e8 : (L.setIfInBounds 10 true).getD 8 false = L.getD 8 false := getD_set_ne false (by decide)
            have e9 : (L.setIfInBounds 10 true).getD 9 false = L.getD 9 false := getD_set_ne false (by decide)
            have e11 : (L.setIfInBounds 10 true).getD 11 false = L.getD 11 false := getD_set_ne false (by decide)
            have e12 : (L.setIfInBounds 10 true).getD 12 false = L.getD 12 false := getD_set_ne false (by decide)
            have e13 : (L.setIfInBounds 10 true).getD 13 false = L.getD 13 false := getD_set_ne false (by decide)
            have e14 : (L.setIfInBounds 10 true).getD 14 false = L.getD 14 false := getD_set_ne false (by decide)
            have e15 : (L.setIfInBounds 10 true).getD 15 false = L.getD 15 false := getD_set_ne false (by decide)
            have e16 : (L.setIfInBounds 10 true).getD 16 false = L.getD 16 false := getD_set_ne false (by decide)
            have e17 : (L.setIfInBounds 10 true).getD 17 false = L.getD 17 false := getD_set_ne false (by decide)
            have e18 : (L.setIfInBounds 10 true).getD 18 false = L.getD 18 false := getD_set_ne false (by decide)
            have e19 : (L.setIfInBounds 10 true).getD 19 false = L.getD 19 false := getD_set_ne false (by decide)
            have e20 : (L.setIfInBounds 10 true).getD 20 false = L.getD 20 false := getD_set_ne false (by decide)
            have e21 : (L.setIfInBounds 10 true).getD 21 false = L.getD 21 false := getD_set_ne false (by decide)
            have e22 : (L.setIfInBounds 10 true).getD 22 false = L.getD 22 false := getD_set_ne false (by decide)
            have e23 : (L.setIfInBounds 10 true).getD 23 false = L.getD 23 false := getD_set_ne false (by decide)
            have e24 : (L.setIfInBounds 10 true).getD 24 false = L.getD 24 false := getD_set_ne false (by decide)
            have e25 : (L.setIfInBounds 10 true).getD 25 false = L.getD 25 false := getD_set_ne false (by decide)
            have e26 : (L.setIfInBounds 10 true).getD 26 false = L.getD 26 false := getD_set_ne false (by decide)
            have e27 : (L.setIfInBounds 10 true).getD 27 false = L.getD 27 false := getD_set_ne false (by decide)
            have e28 : (L.setIfInBounds 10 true).getD 28 false = L.getD 28 false := getD_set_ne false (by decide)
            have e29 : (L.setIfInBounds 10 true).getD 29 false = L.getD 29 false := getD_set_ne false (by decide)
            have e30 : (L.setIfInBounds 10 true).getD 30 false = L.getD 30 false := getD_set_ne false (by decide)
            have e31 : (L.setIfInBounds 10 true).getD 31 false = L.getD 31 false := getD_set_ne false (by decide)
            have e32 : (L.setIfInBounds 10 true).getD 32 false = L.getD 32 false := getD_set_ne false (by decide)
            have e10 : (L.setIfInBounds 10 true).getD 10 false = true := by rw [getD_set_if L 10 10 (by omega), if_pos rfl]
            obtain rfl := i9 l9
            go_simp
            exact ⟨v4, v27, v28, v29, v30, v31, v32, v33, v34, v35, _, _, v38, v39, v40, v41, v42, v43, v44, v45, v46, v47, v48, v49, v50, v51, v52, v53, v54, v55, v56, v57, rfl, by rw [e0]; exact i0, by rw [e1]; exact i1, by rw [e2]; exact i2, by rw [e3]; exact i3, by rw [e4]; exact i4, by rw [e5]; exact i5, by rw [e6]; exact i6, by rw [e7]; exact i7, by rw [e8]; exact i8, fun _ => rfl, fun _ => rfl, by rw [e11]; exact i11, by rw [e12]; exact i12, by rw [e13]; exact i13, by rw [e14]; exact i14, by rw [e15]; exact i15, by rw [e16]; exact i16, by rw [e17]; exact i17, by rw [e18]; exact i18, by rw [e19]; exact i19, by rw [e20]; exact i20, by rw [e21]; exact i21, by rw [e22]; exact i22, by rw [e23]; exact i23, by rw [e24]; exact i24, by rw [e25]; exact i25, by rw [e26]; exact i26, by rw [e27]; exact i27, by rw [e28]; exact i28, by rw [e29]; exact i29, by rw [e30]; exact i30, by rw [e31, e32]; exact ia, by rw [e31, e32]; exact ist, hC, hsz⟩
          · obtain rfl := Option.some.inj ho
            clear ho
            have l10 := hall ⟨10, .data⟩ (by simp) rfl
            clear hall
            refine wpOp_inv (o := _) rfl rfl ?_
            have e0 : (L.setIfInBounds 11 true).getD 0 false = L.getD 0 false := getD_set_ne false (by decide)
            have e1 : (L.setIfInBounds 11 true).getD 1 false = L.getD 1 false := getD_set_ne false (by decide)
            have e2 : (L.setIfInBounds 11 true).getD 2 false = L.getD 2 false := getD_set_ne false (by decide)
            have e3 : (L.setIfInBounds 11 true).getD 3 false = L.getD 3 false := getD_set_ne false (by decide)
            have e4 : (L.setIfInBounds 11 true).getD 4 false = L.getD 4 false := getD_set_ne false (by decide)
            have e5 : (L.setIfInBounds 11 true).getD 5 false = L.getD 5 false := getD_set_ne false (by decide)
            have e6 : (L.setIfInBounds 11 true).getD 6 false = L.getD 6 false := getD_set_ne false (by decide)
            have e7 : (L.setIfInBounds 11 true).getD 7 false = L.getD 7 false := getD_set_ne false (by decide)
            have e8 : (L.setIfInBounds 11 true).getD 8 false = L.getD 8 false := getD_set_ne false (by decide)
            have e9 : (L.setIfInBounds 11 true).getD 9 false = L.getD 9 false := getD_set_ne false (by decide)
            have e10 : (L.setIfInBounds 11 true).getD 10 false = L.getD 10 false := getD_set_ne false (by decide)
            have e12 : (L.setIfInBounds 11 true).getD 12 false = L.getD 12 false := getD_set_ne false (by decide)
            have e13 : (L.setIfInBounds 11 true).getD 13 false = L.getD 13 false := getD_set_ne false (by decide)
            have e14 : (L.setIfInBounds 11 true).getD 14 false = L.getD 14 false := getD_set_ne false (by decide)
            have e15 : (L.setIfInBounds 11 true).getD 15 false = L.getD 15 false := getD_set_ne false (by decide)
            have e16 : (L.setIfInBounds 11 true).getD 16 false = L.getD 16 false := getD_set_ne false (by decide)
            have e17 : (L.setIfInBounds 11 true).getD 17 false = L.getD 17 false := getD_set_ne false (by decide)
            have e18 : (L.setIfInBounds 11 true).getD 18 false = L.getD 18 false := getD_set_ne false (by decide)
            have e19 : (L.setIfInBounds 11 true).getD 19 false = L.getD 19 false := getD_set_ne false (by decide)
            have e20 : (L.setIfInBounds 11 true).getD 20 false = L.getD 20 false := getD_set_ne false (by decide)
            have e21 : (L.setIfInBounds 11 true).getD 21 false = L.getD 21 false := getD_set_ne false (by decide)
            have e22 : (L.setIfInBounds 11 true).getD 22 false = L.getD 22 false := getD_set_ne false (by decide)
            have e23 : (L.setIfInBounds 11 true).getD 23 false = L.getD 23 false := getD_set_ne false (by decide)
            have e24 : (L.setIfInBounds 11 true).getD 24 false = L.getD 24 false := getD_set_ne false (by decide)
            have e25 : (L.setIfInBounds 11 true).getD 25 false = L.getD 25 false := getD_set_ne false (by decide)
            have e26 : (L.setIfInBounds 11 true).getD 26 false = L.getD 26 false := getD_set_ne false (by decide)
            have e27 : (L.setIfInBounds 11 true).getD 27 false = L.getD 27 false := getD_set_ne false (by decide)
            have e28 : (L.setIfInBounds 11 true).getD 28 false = L.getD 28 false := getD_set_ne false (by decide)
            have e29 : (L.setIfInBounds 11 true).getD 29 false = L.getD 29 false := getD_set_ne false (by decide)
            have e30 : (L.setIfInBounds 11 true).getD 30 false = L.getD 30 false := getD_set_ne false (by decide)
            have e31 : (L.setIfInBounds 11 true).getD 31 false = L.getD 31 false := getD_set_ne false (by decide)
            have e32 : (L.setIfInBounds 11 true).getD 32 false = L.getD 32 false := getD_set_ne false (by decide)
            have e11 : (L.setIfInBounds 11 true).getD 11 false = true := by rw [getD_set_if L 11 11 (by omega), if_pos rfl]
            obtain rfl := i10 l10
            go_simp
            exact ⟨v4, v27, v28, v29, v30, v31, v32, v33, v34, v35, v36, _, _, v39, v40, v41, v42, v43, v44, v45, v46, v47, v48, v49, v50, v51, v52, v53, v54, v55, v56, v57, rfl, by rw [e0]; exact i0, by rw [e1]; exact i1, by rw [e2]; exact i2, by rw [e3]; exact i3, by rw [e4]; exact i4, by rw [e5]; exact i5, by rw [e6]; exact i6, by rw [e7]; exact i7, by rw [e8]; exact i8, by rw [e9]; exact i9, fun _ => rfl, fun _ => rfl, by rw [e12]; exact i12, by rw [e13]; exact i13, by rw [e14]; exact i14, by rw [e15]; exact i15, by rw [e16]; exact i16, by rw [e17]; exact i17, by rw [e18]; exact i18, by rw [e19]; exact i19, by rw [e20]; exact i20, by rw [e21]; exact i21, by rw [e22]; exact i22, by rw [e23]; exact i23, by rw [e24]; exact i24, by rw [e25]; exact i25, by rw [e26]; exact i26, by rw [e27]; exact i27, by rw [e28]; exact i28, by rw [e29]; exact i29, by rw [e30]; exact i30, by rw [e31, e32]; exact ia, by rw [e31, e32]; exact ist, hC, hsz⟩
          · obtain rfl := Option.some.inj ho
            clear ho
            have l11 := hall ⟨11, .data⟩ (by simp) rfl
            clear hall
            refine wpOp_inv (o := _) rfl rfl ?_
            have e0 : (L.setIfInBounds 12 true).getD 0 false = L.getD 0 false := getD_set_ne false (by decide)
            have e1 : (L.setIfInBounds 12 true).getD 1 false = L.getD 1 false := getD_set_ne false (by decide)
            have e2 : (L.setIfInBounds 12 true).getD 2 false = L.getD 2 false := getD_set_ne false (by decide)
            have e3 : (L.setIfInBounds 12 true).getD 3 false = L.getD 3 false := getD_set_ne false (by decide)
            have e4 : (L.setIfInBounds 12 true).getD 4 false = L.getD 4 false := getD_set_ne false (by decide)
            have e5 : (L.setIfInBounds 12 true).getD 5 false = L.getD 5 false := getD_set_ne false (by decide)
            have e6 : (L.setIfInBounds 12 true).getD 6 false = L.getD 6 false := getD_set_ne false (by decide)
            have e7 : (L.setIfInBounds 12 true).getD 7 false = L.getD 7 false := getD_set_ne false (by decide)
            have e8 : (L.setIfInBounds 12 true).getD 8 false = L.getD 8 false := getD_set_ne false (by decide)
            have e9 : (L.setIfInBounds 12 true).getD 9 false = L.getD 9 false := getD_set_ne false (by decide)
            have e10 : (L.setIfInBounds 12 true).getD 10 false = L.getD 10 false := getD_set_ne false (by decide)
            have e11 : (L.setIfInBounds 12 true).getD 11 false = L.getD 11 false := getD_set_ne false (by decide)
            have e13 : (L.setIfInBounds 12 true).getD 13 false = L.getD 13 false := getD_set_ne false (by decide)
            have e14 : (L.setIfInBounds 12 true).getD 14 false = L.getD 14 false := getD_set_ne false (by decide)
            have e15 : (L.setIfInBounds 12 true).getD 15 false = L.getD 15 false := getD_set_ne false (by decide)
            have e16 : (L.setIfInBounds 12 true).getD 16 false = L.getD 16 false := getD_set_ne false (by decide)
            have e17 : (L.setIfInBounds 12 true).getD 17 false = L.getD 17 false := getD_set_ne false (by decide)
            have e18 : (L.setIfInBounds 12 true).getD 18 false = L.getD 18 false := getD_set_ne false (by decide)
            have e19 : (L.setIfInBounds 12 true).getD 19 false = L.getD 19 false := getD_set_ne false (by decide)
            have e20 : (L.setIfInBounds 12 true).getD 20 false = L.getD 20 false := getD_set_ne false (by decide)
            have e21 : (L.setIfInBounds 12 true).getD 21 false = L.getD 21 false := getD_set_ne false (by decide)
            have e22 : (L.setIfInBounds 12 true).getD 22 false = L.getD 22 false := getD_set_ne false (by decide)
            have e23 : (L.setIfInBounds 12 true).getD 23 false = L.getD 23 false := getD_set_ne false (by decide)
            have e24 : (L.setIfInBounds 12 true).getD 24 false = L.getD 24 false := getD_set_ne false (by decide)
            have e25 : (L.setIfInBounds 12 true).getD 25 false = L.getD 25 false := getD_set_ne false (by decide)
            have e26 : (L.setIfInBounds 12 true).getD 26 false = L.getD 26 false := getD_set_ne false (by decide)
            have e27 : (L.setIfInBounds 12 true).getD 27 false = L.getD 27 false := getD_set_ne false (by decide)
            have e28 : (L.setIfInBounds 12 true).getD 28 false = L.getD 28 false := getD_set_ne false (by decide)
            have e29 : (L.setIfInBounds 12 true).getD 29 false = L.getD 29 false := getD_set_ne false (by decide)
            have e30 : (L.setIfInBounds 12 true).getD 30 false = L.getD 30 false := getD_set_ne false (by decide)
            have e31 : (L.setIfInBounds 12 true).getD 31 false = L.getD 31 false := getD_set_ne false (by decide)
            have e32 : (L.setIfInBounds 12 true).getD 32 false = L.getD 32 false := getD_set_ne false (by decide)
            have e12 : (L.setIfInBounds 12 true).getD 12 false = true := by rw [getD_set_if L 12 12 (by omega), if_pos rfl]
            obtain rfl := i11 l11
            go_simp
            exact ⟨v4, v27, v28, v29, v30, v31, v32, v33, v34, v35, v36, v37, _, _, v40, v41, v42, v43, v44, v45, v46, v47, v48, v49, v50, v51, v52, v53, v54, v55, v56, v57, rfl, by rw [e0]; exact i0, by rw [e1]; exact i1, by rw [e2]; exact i2, by rw [e3]; exact i3, by rw [e4]; exact i4, by rw [e5]; exact i5, by rw [e6]; exact i6, by rw [e7]; exact i7, by rw [e8]; exact i8, by rw [e9]; exact i9, by rw [e10]; exact i10, fun _ => rfl, fun _ => rfl, by rw [e13]; exact i13, by rw [e14]; exact i14, by rw [e15]; exact i15, by rw [e16]; exact i16, by rw [e17]; exact i17, by rw [e18]; exact i18, by rw [e19]; exact i19, by rw [e20]; exact i20, by rw [e21]; exact i21, by rw [e22]; exact i22, by rw [e23]; exact i23, by rw [e24]; exact i24, by rw [e25]; exact i25, by rw [e26]; exact i26, by rw [e27]; exact i27, by rw [e28]; exact i28, by rw [e29]; exact i29, by rw [e30]; exact i30, by rw [e31, e32]; exact ia, by rw [e31, e32]; exact ist, hC, hsz⟩
          · obtain rfl := Option.some.inj ho
            clear ho
            have l12 := hall ⟨12, .data⟩ (by simp) rfl
            clear hall
            refine wpOp_inv (o := _) rfl rfl ?_
            have e0 : (L.setIfInBounds 13 true).getD 0 false = L.getD 0 false := getD_set_ne false (by decide)
            have e1 : (L.setIfInBounds 13 true).getD 1 false = L.getD 1 false := getD_set_ne false (by decide)
            have e2 : (L.setIfInBounds 13 true).getD 2 false = L.getD 2 false := getD_set_ne false (by decide)
            have e3 : (L.setIfInBounds 13 true).getD 3 false = L.getD 3 false := getD_set_ne false (by decide)
            have e4 : (L.setIfInBounds 13 true).getD 4 false = L.getD 4 false := getD_set_ne false (by decide)
            have e5 : (L.setIfInBounds 13 true).getD 5 false = L.getD 5 false := getD_set_ne false (by decide)
            have e6 : (L.setIfInBounds 13 true).getD 6 false = L.getD 6 false := getD_set_ne false (by decide)
            have e7 : (L.setIfInBounds 13 true).getD 7 false = L.getD 7 false := getD_set_ne false (by decide)
            have e8 : (L.setIfInBounds 13 true).getD 8 false = L.getD 8 false := getD_set_ne false (by decide)
            have e9 : (L.setIfInBounds 13 true).getD 9 false = L.getD 9 false := getD_set_ne false (by decide)
            have e10 : (L.setIfInBounds 13 true).getD 10 false = L.getD 10 false := getD_set_ne false (by decide)
            have e11 : (L.setIfInBounds 13 true).getD 11 false = L.getD 11 false := getD_set_ne false (by decide)
            have e12 : (L.setIfInBounds 13 true).getD 12 false = L.getD 12 false := getD_set_ne false (by decide)
            have e14 : (L.setIfInBounds 13 true).getD 14 false = L.getD 14 false := getD_set_ne false (by decide)
            have e15 : (L.setIfInBounds 13 true).getD 15 false = L.getD 15 false := getD_set_ne false (by decide)
            have e16 : (L.setIfInBounds 13 true).getD 16 false = L.getD 16 false := getD_set_ne false (by decide)
            have e17 : (L.setIfInBounds 13 true).getD 17 false = L.getD 17 false := getD_set_ne false (by decide)
            have e18 : (L.setIfInBounds 13 true).getD 18 false = L.getD 18 false := getD_set_ne false (by decide)
            have e19 : (L.setIfInBounds 13 true).getD 19 false = L.getD 19 false := getD_set_ne false (by decide)
            have e20 : (L.setIfInBounds 13 true).getD 20 false = L.getD 20 false := getD_set_ne false (by decide)
            have e21 : (L.setIfInBounds 13 true).getD 21 false = L.getD 21 false := getD_set_ne false (by decide)
            have e22 : (L.setIfInBounds 13 true).getD 22 false = L.getD 22 false := getD_set_ne false (by decide)
            have e23 : (L.setIfInBounds 13 true).getD 23 false = L.getD 23 false := getD_set_ne false (by decide)
            have e24 : (L.setIfInBounds 13 true).getD 24 false = L.getD 24 false := getD_set_ne false (by decide)
            have e25 : (L.setIfInBounds 13 true).getD 25 false = L.getD 25 false := getD_set_ne false (by decide)
            have e26 : (L.setIfInBounds 13 true).getD 26 false = L.getD 26 false := getD_set_ne false (by decide)
            have e27 : (L.setIfInBounds 13 true).getD 27 false = L.getD 27 false := getD_set_ne false (by decide)
            have e28 : (L.setIfInBounds 13 true).getD 28 false = L.getD 28 false := getD_set_ne false (by decide)
            have e29 : (L.setIfInBounds 13 true).getD 29 false = L.getD 29 false := getD_set_ne false (by decide)
            have e30 : (L.setIfInBounds 13 true).getD 30 false = L.getD 30 false := getD_set_ne false (by decide)
            have e31 : (L.setIfInBounds 13 true).getD 31 false = L.getD 31 false := getD_set_ne false (by decide)
            have e32 : (L.setIfInBounds 13 true).getD 32 false = L.getD 32 false := getD_set_ne false (by decide)
            have e13 : (L.setIfInBounds 13 true).getD 13 false = true := by rw [getD_set_if L 13 13 (by omega), if_pos rfl]
            obtain rfl := i12 l12
            go_simp
            exact ⟨v4, v27, v28, v29, v30, v31, v32, v33, v34, v35, v36, v37, v38, _, _, v41, v42, v43, v44, v45, v46, v47, v48, v49, v50, v51, v52, v53, v54, v55, v56, v57, rfl, by rw [e0]; exact i0, by rw [e1]; exact i1, by rw [e2]; exact i2, by rw [e3]; exact i3, by rw [e4]; exact i4, by rw [e5]; exact i5, by rw [e6]; exact i6, by rw [e7]; exact i7, by rw [e8]; exact i8, by rw [e9]; exact i9, by rw [e10]; exact i10, by rw [e11]; exact i11, fun _ => rfl, fun _ => rfl, by rw [e14]; exact i14, by rw [e15]; exact i15, by rw [e16]; exact i16, by rw [e17]; exact i17, by rw [e18]; exact i18, by rw [e19]; exact i19, by rw [e20]; exact i20, by rw [e21]; exact i21, by rw [e22]; exact i22, by rw [e23]; exact i23, by rw [e24]; exact i24, by rw [e25]; exact i25, by rw [e26]; exact i26, by rw [e27]; exact i27, by rw [e28]; exact i28, by rw [e29]; exact i29, by rw [e30]; exact i30, by rw [e31, e32]; exact ia, by rw [e31, e32]; exact ist, hC, hsz⟩
          · obtain rfl := Option.some.inj ho
            clear ho
            clear hall
            refine wpOp_inv (o := _) rfl rfl ?_
            have e0 : (L.setIfInBounds 14 true).getD 0 false = L.getD 0 false := getD_set_ne false (by decide)
            have e1 : (L.setIfInBounds 14 true).getD 1 false = L.getD 1 false := getD_set_ne false (by decide)
            have e2 : (L.setIfInBounds 14 true).getD 2 false = L.getD 2 false := getD_set_ne false (by decide)
            have e3 : (L.setIfInBounds 14 true).getD 3 false = L.getD 3 false := getD_set_ne false (by decide)
            have e4 : (L.setIfInBounds 14 true).getD 4 false = L.getD 4 false := getD_set_ne false (by decide)
            have e5 : (L.setIfInBounds 14 true).getD 5 false = L.getD 5 false := getD_set_ne false (by decide)
            have e6 : (L.setIfInBounds 14 true).getD 6 false = L.getD 6 false := getD_set_ne false (by decide)
            have e7 : (L.setIfInBounds 14 true).getD 7 false = L.getD 7 false := getD_set_ne false (by decide)
            have e8 : (L.setIfInBounds 14 true).getD 8 false = L.getD 8 false := getD_set_ne false (by decide)
            have e9 : (L.setIfInBounds 14 true).getD 9 false = L.getD 9 false := getD_set_ne false (by decide)
            have e10 : (L.setIfInBounds 14 true).getD 10 false = L.getD 10 false := getD_set_ne false (by decide)
            have e11 : (L.setIfInBounds 14 true).getD 11 false = L.getD 11 false := getD_set_ne false (by decide)
            have e12 : (L.setIfInBounds 14 true).getD 12 false = L.getD 12 false := getD_set_ne false (by decide)
            have e13 : (L.setIfInBounds 14 true).getD 13 false = L.getD 13 false := getD_set_ne false (by decide)
            have e15 : (L.setIfInBounds 14 true).getD 15 false = L.getD 15 false := getD_set_ne false (by decide)
            have e16 : (L.setIfInBounds 14 true).getD 16 false = L.getD 16 false := getD_set_ne false (by decide)
            have e17 : (L.setIfInBounds 14 true).getD 17 false = L.getD 17 false := getD_set_ne false (by decide)
            have e18 : (L.setIfInBounds 14 true).getD 18 false = L.getD 18 false := getD_set_ne false (by decide)
            have e19 : (L.setIfInBounds 14 true).getD 19 false = L.getD 19 false := getD_set_ne false (by decide)
            have e20 : (L.setIfInBounds 14 true).getD 20 false = L.getD 20 false := getD_set_ne false (by decide)
            have e21 : (L.setIfInBounds 14 true).getD 21 false = L.getD 21 false := getD_set_ne false (by decide)
            have e22 : (L.setIfInBounds 14 true).getD 22 false = L.getD 22 false := getD_set_ne false (by decide)
            have e23 : (L.setIfInBounds 14 true).getD 23 false = L.getD 23 false := getD_set_ne false (by decide)
            have e24 : (L.setIfInBounds 14 true).getD 24 false = L.getD 24 false := getD_set_ne false (by decide)
            have e25 : (L.setIfInBounds 14 true).getD 25 false = L.getD 25 false := getD_set_ne false (by decide)
            have e26 : (L.setIfInBounds 14 true).getD 26 false = L.getD 26 false := getD_set_ne false (by decide)
            have e27 : (L.setIfInBounds 14 true).getD 27 false = L.getD 27 false := getD_set_ne false (by decide)
            have e28 : (L.setIfInBounds 14 true).getD 28 false = L.getD 28 false := getD_set_ne false (by decide)
            have e29 : (L.setIfInBounds 14 true).getD 29 false = L.getD 29 false := getD_set_ne false (by decide)
            have e30 : (L.setIfInBounds 14 true).getD 30 false = L.getD 30 false := getD_set_ne false (by decide)
            have e31 : (L.setIfInBounds 14 true).getD 31 false = L.getD 31 false := getD_set_ne false (by decide)
            have e32 : (L.setIfInBounds 14 true).getD 32 false = L.getD 32 false := getD_set_ne false (by decide)
            have e14 : (L.setIfInBounds 14 true).getD 14 false = true := by rw [getD_set_if L 14 14 (by omega), if_pos rfl]
            go_simp
            exact ⟨v4, v27, v28, v29, v30, v31, v32, v33, v34, v35, v36, v37, v38, v39, v40, _, v42, v43, v44, v45, v46, v47, v48, v49, v50, v51, v52, v53, v54, v55, v56, v57, rfl, by rw [e0]; exact i0, by rw [e1]; exact i1, by rw [e2]; exact i2, by rw [e3]; exact i3, by rw [e4]; exact i4, by rw [e5]; exact i5, by rw [e6]; exact i6, by rw [e7]; exact i7, by rw [e8]; exact i8, by rw [e9]; exact i9, by rw [e10]; exact i10, by rw [e11]; exact i11, by rw [e12]; exact i12, by rw [e13]; exact i13, fun _ => rfl, by rw [e15]; exact i15, by rw [e16]; exact i16, by rw [e17]; exact i17, by rw [e18]; exact i18, by rw [e19]; exact i19, by rw [e20]; exact i20, by rw [e21]; exact i21, by rw [e22]; exact i22, by rw [e23]; exact i23, by rw [e24]; exact i24, by rw [e25]; exact i25, by rw [e26]; exact i26, by rw [e27]; exact i27, by rw [e28]; exact i28, by rw [e29]; exact i29, by rw [e30]; exact i30, by rw [e31, e32]; exact ia, by rw [e31, e32]; exact ist, hC, hsz⟩
          · obtain rfl := Option.some.inj ho
            clear ho
            have l14 := hall ⟨14, .data⟩ (by simp) rfl
            clear hall
            refine wpOp_inv (o := _) rfl rfl ?_
            have e0 : (L.setIfInBounds 15 true).getD 0 false = L.getD 0 false := getD_set_ne false (by decide)
            have e1 : (L.setIfInBounds 15 true).getD 1 false = L.getD 1 false := getD_set_ne false (by decide)
            have e2 : (L.setIfInBounds 15 true).getD 2 false = L.getD 2 false := getD_set_ne false (by decide)
            have e3 : (L.setIfInBounds 15 true).getD 3 false = L.getD 3 false := getD_set_ne false (by decide)
            have e4 : (L.setIfInBounds 15 true).getD 4 false = L.getD 4 false := getD_set_ne false (by decide)
            have e5 : (L.setIfInBounds 15 true).getD 5 false = L.getD 5 false := getD_set_ne false (by decide)
            have e6 : (L.setIfInBounds 15 true).getD 6 false = L.getD 6 false := getD_set_ne false (by decide)
            have e7 : (L.setIfInBounds 15 true).getD 7 false = L.getD 7 false := getD_set_ne false (by decide)
            have e8 : (L.setIfInBounds 15 true).getD 8 false = L.getD 8 false := getD_set_ne false (by decide)
            have e9 : (L.setIfInBounds 15 true).getD 9 false = L.getD 9 false := getD_set_ne false (by decide)
            have e10 : (L.setIfInBounds 15 true).getD 10 false = L.getD 10 false := getD_set_ne false (by decide)
            have e11 : (L.setIfInBounds 15 true).getD 11 false = L.getD 11 false := getD_set_ne false (by decide)
            have e12 : (L.setIfInBounds 15 true).getD 12 false = L.getD 12 false := getD_set_ne false (by decide)
            have e13 : (L.setIfInBounds 15 true).getD 13 false = L.getD 13 false := getD_set_ne false (by decide)
            have e14 : (L.setIfInBounds 15 true).getD 14 false = L.getD 14 false := getD_set_ne false (by decide)
            have e16 : (L.setIfInBounds 15 true).getD 16 false = L.getD 16 false := getD_set_ne false (by decide)
            have e17 : (L.setIfInBounds 15 true).getD 17 false = L.getD 17 false := getD_set_ne false (by decide)
            have e18 : (L.setIfInBounds 15 true).getD 18 false = L.getD 18 false := getD_set_ne false (by decide)
            have e19 : (L.setIfInBounds 15 true).getD 19 false = L.getD 19 false := getD_set_ne false (by decide)
            have e20 : (L.setIfInBounds 15 true).getD 20 false = L.getD 20 false := getD_set_ne false (by decide)
            have e21 : (L.setIfInBounds 15 true).getD 21 false = L.getD 21 false := getD_set_ne false (by decide)
            have e22 : (L.setIfInBounds 15 true).getD 22 false = L.getD 22 false := getD_set_ne false (by decide)
            have e23 : (L.setIfInBounds 15 true).getD 23 false = L.getD 23 false := getD_set_ne false (by decide)
            have e24 : (L.setIfInBounds 15 true).getD 24 false = L.getD 24 false := getD_set_ne false (by decide)
            have e25 : (L.setIfInBounds 15 true).getD 25 false = L.getD 25 false := getD_set_ne false (by decide)
            have e26 : (L.setIfInBounds 15 true).getD 26 false = L.getD 26 false := getD_set_ne false (by decide)
            have e27 : (L.setIfInBounds 15 true).getD 27 false = L.getD 27 false := getD_set_ne false (by decide)
            have e28 : (L.setIfInBounds 15 true).getD 28 false = L.getD 28 false := getD_set_ne false (by decide)
            have e29 : (L.setIfInBounds 15 true).getD 29 false = L.getD 29 false := getD_set_ne false (by decide)
            have e30 : (L.setIfInBounds 15 true).getD 30 false = L.getD 30 false := getD_set_ne false (by decide)
            have e31 : (L.setIfInBounds 15 true).getD 31 false = L.getD 31 false := getD_set_ne false (by decide)
            have e32 : (L.setIfInBounds 15 true).getD 32 false = L.getD 32 false := getD_set_ne false (by decide)
            have e15 : (L.setIfInBounds 15 true).getD 15 false = true := by rw [getD_set_if L 15 15 (by omega), if_pos rfl]
            obtain rfl := i14 l14
            go_simp
            exact ⟨v4, v27, v28, v29, v30, v31, v32, v33, v34, v35, v36, v37, v38, v39, v40, _, _, v43, v44, v45, v46, v47, v48, v49, v50, v51, v52, v53, v54, v55, v56, v57, rfl, by rw [e0]; exact i0, by rw [e1]; exact i1, by rw [e2]; exact i2, by rw [e3]; exact i3, by rw [e4]; exact i4, by rw [e5]; exact i5, by rw [e6]; exact i6, by rw [e7]; exact i7, by rw [e8]; exact i8, by rw [e9]; exact i9, by rw [e10]; exact i10, by rw [e11]; exact i11, by rw [e12]; exact i12, by rw [e13]; exact i13, fun _ => rfl, fun _ => rfl, by rw [e16]; exact i16, by rw [e17]; exact i17, by rw [e18]; exact i18, by rw [e19]; exact i19, by rw [e20]; exact i20, by rw [e21]; exact i21, by rw [e22]; exact i22, by rw [e23]; exact i23, by rw [e24]; exact i24, by rw [e25]; exact i25, by rw [e26]; exact i26, by rw [e27]; exact i27, by rw [e28]; exact i28, by rw [e29]; exact i29, by rw [e30]; exact i30, by rw [e31, e32]; exact ia, by rw [e31, e32]; exact ist, hC, hsz⟩
          · obtain rfl := Option.some.inj ho
            clear ho
            have l15 := hall ⟨15, .data⟩ (by simp) rfl
            clear hall
            refine wpOp_inv (o := _) rfl rfl ?_
            have e0 : (L.setIfInBounds 16 true).getD 0 false = L.getD 0 false := getD_set_ne false (by decide)
            have e1 : (L.setIfInBounds 16 true).getD 1 false = L.getD 1 false := getD_set_ne false (by decide)
            have e2 : (L.setIfInBounds 16 true).getD 2 false = L.getD 2 false := getD_set_ne false (by decide)
            have e3 : (L.setIfInBounds 16 true).getD 3 false = L.getD 3 false := getD_set_ne false (by decide)
            have e4 : (L.setIfInBounds 16 true).getD 4 false = L.getD 4 false := getD_set_ne false (by decide)
            have e5 : (L.setIfInBounds 16 true).getD 5 false = L.getD 5 false := getD_set_ne false (by decide)
            have e6 : (L.setIfInBounds 16 true).getD 6 false = L.getD 6 false := getD_set_ne false (by decide)
            have e7 : (L.setIfInBounds 16 true).getD 7 false = L.getD 7 false := getD_set_ne false (by decide)
            have e8 : (L.setIfInBounds 16 true).getD 8 false = L.getD 8 false := getD_set_ne false (by decide)
            have e9 : (L.setIfInBounds 16 true).getD 9 false = L.getD 9 false := getD_set_ne false (by decide)
            have e10 : (L.setIfInBounds 16 true).getD 10 false = L.getD 10 false := getD_set_ne false (by decide)
            have e11 : (L.setIfInBounds 16 true).getD 11 false = L.getD 11 false := getD_set_ne false (by decide)
            have e12 : (L.setIfInBounds 16 true).getD 12 false = L.getD 12 false := getD_set_ne false (by decide)
            have e13 : (L.setIfInBounds 16 true).getD 13 false = L.getD 13 false := getD_set_ne false (by decide)
            have e14 : (L.setIfInBounds 16 true).getD 14 false = L.getD 14 false := getD_set_ne false (by decide)
            have e15 : (L.setIfInBounds 16 true).getD 15 false = L.getD 15 false := getD_set_ne false (by decide)
            have e17 : (L.setIfInBounds 16 true).getD 17 false = L.getD 17 false := getD_set_ne false (by decide)
            have e18 : (L.setIfInBounds 16 true).getD 18 false = L.getD 18 false := getD_set_ne false (by decide)
            have e19 : (L.setIfInBounds 16 true).getD 19 false = L.getD 19 false := getD_set_ne false (by decide)
            have e20 : (L.setIfInBounds 16 true).getD 20 false = L.getD 20 false := getD_set_ne false (by decide)
            have e21 : (L.setIfInBounds 16 true).getD 21 false = L.getD 21 false := getD_set_ne false (by decide)
            have e22 : (L.setIfInBounds 16 true).getD 22 false = L.getD 22 false := getD_set_ne false (by decide)
            have e23 : (L.setIfInBounds 16 true).getD 23 false = L.getD 23 false := getD_set_ne false (by decide)
            have e24 : (L.setIfInBounds 16 true).getD 24 false = L.getD 24 false := getD_set_ne false (by decide)
            have e25 : (L.setIfInBounds 16 true).getD 25 false = L.getD 25 false := getD_set_ne false (by decide)
            have e26 : (L.setIfInBounds 16 true).getD 26 false = L.getD 26 false := getD_set_ne false (by decide)
            have e27 : (L.setIfInBounds 16 true).getD 27 false = L.getD 27 false := getD_set_ne false (by decide)
            have e28 : (L.setIfInBounds 16 true).getD 28 false = L.getD 28 false := getD_set_ne false (by decide)
            have e29 : (L.setIfInBounds 16 true).getD 29 false = L.getD 29 false := getD_set_ne false (by decide)
            have e30 : (L.setIfInBounds 16 true).getD 30 false = L.getD 30 false := getD_set_ne false (by decide)
            have e31 : (L.setIfInBounds 16 true).getD 31 false = L.getD 31 false := getD_set_ne false (by decide)
            have e32 : (L.setIfInBounds 16 true).getD 32 false = L.getD 32 false := getD_set_ne false (by decide)
            have e16 : (L.setIfInBounds 16 true).getD 16 false = true := by rw [getD_set_if L 16 16 (by omega), if_pos rfl]
            obtain rfl := i15 l15
            go_simp
            exact ⟨v4, v27, v28, v29, v30, v31, v32, v33, v34, v35, v36, v37, v38, v39, v40, v41, _, _, v44, v45, v46, v47, v48, v49, v50, v51, v52, v53, v54, v55, v56, v57, rfl, by rw [e0]; exact i0, by rw [e1]; exact i1, by rw [e2]; exact i2, by rw [e3]; exact i3, by rw [e4]; exact i4, by rw [e5]; exact i5, by rw [e6]; exact i6, by rw [e7]; exact i7, by rw [e8]; exact i8, by rw [e9]; exact i9, by rw [e10]; exact i10, by rw [e11]; exact i11, by rw [e12]; exact i12, by rw [e13]; exact i13, by rw [e14]; exact i14, fun _ => rfl, fun _ => rfl, by rw [e17]; exact i17, by rw [e18]; exact i18, by rw [e19]; exact i19, by rw [e20]; exact i20, by rw [e21]; exact i21, by rw [e22]; exact i22, by rw [e23]; exact i23, by rw [e24]; exact i24, by rw [e25]; exact i25, by rw [e26]; exact i26, by rw [e27]; exact i27, by rw [e28]; exact i28, by rw [e29]; exact i29, by rw [e30]; exact i30, by rw [e31, e32]; exact ia, by rw [e31, e32]; exact ist, hC, hsz⟩
          · obtain rfl := Option.some.inj ho
            clear ho
            have l16 := hall ⟨16, .data⟩ (by simp) rfl
            clear hall
            refine wpOp_inv (o := _) rfl rfl ?_
            have e0 : (L.setIfInBounds 17 true).getD 0 false = L.getD 0 false := getD_set_ne false (by decide)
            have e1 : (L.setIfInBounds 17 true).getD 1 false = L.getD 1 false := getD_set_ne false (by decide)
            have e2 : (L.setIfInBounds 17 true).getD 2 false = L.getD 2 false := getD_set_ne false (by decide)
            have e3 : (L.setIfInBounds 17 true).getD 3 false = L.getD 3 false := getD_set_ne false (by decide)
            have e4 : (L.setIfInBounds 17 true).getD 4 false = L.getD 4 false := getD_set_ne false (by decide)
            have e5 : (L.setIfInBounds 17 true).getD 5 false = L.getD 5 false := getD_set_ne false (by decide)
            have e6 : (L.setIfInBounds 17 true).getD 6 false = L.getD 6 false := getD_set_ne false (by decide)
            have e7 : (L.setIfInBounds 17 true).getD 7 false = L.getD 7 false := getD_set_ne false (by decide)
            have e8 : (L.setIfInBounds 17 true).getD 8 false = L.getD 8 false := getD_set_ne false (by decide)
            have e9 : (L.setIfInBounds 17 true).getD 9 false = L.getD 9 false := getD_set_ne false (by decide)
            have e10 : (L.setIfInBounds 17 true).getD 10 false = L.getD 10 false := getD_set_ne false (by decide)
            have e11 : (L.setIfInBounds 17 true).getD 11 false = L.getD 11 false := getD_set_ne false (by decide)
            have e12 : (L.setIfInBounds 17 true).getD 12 false = L.getD 12 false := getD_set_ne false (by decide)
            have e13 : (L.setIfInBounds 17 true).getD 13 false = L.getD 13 false := getD_set_ne false (by decide)
            have e14 : (L.setIfInBounds 17 true).getD 14 false = L.getD 14 false := getD_set_ne false (by decide)
            have e15 : (L.setIfInBounds 17 true).getD 15 false = L.getD 15 false := getD_set_ne false (by decide)
            have e16 : (L.setIfInBounds 17 true).getD 16 false = L.getD 16 false := getD_set_ne false (by decide)
            have e18 : (L.setIfInBounds 17 true).getD 18 false = L.getD 18 false := getD_set_ne false (by decide)
            have e19 : (L.setIfInBounds 17 true).getD 19 false = L.getD 19 false := getD_set_ne false (by decide)
            have e20 : (L.setIfInBounds 17 true).getD 20 false = L.getD 20 false := getD_set_ne false (by decide)
            have e21 : (L.setIfInBounds 17 true).getD 21 false = L.getD 21 false := getD_set_ne false (by decide)
            have e22 : (L.setIfInBounds 17 true).getD 22 false = L.getD 22 false := getD_set_ne false (by decide)
            have e23 : (L.setIfInBounds 17 true).getD 23 false = L.getD 23 false := getD_set_ne false (by decide)
            have e24 : (L.setIfInBounds 17 true).getD 24 false = L.getD 24 false := getD_set_ne false (by decide)
            have e25 : (L.setIfInBounds 17 true).getD 25 false = L.getD 25 false := getD_set_ne false (by decide)
            have e26 : (L.setIfInBounds 17 true).getD 26 false = L.getD 26 false := getD_set_ne false (by decide)
            have e27 : (L.setIfInBounds 17 true).getD 27 false = L.getD 27 false := getD_set_ne false (by decide)
            have e28 : (L.setIfInBounds 17 true).getD 28 false = L.getD 28 false := getD_set_ne false (by decide)
            have e29 : (L.setIfInBounds 17 true).getD 29 false = L.getD 29 false := getD_set_ne false (by decide)
            have e30 : (L.setIfInBounds 17 true).getD 30 false = L.getD 30 false := getD_set_ne false (by decide)
            have e31 : (L.setIfInBounds 17 true).getD 31 false = L.getD 31 false := getD_set_ne false (by decide)
            have e32 : (L.setIfInBounds 17 true).getD 32 false = L.getD 32 false := getD_set_ne false (by decide)
            have e17 : (L.setIfInBounds 17 true).getD 17 false = true := by rw [getD_set_if L 17 17 (by omega), if_pos rfl]
            obtain rfl := i16 l16
            go_simp
            exact ⟨v4, v27, v28, v29, v30, v31, v32, v33, v34, v35, v36, v37, v38, v39, v40, v41, v42, _, _, v45, v46, v47, v48, v49, v50, v51, v52, v53, v54, v55, v56, v57, rfl, by rw [e0]; exact i0, by rw [e1]; exact i1, by rw [e2]; exact i2, by rw [e3]; exact i3, by rw [e4]; exact i4, by rw [e5]; exact i5, by rw [e6]; exact i6, by rw [e7]; exact i7, by rw [e8]; exact i8, by rw [e9]; exact i9, by rw [e10]; exact i10, by rw [e11]; exact i11, by rw [e12]; exact i12, by rw [e13]; exact i13, by rw [e14]; exact i14, by rw [e15]; exact i15, fun _ => rfl, fun _ => rfl, by rw [e18]; exact i18, by rw [e19]; exact i19, by rw [e20]; exact i20, by rw [e21]; exact i21, by rw [e22]; exact i22, by rw [e23]; exact i23, by rw [e24]; exact i24, by rw [e25]; exact i25, by rw [e26]; exact i26, by rw [e27]; exact i27, by rw [e28]; exact i28, by rw [e29]; exact i29, by rw [e30]; exact i30, by rw [e31, e32]; exact ia, by rw [e31, e32]; exact ist, hC, hsz⟩
          · obtain rfl := Option.some.inj ho
            clear ho
            clear hall
            refine wpOp_inv (o := _) rfl rfl ?_
            have e0 : (L.setIfInBounds 18 true).getD 0 false = L.getD 0 false := getD_set_ne false (by decide)
            have e1 : (L.setIfInBounds 18 true).getD 1 false = L.getD 1 false := getD_set_ne false (by decide)
            have e2 : (L.setIfInBounds 18 true).getD 2 false = L.getD 2 false := getD_set_ne false (by decide)
            have e3 : (L.setIfInBounds 18 true).getD 3 false = L.getD 3 false := getD_set_ne false (by decide)
            have e4 : (L.setIfInBounds 18 true).getD 4 false = L.getD 4 false := getD_set_ne false (by decide)
            have e5 : (L.setIfInBounds 18 true).getD 5 false = L.getD 5 false := getD_set_ne false (by decide)
            have e6 : (L.setIfInBounds 18 true).getD 6 false = L.getD 6 false := getD_set_ne false (by decide)
            have e7 : (L.setIfInBounds 18 true).getD 7 false = L.getD 7 false := getD_set_ne false (by decide)
            have e8 : (L.setIfInBounds 18 true).getD 8 false = L.getD 8 false := getD_set_ne false (by decide)
            have e9 : (L.setIfInBounds 18 true).getD 9 false = L.getD 9 false := getD_set_ne false (by decide)
            have e10 : (L.setIfInBounds 18 true).getD 10 false = L.getD 10 false := getD_set_ne false (by decide)
            have e11 : (L.setIfInBounds 18 true).getD 11 false = L.getD 11 false := getD_set_ne false (by decide)
            have e12 : (L.setIfInBounds 18 true).getD 12 false = L.getD 12 false := getD_set_ne false (by decide)
            have e13 : (L.setIfInBounds 18 true).getD 13 false = L.getD 13 false := getD_set_ne false (by decide)
            have e14 : (L.setIfInBounds 18 true).getD 14 false = L.getD 14 false := getD_set_ne false (by decide)
            have e15 : (L.setIfInBounds 18 true).getD 15 false = L.getD 15 false := getD_set_ne false (by decide)
            have e16 : (L.setIfInBounds 18 true).getD 16 false = L.getD 16 false := getD_set_ne false (by decide)
            have e17 : (L.setIfInBounds 18 true).getD 17 false = L.getD 17 false := getD_set_ne false (by decide)
            have e19 : (L.setIfInBounds 18 true).getD 19 false = L.getD 19 false := getD_set_ne false (by decide)
            have e20 : (L.setIfInBounds 18 true).getD 20 false = L.getD 20 false := getD_set_ne false (by decide)
            have e21 : (L.setIfInBounds 18 true).getD 21 false = L.getD 21 false := getD_set_ne false (by decide)
            have e22 : (L.setIfInBounds 18 true).getD 22 false = L.getD 22 false := getD_set_ne false (by decide)
            have e23 : (L.setIfInBounds 18 true).getD 23 false = L.getD 23 false := getD_set_ne false (by decide)
            have e24 : (L.setIfInBounds 18 true).getD 24 false = L.getD 24 false := getD_set_ne false (by decide)
            have e25 : (L.setIfInBounds 18 true).getD 25 false = L.getD 25 false := getD_set_ne false (by decide)
            have e26 : (L.setIfInBounds 18 true).getD 26 false = L.getD 26 false := getD_set_ne false (by decide)
            have e27 : (L.setIfInBounds 18 true).getD 27 false = L.getD 27 false := getD_set_ne false (by decide)
            have e28 : (L.setIfInBounds 18 true).getD 28 false = L.getD 28 false := getD_set_ne false (by decide)
            have e29 : (L.setIfInBounds 18 true).getD 29 false = L.getD 29 false := getD_set_ne false (by decide)
            have e30 : (L.setIfInBounds 18 true).getD 30 false = L.getD 30 false := getD_set_ne false (by decide)
            have e31 : (L.setIfInBounds 18 true).getD 31 false = L.getD 31 false := getD_set_ne false (by decide)
            have e32 : (L.setIfInBounds 18 true).getD 32 false = L.getD 32 false := getD_set_ne false (by decide)
            have e18 : (L.setIfInBounds 18 true).getD 18 false = true := by rw [getD_set_if L 18 18 (by omega), if_pos rfl]
            go_simp
            exact ⟨v4, v27, v28, v29, v30, v31, v32, v33, v34, v35, v36, v37, v38, v39, v40, v41, v42, v43, v44, _, v46, v47, v48, v49, v50, v51, v52, v53, v54, v55, v56, v57, rfl, by rw [e0]; exact i0, by rw [e1]; exact i1, by rw [e2]; exact i2, by rw [e3]; exact i3, by rw [e4]; exact i4, by rw [e5]; exact i5, by rw [e6]; exact i6, by rw [e7]; exact i7, by rw [e8]; exact i8, by rw [e9]; exact i9, by rw [e10]; exact i10, by rw [e11]; exact i11, by rw [e12]; exact i12, by rw [e13]; exact i13, by rw [e14]; exact i14, by rw [e15]; exact i15, by rw [e16]; exact i16, by rw [e17]; exact i17, fun _ => rfl, by rw [e19]; exact i19, by rw [e20]; exact i20, by rw [e21]; exact i21, by rw [e22]; exact i22, by rw [e23]; exact i23, by rw [e24]; exact i24, by rw [e25]; exact i25, by rw [e26]; exact i26, by rw [e27]; exact i27, by rw [e28]; exact i28, by rw [e29]; exact i29, by rw [e30]; exact i30, by rw [e31, e32]; exact ia, by rw [e31, e32]; exact ist, hC, hsz⟩
          · obtain rfl := Option.some.inj ho
            clear ho
            have l18 := hall ⟨18, .data⟩ (by simp) rfl
            clear hall
            refine wpOp_inv (o := _) rfl rfl ?_
            have e0 : (L.setIfInBounds 19 true).getD 0 false = L.getD 0 false := getD_set_ne false (by decide)
            have e1 : (L.setIfInBounds 19 true).getD 1 false = L.getD 1 false := getD_set_ne false (by decide)
            have e2 : (L.setIfInBounds 19 true).getD 2 false = L.getD 2 false := getD_set_ne false (by decide)
            have e3 : (L.setIfInBounds 19 true).getD 3 false = L.getD 3 false := getD_set_ne false (by decide)
            have e4 : (L.setIfInBounds 19 true).getD 4 false = L.getD 4 false := getD_set_ne false (by decide)
            have e5 : (L.setIfInBounds 19 true).getD 5 false = L.getD 5 false := getD_set_ne false (by decide)
            have e6 : (L.setIfInBounds 19 true).getD 6 false = L.getD 6 false := getD_set_ne false (by decide)
            have e7 : (L.setIfInBounds 19 true).getD 7 false = L.getD 7 false := getD_set_ne false (by decide)
            have e8 : (L.setIfInBounds 19 true).getD 8 false = L.getD 8 false := getD_set_ne false (by decide)
            have e9 : (L.setIfInBounds 19 true).getD 9 false = L.getD 9 false := getD_set_ne false (by decide)
            have e10 : (L.setIfInBounds 19 true).getD 10 false = L.getD 10 false := getD_set_ne false (by decide)
            have e11 : (L.setIfInBounds 19 true).getD 11 false = L.getD 11 false := getD_set_ne false (by decide)
            have e12 : (L.setIfInBounds 19 true).getD 12 false = L.getD 12 false := getD_set_ne false (by decide)
            have e13 : (L.setIfInBounds 19 true).getD 13 false = L.getD 13 false := getD_set_ne false (by decide)
            have e14 : (L.setIfInBounds 19 true).getD 14 false = L.getD 14 false := getD_set_ne false (by decide)
            have e15 : (L.setIfInBounds 19 true).getD 15 false = L.getD 15 false := getD_set_ne false (by decide)
            have e16 : (L.setIfInBounds 19 true).getD 16 false = L.getD 16 false := getD_set_ne false (by decide)
            have e17 : (L.setIfInBounds 19 true).getD 17 false = L.getD 17 false := getD_set_ne false (by decide)
            have e18 : (L.setIfInBounds 19 true).getD 18 false = L.getD 18 false := getD_set_ne false (by decide)
            have e20 : (L.setIfInBounds 19 true).getD 20 false = L.getD 20 false := getD_set_ne false (by decide)
            have e21 : (L.setIfInBounds 19 true).getD 21 false = L.getD 21 false := getD_set_ne false (by decide)
            have e22 : (L.setIfInBounds 19 true).getD 22 false = L.getD 22 false := getD_set_ne false (by decide)
            have e23 : (L.setIfInBounds 19 true).getD 23 false = L.getD 23 false := getD_set_ne false (by decide)
            have e24 : (L.setIfInBounds 19 true).getD 24 false = L.getD 24 false := getD_set_ne false (by decide)
            have e25 : (L.setIfInBounds 19 true).getD 25 false = L.getD 25 false := getD_set_ne false (by decide)
            have e26 : (L.setIfInBounds 19 true).getD 26 false = L.getD 26 false := getD_set_ne false (by decide)
            have e27 : (L.setIfInBounds 19 true).getD 27 false = L.getD 27 false := getD_set_ne false (by decide)
            have e28 : (L.setIfInBounds 19 true).getD 28 false = L.getD 28 false := getD_set_ne false (by decide)
            have e29 : (L.setIfInBounds 19 true).getD 29 false = L.getD 29 false := getD_set_ne false (by decide)
            have e30 : (L.setIfInBounds 19 true).getD 30 false = L.getD 30 false := getD_set_ne false (by decide)
            have e31 : (L.setIfInBounds 19 true).getD 31 false = L.getD 31 false := getD_set_ne false (by decide)
            have e32 : (L.setIfInBounds 19 true).getD 32 false = L.getD 32 false := getD_set_ne false (by decide)
            have e19 : (L.setIfInBounds 19 true).getD 19 false = true := by rw [getD_set_if L 19 19 (by omega), if_pos rfl]
            obtain rfl := i18 l18
            go_simp
            exact ⟨v4, v27, v28, v29, v30, v31, v32, v33, v34, v35, v36, v37, v38, v39, v40, v41, v42, v43, v44, _, _, v47, v48, v49, v50, v51, v52, v53, v54, v55, v56, v57, rfl, by rw [e0]; exact i0, by rw [e1]; exact i1, by rw [e2]; exact i2, by rw [e3]; exact i3, by rw [e4]; exact i4, by rw [e5]; exact i5, by rw [e6]; exact i6, by rw [e7]; exact i7, by rw [e8]; exact i8, by rw [e9]; exact i9, by rw [e10]; exact i10, by rw [e11]; exact i11, by rw [e12]; exact i12, by rw [e13]; exact i13, by rw [e14]; exact i14, by rw [e15]; exact i15, by rw [e16]; exact i16, by rw [e17]; exact i17, fun _ => rfl, fun _ => rfl, by rw [e20]; exact i20, by rw [e21]; exact i21, by rw [e22]; exact i22, by rw [e23]; exact i23, by rw [e24]; exact i24, by rw [e25]; exact i25, by rw [e26]; exact i26, by rw [e27]; exact i27, by rw [e28]; exact i28, by rw [e29]; exact i29, by rw [e30]; exact i30, by rw [e31, e32]; exact ia, by rw [e31, e32]; exact ist, hC, hsz⟩
          · obtain rfl := Option.some.inj ho
            clear ho
            have l19 := hall ⟨19, .data⟩ (by simp) rfl
            clear hall
            refine wpOp_inv (o := _) rfl rfl ?_
            have e0 : (L.setIfInBounds 20 true).getD 0 false = L.getD 0 false := getD_set_ne false (by decide)
            have e1 : (L.setIfInBounds 20 true).getD 1 false = L.getD 1 false := getD_set_ne false (by decide)
            have e2 : (L.setIfInBounds 20 true).getD 2 false = L.getD 2 false := getD_set_ne false (by decide)
            have e3 : (L.setIfInBounds 20 true).getD 3 false = L.getD 3 false := getD_set_ne false (by decide)
            have e4 : (L.setIfInBounds 20 true).getD 4 false = L.getD 4 false := getD_set_ne false (by decide)
            have e5 : (L.setIfInBounds 20 true).getD 5 false = L.getD 5 false := getD_set_ne false (by decide)
            have e6 : (L.setIfInBounds 20 true).getD 6 false = L.getD 6 false := getD_set_ne false (by decide)
            have e7 : (L.setIfInBounds 20 true).getD 7 false = L.getD 7 false := getD_set_ne false (by decide)
            have e8 : (L.setIfInBounds 20 true).getD 8 false = L.getD 8 false := getD_set_ne false (by decide)
            have e9 : (L.setIfInBounds 20 true).getD 9 false = L.getD 9 false := getD_set_ne false (by decide)
            have e10 : (L.setIfInBounds 20 true).getD 10 false = L.getD 10 false := getD_set_ne false (by decide)
            have e11 : (L.setIfInBounds 20 true).getD 11 false = L.getD 11 false := getD_set_ne false (by decide)
            have e12 : (L.setIfInBounds 20 true).getD 12 false = L.getD 12 false := getD_set_ne false (by decide)
            have e13 : (L.setIfInBounds 20 true).getD 13 false = L.getD 13 false := getD_set_ne false (by decide)
            have e14 : (L.setIfInBounds 20 true).getD 14 false = L.getD 14 false := getD_set_ne false (by decide)
            have e15 : (L.setIfInBounds 20 true).getD 15 false = L.getD 15 false := getD_set_ne false (by decide)
            have e16 : (L.setIfInBounds 20 true).getD 16 false = L.getD 16 false := getD_set_ne false (by decide)
            have e17 : (L.setIfInBounds 20 true).getD 17 false = L.getD 17 false := getD_set_ne false (by decide)
            have e18 : (L.setIfInBounds 20 true).getD 18 false = L.getD 18 false := getD_set_ne false (by decide)
            have e19 : (L.setIfInBounds 20 true).getD 19 false = L.getD 19 false := getD_set_ne false (by decide)
            have e21 : (L.setIfInBounds 20 true).getD 21 false = L.getD 21 false := getD_set_ne false (by decide)
            have e22 : (L.setIfInBounds 20 true).getD 22 false = L.getD 22 false := getD_set_ne false (by decide)
            have e23 : (L.setIfInBounds 20 true).getD 23 false = L.getD 23 false := getD_set_ne false (by decide)
            have e24 : (L.setIfInBounds 20 true).getD 24 false = L.getD 24 false := getD_set_ne false (by decide)
            have e25 : (L.setIfInBounds 20 true).getD 25 false = L.getD 25 false := getD_set_ne false (by decide)
            have e26 : (L.setIfInBounds 20 true).getD 26 false = L.getD 26 false := getD_set_ne false (by decide)
            have e27 : (L.setIfInBounds 20 true).getD 27 false = L.getD 27 false := getD_set_ne false (by decide)
            have e28 : (L.setIfInBounds 20 true).getD 28 false = L.getD 28 false := getD_set_ne false (by decide)
            have e29 : (L.setIfInBounds 20 true).getD 29 false = L.getD 29 false := getD_set_ne false (by decide)
            have e30 : (L.setIfInBounds 20 true).getD 30 false = L.getD 30 false := getD_set_ne false (by decide)
            have e31 : (L.setIfInBounds 20 true).getD 31 false = L.getD 31 false := getD_set_ne false (by decide)
            have e32 : (L.setIfInBounds 20 true).getD 32 false = L.getD 32 false := getD_set_ne false (by decide)
            have e20 : (L.setIfInBounds 20 true).getD 20 false = true := by rw [getD_set_if L 20 20 (by omega), if_pos rfl]
            obtain rfl := i19 l19
            go_simp
            exact ⟨v4, v27, v28, v29, v30, v31, v32, v33, v34, v35, v36, v37, v38, v39, v40, v41, v42, v43, v44, v45, _, _, v48, v49, v50, v51, v52, v53, v54, v55, v56, v57, rfl, by rw [e0]; exact i0, by rw [e1]; exact i1, by rw [e2]; exact i2, by rw [e3]; exact i3, by rw [e4]; exact i4, by rw [e5]; exact i5, by rw [e6]; exact i6, by rw [e7]; exact i7, by rw [e8]; exact i8, by rw [e9]; exact i9, by rw [e10]; exact i10, by rw [e11]; exact i11, by rw [e12]; exact i12, by rw [e13]; exact i13, by rw [e14]; exact i14, by rw [e15]; exact i15, by rw [e16]; exact i16, by rw [e17]; exact i17, by rw [e18]; exact i18, fun _ => rfl, fun _ => rfl, by rw [e21]; exact i21, by rw [e22]; exact i22, by rw [e23]; exact i23, by rw [e24]; exact i24, by rw [e25]; exact i25, by rw [e26]; exact i26, by rw [e27]; exact i27, by rw [e28]; exact i28, by rw [e29]; exact i29, by rw [e30]; exact i30, by rw [e31, e32]; exact ia, by rw [e31, e32]; exact ist, hC, hsz⟩
          · obtain rfl := Option.some.inj ho
            clear ho
            clear hall
            refine wpOp_inv (o := _) rfl rfl ?_
            have e0 : (L.setIfInBounds 21 true).getD 0 false = L.getD 0 false := getD_set_ne false (by decide)
            have e1 : (L.setIfInBounds 21 true).getD 1 false = L.getD 1 false := getD_set_ne false (by decide)
            have e2 : (L.setIfInBounds 21 true).getD 2 false = L.getD 2 false := getD_set_ne false (by decide)
            have e3 : (L.setIfInBounds 21 true).getD 3 false = L.getD 3 false := getD_set_ne false (by decide)
            have e4 : (L.setIfInBounds 21 true).getD 4 false = L.getD 4 false := getD_set_ne false (by decide)
            have e5 : (L.setIfInBounds 21 true).getD 5 false = L.getD 5 false := getD_set_ne false (by decide)
            have e6 : (L.setIfInBounds 21 true).getD 6 false = L.getD 6 false := getD_set_ne false (by decide)
            have e7 : (L.setIfInBounds 21 true).getD 7 false = L.getD 7 false := getD_set_ne false (by decide)
            have e8 : (L.setIfInBounds 21 true).getD 8 false = L.getD 8 false := getD_set_ne false (by decide)
            have e9 : (L.setIfInBounds 21 true).getD 9 false = L.getD 9 false := getD_set_ne false (by decide)
            have e10 : (L.setIfInBounds 21 true).getD 10 false = L.getD 10 false := getD_set_ne false (by decide)
            have e11 : (L.setIfInBounds 21 true).getD 11 false = L.getD 11 false := getD_set_ne false (by decide)
            have e12 : (L.setIfInBounds 21 true).getD 12 false = L.getD 12 false := getD_set_ne false (by decide)
            have e13 : (L.setIfInBounds 21 true).getD 13 false = L.getD 13 false := getD_set_ne false (by decide)
            have e14 : (L.setIfInBounds 21 true).getD 14 false = L.getD 14 false := getD_set_ne false (by decide)
            have e15 : (L.setIfInBounds 21 true).getD 15 false = L.getD 15 false := getD_set_ne false (by decide)
            have e16 : (L.setIfInBounds 21 true).getD 16 false = L.getD 16 false := getD_set_ne false (by decide)
            have e17 : (L.setIfInBounds 21 true).getD 17 false = L.getD 17 false := getD_set_ne false (by decide)
            have e18 : (L.setIfInBounds 21 true).getD 18 false = L.getD 18 false := getD_set_ne false (by decide)
            have e19 : (L.setIfInBounds 21 true).getD 19 false = L.getD 19 false := getD_set_ne false (by decide)
            have e20 : (L.setIfInBounds 21 true).getD 20 false = L.getD 20 false := getD_set_ne false (by decide)
            have e22 : (L.setIfInBounds 21 true).getD 22 false = L.getD 22 false := getD_set_ne false (by decide)
            have e23 : (L.setIfInBounds 21 true).getD 23 false = L.getD 23 false := getD_set_ne false (by decide)
            have e24 : (L.setIfInBounds 21 true).getD 24 false = L.getD 24 false := getD_set_ne false (by decide)
            have e25 : (L.setIfInBounds 21 true).getD 25 false = L.getD 25 false := getD_set_ne false (by decide)
            have e26 : (L.setIfInBounds 21 true).getD 26 false = L.getD 26 false := getD_set_ne false (by decide)
            have e27 : (L.setIfInBounds 21 true).getD 27 false = L.getD 27 false := getD_set_ne false (by decide)
            have e28 : (L.setIfInBounds 21 true).getD 28 false = L.getD 28 false := getD_set_ne false (by decide)
            have e29 : (L.setIfInBounds 21 true).getD 29 false = L.getD 29 false := getD_set_ne false (by decide)
            have e30 : (L.setIfInBounds 21 true).getD 30 false = L.getD 30 false := getD_set_ne false (by decide)
            have e31 : (L.setIfInBounds 21 true).getD 31 false = L.getD 31 false := getD_set_ne false (by decide)
            have e32 : (L.setIfInBounds 21 true).getD 32 false = L.getD 32 false := getD_set_ne false (by decide)
            have e21 : (L.setIfInBounds 21 true).getD 21 false = true := by rw [getD_set_if L 21 21 (by omega), if_pos rfl]
            go_simp
            exact ⟨v4, v27, v28, v29, v30, v31, v32, v33, v34, v35, v36, v37, v38, v39, v40, v41, v42, v43, v44, v45, v46, v47, _, v49, v50, v51, v52, v53, v54, v55, v56, v57, rfl, by rw [e0]; exact i0, by rw [e1]; exact i1, by rw [e2]; exact i2, by rw [e3]; exact i3, by rw [e4]; exact i4, by rw [e5]; exact i5, by rw [e6]; exact i6, by rw [e7]; exact i7, by rw [e8]; exact i8, by rw [e9]; exact i9, by rw [e10]; exact i10, by rw [e11]; exact i11, by rw [e12]; exact i12, by rw [e13]; exact i13, by rw [e14]; exact i14, by rw [e15]; exact i15, by rw [e16]; exact i16, by rw [e17]; exact i17, by rw [e18]; exact i18, by rw [e19]; exact i19, by rw [e20]; exact i20, fun _ => rfl, by rw [e22]; exact i22, by rw [e23]; exact i23, by rw [e24]; exact i24, by rw [e25]; exact i25, by rw [e26]; exact i26, by rw [e27]; exact i27, by rw [e28]; exact i28, by rw [e29]; exact i29, by rw [e30]; exact i30, by rw [e31, e32]; exact ia, by rw [e31, e32]; exact ist, hC, hsz⟩
          · obtain rfl := Option.some.inj ho
            clear ho
            have l21 := hall ⟨21, .data⟩ (by simp) rfl
            clear hall
            refine wpOp_inv (o := _) rfl rfl ?_
            have e0 : (L.setIfInBounds 22 true).getD 0 false = L.getD 0 false := getD_set_ne false (by decide)
            have e1 : (L.setIfInBounds 22 true).getD 1 false = L.getD 1 false := getD_set_ne false (by decide)
            have e2 : (L.setIfInBounds 22 true).getD 2 false = L.getD 2 false := getD_set_ne false (by decide)
            have e3 : (L.setIfInBounds 22 true).getD 3 false = L.getD 3 false := getD_set_ne false (by decide)
            have e4 : (L.setIfInBounds 22 true).getD 4 false = L.getD 4 false := getD_set_ne false (by decide)
            have e5 : (L.setIfInBounds 22 true).getD 5 false = L.getD 5 false := getD_set_ne false (by decide)
            have e6 : (L.setIfInBounds 22 true).getD 6 false = L.getD 6 false := getD_set_ne false (by decide)
            have e7 : (L.setIfInBounds 22 true).getD 7 false = L.getD 7 false := getD_set_ne false (by decide)
            have e8 : (L.setIfInBounds 22 true).getD 8 false = L.getD 8 false := getD_set_ne false (by decide)
            have e9 : (L.setIfInBounds 22 true).getD 9 false = L.getD 9 false := getD_set_ne false (by decide)
            have e10 : (L.setIfInBounds 22 true).getD 10 false = L.getD 10 false := getD_set_ne false (by decide)
            have e11 : (L.setIfInBounds 22 true).getD 11 false = L.getD 11 false := getD_set_ne false (by decide)
            have e12 : (L.setIfInBounds 22 true).getD 12 false = L.getD 12 false := getD_set_ne false (by decide)
            have e13 : (L.setIfInBounds 22 true).getD 13 false = L.getD 13 false := getD_set_ne false (by decide)
            have e14 : (L.setIfInBounds 22 true).getD 14 false = L.getD 14 false := getD_set_ne false (by decide)
            have e15 : (L.setIfInBounds 22 true).getD 15 false = L.getD 15 false := getD_set_ne false (by decide)
            have e16 : (L.setIfInBounds 22 true).getD 16 false = L.getD 16 false := getD_set_ne false (by decide)
            have e17 : (L.setIfInBounds 22 true).getD 17 false = L.getD 17 false := getD_set_ne false (by decide)
            have e18 : (L.setIfInBounds 22 true).getD 18 false = L.getD 18 false := getD_set_ne false (by decide)
            have e19 : (L.setIfInBounds 22 true).getD 19 false = L.getD 19 false := getD_set_ne false (by decide)
            have e20 : (L.setIfInBounds 22 true).getD 20 false = L.getD 20 false := getD_set_ne false (by decide)
            have e21 : (L.setIfInBounds 22 true).getD 21 false = L.getD 21 false := getD_set_ne false (by decide)
            have e23 : (L.setIfInBounds 22 true).getD 23 false = L.getD 23 false := getD_set_ne false (by decide)
            have e24 : (L.setIfInBounds 22 true).getD 24 false = L.getD 24 false := getD_set_ne false (by decide)
            have e25 : (L.setIfInBounds 22 true).getD 25 false = L.getD 25 false := getD_set_ne false (by decide)
            have e26 : (L.setIfInBounds 22 true).getD 26 false = L.getD 26 false := getD_set_ne false (by decide)
            have e27 : (L.setIfInBounds 22 true).getD 27 false = L.getD 27 false := getD_set_ne false (by decide)
            have e28 : (L.setIfInBounds 22 true).getD 28 false = L.getD 28 false := getD_set_ne false (by decide)
            have e29 : (L.setIfInBounds 22 true).getD 29 false = L.getD 29 false := getD_set_ne false (by decide)
            have e30 : (L.setIfInBounds 22 true).getD 30 false = L.getD 30 false := getD_set_ne false (by decide)
            have e31 : (L.setIfInBounds 22 true).getD 31 false = L.getD 31 false := getD_set_ne false (by decide)
            have e32 : (L.setIfInBounds 22 true).getD 32 false = L.getD 32 false := getD_set_ne false (by decide)
            have e22 : (L.setIfInBounds 22 true).getD 22 false = true := by rw [getD_set_if L 22 22 (by omega), if_pos rfl]
            obtain rfl := i21 l21
            go_simp
            exact ⟨v4, v27, v28, v29, v30, v31, v32, v33, v34, v35, v36, v37, v38, v39, v40, v41, v42, v43, v44, v45, v46, v47, _, _, v50, v51, v52, v53, v54, v55, v56, v57, rfl, by rw [e0]; exact i0, by rw [e1]; exact i1, by rw [e2]; exact i2, by rw [e3]; exact i3, by rw [e4]; exact i4, by rw [e5]; exact i5, by rw [e6]; exact i6, by rw [e7]; exact i7, by rw [e8]; exact i8, by rw [e9]; exact i9, by rw [e10]; exact i10, by rw [e11]; exact i11, by rw [e12]; exact i12, by rw [e13]; exact i13, by rw [e14]; exact i14, by rw [e15]; exact i15, by rw [e16]; exact i16, by rw [e17]; exact i17, by rw [e18]; exact i18, by rw [e19]; exact i19, by rw [e20]; exact i20, fun _ => rfl, fun _ => rfl, by rw [e23]; exact i23, by rw [e24]; exact i24, by rw [e25]; exact i25, by rw [e26]; exact i26, by rw [e27]; exact i27, by rw [e28]; exact i28, by rw [e29]; exact i29, by rw [e30]; exact i30, by rw [e31, e32]; exact ia, by rw [e31, e32]; exact ist, hC, hsz⟩
          · obtain rfl := Option.some.inj ho
            clear ho
            have l22 := hall ⟨22, .data⟩ (by simp) rfl
            clear hall
            refine wpOp_inv (o := _) rfl rfl ?_
            have e0 : (L.setIfInBounds 23 true).getD 0 false = L.getD 0 false := getD_set_ne false (by decide)
            have e1 : (L.setIfInBounds 23 true).getD 1 false = L.getD 1 false := getD_set_ne false (by decide)
            have e2 : (L.setIfInBounds 23 true).getD 2 false = L.getD 2 false := getD_set_ne false (by decide)
            have e3 : (L.setIfInBounds 23 true).getD 3 false = L.getD 3 false := getD_set_ne false (by decide)
            have e4 : (L.setIfInBounds 23 true).getD 4 false = L.getD 4 false := getD_set_ne false (by decide)
            have e5 : (L.setIfInBounds 23 true).getD 5 false = L.getD 5 false := getD_set_ne false (by decide)
            have e6 : (L.setIfInBounds 23 true).getD 6 false = L.getD 6 false := getD_set_ne false (by decide)
            have e7 : (L.setIfInBounds 23 true).getD 7 false = L.getD 7 false := getD_set_ne false (by decide)
            have e8 : (L.setIfInBounds 23 true).getD 8 false = L.getD 8 false := getD_set_ne false (by decide)
            have e9 : (L.setIfInBounds 23 true).getD 9 false = L.getD 9 false := getD_set_ne false (by decide)
            have e10 : (L.setIfInBounds 23 true).getD 10 false = L.getD 10 false := getD_set_ne false (by decide)
            have e11 : (L.setIfInBounds 23 true).getD 11 false = L.getD 11 false := getD_set_ne false (by decide)
            have e12 : (L.setIfInBounds 23 true).getD 12 false = L.getD 12 false := getD_set_ne false (by decide)
            have e13 : (L.setIfInBounds 23 true).getD 13 false = L.getD 13 false := getD_set_ne false (by decide)
            have e14 : (L.setIfInBounds 23 true).getD 14 false = L.getD 14 false := getD_set_ne false (by decide)
            have e15 : (L.setIfInBounds 23 true).getD 15 false = L.getD 15 false := getD_set_ne false (by decide)
            have e16 : (L.setIfInBounds 23 true).getD 16 false = L.getD 16 false := getD_set_ne false (by decide)
            have e17 : (L.setIfInBounds 23 true).getD 17 false = L.getD 17 false := getD_set_ne false (by decide)
            have e18 : (L.setIfInBounds 23 true).getD 18 false = L.getD 18 false := getD_set_ne false (by decide)
            have e19 : (L.setIfInBounds 23 true).getD 19 false = L.getD 19 false := getD_set_ne false (by decide)
            have e20 : (L.setIfInBounds 23 true).getD 20 false = L.getD 20 false := getD_set_ne false (by decide)
            have e21 : (L.setIfInBounds 23 true).getD 21 false = L.getD 21 false := getD_set_ne false (by decide)
            have e22 : (L.setIfInBounds 23 true).getD 22 false = L.getD 22 false := getD_set_ne false (by decide)
            have e24 : (L.setIfInBounds 23 true).getD 24 false = L.getD 24 false := getD_set_ne false (by decide)
            have e25 : (L.setIfInBounds 23 true).getD 25 false = L.getD 25 false := getD_set_ne false (by decide)
            have e26 : (L.setIfInBounds 23 true).getD 26 false = L.getD 26 false := getD_set_ne false (by decide)
            have e27 : (L.setIfInBounds 23 true).getD 27 false = L.getD 27 false := getD_set_ne false (by decide)
            have e28 : (L.setIfInBounds 23 true).getD 28 false = L.getD 28 false := getD_set_ne false (by decide)
            have e29 : (L.setIfInBounds 23 true).getD 29 false = L.getD 29 false := getD_set_ne false (by decide)
            have e30 : (L.setIfInBounds 23 true).getD 30 false = L.getD 30 false := getD_set_ne false (by decide)
            have e31 : (L.setIfInBounds 23 true).getD 31 false = L.getD 31 false := getD_set_ne false (by decide)
            have e32 : (L.setIfInBounds 23 true).getD 32 false = L.getD 32 false := getD_set_ne false (by decide)
            have e23 : (L.setIfInBounds 23 true).getD 23 false = true := by rw [getD_set_if L 23 23 (by omega), if_pos rfl]
            obtain rfl := i22 l22
            go_simp
            exact ⟨v4, v27, v28, v29, v30, v31, v32, v33, v34, v35, v36, v37, v38, v39, v40, v41, v42, v43, v44, v45, v46, v47, v48, _, _, v51, v52, v53, v54, v55, v56, v57, rfl, by rw [e0]; exact i0, by rw [e1]; exact i1, by rw [e2]; exact i2, by rw [e3]; exact i3, by rw [e4]; exact i4, by rw [e5]; exact i5, by rw [e6]; exact i6, by rw [e7]; exact i7, by rw [e8]; exact i8, by rw [e9]; exact i9, by rw [e10]; exact i10, by rw [e11]; exact i11, by rw [e12]; exact i12, by rw [e13]; exact i13, by rw [e14]; exact i14, by rw [e15]; exact i15, by rw [e16]; exact i16, by rw [e17]; exact i17, by rw [e18]; exact i18, by rw [e19]; exact i19, by rw [e20]; exact i20, by rw [e21]; exact i21, fun _ => rfl, fun _ => rfl, by rw [e24]; exact i24, by rw [e25]; exact i25, by rw [e26]; exact i26, by rw [e27]; exact i27, by rw [e28]; exact i28, by rw [e29]; exact i29, by rw [e30]; exact i30, by rw [e31, e32]; exact ia, by rw [e31, e32]; exact ist, hC, hsz⟩
          · obtain rfl := Option.some.inj ho
            clear ho
            clear hall
            refine wpOp_inv (o := _) rfl rfl ?_
            have e0 : (L.setIfInBounds 24 true).getD 0 false = L.getD 0 false := getD_set_ne false (by decide)
            have e1 : (L.setIfInBounds 24 true).getD 1 false = L.getD 1 false := getD_set_ne false (by decide)
            have e2 : (L.setIfInBounds 24 true).getD 2 false = L.getD 2 false := getD_set_ne false (by decide)
            have e3 : (L.setIfInBounds 24 true).getD 3 false = L.getD 3 false := getD_set_ne false (by decide)
            have e4 : (L.setIfInBounds 24 true).getD 4 false = L.getD 4 false := getD_set_ne false (by decide)
            have e5 : (L.setIfInBounds 24 true).getD 5 false = L.getD 5 false := getD_set_ne false (by decide)
            have e6 : (L.setIfInBounds 24 true).getD 6 false = L.getD 6 false := getD_set_ne false (by decide)
            have e7 : (L.setIfInBounds 24 true).getD 7 false = L.getD 7 false := getD_set_ne false (by decide)
            have e8 : (L.setIfInBounds 24 true).getD 8 false = L.getD 8 false := getD_set_ne false (by decide)
            have e9 : (L.setIfInBounds 24 true).getD 9 false = L.getD 9 false := getD_set_ne false (by decide)
            have e10 : (L.setIfInBounds 24 true).getD 10 false = L.getD 10 false := getD_set_ne false (by decide)
            have e11 : (L.setIfInBounds 24 true).getD 11 false = L.getD 11 false := getD_set_ne false (by decide)
            have e12 : (L.setIfInBounds 24 true).getD 12 false = L.getD 12 false := getD_set_ne false (by decide)
            have e13 : (L.setIfInBounds 24 true).getD 13 false = L.getD 13 false := getD_set_ne false (by decide)
            have e14 : (L.setIfInBounds 24 true).getD 14 false = L.getD 14 false := getD_set_ne false (by decide)
            have e15 : (L.setIfInBounds 24 true).getD 15 false = L.getD 15 false := getD_set_ne false (by decide)
            have e16 : (L.setIfInBounds 24 true).getD 16 false = L.getD 16 false := getD_set_ne false (by decide)
            have e17 : (L.setIfInBounds 24 true).getD 17 false = L.getD 17 false := getD_set_ne false (by decide)
            have e18 : (L.setIfInBounds 24 true).getD 18 false = L.getD 18 false := getD_set_ne false (by decide)
            have e19 : (L.setIfInBounds 24 true).getD 19 false = L.getD 19 false := getD_set_ne false (by decide)
            have e20 : (L.setIfInBounds 24 true).getD 20 false = L.getD 20 false := getD_set_ne false (by decide)
            have e21 : (L.setIfInBounds 24 true).getD 21 false = L.getD 21 false := getD_set_ne false (by decide)
            have e22 : (L.setIfInBounds 24 true).getD 22 false = L.getD 22 false := getD_set_ne false (by decide)
            have e23 : (L.setIfInBounds 24 true).getD 23 false = L.getD 23 false := getD_set_ne false (by decide)
            have e25 : (L.setIfInBounds 24 true).getD 25 false = L.getD 25 false := getD_set_ne false (by decide)
            have e26 : (L.setIfInBounds 24 true).getD 26 false = L.getD 26 false := getD_set_ne false (by decide)
            have e27 : (L.setIfInBounds 24 true).getD 27 false = L.getD 27 false := getD_set_ne false (by decide)
            have e28 : (L.setIfInBounds 24 true).getD 28 false = L.getD 28 false := getD_set_ne false (by decide)
            have e29 : (L.setIfInBounds 24 true).getD 29 false = L.getD 29 false := getD_set_ne false (by decide)
            have e30 : (L.setIfInBounds 24 true).getD 30 false = L.getD 30 false := getD_set_ne false (by decide)
            have e31 : (L.setIfInBounds 24 true).getD 31 false = L.getD 31 false := getD_set_ne false (by decide)
            have e32 : (L.setIfInBounds 24 true).getD 32 false = L.getD 32 false := getD_set_ne false (by decide)
            have e24 : (L.setIfInBounds 24 true).getD 24 false = true := by rw [getD_set_if L 24 24 (by omega), if_pos rfl]
            go_simp
            exact ⟨v4, v27, v28, v29, v30, v31, v32, v33, v34, v35, v36, v37, v38, v39, v40, v41, v42, v43, v44, v45, v46, v47, v48, v49, v50, _, v52, v53, v54, v55, v56, v57, rfl, by rw [e0]; exact i0, by rw [e1]; exact i1, by rw [e2]; exact i2, by rw [e3]; exact i3, by rw [e4]; exact i4, by rw [e5]; exact i5, by rw [e6]; exact i6, by rw [e7]; exact i7, by rw [e8]; exact i8, by rw [e9]; exact i9, by rw [e10]; exact i10, by rw [e11]; exact i11, by rw [e12]; exact i12, by rw [e13]; exact i13, by rw [e14]; exact i14, by rw [e15]; exact i15, by rw [e16]; exact i16, by rw [e17]; exact i17, by rw [e18]; exact i18, by rw [e19]; exact i19, by rw [e20]; exact i20, by rw [e21]; exact i21, by rw [e22]; exact i22, by rw [e23]; exact i23, fun _ => rfl, by rw [e25]; exact i25, by rw [e26]; exact i26, by rw [e27]; exact i27, by rw [e28]; exact i28, by rw [e29]; exact i29, by rw [e30]; exact i30, by rw [e31, e32]; exact ia, by rw [e31, e32]; exact ist, hC, hsz⟩
          · obtain rfl := Option.some.inj ho
            clear ho
            have l24 := hall ⟨24, .data⟩ (by simp) rfl
            clear hall
            refine wpOp_inv (o := _) rfl rfl ?_
            have e0 : (L.setIfInBounds 25 true).getD 0 false = L.getD 0 false := getD_set_ne false (by decide)
            have e1 : (L.setIfInBounds 25 true).getD 1 false = L.getD 1 false := getD_set_ne false (by decide)
            have e2 : (L.setIfInBounds 25 true).getD 2 false = L.getD 2 false := getD_set_ne false (by decide)
            have e3 : (L.setIfInBounds 25 true).getD 3 false = L.getD 3 false := getD_set_ne false (by decide)
            have e4 : (L.setIfInBounds 25 true).getD 4 false = L.getD 4 false := getD_set_ne false (by decide)
            have e5 : (L.setIfInBounds 25 true).getD 5 false = L.getD 5 false := getD_set_ne false (by decide)
            have e6 : (L.setIfInBounds 25 true).getD 6 false = L.getD 6 false := getD_set_ne false (by decide)
            have e7 : (L.setIfInBounds 25 true).getD 7 false = L.getD 7 false := getD_set_ne false (by decide)
            have e8 : (L.setIfInBounds 25 true).getD 8 false = L.getD 8 false := getD_set_ne false (by decide)
            have e9 : (L.setIfInBounds 25 true).getD 9 false = L.getD 9 false := getD_set_ne false (by decide)
            have e10 : (L.setIfInBounds 25 true).getD 10 false = L.getD 10 false := getD_set_ne false (by decide)
            have e11 : (L.setIfInBounds 25 true).getD 11 false = L.getD 11 false := getD_set_ne false (by decide)
            have e12 : (L.setIfInBounds 25 true).getD 12 false = L.getD 12 false := getD_set_ne false (by decide)
            have e13 : (L.setIfInBounds 25 true).getD 13 false = L.getD 13 false := getD_set_ne false (by decide)
            have e14 : (L.setIfInBounds 25 true).getD 14 false = L.getD 14 false := getD_set_ne false (by decide)
            have e15 : (L.setIfInBounds 25 true).getD 15 false = L.getD 15 false := getD_set_ne false (by decide)
            have e16 : (L.setIfInBounds 25 true).getD 16 false = L.getD 16 false := getD_set_ne false (by decide)
            have e17 : (L.setIfInBounds 25 true).getD 17 false = L.getD 17 false := getD_set_ne false (by decide)
            have e18 : (L.setIfInBounds 25 true).getD 18 false = L.getD 18 false := getD_set_ne false (by decide)
            have e19 : (L.setIfInBounds 25 true).getD 19 false = L.getD 19 false := getD_set_ne false (by decide)
            have e20 : (L.setIfInBounds 25 true).getD 20 false = L.getD 20 false := getD_set_ne false (by decide)
            have e21 : (L.setIfInBounds 25 true).getD 21 false = L.getD 21 false := getD_set_ne false (by decide)
            have e22 : (L.setIfInBounds 25 true).getD 22 false = L.getD 22 false := getD_set_ne false (by decide)
            have e23 : (L.setIfInBounds 25 true).getD 23 false = L.getD 23 false := getD_set_ne false (by decide)
            have e24 : (L.setIfInBounds 25 true).getD 24 false = L.getD 24 false := getD_set_ne false (by decide)
            have e26 : (L.setIfInBounds 25 true).getD 26 false = L.getD 26 false := getD_set_ne false (by decide)
            have e27 : (L.setIfInBounds 25 true).getD 27 false = L.getD 27 false := getD_set_ne false (by decide)
            have e28 : (L.setIfInBounds 25 true).getD 28 false = L.getD 28 false := getD_set_ne false (by decide)
            have e29 : (L.setIfInBounds 25 true).getD 29 false = L.getD 29 false := getD_set_ne false (by decide)
            have e30 : (L.setIfInBounds 25 true).getD 30 false = L.getD 30 false := getD_set_ne false (by decide)
            have e31 : (L.setIfInBounds 25 true).getD 31 false = L.getD 31 false := getD_set_ne false (by decide)
            have e32 : (L.setIfInBounds 25 true).getD 32 false = L.getD 32 false := getD_set_ne false (by decide)
            have e25 : (L.setIfInBounds 25 true).getD 25 false = true := by rw [getD_set_if L 25 25 (by omega), if_pos rfl]
            obtain rfl := i24 l24
            go_simp
            exact ⟨v4, v27, v28, v29, v30, v31, v32, v33, v34, v35, v36, v37, v38, v39, v40, v41, v42, v43, v44, v45, v46, v47, v48, v49, v50, _, _, v53, v54, v55, v56, v57, rfl, by rw [e0]; exact i0, by rw [e1]; exact i1, by rw [e2]; exact i2, by rw [e3]; exact i3, by rw [e4]; exact i4, by rw [e5]; exact i5, by rw [e6]; exact i6, by rw [e7]; exact i7, by rw [e8]; exact i8, by rw [e9]; exact i9, by rw [e10]; exact i10, by rw [e11]; exact i11, by rw [e12]; exact i12, by rw [e13]; exact i13, by rw [e14]; exact i14, by rw [e15]; exact i15, by rw [e16]; exact i16, by rw [e17]; exact i17, by rw [e18]; exact i18, by rw [e19]; exact i19, by rw [e20]; exact i20, by rw [e21]; exact i21, by rw [e22]; exact i22, by rw [e23]; exact i23, fun _ => rfl, fun _ => rfl, by rw [e26]; exact i26, by rw [e27]; exact i27, by rw [e28]; exact i28, by rw [e29]; exact i29, by rw [e30]; exact i30, by rw [e31, e32]; exact ia, by rw [e31, e32]; exact ist, hC, hsz⟩
          · obtain rfl := Option.some.inj ho
            clear ho
            have l25 := hall ⟨25, .data⟩ (by simp) rfl
            clear hall
            refine wpOp_inv (o := _) rfl rfl ?_
            have e0 : (L.setIfInBounds 26 true).getD 0 false = L.getD 0 false := getD_set_ne false (by decide)
            have e1 : (L.setIfInBounds 26 true).getD 1 false = L.getD 1 false := getD_set_ne false (by decide)
            have e2 : (L.setIfInBounds 26 true).getD 2 false = L.getD 2 false := getD_set_ne false (by decide)
            have e3 : (L.setIfInBounds 26 true).getD 3 false = L.getD 3 false := getD_set_ne false (by decide)
            have e4 : (L.setIfInBounds 26 true).getD 4 false = L.getD 4 false := getD_set_ne false (by decide)
            have e5 : (L.setIfInBounds 26 true).getD 5 false = L.getD 5 false := getD_set_ne false (by decide)
            have e6 : (L.setIfInBounds 26 true).getD 6 false = L.getD 6 false := getD_set_ne false (by decide)
            have e7 : (L.setIfInBounds 26 true).getD 7 false = L.getD 7 false := getD_set_ne false (by decide)
            have e8 : (L.setIfInBounds 26 true).getD 8 false = L.getD 8 false := getD_set_ne false (by decide)
            have e9 : (L.setIfInBounds 26 true).getD 9 false = L.getD 9 false := getD_set_ne false (by decide)
            have e10 : (L.setIfInBounds 26 true).getD 10 false = L.getD 10 false := getD_set_ne false (by decide)
            have e11 : (L.setIfInBounds 26 true).getD 11 false = L.getD 11 false := getD_set_ne false (by decide)
            have e12 : (L.setIfInBounds 26 true).getD 12 false = L.getD 12 false := getD_set_ne false (by decide)
            have e13 : (L.setIfInBounds 26 true).getD 13 false = L.getD 13 false := getD_set_ne false (by decide)
            have e14 : (L.setIfInBounds 26 true).getD 14 false = L.getD 14 false := getD_set_ne false (by decide)
            have e15 : (L.setIfInBounds 26 true).getD 15 false = L.getD 15 false := getD_set_ne false (by decide)
            have e16 : (L.setIfInBounds 26 true).getD 16 false = L.getD 16 false := getD_set_ne false (by decide)
            have e17 : (L.setIfInBounds 26 true).getD 17 false = L.getD 17 false := getD_set_ne false (by decide)
            have e18 : (L.setIfInBounds 26 true).getD 18 false = L.getD 18 false := getD_set_ne false (by decide)
            have e19 : (L.setIfInBounds 26 true).getD 19 false = L.getD 19 false := getD_set_ne false (by decide)
            have e20 : (L.setIfInBounds 26 true).getD 20 false = L.getD 20 false := getD_set_ne false (by decide)
            have e21 : (L.setIfInBounds 26 true).getD 21 false = L.getD 21 false := getD_set_ne false (by decide)
            have e22 : (L.setIfInBounds 26 true).getD 22 false = L.getD 22 false := getD_set_ne false (by decide)
            have e23 : (L.setIfInBounds 26 true).getD 23 false = L.getD 23 false := getD_set_ne false (by decide)
            have e24 : (L.setIfInBounds 26 true).getD 24 false = L.getD 24 false := getD_set_ne false (by decide)
            have e25 : (L.setIfInBounds 26 true).getD 25 false = L.getD 25 false := getD_set_ne false (by decide)
            have e27 : (L.setIfInBounds 26 true).getD 27 false = L.getD 27 false := getD_set_ne false (by decide)
            have e28 : (L.setIfInBounds 26 true).getD 28 false = L.getD 28 false := getD_set_ne false (by decide)
            have e29 : (L.setIfInBounds 26 true).getD 29 false = L.getD 29 false := getD_set_ne false (by decide)
            have e30 : (L.setIfInBounds 26 true).getD 30 false = L.getD 30 false := getD_set_ne false (by decide)
            have e31 : (L.setIfInBounds 26 true).getD 31 false = L.getD 31 false := getD_set_ne false (by decide)
            have e32 : (L.setIfInBounds 26 true).getD 32 false = L.getD 32 false := getD_set_ne false (by decide)
            have e26 : (L.setIfInBounds 26 true).getD 26 false = true := by rw [getD_set_if L 26 26 (by omega), if_pos rfl]
            obtain rfl := i25 l25
            go_simp
            exact ⟨v4, v27, v28, v29, v30, v31, v32, v33, v34, v35, v36, v37, v38, v39, v40, v41, v42, v43, v44, v45, v46, v47, v48, v49, v50, v51, _, _, v54, v55, v56, v57, rfl, by rw [e0]; exact i0, by rw [e1]; exact i1, by rw [e2]; exact i2, by rw [e3]; exact i3, by rw [e4]; exact i4, by rw [e5]; exact i5, by rw [e6]; exact i6, by rw [e7]; exact i7, by rw [e8]; exact i8, by rw [e9]; exact i9, by rw [e10]; exact i10, by rw [e11]; exact i11, by rw [e12]; exact i12, by rw [e13]; exact i13, by rw [e14]; exact i14, by rw [e15]; exact i15, by rw [e16]; exact i16, by rw [e17]; exact i17, by rw [e18]; exact i18, by rw [e19]; exact i19, by rw [e20]; exact i20, by rw [e21]; exact i21, by rw [e22]; exact i22, by rw [e23]; exact i23, by rw [e24]; exact i24, fun _ => rfl, fun _ => rfl, by rw [e27]; exact i27, by rw [e28]; exact i28, by rw [e29]; exact i29, by rw [e30]; exact i30, by rw [e31, e32]; exact ia, by rw [e31, e32]; exact ist, hC, hsz⟩
          · obtain rfl := Option.some.inj ho
            clear ho
            clear hall
            refine wpOp_inv (o := _) rfl rfl ?_
            have e0 : (L.setIfInBounds 27 true).getD 0 false = L.getD 0 false := getD_set_ne false (by decide)
            have e1 : (L.setIfInBounds 27 true).getD 1 false = L.getD 1 false := getD_set_ne false (by decide)
            have e2 : (L.setIfInBounds 27 true).getD 2 false = L.getD 2 false := getD_set_ne false (by decide)
            have e3 : (L.setIfInBounds 27 true).getD 3 false = L.getD 3 false := getD_set_ne false (by decide)
            have e4 : (L.setIfInBounds 27 true).getD 4 false = L.getD 4 false := getD_set_ne false (by decide)
            have e5 : (L.setIfInBounds 27 true).getD 5 false = L.getD 5 false := getD_set_ne false (by decide)
            have e6 : (L.setIfInBounds 27 true).getD 6 false = L.getD 6 false := getD_set_ne false (by decide)
            have e7 : (L.setIfInBounds 27 true).getD 7 false = L.getD 7 false := getD_set_ne false (by decide)
            have e8 : (L.setIfInBounds 27 true).getD 8 false = L.getD 8 false := getD_set_ne false (by decide)
            have e9 : (L.setIfInBounds 27 true).getD 9 false = L.getD 9 false := getD_set_ne false (by decide)
            have e10 : (L.setIfInBounds 27 true).getD 10 false = L.getD 10 false := getD_set_ne false (by decide)
            have e11 : (L.setIfInBounds 27 true).getD 11 false = L.getD 11 false := getD_set_ne false (by decide)
            have e12 : (L.setIfInBounds 27 true).getD 12 false = L.getD 12 false := getD_set_ne false (by decide)
            have e13 : (L.setIfInBounds 27 true).getD 13 false = L.getD 13 false := getD_set_ne false (by decide)
            have e14 : (L.setIfInBounds 27 true).getD 14 false = L.getD 14 false := getD_set_ne false (by decide)
            have e15 : (L.setIfInBounds 27 true).getD 15 false = L.getD 15 false := getD_set_ne false (by decide)
            have e16 : (L.setIfInBounds 27 true).getD 16 false = L.getD 16 false := getD_set_ne false (by decide)
            have e17 : (L.setIfInBounds 27 true).getD 17 false = L.getD 17 false := getD_set_ne false (by decide)
            have e18 : (L.setIfInBounds 27 true).getD 18 false = L.getD 18 false := getD_set_ne false (by decide)
            have e19 : (L.setIfInBounds 27 true).getD 19 false = L.getD 19 false := getD_set_ne false (by decide)
            have e20 : (L.setIfInBounds 27 true).getD 20 false = L.getD 20 false := getD_set_ne false (by decide)
            have e21 : (L.setIfInBounds 27 true).getD 21 false = L.getD 21 false := getD_set_ne false (by decide)
            have e22 : (L.setIfInBounds 27 true).getD 22 false = L.getD 22 false := getD_set_ne false (by decide)
            have e23 : (L.setIfInBounds 27 true).getD 23 false = L.getD 23 false := getD_set_ne false (by decide)
            have e24 : (L.setIfInBounds 27 true).getD 24 false = L.getD 24 false := getD_set_ne false (by decide)
            have e25 : (L.setIfInBounds 27 true).getD 25 false = L.getD 25 false := getD_set_ne false (by decide)
            have e26 : (L.setIfInBounds 27 true).getD 26 false = L.getD 26 false := getD_set_ne false (by decide)
            have e28 : (L.setIfInBounds 27 true).getD 28 false = L.getD 28 false := getD_set_ne false (by decide)
            have e29 : (L.setIfInBounds 27 true).getD 29 false = L.getD 29 false := getD_set_ne false (by decide)
            have e30 : (L.setIfInBounds 27 true).getD 30 false = L.getD 30 false := getD_set_ne false (by decide)
            have e31 : (L.setIfInBounds 27 true).getD 31 false = L.getD 31 false := getD_set_ne false (by decide)
            have e32 : (L.setIfInBounds 27 true).getD 32 false = L.getD 32 false := getD_set_ne false (by decide)
            have e27 : (L.setIfInBounds 27 true).getD 27 false = true := by rw [getD_set_if L 27 27 (by omega), if_pos rfl]
            go_simp
            exact ⟨v4, v27, v28, v29, v30, v31, v32, v33, v34, v35, v36, v37, v38, v39, v40, v41, v42, v43, v44, v45, v46, v47, v48, v49, v50, v51, v52, v53, _, v55, v56, v57, rfl, by rw [e0]; exact i0, by rw [e1]; exact i1, by rw [e2]; exact i2, by rw [e3]; exact i3, by rw [e4]; exact i4, by rw [e5]; exact i5, by rw [e6]; exact i6, by rw [e7]; exact i7, by rw [e8]; exact i8, by rw [e9]; exact i9, by rw [e10]; exact i10, by rw [e11]; exact i11, by rw [e12]; exact i12, by rw [e13]; exact i13, by rw [e14]; exact i14, by rw [e15]; exact i15, by rw [e16]; exact i16, by rw [e17]; exact i17, by rw [e18]; exact i18, by rw [e19]; exact i19, by rw [e20]; exact i20, by rw [e21]; exact i21, by rw [e22]; exact i22, by rw [e23]; exact i23, by rw [e24]; exact i24, by rw [e25]; exact i25, by rw [e26]; exact i26, fun _ => rfl, by rw [e28]; exact i28, by rw [e29]; exact i29, by rw [e30]; exact i30, by rw [e31, e32]; exact ia, by rw [e31, e32]; exact ist, hC, hsz⟩
          · obtain rfl := Option.some.inj ho
            clear ho
            have l27 := hall ⟨27, .data⟩ (by simp) rfl
            clear hall
            refine wpOp_inv (o := _) rfl rfl ?_
            have e0 : (L.setIfInBounds 28 true).getD 0 false = L.getD 0 false := getD_set_ne false (by decide)
            have e1 : (L.setIfInBounds 28 true).getD 1 false = L.getD 1 false := getD_set_ne false (by decide)
            have e2 : (L.setIfInBounds 28 true).getD 2 false = L.getD 2 false := getD_set_ne false (by decide)
            have e3 : (L.setIfInBounds 28 true).getD 3 false = L.getD 3 false := getD_set_ne false (by decide)
            have e4 : (L.setIfInBounds 28 true).getD 4 false = L.getD 4 false := getD_set_ne false (by decide)
            have e5 : (L.setIfInBounds 28 true).getD 5 false = L.getD 5 false := getD_set_ne false (by decide)
            have e6 : (L.setIfInBounds 28 true).getD 6 false = L.getD 6 false := getD_set_ne false (by decide)
            have e7 : (L.setIfInBounds 28 true).getD 7 false = L.getD 7 false := getD_set_ne false (by decide)
            have e8 : (L.setIfInBounds 28 true).getD 8 false = L.getD 8 false := getD_set_ne false (by decide)
            have e9 : (L.setIfInBounds 28 true).getD 9 false = L.getD 9 false := getD_set_ne false (by decide)
            have e10 : (L.setIfInBounds 28 true).getD 10 false = L.getD 10 false := getD_set_ne false (by decide)
            have e11 : (L.setIfInBounds 28 true).getD 11 false = L.getD 11 false := getD_set_ne false (by decide)
            have e12 : (L.setIfInBounds 28 true).getD 12 false = L.getD 12 false := getD_set_ne false (by decide)
            have e13 : (L.setIfInBounds 28 true).getD 13 false = L.getD 13 false := getD_set_ne false (by decide)
            have e14 : (L.setIfInBounds 28 true).getD 14 false = L.getD 14 false := getD_set_ne false (by decide)
            have e15 : (L.setIfInBounds 28 true).getD 15 false = L.getD 15 false := getD_set_ne false (by decide)
            have e16 : (L.setIfInBounds 28 true).getD 16 false = L.getD 16 false := getD_set_ne false (by decide)
            have e17 : (L.setIfInBounds 28 true).getD 17 false = L.getD 17 false := getD_set_ne false (by decide)
            have e18 : (L.setIfInBounds 28 true).getD 18 false = L.getD 18 false := getD_set_ne false (by decide)
            have e19 : (L.setIfInBounds 28 true).getD 19 false = L.getD 19 false := getD_set_ne false (by decide)
            have e20 : (L.setIfInBounds 28 true).getD 20 false = L.getD 20 false := getD_set_ne false (by decide)
            have e21 : (L.setIfInBounds 28 true).getD 21 false = L.getD 21 false := getD_set_ne false (by decide)
            have e22 : (L.setIfInBounds 28 true).getD 22 false = L.getD 22 false := getD_set_ne false (by decide)
            have e23 : (L.setIfInBounds 28 true).getD 23 false = L.getD 23 false := getD_set_ne false (by decide)
            have e24 : (L.setIfInBounds 28 true).getD 24 false = L.getD 24 false := getD_set_ne false (by decide)
            have e25 : (L.setIfInBounds 28 true).getD 25 false = L.getD 25 false := getD_set_ne false (by decide)
            have e26 : (L.setIfInBounds 28 true).getD 26 false = L.getD 26 false := getD_set_ne false (by decide)
            have e27 : (L.setIfInBounds 28 true).getD 27 false = L.getD 27 false := getD_set_ne false (by decide)
            have e29 : (L.setIfInBounds 28 true).getD 29 false = L.getD 29 false := getD_set_ne false (by decide)
            have e30 : (L.setIfInBounds 28 true).getD 30 false = L.getD 30 false := getD_set_ne false (by decide)
            have e31 : (L.setIfInBounds 28 true).getD 31 false = L.getD 31 false := getD_set_ne false (by decide)
            have e32 : (L.setIfInBounds 28 true).getD 32 false = L.getD 32 false := getD_set_ne false (by decide)
            have e28 : (L.setIfInBounds 28 true).getD 28 false = true := by rw [getD_set_if L 28 28 (by omega), if_pos rfl]
            obtain rfl := i27 l27
            go_simp
            exact ⟨v4, v27, v28, v29, v30, v31, v32, v33, v34, v35, v36, v37, v38, v39, v40, v41, v42, v43, v44, v45, v46, v47, v48, v49, v50, v51, v52, v53, _, _, v56, v57, rfl, by rw [e0]; exact i0, by rw [e1]; exact i1, by rw [e2]; exact i2, by rw [e3]; exact i3, by rw [e4]; exact i4, by rw [e5]; exact i5, by rw [e6]; exact i6, by rw [e7]; exact i7, by rw [e8]; exact i8, by rw [e9]; exact i9, by rw [e10]; exact i10, by rw [e11]; exact i11, by rw [e12]; exact i12, by rw [e13]; exact i13, by rw [e14]; exact i14, by rw [e15]; exact i15, by rw [e16]; exact i16, by rw [e17]; exact i17, by rw [e18]; exact i18, by rw [e19]; exact i19, by rw [e20]; exact i20, by rw [e21]; exact i21, by rw [e22]; exact i22, by rw [e23]; exact i23, by rw [e24]; exact i24, by rw [e25]; exact i25, by rw [e26]; exact i26, fun _ => rfl, fun _ => rfl, by rw [e29]; exact i29, by rw [e30]; exact i30, by rw [e31, e32]; exact ia, by rw [e31, e32]; exact ist, hC, hsz⟩
          · obtain rfl := Option.some.inj ho
            clear ho
            have l28 := hall ⟨28, .data⟩ (by simp) rfl
            clear hall
            refine wpOp_inv (o := _) rfl rfl ?_
            have e0 : (L.setIfInBounds 29 true).getD 0 false = L.getD 0 false := getD_set_ne false (by decide)
            have e1 : (L.setIfInBounds 29 true).getD 1 false = L.getD 1 false := getD_set_ne false (by decide)
            have e2 : (L.setIfInBounds 29 true).getD 2 false = L.getD 2 false := getD_set_ne false (by decide)
            have e3 : (L.setIfInBounds 29 true).getD 3 false = L.getD 3 false := getD_set_ne false (by decide)
            have e4 : (L.setIfInBounds 29 true).getD 4 false = L.getD 4 false := getD_set_ne false (by decide)
            have e5 : (L.setIfInBounds 29 true).getD 5 false = L.getD 5 false := getD_set_ne false (by decide)
            have e6 : (L.setIfInBounds 29 true).getD 6 false = L.getD 6 false := getD_set_ne false (by decide)
            have e7 : (L.setIfInBounds 29 true).getD 7 false = L.getD 7 false := getD_set_ne false (by decide)
            have e8 : (L.setIfInBounds 29 true).getD 8 false = L.getD 8 false := getD_set_ne false (by decide)
            have e9 : (L.setIfInBounds 29 true).getD 9 false = L.getD 9 false := getD_set_ne false (by decide)
            have e10 : (L.setIfInBounds 29 true).getD 10 false = L.getD 10 false := getD_set_ne false (by decide)
            have e11 : (L.setIfInBounds 29 true).getD 11 false = L.getD 11 false := getD_set_ne false (by decide)
            have e12 : (L.setIfInBounds 29 true).getD 12 false = L.getD 12 false := getD_set_ne false (by decide)
            have e13 : (L.setIfInBounds 29 true).getD 13 false = L.getD 13 false := getD_set_ne false (by decide)
            have e14 : (L.setIfInBounds 29 true).getD 14 false = L.getD 14 false := getD_set_ne false (by decide)
            have e15 : (L.setIfInBounds 29 true).getD 15 false = L.getD 15 false := getD_set_ne false (by decide)
            have e16 : (L.setIfInBounds 29 true).getD 16 false = L.getD 16 false := getD_set_ne false (by decide)
            have e17 : (L.setIfInBounds 29 true).getD 17 false = L.getD 17 false := getD_set_ne false (by decide)
            have e18 : (L.setIfInBounds 29 true).getD 18 false = L.getD 18 false := getD_set_ne false (by decide)
            have e19 : (L.setIfInBounds 29 true).getD 19 false = L.getD 19 false := getD_set_ne false (by decide)
            have e20 : (L.setIfInBounds 29 true).getD 20 false = L.getD 20 false := getD_set_ne false (by decide)
            have e21 : (L.setIfInBounds 29 true).getD 21 false = L.getD 21 false := getD_set_ne false (by decide)
            have e22 : (L.setIfInBounds 29 true).getD 22 false = L.getD 22 false := getD_set_ne false (by decide)
            have e23 : (L.setIfInBounds 29 true).getD 23 false = L.getD 23 false := getD_set_ne false (by decide)
            have e24 : (L.setIfInBounds 29 true).getD 24 false = L.getD 24 false := getD_set_ne false (by decide)
            have e25 : (L.setIfInBounds 29 true).getD 25 false = L.getD 25 false := getD_set_ne false (by decide)
            have e26 : (L.setIfInBounds 29 true).getD 26 false = L.getD 26 false := getD_set_ne false (by decide)
            have e27 : (L.setIfInBounds 29 true).getD 27 false = L.getD 27 false := getD_set_ne false (by decide)
            have e28 : (L.setIfInBounds 29 true).getD 28 false = L.getD 28 false := getD_set_ne false (by decide)
            have e30 : (L.setIfInBounds 29 true).getD 30 false = L.getD 30 false := getD_set_ne false (by decide)
            have e31 : (L.setIfInBounds 29 true).getD 31 false = L.getD 31 false := getD_set_ne false (by decide)
            have e32 : (L.setIfInBounds 29 true).getD 32 false = L.getD 32 false := getD_set_ne false (by decide)
            have e29 : (L.setIfInBounds 29 true).getD 29 false = true := by rw [getD_set_if L 29 29 (by omega), if_pos rfl]
            obtain rfl := i28 l28
            go_simp
            go_at_call 26; refine (G12 _).mono ?_; rintro e w' ⟨rfl, hX1⟩
            exact ⟨_, rfl, v4, v27, v28, v29, v30, v31, v32, v33, v34, v35, v36, v37, v38, v39, v40, v41, v42, v43, v44, v45, v46, v47, v48, v49, v50, v51, v52, v53, v54, _, _, v57, rfl, by rw [e0]; exact i0, by rw [e1]; exact i1, by rw [e2]; exact i2, by rw [e3]; exact i3, by rw [e4]; exact i4, by rw [e5]; exact i5, by rw [e6]; exact i6, by rw [e7]; exact i7, by rw [e8]; exact i8, by rw [e9]; exact i9, by rw [e10]; exact i10, by rw [e11]; exact i11, by rw [e12]; exact i12, by rw [e13]; exact i13, by rw [e14]; exact i14, by rw [e15]; exact i15, by rw [e16]; exact i16, by rw [e17]; exact i17, by rw [e18]; exact i18, by rw [e19]; exact i19, by rw [e20]; exact i20, by rw [e21]; exact i21, by rw [e22]; exact i22, by rw [e23]; exact i23, by rw [e24]; exact i24, by rw [e25]; exact i25, by rw [e26]; exact i26, by rw [e27]; exact i27, fun _ => rfl, fun _ => rfl, by rw [e30]; exact i30, by rw [e31, e32]; exact fun h => by obtain ⟨y, h1, h2, h3⟩ := ia h; exact ⟨y, h1, h2, hX1.at h3 (by simp)⟩, by rw [e31, e32]; exact ist, hC.step hX1, Nat.le_trans hsz hX1.size⟩
          · obtain rfl := Option.some.inj ho
            clear ho
            have l1 := hall ⟨1, .data⟩ (by simp) rfl
            have l4 := hall ⟨4, .data⟩ (by simp) rfl
            have l8 := hall ⟨8, .data⟩ (by simp) rfl
            have l13 := hall ⟨13, .data⟩ (by simp) rfl
            have l17 := hall ⟨17, .data⟩ (by simp) rfl
            have l20 := hall ⟨20, .data⟩ (by simp) rfl
            have l23 := hall ⟨23, .data⟩ (by simp) rfl
            have l26 := hall ⟨26, .data⟩ (by simp) rfl
            have l29 := hall ⟨29, .data⟩ (by simp) rfl
            clear hall
            refine wpOp_inv (o := _) rfl rfl ?_
            have e0 : (L.setIfInBounds 30 true).getD 0 false = L.getD 0 false := getD_set_ne false (by decide)
            have e1 : (L.setIfInBounds 30 true).getD 1 false = L.getD 1 false := getD_set_ne false (by decide)
            have e2 : (L.setIfInBounds 30 true).getD 2 false = L.getD 2 false := getD_set_ne false (by decide)
            have e3 : (L.setIfInBounds 30 true).getD 3 false = L.getD 3 false := getD_set_ne false (by decide)
            have e4 : (L.setIfInBounds 30 true).getD 4 false = L.getD 4 false := getD_set_ne false (by decide)
            have e5 : (L.setIfInBounds 30 true).getD 5 false = L.getD 5 false := getD_set_ne false (by decide)
            have e6 : (L.setIfInBounds 30 true).getD 6 false = L.getD 6 false := getD_set_ne false (by decide)
            have e7 : (L.setIfInBounds 30 true).getD 7 false = L.getD 7 false := getD_set_ne false (by decide)
            have e8 : (L.setIfInBounds 30 true).getD 8 false = L.getD 8 false := getD_set_ne false (by decide)
            have e9 : (L.setIfInBounds 30 true).getD 9 false = L.getD 9 false := getD_set_ne false (by decide)
            have e10 : (L.setIfInBounds 30 true).getD 10 false = L.getD 10 false := getD_set_ne false (by decide)
            have e11 : (L.setIfInBounds 30 true).getD 11 false = L.getD 11 false := getD_set_ne false (by decide)
            have e12 : (L.setIfInBounds 30 true).getD 12 false = L.getD 12 false := getD_set_ne false (by decide)
            have e13 : (L.setIfInBounds 30 true).getD 13 false = L.getD 13 false := getD_set_ne false (by decide)
            have e14 : (L.setIfInBounds 30 true).getD 14 false = L.getD 14 false := getD_set_ne false (by decide)
            have e15 : (L.setIfInBounds 30 true).getD 15 false = L.getD 15 false := getD_set_ne false (by decide)
            have e16 : (L.setIfInBounds 30 true).getD 16 false = L.getD 16 false := getD_set_ne false (by decide)
            have e17 : (L.setIfInBounds 30 true).getD 17 false = L.getD 17 false := getD_set_ne false (by decide)
            have e18 : (L.setIfInBounds 30 true).getD 18 false = L.getD 18 false := getD_set_ne false (by decide)
            have e19 : (L.setIfInBounds 30 true).getD 19 false = L.getD 19 false := getD_set_ne false (by decide)
            have e20 : (L.setIfInBounds 30 true).getD 20 false = L.getD 20 false := getD_set_ne false (by decide)
            have e21 : (L.setIfInBounds 30 true).getD 21 false = L.getD 21 false := getD_set_ne false (by decide)
            have e22 : (L.setIfInBounds 30 true).getD 22 false = L.getD 22 false := getD_set_ne false (by decide)
            have e23 : (L.setIfInBounds 30 true).getD 23 false = L.getD 23 false := getD_set_ne false (by decide)
            have e24 : (L.setIfInBounds 30 true).getD 24 false = L.getD 24 false := getD_set_ne false (by decide)
            have e25 : (L.setIfInBounds 30 true).getD 25 false = L.getD 25 false := getD_set_ne false (by decide)
            have e26 : (L.setIfInBounds 30 true).getD 26 false = L.getD 26 false := getD_set_ne false (by decide)
            have e27 : (L.setIfInBounds 30 true).getD 27 false = L.getD 27 false := getD_set_ne false (by decide)
            have e28 : (L.setIfInBounds 30 true).getD 28 false = L.getD 28 false := getD_set_ne false (by decide)
            have e29 : (L.setIfInBounds 30 true).getD 29 false = L.getD 29 false := getD_set_ne false (by decide)
            have e31 : (L.setIfInBounds 30 true).getD 31 false = L.getD 31 false := getD_set_ne false (by decide)
            have e32 : (L.setIfInBounds 30 true).getD 32 false = L.getD 32 false := getD_set_ne false (by decide)
            have e30 : (L.setIfInBounds 30 true).getD 30 false = true := by rw [getD_set_if L 30 30 (by omega), if_pos rfl]
            obtain rfl := i1 l1
            obtain rfl := i4 l4
            obtain rfl := i8 l8
            obtain rfl := i13 l13
            obtain rfl := i17 l17
            obtain rfl := i20 l20
            obtain rfl := i23 l23
            obtain rfl := i26 l26
            obtain rfl := i29 l29
            go_simp
            exact ⟨v4, v27, _, v29, v30, _, v32, v33, v34, _, v36, v37, v38, v39, _, v41, v42, v43, _, v45, v46, _, v48, v49, _, v51, v52, _, v54, v55, _, _, rfl, by rw [e0]; exact i0, fun _ => rfl, by rw [e2]; exact i2, by rw [e3]; exact i3, fun _ => rfl, by rw [e5]; exact i5, by rw [e6]; exact i6, by rw [e7]; exact i7, fun _ => rfl, by rw [e9]; exact i9, by rw [e10]; exact i10, by rw [e11]; exact i11, by rw [e12]; exact i12, fun _ => rfl, by rw [e14]; exact i14, by rw [e15]; exact i15, by rw [e16]; exact i16, fun _ => rfl, by rw [e18]; exact i18, by rw [e19]; exact i19, fun _ => rfl, by rw [e21]; exact i21, by rw [e22]; exact i22, fun _ => rfl, by rw [e24]; exact i24, by rw [e25]; exact i25, fun _ => rfl, by rw [e27]; exact i27, by rw [e28]; exact i28, fun _ => rfl, fun _ => rfl, by rw [e31, e32]; exact ia, by rw [e31, e32]; exact ist, hC, hsz⟩
          · obtain rfl := Option.some.inj ho
            clear ho
            clear hall
            refine wpOp_inv (o := _) rfl rfl ?_
            have e0 : (L.setIfInBounds 31 true).getD 0 false = L.getD 0 false := getD_set_ne false (by decide)
            have e1 : (L.setIfInBounds 31 true).getD 1 false = L.getD 1 false := getD_set_ne false (by decide)
            have e2 : (L.setIfInBounds 31 true).getD 2 false = L.getD 2 false := getD_set_ne false (by decide)
            have e3 : (L.setIfInBounds 31 true).getD 3 false = L.getD 3 false := getD_set_ne false (by decide)
            have e4 : (L.setIfInBounds 31 true).getD 4 false = L.getD 4 false := getD_set_ne false (by decide)
            have e5 : (L.setIfInBounds 31 true).getD 5 false = L.getD 5 false := getD_set_ne false (by decide)
            have e6 : (L.setIfInBounds 31 true).getD 6 false = L.getD 6 false := getD_set_ne false (by decide)
            have e7 : (L.setIfInBounds 31 true).getD 7 false = L.getD 7 false := getD_set_ne false (by decide)
            have e8 : (L.setIfInBounds 31 true).getD 8 false = L.getD 8 false := getD_set_ne false (by decide)
            have e9 : (L.setIfInBounds 31 true).getD 9 false = L.getD 9 false := getD_set_ne false (by decide)
            have e10 : (L.setIfInBounds 31 true).getD 10 false = L.getD 10 false := getD_set_ne false (by decide)
            have e11 : (L.setIfInBounds 31 true).getD 11 false = L.getD 11 false := getD_set_ne false (by decide)
            have e12 : (L.setIfInBounds 31 true).getD 12 false = L.getD 12 false := getD_set_ne false (by decide)
            have e13 : (L.setIfInBounds 31 true).getD 13 false = L.getD 13 false := getD_set_ne false (by decide)
            have e14 : (L.setIfInBounds 31 true).getD 14 false = L.getD 14 false := getD_set_ne false (by decide)
            have e15 : (L.setIfInBounds 31 true).getD 15 false = L.getD 15 false := getD_set_ne false (by decide)
            have e16 : (L.setIfInBounds 31 true).getD 16 false = L.getD 16 false := getD_set_ne false (by decide)
            have e17 : (L.setIfInBounds 31 true).getD 17 false = L.getD 17 false := getD_set_ne false (by decide)
            have e18 : (L.setIfInBounds 31 true).getD 18 false = L.getD 18 false := getD_set_ne false (by decide)
            have e19 : (L.setIfInBounds 31 true).getD 19 false = L.getD 19 false := getD_set_ne false (by decide)
            have e20 : (L.setIfInBounds 31 true).getD 20 false = L.getD 20 false := getD_set_ne false (by decide)
            have e21 : (L.setIfInBounds 31 true).getD 21 false = L.getD 21 false := getD_set_ne false (by decide)
            have e22 : (L.setIfInBounds 31 true).getD 22 false = L.getD 22 false := getD_set_ne false (by decide)
            have e23 : (L.setIfInBounds 31 true).getD 23 false = L.getD 23 false := getD_set_ne false (by decide)
            have e24 : (L.setIfInBounds 31 true).getD 24 false = L.getD 24 false := getD_set_ne false (by decide)
            have e25 : (L.setIfInBounds 31 true).getD 25 false = L.getD 25 false := getD_set_ne false (by decide)
            have e26 : (L.setIfInBounds 31 true).getD 26 false = L.getD 26 false := getD_set_ne false (by decide)
            have e27 : (L.setIfInBounds 31 true).getD 27 false = L.getD 27 false := getD_set_ne false (by decide)
            have e28 : (L.setIfInBounds 31 true).getD 28 false = L.getD 28 false := getD_set_ne false (by decide)
            have e29 : (L.setIfInBounds 31 true).getD 29 false = L.getD 29 false := getD_set_ne false (by decide)
            have e30 : (L.setIfInBounds 31 true).getD 30 false = L.getD 30 false := getD_set_ne false (by decide)
            have e32 : (L.setIfInBounds 31 true).getD 32 false = L.getD 32 false := getD_set_ne false (by decide)
            have e31 : (L.setIfInBounds 31 true).getD 31 false = true := by rw [getD_set_if L 31 31 (by omega), if_pos rfl]
            have ls : L.getD 32 false = false := by rcases Bool.eq_false_or_eq_true (L.getD 32 false) with h | h; exact absurd (ist h) (by rw [hl]; decide); exact h
            go_simp
            exact ⟨_, v27, v28, v29, v30, v31, v32, v33, v34, v35, v36, v37, v38, v39, v40, v41, v42, v43, v44, v45, v46, v47, v48, v49, v50, v51, v52, v53, v54, v55, v56, v57, rfl, by rw [e0]; exact i0, by rw [e1]; exact i1, by rw [e2]; exact i2, by rw [e3]; exact i3, by rw [e4]; exact i4, by rw [e5]; exact i5, by rw [e6]; exact i6, by rw [e7]; exact i7, by rw [e8]; exact i8, by rw [e9]; exact i9, by rw [e10]; exact i10, by rw [e11]; exact i11, by rw [e12]; exact i12, by rw [e13]; exact i13, by rw [e14]; exact i14, by rw [e15]; exact i15, by rw [e16]; exact i16, by rw [e17]; exact i17, by rw [e18]; exact i18, by rw [e19]; exact i19, by rw [e20]; exact i20, by rw [e21]; exact i21, by rw [e22]; exact i22, by rw [e23]; exact i23, by rw [e24]; exact i24, by rw [e25]; exact i25, by rw [e26]; exact i26, by rw [e27]; exact i27, by rw [e28]; exact i28, by rw [e29]; exact i29, by rw [e30]; exact i30, fun _ => ⟨_, rfl, hsz, by rw [e32, ls]; exact At.new wx _ _⟩, fun _ => e31, hC.alloc0 _, by simp; omega⟩
          · obtain rfl := Option.some.inj ho
            clear ho
            have l31 := hall ⟨31, .data⟩ (by simp) rfl
            have l30 := hall ⟨30, .data⟩ (by simp) rfl
            clear hall
            refine wpOp_inv (o := _) rfl rfl ?_
            have e0 : (L.setIfInBounds 32 true).getD 0 false = L.getD 0 false := getD_set_ne false (by decide)
            have e1 : (L.setIfInBounds 32 true).getD 1 false = L.getD 1 false := getD_set_ne false (by decide)
            have e2 : (L.setIfInBounds 32 true).getD 2 false = L.getD 2 false := getD_set_ne false (by decide)
            have e3 : (L.setIfInBounds 32 true).getD 3 false = L.getD 3 false := getD_set_ne false (by decide)
            have e4 : (L.setIfInBounds 32 true).getD 4 false = L.getD 4 false := getD_set_ne false (by decide)
            have e5 : (L.setIfInBounds 32 true).getD 5 false = L.getD 5 false := getD_set_ne false (by decide)
            have e6 : (L.setIfInBounds 32 true).getD 6 false = L.getD 6 false := getD_set_ne false (by decide)
            have e7 : (L.setIfInBounds 32 true).getD 7 false = L.getD 7 false := getD_set_ne false (by decide)
            have e8 : (L.setIfInBounds 32 true).getD 8 false = L.getD 8 false := getD_set_ne false (by decide)
            have e9 : (L.setIfInBounds 32 true).getD 9 false = L.getD 9 false := getD_set_ne false (by decide)
            have e10 : (L.setIfInBounds 32 true).getD 10 false = L.getD 10 false := getD_set_ne false (by decide)
            have e11 : (L.setIfInBounds 32 true).getD 11 false = L.getD 11 false := getD_set_ne false (by decide)
            have e12 : (L.setIfInBounds 32 true).getD 12 false = L.getD 12 false := getD_set_ne false (by decide)
            have e13 : (L.setIfInBounds 32 true).getD 13 false = L.getD 13 false := getD_set_ne false (by decide)
            have e14 : (L.setIfInBounds 32 true).getD 14 false = L.getD 14 false := getD_set_ne false (by decide)
            have e15 : (L.setIfInBounds 32 true).getD 15 false = L.getD 15 false := getD_set_ne false (by decide)
            have e16 : (L.setIfInBounds 32 true).getD 16 false = L.getD 16 false := getD_set_ne false (by decide)
            have e17 : (L.setIfInBounds 32 true).getD 17 false = L.getD 17 false := getD_set_ne false (by decide)
            have e18 : (L.setIfInBounds 32 true).getD 18 false = L.getD 18 false := getD_set_ne false (by decide)
            have e19 : (L.setIfInBounds 32 true).getD 19 false = L.getD 19 false := getD_set_ne false (by decide)
            have e20 : (L.setIfInBounds 32 true).getD 20 false = L.getD 20 false := getD_set_ne false (by decide)
            have e21 : (L.setIfInBounds 32 true).getD 21 false = L.getD 21 false := getD_set_ne false (by decide)
            have e22 : (L.setIfInBounds 32 true).getD 22 false = L.getD 22 false := getD_set_ne false (by decide)
            have e23 : (L.setIfInBounds 32 true).getD 23 false = L.getD 23 false := getD_set_ne false (by decide)
            have e24 : (L.setIfInBounds 32 true).getD 24 false = L.getD 24 false := getD_set_ne false (by decide)
            have e25 : (L.setIfInBounds 32 true).getD 25 false = L.getD 25 false := getD_set_ne false (by decide)
            have e26 : (L.setIfInBounds 32 true).getD 26 false = L.getD 26 false := getD_set_ne false (by decide)
            have e27 : (L.setIfInBounds 32 true).getD 27 false = L.getD 27 false := getD_set_ne false (by decide)
            have e28 : (L.setIfInBounds 32 true).getD 28 false = L.getD 28 false := getD_set_ne false (by decide)
            have e29 : (L.setIfInBounds 32 true).getD 29 false = L.getD 29 false := getD_set_ne false (by decide)
            have e30 : (L.setIfInBounds 32 true).getD 30 false = L.getD 30 false := getD_set_ne false (by decide)
            have e31 : (L.setIfInBounds 32 true).getD 31 false = L.getD 31 false := getD_set_ne false (by decide)
            have e32 : (L.setIfInBounds 32 true).getD 32 false = true := by rw [getD_set_if L 32 32 (by omega), if_pos rfl]
            obtain ⟨y, rfl, hyz, K⟩ := ia l31
            obtain rfl := i30 l30
            rw [hl] at K
            have K : At wx y #[.int .i64 0, .int .i64 0, .int .i64 0, .int .i64 0, .int .i64 0, .int .i64 0, .int .i64 0, .int .i64 0, .int .i64 0] := K
            have k0 := K.cell 0; have kf0 := K.frozen 0
            have k1 := K.cell 1; have kf1 := K.frozen 1
            have k2 := K.cell 2; have kf2 := K.frozen 2
            have k3 := K.cell 3; have kf3 := K.frozen 3
            have k4 := K.cell 4; have kf4 := K.frozen 4
            have k5 := K.cell 5; have kf5 := K.frozen 5
            have k6 := K.cell 6; have kf6 := K.frozen 6
            have k7 := K.cell 7; have kf7 := K.frozen 7
            have k8 := K.cell 8; have kf8 := K.frozen 8
            have K2 := (((((((((K).set 0 (.int .i64 (num4 s 0)) rfl).set 1 (.int .i64 (num4 s 4)) rfl).set 2 (.int .i64 (by_ s 8 % 4)) rfl).set 3 (.int .i64 (by_ s 8 / 16)) rfl).set 4 (.int .i64 (by_ s 8 % 16 / 4)) rfl).set 5 (.int .i64 (by_ s 9)) rfl).set 6 (.int .i64 (by_ s 10)) rfl).set 7 (.int .i64 (by_ s 11)) rfl).set 8 (.int .i64 (num4 s 12)) rfl
            simp only [List.setIfInBounds_toArray, List.set_cons_succ, List.set_cons_zero] at K2
            have XX := ((((((((((Chg.refl [y] wx)).setCell (p := ⟨y, 0, none⟩) (Or.inl (by simp)) (.int .i64 (num4 s 0))).setCell (p := ⟨y, 1, none⟩) (Or.inl (by simp)) (.int .i64 (num4 s 4))).setCell (p := ⟨y, 2, none⟩) (Or.inl (by simp)) (.int .i64 (by_ s 8 % 4))).setCell (p := ⟨y, 3, none⟩) (Or.inl (by simp)) (.int .i64 (by_ s 8 / 16))).setCell (p := ⟨y, 4, none⟩) (Or.inl (by simp)) (.int .i64 (by_ s 8 % 16 / 4))).setCell (p := ⟨y, 5, none⟩) (Or.inl (by simp)) (.int .i64 (by_ s 9))).setCell (p := ⟨y, 6, none⟩) (Or.inl (by simp)) (.int .i64 (by_ s 10))).setCell (p := ⟨y, 7, none⟩) (Or.inl (by simp)) (.int .i64 (by_ s 11))).setCell (p := ⟨y, 8, none⟩) (Or.inl (by simp)) (.int .i64 (num4 s 12))
            go_simp
            exact ⟨_, v27, v28, v29, v30, v31, v32, v33, v34, v35, v36, v37, v38, v39, v40, v41, v42, v43, v44, v45, v46, v47, v48, v49, v50, v51, v52, v53, v54, v55, v56, _, rfl, by rw [e0]; exact i0, by rw [e1]; exact i1, by rw [e2]; exact i2, by rw [e3]; exact i3, by rw [e4]; exact i4, by rw [e5]; exact i5, by rw [e6]; exact i6, by rw [e7]; exact i7, by rw [e8]; exact i8, by rw [e9]; exact i9, by rw [e10]; exact i10, by rw [e11]; exact i11, by rw [e12]; exact i12, by rw [e13]; exact i13, by rw [e14]; exact i14, by rw [e15]; exact i15, by rw [e16]; exact i16, by rw [e17]; exact i17, by rw [e18]; exact i18, by rw [e19]; exact i19, by rw [e20]; exact i20, by rw [e21]; exact i21, by rw [e22]; exact i22, by rw [e23]; exact i23, by rw [e24]; exact i24, by rw [e25]; exact i25, by rw [e26]; exact i26, by rw [e27]; exact i27, by rw [e28]; exact i28, by rw [e29]; exact i29, fun _ => rfl, fun _ => ⟨y, rfl, hyz, by rw [e32]; exact K2⟩, fun _ => by rw [e31]; exact l31, hC.at_y XX hyz hbs hbW, Nat.le_trans hsz XX.size⟩
          · exact absurd ho (by simp)
        · intro L ac wx hall hI
          obtain ⟨v4, v27, v28, v29, v30, v31, v32, v33, v34, v35, v36, v37, v38, v39, v40, v41, v42, v43, v44, v45, v46, v47, v48, v49, v50, v51, v52, v53, v54, v55, v56, v57, rfl, i0, i1, i2, i3, i4, i5, i6, i7, i8, i9, i10, i11, i12, i13, i14, i15, i16, i17, i18, i19, i20, i21, i22, i23, i24, i25, i26, i27, i28, i29, i30, ia, ist, hC, hsz⟩ := hI
          obtain rfl := i0 (hall 0 (by decide))
          obtain rfl := i1 (hall 1 (by decide))
          obtain rfl := i2 (hall 2 (by decide))
          obtain rfl := i3 (hall 3 (by decide))
          obtain rfl := i4 (hall 4 (by decide))
          obtain rfl := i5 (hall 5 (by decide))
          obtain rfl := i6 (hall 6 (by decide))
          obtain rfl := i7 (hall 7 (by decide))
          obtain rfl := i8 (hall 8 (by decide))
          obtain rfl := i9 (hall 9 (by decide))
          obtain rfl := i10 (hall 10 (by decide))
          obtain rfl := i11 (hall 11 (by decide))
          obtain rfl := i12 (hall 12 (by decide))
          obtain rfl := i13 (hall 13 (by decide))
          obtain rfl := i14 (hall 14 (by decide))
          obtain rfl := i15 (hall 15 (by decide))
          obtain rfl := i16 (hall 16 (by decide))
          obtain rfl := i17 (hall 17 (by decide))
          obtain rfl := i18 (hall 18 (by decide))
          obtain rfl := i19 (hall 19 (by decide))
          obtain rfl := i20 (hall 20 (by decide))
          obtain rfl := i21 (hall 21 (by decide))
          obtain rfl := i22 (hall 22 (by decide))
          obtain rfl := i23 (hall 23 (by decide))
          obtain rfl := i24 (hall 24 (by decide))
          obtain rfl := i25 (hall 25 (by decide))
          obtain rfl := i26 (hall 26 (by decide))
          obtain rfl := i27 (hall 27 (by decide))
          obtain rfl := i28 (hall 28 (by decide))
          obtain rfl := i29 (hall 29 (by decide))
          obtain rfl := i30 (hall 30 (by decide))
          obtain ⟨y, rfl, hyz, BS⟩ := ia (hall 31 (by decide))
          rw [if_pos (hall 32 (by decide))] at BS
          have C := hC.cons BS
          clear hC BS hall ist ia i0 i1 i2 i3 i4 i5 i6 i7 i8 i9 i10 i11 i12 i13 i14 i15 i16 i17 i18 i19 i20 i21 i22 i23 i24 i25 i26 i27 i28 i29 i30
          clear Cd
          dsimp only
          have hbR : b = (RcV.of s).right := by rw [HB.out, decide_eq_true h24, decide_eq_true HH.out, decide_eq_true HH2.out]; rfl
          have HRR : ∀ w, Calls Try.prog 13 #[.agg #[.int .i64 (num4 s 0), .int .i64 (num4 s 4), .int .i64 (by_ s 8 % 4), .int .i64 (by_ s 8 / 16), .int .i64 (by_ s 8 % 16 / 4), .int .i64 (by_ s 9), .int .i64 (by_ s 10), .int .i64 (by_ s 11), .int .i64 (num4 s 12)]] w fun e w' => e = .returned (.bool b) ∧ Chg [] w w' := fun w => by rw [hbR]; exact lright_any w (RcV.of s)
          replace HB := Lib.hid hbR
          clear hbR
          have hY := C.get 0 rfl
          have y0 : wx.cell? ⟨y, 0, none⟩ = some (.int .i64 (num4 s 0)) := hY.cell 0
          have y1 : wx.cell? ⟨y, 1, none⟩ = some (.int .i64 (num4 s 4)) := hY.cell 1
          have y2 : wx.cell? ⟨y, 2, none⟩ = some (.int .i64 (by_ s 8 % 4)) := hY.cell 2
          have y3 : wx.cell? ⟨y, 3, none⟩ = some (.int .i64 (by_ s 8 / 16)) := hY.cell 3
          have y4 : wx.cell? ⟨y, 4, none⟩ = some (.int .i64 (by_ s 8 % 16 / 4)) := hY.cell 4
          have y5 : wx.cell? ⟨y, 5, none⟩ = some (.int .i64 (by_ s 9)) := hY.cell 5
          have y6 : wx.cell? ⟨y, 6, none⟩ = some (.int .i64 (by_ s 10)) := hY.cell 6
          have y7 : wx.cell? ⟨y, 7, none⟩ = some (.int .i64 (by_ s 11)) := hY.cell 7
          have y8 : wx.cell? ⟨y, 8, none⟩ = some (.int .i64 (num4 s 12)) := hY.cell 8
          go_wp2_with fail
          refine (HRR _).mono ?_; rintro e wf ⟨rfl, hXf⟩
          replace C : CL w [(y, #[.int .i64 (num4 s 0), .int .i64 (num4 s 4), .int .i64 (by_ s 8 % 4), .int .i64 (by_ s 8 / 16), .int .i64 (by_ s 8 % 16 / 4), .int .i64 (by_ s 9), .int .i64 (by_ s 10), .int .i64 (by_ s 11), .int .i64 (num4 s 12)]), (z, #[.int .i64 0, .int .i64 0, .int .i64 0, .int .i64 0, .int .i64 0, .int .i64 0, .int .i64 0, .int .i64 0, .int .i64 0])] 0 wf := C.step hXf
          clear hY hXf HRR y0 y1 y2 y3 y4 y5 y6 y7 y8
          have hY := C.get 0 rfl
          have hR := C.get 1 rfl
          have hX := C.x
          clear C
          have hyz2 : y ≠ z := by omega
          have y0 : wf.cell? ⟨y, 0, none⟩ = some (.int .i64 (num4 s 0)) := hY.cell 0
          have y1 : wf.cell? ⟨y, 1, none⟩ = some (.int .i64 (num4 s 4)) := hY.cell 1
          have y2 : wf.cell? ⟨y, 2, none⟩ = some (.int .i64 (by_ s 8 % 4)) := hY.cell 2
          have y3 : wf.cell? ⟨y, 3, none⟩ = some (.int .i64 (by_ s 8 / 16)) := hY.cell 3
          have y4 : wf.cell? ⟨y, 4, none⟩ = some (.int .i64 (by_ s 8 % 16 / 4)) := hY.cell 4
          have y5 : wf.cell? ⟨y, 5, none⟩ = some (.int .i64 (by_ s 9)) := hY.cell 5
          have y6 : wf.cell? ⟨y, 6, none⟩ = some (.int .i64 (by_ s 10)) := hY.cell 6
          have y7 : wf.cell? ⟨y, 7, none⟩ = some (.int .i64 (by_ s 11)) := hY.cell 7
          have y8 : wf.cell? ⟨y, 8, none⟩ = some (.int .i64 (num4 s 12)) := hY.cell 8
          have r0 : wf.cell? ⟨z, 0, none⟩ = some (.int .i64 0) := hR.cell 0; have rf0 := hR.frozen 0
          have r1 : wf.cell? ⟨z, 1, none⟩ = some (.int .i64 0) := hR.cell 1; have rf1 := hR.frozen 1
          have r2 : wf.cell? ⟨z, 2, none⟩ = some (.int .i64 0) := hR.cell 2; have rf2 := hR.frozen 2
          have r3 : wf.cell? ⟨z, 3, none⟩ = some (.int .i64 0) := hR.cell 3; have rf3 := hR.frozen 3
          have r4 : wf.cell? ⟨z, 4, none⟩ = some (.int .i64 0) := hR.cell 4; have rf4 := hR.frozen 4
          have r5 : wf.cell? ⟨z, 5, none⟩ = some (.int .i64 0) := hR.cell 5; have rf5 := hR.frozen 5
          have r6 : wf.cell? ⟨z, 6, none⟩ = some (.int .i64 0) := hR.cell 6; have rf6 := hR.frozen 6
          have r7 : wf.cell? ⟨z, 7, none⟩ = some (.int .i64 0) := hR.cell 7; have rf7 := hR.frozen 7
          have r8 : wf.cell? ⟨z, 8, none⟩ = some (.int .i64 0) := hR.cell 8; have rf8 := hR.frozen 8
          cases b
          · have HLL := Lib.hid (show LW = RcV.zero from by have h := HLB.out; rw [if_neg (by simp)] at h; exact h)
            go_wp2_with (with_reducible refine hold_post ?_)
            refine Lib.hid ?_
            have hR9 := (((((((((hR).set 0 (.int .i64 0) rfl).set 1 (.int .i64 0) rfl).set 2 (.int .i64 0) rfl).set 3 (.int .i64 0) rfl).set 4 (.int .i64 0) rfl).set 5 (.int .i64 0) rfl).set 6 (.int .i64 0) rfl).set 7 (.int .i64 0) rfl).set 8 (.int .i64 0) rfl
            simp only [List.setIfInBounds_toArray, List.set_cons_succ, List.set_cons_zero] at hR9
            have hX9 := (((((((((hX).setCell (p := ⟨z, 0, none⟩) (Or.inr (by simp; omega)) (.int .i64 0)).setCell (p := ⟨z, 1, none⟩) (Or.inr (by simp; omega)) (.int .i64 0)).setCell (p := ⟨z, 2, none⟩) (Or.inr (by simp; omega)) (.int .i64 0)).setCell (p := ⟨z, 3, none⟩) (Or.inr (by simp; omega)) (.int .i64 0)).setCell (p := ⟨z, 4, none⟩) (Or.inr (by simp; omega)) (.int .i64 0)).setCell (p := ⟨z, 5, none⟩) (Or.inr (by simp; omega)) (.int .i64 0)).setCell (p := ⟨z, 6, none⟩) (Or.inr (by simp; omega)) (.int .i64 0)).setCell (p := ⟨z, 7, none⟩) (Or.inr (by simp; omega)) (.int .i64 0)).setCell (p := ⟨z, 8, none⟩) (Or.inr (by simp; omega)) (.int .i64 0)
            generalize (((((((((wf).setCell ⟨z, 0, none⟩ (.int .i64 0)).setCell ⟨z, 1, none⟩ (.int .i64 0)).setCell ⟨z, 2, none⟩ (.int .i64 0)).setCell ⟨z, 3, none⟩ (.int .i64 0)).setCell ⟨z, 4, none⟩ (.int .i64 0)).setCell ⟨z, 5, none⟩ (.int .i64 0)).setCell ⟨z, 6, none⟩ (.int .i64 0)).setCell ⟨z, 7, none⟩ (.int .i64 0)).setCell ⟨z, 8, none⟩ (.int .i64 0) = w9 at *
            clear r0 rf0 r1 rf1 r2 rf2 r3 rf3 r4 rf4 r5 rf5 r6 rf6 r7 rf7 r8 rf8 y0 y1 y2 y3 y4 y5 y6 y7 y8
            have r0 : w9.cell? ⟨z, 0, none⟩ = some (.int .i64 0) := hR9.cell 0
            have r1 : w9.cell? ⟨z, 1, none⟩ = some (.int .i64 0) := hR9.cell 1
            have r2 : w9.cell? ⟨z, 2, none⟩ = some (.int .i64 0) := hR9.cell 2
            have r3 : w9.cell? ⟨z, 3, none⟩ = some (.int .i64 0) := hR9.cell 3
            have r4 : w9.cell? ⟨z, 4, none⟩ = some (.int .i64 0) := hR9.cell 4
            have r5 : w9.cell? ⟨z, 5, none⟩ = some (.int .i64 0) := hR9.cell 5
            have r6 : w9.cell? ⟨z, 6, none⟩ = some (.int .i64 0) := hR9.cell 6
            have r7 : w9.cell? ⟨z, 7, none⟩ = some (.int .i64 0) := hR9.cell 7
            have r8 : w9.cell? ⟨z, 8, none⟩ = some (.int .i64 0) := hR9.cell 8
            exact bodyPost_ret (v := .tuple #[.agg #[.int .i64 0, .int .i64 0, .int .i64 0, .int .i64 0, .int .i64 0, .int .i64 0, .int .i64 0, .int .i64 0, .int .i64 0], .bool false]) (by simp [results, Try.results9, go_sem, r0, r1, r2, r3, r4, r5, r6, r7, r8]) rfl ⟨by rw [HLL.out]; rfl, hX9⟩
          · have HLL := Lib.hid (show LW = RcV.of s from by have h := HLB.out; rw [if_pos rfl] at h; exact h)
            go_wp2_with (with_reducible refine hold_post ?_)
            refine Lib.hid ?_
            have hR9 := (((((((((hR).set 0 (.int .i64 (num4 s 0)) rfl).set 1 (.int .i64 (num4 s 4)) rfl).set 2 (.int .i64 (by_ s 8 % 4)) rfl).set 3 (.int .i64 (by_ s 8 / 16)) rfl).set 4 (.int .i64 (by_ s 8 % 16 / 4)) rfl).set 5 (.int .i64 (by_ s 9)) rfl).set 6 (.int .i64 (by_ s 10)) rfl).set 7 (.int .i64 (by_ s 11)) rfl).set 8 (.int .i64 (num4 s 12)) rfl
            simp only [List.setIfInBounds_toArray, List.set_cons_succ, List.set_cons_zero] at hR9
            have hX9 := (((((((((hX).setCell (p := ⟨z, 0, none⟩) (Or.inr (by simp; omega)) (.int .i64 (num4 s 0))).setCell (p := ⟨z, 1, none⟩) (Or.inr (by simp; omega)) (.int .i64 (num4 s 4))).setCell (p := ⟨z, 2, none⟩) (Or.inr (by simp; omega)) (.int .i64 (by_ s 8 % 4))).setCell (p := ⟨z, 3, none⟩) (Or.inr (by simp; omega)) (.int .i64 (by_ s 8 / 16))).setCell (p := ⟨z, 4, none⟩) (Or.inr (by simp; omega)) (.int .i64 (by_ s 8 % 16 / 4))).setCell (p := ⟨z, 5, none⟩) (Or.inr (by simp; omega)) (.int .i64 (by_ s 9))).setCell (p := ⟨z, 6, none⟩) (Or.inr (by simp; omega)) (.int .i64 (by_ s 10))).setCell (p := ⟨z, 7, none⟩) (Or.inr (by simp; omega)) (.int .i64 (by_ s 11))).setCell (p := ⟨z, 8, none⟩) (Or.inr (by simp; omega)) (.int .i64 (num4 s 12))
            generalize (((((((((wf).setCell ⟨z, 0, none⟩ (.int .i64 (num4 s 0))).setCell ⟨z, 1, none⟩ (.int .i64 (num4 s 4))).setCell ⟨z, 2, none⟩ (.int .i64 (by_ s 8 % 4))).setCell ⟨z, 3, none⟩ (.int .i64 (by_ s 8 / 16))).setCell ⟨z, 4, none⟩ (.int .i64 (by_ s 8 % 16 / 4))).setCell ⟨z, 5, none⟩ (.int .i64 (by_ s 9))).setCell ⟨z, 6, none⟩ (.int .i64 (by_ s 10))).setCell ⟨z, 7, none⟩ (.int .i64 (by_ s 11))).setCell ⟨z, 8, none⟩ (.int .i64 (num4 s 12)) = w9 at *
            clear r0 rf0 r1 rf1 r2 rf2 r3 rf3 r4 rf4 r5 rf5 r6 rf6 r7 rf7 r8 rf8 y0 y1 y2 y3 y4 y5 y6 y7 y8
            have r0 : w9.cell? ⟨z, 0, none⟩ = some (.int .i64 (num4 s 0)) := hR9.cell 0
            have r1 : w9.cell? ⟨z, 1, none⟩ = some (.int .i64 (num4 s 4)) := hR9.cell 1
            have r2 : w9.cell? ⟨z, 2, none⟩ = some (.int .i64 (by_ s 8 % 4)) := hR9.cell 2
            have r3 : w9.cell? ⟨z, 3, none⟩ = some (.int .i64 (by_ s 8 / 16)) := hR9.cell 3
            have r4 : w9.cell? ⟨z, 4, none⟩ = some (.int .i64 (by_ s 8 % 16 / 4)) := hR9.cell 4
            have r5 : w9.cell? ⟨z, 5, none⟩ = some (.int .i64 (by_ s 9)) := hR9.cell 5
            have r6 : w9.cell? ⟨z, 6, none⟩ = some (.int .i64 (by_ s 10)) := hR9.cell 6
            have r7 : w9.cell? ⟨z, 7, none⟩ = some (.int .i64 (by_ s 11)) := hR9.cell 7
            have r8 : w9.cell? ⟨z, 8, none⟩ = some (.int .i64 (num4 s 12)) := hR9.cell 8
            exact bodyPost_ret (v := .tuple #[.agg #[.int .i64 (num4 s 0), .int .i64 (num4 s 4), .int .i64 (by_ s 8 % 4), .int .i64 (by_ s 8 / 16), .int .i64 (by_ s 8 % 16 / 4), .int .i64 (by_ s 9), .int .i64 (by_ s 10), .int .i64 (by_ s 11), .int .i64 (num4 s 12)], .bool true]) (by simp [results, Try.results9, go_sem, r0, r1, r2, r3, r4, r5, r6, r7, r8]) rfl ⟨by rw [HLL.out]; rfl, hX9⟩
      · have hne2 : (num4 s 0 != num4 s 20) = true := by simpa using h20
        have hbf : b = false := by rw [HB.out, decide_eq_false h20, Bool.and_false, Bool.false_and]
        have HH := Lib.hid hsum
        have HH2 := Lib.hid h20
        clear hsum h20
        have Cd := C.drew
        clear C
        refine wp_region_stage (CL w [(z, #[.int .i64 0, .int .i64 0, .int .i64 0, .int .i64 0, .int .i64 0, .int .i64 0, .int .i64 0, .int .i64 0, .int .i64 0])]) [6, 10, 15, 18] [(0, 0, false), (0, 0, false), (0, 0, false), (0, 0, false), (0, 0, false), (0, 0, false), (0, 0, true), (1, 2, false), (0, 1, false), (0, 1, false), (1, 1, true), (2, 2, false), (2, 2, false), (2, 2, false), (2, 2, false), (2, 2, true), (2, 3, false), (2, 3, false), (3, 3, true), (4, 4, false), (4, 4, false)]
          (by kernel_rfl) (by kernel_rfl) (by kernel_rfl) (Cd) ?_
        simp only [List.zip_cons_cons, List.zip_nil_right]
        refine wpStage_yes (by go_simp) ?_
        intro K hK
        apply Exists.intro
        refine ⟨fun kk ww hk1 hk2 hC => ?_, ?_⟩
        · go_simp
          with_reducible exact rfl
        go_simp
        refine hK _ ?_
        clear hK K
        refine wpStage_yes (by go_simp) ?_
        intro K hK
        apply Exists.intro
        refine ⟨fun kk ww hk1 hk2 hC => ?_, ?_⟩
        · go_simp
          with_reducible exact rfl
        go_simp
        refine hK _ ?_
        clear hK K
        refine wpStage_yes (by go_simp) ?_
        intro K hK
        apply Exists.intro
        refine ⟨fun kk ww hk1 hk2 hC => ?_, ?_⟩
        · go_simp
          with_reducible exact rfl
        go_simp
        refine hK _ ?_
        clear hK K
        refine wpStage_yes (by go_simp) ?_
        intro K hK
        apply Exists.intro
        refine ⟨fun kk ww hk1 hk2 hC => ?_, ?_⟩
        · go_simp
          with_reducible exact rfl
        go_simp
        refine hK _ ?_
        clear hK K
        refine wpStage_yes (by go_simp) ?_
        intro K hK
        apply Exists.intro
        refine ⟨fun kk ww hk1 hk2 hC => ?_, ?_⟩
        · go_simp
          with_reducible exact rfl
        go_simp
        refine hK _ ?_
        clear hK K
        refine wpStage_yes (by go_simp) ?_
        intro K hK
        apply Exists.intro
        refine ⟨fun kk ww hk1 hk2 hC => ?_, ?_⟩
        · go_simp
          with_reducible exact rfl
        go_simp
        refine hK _ ?_
        clear hK K
        refine wpStage_yes (by go_simp) ?_
        intro K hK
        apply Exists.intro
        refine ⟨fun kk ww hk1 hk2 hC => ?_, ?_⟩
        · go_simp
          go_at_call 25; refine (HS _).mono ?_; rintro e w' ⟨rfl, hX⟩
          exact ⟨rfl, hC.step hX⟩
        go_simp
        refine hK _ ?_
        clear hK K
        refine wpStage_yes (by go_simp) ?_
        intro K hK
        apply Exists.intro
        refine ⟨fun kk ww hk1 hk2 hC => ?_, ?_⟩
        · go_simp
          with_reducible exact rfl
        go_simp
        refine hK _ ?_
        clear hK K
        refine wpStage_yes (by go_simp) ?_
        intro K hK
        apply Exists.intro
        refine ⟨fun kk ww hk1 hk2 hC => ?_, ?_⟩
        · go_simp
          with_reducible exact rfl
        go_simp
        refine hK _ ?_
        clear hK K
        refine wpStage_yes (by go_simp) ?_
        intro K hK
        apply Exists.intro
        refine ⟨fun kk ww hk1 hk2 hC => ?_, ?_⟩
        · go_simp
          with_reducible exact rfl
        go_simp
        refine hK _ ?_
        clear hK K
        refine wpStage_yes (by go_simp) ?_
        intro K hK
        apply Exists.intro
        refine ⟨fun kk ww hk1 hk2 hC => ?_, ?_⟩
        · go_simp
          go_at_call 26; refine (G16 _).mono ?_; rintro e w' ⟨rfl, hX⟩
          exact ⟨rfl, hC.step hX⟩
        go_simp
        refine hK _ ?_
        clear hK K
        refine wpStage_yes (by go_simp) ?_
        intro K hK
        apply Exists.intro
        refine ⟨fun kk ww hk1 hk2 hC => ?_, ?_⟩
        · go_simp
          with_reducible exact rfl
        go_simp
        refine hK _ ?_
        clear hK K
        refine wpStage_yes (by go_simp) ?_
        intro K hK
        apply Exists.intro
        refine ⟨fun kk ww hk1 hk2 hC => ?_, ?_⟩
        · go_simp
          with_reducible exact rfl
        go_simp
        refine hK _ ?_
        clear hK K
        refine wpStage_yes (by go_simp) ?_
        intro K hK
        apply Exists.intro
        refine ⟨fun kk ww hk1 hk2 hC => ?_, ?_⟩
        · go_simp
          with_reducible exact rfl
        go_simp
        refine hK _ ?_
        clear hK K
        refine wpStage_yes (by go_simp) ?_
        intro K hK
        apply Exists.intro
        refine ⟨fun kk ww hk1 hk2 hC => ?_, ?_⟩
        · go_simp
          with_reducible exact rfl
        go_simp
        refine hK _ ?_
        clear hK K
        refine wpStage_yes (by go_simp) ?_
        intro K hK
        apply Exists.intro
        refine ⟨fun kk ww hk1 hk2 hC => ?_, ?_⟩
        · go_simp
          go_at_call 26; refine (G0 _).mono ?_; rintro e w' ⟨rfl, hX⟩
          exact ⟨rfl, hC.step hX⟩
        go_simp
        refine hK _ ?_
        clear hK K
        refine wpStage_yes (by go_simp) ?_
        intro K hK
        apply Exists.intro
        refine ⟨fun kk ww hk1 hk2 hC => ?_, ?_⟩
        · go_simp
          with_reducible exact rfl
        go_simp
        refine hK _ ?_
        clear hK K
        refine wpStage_yes (by go_simp) ?_
        intro K hK
        apply Exists.intro
        refine ⟨fun kk ww hk1 hk2 hC => ?_, ?_⟩
        · go_simp
          with_reducible exact rfl
        go_simp
        refine hK _ ?_
        clear hK K
        refine wpStage_yes (by go_simp) ?_
        intro K hK
        apply Exists.intro
        refine ⟨fun kk ww hk1 hk2 hC => ?_, ?_⟩
        · go_simp
          go_at_call 26; refine (G20 _).mono ?_; rintro e w' ⟨rfl, hX⟩
          exact ⟨rfl, hC.step hX⟩
        go_simp
        refine hK _ ?_
        clear hK K
        refine wpStage_yes (by go_simp) ?_
        intro K hK
        apply Exists.intro
        refine ⟨fun kk ww hk1 hk2 hC => ?_, ?_⟩
        · go_simp
          with_reducible exact rfl
        go_simp
        refine hK _ ?_
        clear hK K
        refine wpStage_yes (by go_simp) ?_
        intro K hK
        apply Exists.intro
        refine ⟨fun kk ww hk1 hk2 hC => ?_, ?_⟩
        · go_simp
          with_reducible exact rfl
        go_simp
        refine hK _ ?_
        clear hK K
        refine wpStage_nil (fun ww hC => ?_)
        clear Cd
        have C := hC
        clear hC
        have hR := C.get 0 rfl
        have hX := C.x
        clear C
        have r0 : ww.cell? ⟨z, 0, none⟩ = some (.int .i64 0) := hR.cell 0; have rf0 := hR.frozen 0
        have r1 : ww.cell? ⟨z, 1, none⟩ = some (.int .i64 0) := hR.cell 1; have rf1 := hR.frozen 1
        have r2 : ww.cell? ⟨z, 2, none⟩ = some (.int .i64 0) := hR.cell 2; have rf2 := hR.frozen 2
        have r3 : ww.cell? ⟨z, 3, none⟩ = some (.int .i64 0) := hR.cell 3; have rf3 := hR.frozen 3
        have r4 : ww.cell? ⟨z, 4, none⟩ = some (.int .i64 0) := hR.cell 4; have rf4 := hR.frozen 4
        have r5 : ww.cell? ⟨z, 5, none⟩ = some (.int .i64 0) := hR.cell 5; have rf5 := hR.frozen 5
        have r6 : ww.cell? ⟨z, 6, none⟩ = some (.int .i64 0) := hR.cell 6; have rf6 := hR.frozen 6
        have r7 : ww.cell? ⟨z, 7, none⟩ = some (.int .i64 0) := hR.cell 7; have rf7 := hR.frozen 7
        have r8 : ww.cell? ⟨z, 8, none⟩ = some (.int .i64 0) := hR.cell 8; have rf8 := hR.frozen 8
        go_wp2_with (with_reducible refine hold_post ?_)
        refine Lib.hid ?_
        have hR9 := (((((((((hR).set 0 (.int .i64 0) rfl).set 1 (.int .i64 0) rfl).set 2 (.int .i64 0) rfl).set 3 (.int .i64 0) rfl).set 4 (.int .i64 0) rfl).set 5 (.int .i64 0) rfl).set 6 (.int .i64 0) rfl).set 7 (.int .i64 0) rfl).set 8 (.int .i64 0) rfl
        simp only [List.setIfInBounds_toArray, List.set_cons_succ, List.set_cons_zero] at hR9
        have hX9 := (((((((((hX).setCell (p := ⟨z, 0, none⟩) (Or.inr (by simp; omega)) (.int .i64 0)).setCell (p := ⟨z, 1, none⟩) (Or.inr (by simp; omega)) (.int .i64 0)).setCell (p := ⟨z, 2, none⟩) (Or.inr (by simp; omega)) (.int .i64 0)).setCell (p := ⟨z, 3, none⟩) (Or.inr (by simp; omega)) (.int .i64 0)).setCell (p := ⟨z, 4, none⟩) (Or.inr (by simp; omega)) (.int .i64 0)).setCell (p := ⟨z, 5, none⟩) (Or.inr (by simp; omega)) (.int .i64 0)).setCell (p := ⟨z, 6, none⟩) (Or.inr (by simp; omega)) (.int .i64 0)).setCell (p := ⟨z, 7, none⟩) (Or.inr (by simp; omega)) (.int .i64 0)).setCell (p := ⟨z, 8, none⟩) (Or.inr (by simp; omega)) (.int .i64 0)
        generalize (((((((((ww).setCell ⟨z, 0, none⟩ (.int .i64 0)).setCell ⟨z, 1, none⟩ (.int .i64 0)).setCell ⟨z, 2, none⟩ (.int .i64 0)).setCell ⟨z, 3, none⟩ (.int .i64 0)).setCell ⟨z, 4, none⟩ (.int .i64 0)).setCell ⟨z, 5, none⟩ (.int .i64 0)).setCell ⟨z, 6, none⟩ (.int .i64 0)).setCell ⟨z, 7, none⟩ (.int .i64 0)).setCell ⟨z, 8, none⟩ (.int .i64 0) = w9 at *
        clear r0 rf0 r1 rf1 r2 rf2 r3 rf3 r4 rf4 r5 rf5 r6 rf6 r7 rf7 r8 rf8
        have r0 : w9.cell? ⟨z, 0, none⟩ = some (.int .i64 0) := hR9.cell 0
        have r1 : w9.cell? ⟨z, 1, none⟩ = some (.int .i64 0) := hR9.cell 1
        have r2 : w9.cell? ⟨z, 2, none⟩ = some (.int .i64 0) := hR9.cell 2
        have r3 : w9.cell? ⟨z, 3, none⟩ = some (.int .i64 0) := hR9.cell 3
        have r4 : w9.cell? ⟨z, 4, none⟩ = some (.int .i64 0) := hR9.cell 4
        have r5 : w9.cell? ⟨z, 5, none⟩ = some (.int .i64 0) := hR9.cell 5
        have r6 : w9.cell? ⟨z, 6, none⟩ = some (.int .i64 0) := hR9.cell 6
        have r7 : w9.cell? ⟨z, 7, none⟩ = some (.int .i64 0) := hR9.cell 7
        have r8 : w9.cell? ⟨z, 8, none⟩ = some (.int .i64 0) := hR9.cell 8
        obtain rfl := hbf
        replace HLB := HLB.out
        rw [if_neg (by simp)] at HLB
        subst HLB
        exact bodyPost_ret (v := .tuple #[.agg #[.int .i64 0, .int .i64 0, .int .i64 0, .int .i64 0, .int .i64 0, .int .i64 0, .int .i64 0, .int .i64 0, .int .i64 0], .bool false]) (by simp [results, Try.results9, go_sem, r0, r1, r2, r3, r4, r5, r6, r7, r8]) rfl ⟨rfl, hX9⟩
    · have hne : (sm != num4 s 16) = true := by simpa using hsum
      have hbf : b = false := by rw [HB.out, decide_eq_false hsum, Bool.and_false, Bool.false_and, Bool.false_and]
      generalize num4 s 16 = n16 at *
      clear HB hsum
      have Cd := C.drew
      clear C
      refine wp_region_stage (CL w [(z, #[.int .i64 0, .int .i64 0, .int .i64 0, .int .i64 0, .int .i64 0, .int .i64 0, .int .i64 0, .int .i64 0, .int .i64 0])]) [6, 10] [(0, 0, false), (0, 0, false), (0, 0, false), (0, 0, false), (0, 0, false), (0, 0, false), (0, 0, true), (1, 2, false), (0, 1, false), (0, 1, false), (1, 1, true), (2, 2, false), (2, 2, false), (2, 2, false), (2, 2, false), (2, 2, false), (2, 2, false), (2, 2, false), (2, 2, false), (2, 2, false), (2, 2, false)]
        (by kernel_rfl) (by kernel_rfl) (by kernel_rfl) (Cd) ?_
      simp only [List.zip_cons_cons, List.zip_nil_right]
      refine wpStage_yes (by go_simp) ?_
      intro K hK
      apply Exists.intro
      refine ⟨fun kk ww hk1 hk2 hC => ?_, ?_⟩
      · go_simp
        with_reducible exact rfl
      go_simp
      refine hK _ ?_
      clear hK K
      refine wpStage_yes (by go_simp) ?_
      intro K hK
      apply Exists.intro
      refine ⟨fun kk ww hk1 hk2 hC => ?_, ?_⟩
      · go_simp
        with_reducible exact rfl
      go_simp
      refine hK _ ?_
      clear hK K
      refine wpStage_yes (by go_simp) ?_
      intro K hK
      apply Exists.intro
      refine ⟨fun kk ww hk1 hk2 hC => ?_, ?_⟩
      · go_simp
        with_reducible exact rfl
      go_simp
      refine hK _ ?_
      clear hK K
      refine wpStage_yes (by go_simp) ?_
      intro K hK
      apply Exists.intro
      refine ⟨fun kk ww hk1 hk2 hC => ?_, ?_⟩
      · go_simp
        with_reducible exact rfl
      go_simp
      refine hK _ ?_
      clear hK K
      refine wpStage_yes (by go_simp) ?_
      intro K hK
      apply Exists.intro
      refine ⟨fun kk ww hk1 hk2 hC => ?_, ?_⟩
      · go_simp
        with_reducible exact rfl
      go_simp
      refine hK _ ?_
      clear hK K
      refine wpStage_yes (by go_simp) ?_
      intro K hK
      apply Exists.intro
      refine ⟨fun kk ww hk1 hk2 hC => ?_, ?_⟩
      · go_simp
        with_reducible exact rfl
      go_simp
      refine hK _ ?_
      clear hK K
      refine wpStage_yes (by go_simp) ?_
      intro K hK
      apply Exists.intro
      refine ⟨fun kk ww hk1 hk2 hC => ?_, ?_⟩
      · go_simp
        go_at_call 25; refine (HS _).mono ?_; rintro e w' ⟨rfl, hX⟩
        exact ⟨rfl, hC.step hX⟩
      go_simp
      refine hK _ ?_
      clear hK K
      refine wpStage_yes (by go_simp) ?_
      intro K hK
      apply Exists.intro
      refine ⟨fun kk ww hk1 hk2 hC => ?_, ?_⟩
      · go_simp
        with_reducible exact rfl
      go_simp
      refine hK _ ?_
      clear hK K
      refine wpStage_yes (by go_simp) ?_
      intro K hK
      apply Exists.intro
      refine ⟨fun kk ww hk1 hk2 hC => ?_, ?_⟩
      · go_simp
        with_reducible exact rfl
      go_simp
      refine hK _ ?_
      clear hK K
      refine wpStage_yes (by go_simp) ?_
      intro K hK
      apply Exists.intro
      refine ⟨fun kk ww hk1 hk2 hC => ?_, ?_⟩
      · go_simp
        with_reducible exact rfl
      go_simp
      refine hK _ ?_
      clear hK K
      refine wpStage_yes (by go_simp) ?_
      intro K hK
      apply Exists.intro
      refine ⟨fun kk ww hk1 hk2 hC => ?_, ?_⟩
      · go_simp
        go_at_call 26; refine (G16 _).mono ?_; rintro e w' ⟨rfl, hX⟩
        exact ⟨rfl, hC.step hX⟩
      go_simp
      refine hK _ ?_
      clear hK K
      refine wpStage_yes (by go_simp) ?_
      intro K hK
      apply Exists.intro
      refine ⟨fun kk ww hk1 hk2 hC => ?_, ?_⟩
      · go_simp
        with_reducible exact rfl
      go_simp
      refine hK _ ?_
      clear hK K
      refine wpStage_yes (by go_simp) ?_
      intro K hK
      apply Exists.intro
      refine ⟨fun kk ww hk1 hk2 hC => ?_, ?_⟩
      · go_simp
        with_reducible exact rfl
      go_simp
      refine hK _ ?_
      clear hK K
      refine wpStage_yes (by go_simp) ?_
      intro K hK
      apply Exists.intro
      refine ⟨fun kk ww hk1 hk2 hC => ?_, ?_⟩
      · go_simp
        with_reducible exact rfl
      go_simp
      refine hK _ ?_
      clear hK K
      refine wpStage_no (by go_simp) ?_
      intro K hK
      go_simp
      refine hK _ ?_
      clear hK K
      refine wpStage_no (by go_simp) ?_
      intro K hK
      go_simp
      refine hK _ ?_
      clear hK K
      refine wpStage_no (by go_simp) ?_
      intro K hK
      go_simp
      refine hK _ ?_
      clear hK K
      refine wpStage_no (by go_simp) ?_
      intro K hK
      go_simp
      refine hK _ ?_
      clear hK K
      refine wpStage_no (by go_simp) ?_
      intro K hK
      go_simp
      refine hK _ ?_
      clear hK K
      refine wpStage_no (by go_simp) ?_
      intro K hK
      go_simp
      refine hK _ ?_
      clear hK K
      refine wpStage_yes (by go_simp) ?_
      intro K hK
      apply Exists.intro
      refine ⟨fun kk ww hk1 hk2 hC => ?_, ?_⟩
      · go_simp
        with_reducible exact rfl
      go_simp
      refine hK _ ?_
      clear hK K
      refine wpStage_nil (fun ww hC => ?_)
      clear Cd
      have C := hC
      clear hC
      have hR := C.get 0 rfl
      have hX := C.x
      clear C
      have r0 : ww.cell? ⟨z, 0, none⟩ = some (.int .i64 0) := hR.cell 0; have rf0 := hR.frozen 0
      have r1 : ww.cell? ⟨z, 1, none⟩ = some (.int .i64 0) := hR.cell 1; have rf1 := hR.frozen 1
      have r2 : ww.cell? ⟨z, 2, none⟩ = some (.int .i64 0) := hR.cell 2; have rf2 := hR.frozen 2
      have r3 : ww.cell? ⟨z, 3, none⟩ = some (.int .i64 0) := hR.cell 3; have rf3 := hR.frozen 3
      have r4 : ww.cell? ⟨z, 4, none⟩ = some (.int .i64 0) := hR.cell 4; have rf4 := hR.frozen 4
      have r5 : ww.cell? ⟨z, 5, none⟩ = some (.int .i64 0) := hR.cell 5; have rf5 := hR.frozen 5
      have r6 : ww.cell? ⟨z, 6, none⟩ = some (.int .i64 0) := hR.cell 6; have rf6 := hR.frozen 6
      have r7 : ww.cell? ⟨z, 7, none⟩ = some (.int .i64 0) := hR.cell 7; have rf7 := hR.frozen 7
      have r8 : ww.cell? ⟨z, 8, none⟩ = some (.int .i64 0) := hR.cell 8; have rf8 := hR.frozen 8
      go_wp2_with (with_reducible refine hold_post ?_)
      refine Lib.hid ?_
      have hR9 := (((((((((hR).set 0 (.int .i64 0) rfl).set 1 (.int .i64 0) rfl).set 2 (.int .i64 0) rfl).set 3 (.int .i64 0) rfl).set 4 (.int .i64 0) rfl).set 5 (.int .i64 0) rfl).set 6 (.int .i64 0) rfl).set 7 (.int .i64 0) rfl).set 8 (.int .i64 0) rfl
      simp only [List.setIfInBounds_toArray, List.set_cons_succ, List.set_cons_zero] at hR9
      have hX9 := (((((((((hX).setCell (p := ⟨z, 0, none⟩) (Or.inr (by simp; omega)) (.int .i64 0)).setCell (p := ⟨z, 1, none⟩) (Or.inr (by simp; omega)) (.int .i64 0)).setCell (p := ⟨z, 2, none⟩) (Or.inr (by simp; omega)) (.int .i64 0)).setCell (p := ⟨z, 3, none⟩) (Or.inr (by simp; omega)) (.int .i64 0)).setCell (p := ⟨z, 4, none⟩) (Or.inr (by simp; omega)) (.int .i64 0)).setCell (p := ⟨z, 5, none⟩) (Or.inr (by simp; omega)) (.int .i64 0)).setCell (p := ⟨z, 6, none⟩) (Or.inr (by simp; omega)) (.int .i64 0)).setCell (p := ⟨z, 7, none⟩) (Or.inr (by simp; omega)) (.int .i64 0)).setCell (p := ⟨z, 8, none⟩) (Or.inr (by simp; omega)) (.int .i64 0)
      generalize (((((((((ww).setCell ⟨z, 0, none⟩ (.int .i64 0)).setCell ⟨z, 1, none⟩ (.int .i64 0)).setCell ⟨z, 2, none⟩ (.int .i64 0)).setCell ⟨z, 3, none⟩ (.int .i64 0)).setCell ⟨z, 4, none⟩ (.int .i64 0)).setCell ⟨z, 5, none⟩ (.int .i64 0)).setCell ⟨z, 6, none⟩ (.int .i64 0)).setCell ⟨z, 7, none⟩ (.int .i64 0)).setCell ⟨z, 8, none⟩ (.int .i64 0) = w9 at *
      clear r0 rf0 r1 rf1 r2 rf2 r3 rf3 r4 rf4 r5 rf5 r6 rf6 r7 rf7 r8 rf8
      have r0 : w9.cell? ⟨z, 0, none⟩ = some (.int .i64 0) := hR9.cell 0
      have r1 : w9.cell? ⟨z, 1, none⟩ = some (.int .i64 0) := hR9.cell 1
      have r2 : w9.cell? ⟨z, 2, none⟩ = some (.int .i64 0) := hR9.cell 2
      have r3 : w9.cell? ⟨z, 3, none⟩ = some (.int .i64 0) := hR9.cell 3
      have r4 : w9.cell? ⟨z, 4, none⟩ = some (.int .i64 0) := hR9.cell 4
      have r5 : w9.cell? ⟨z, 5, none⟩ = some (.int .i64 0) := hR9.cell 5
      have r6 : w9.cell? ⟨z, 6, none⟩ = some (.int .i64 0) := hR9.cell 6
      have r7 : w9.cell? ⟨z, 7, none⟩ = some (.int .i64 0) := hR9.cell 7
      have r8 : w9.cell? ⟨z, 8, none⟩ = some (.int .i64 0) := hR9.cell 8
      obtain rfl := hbf
      replace HLB := HLB.out
      rw [if_neg (by simp)] at HLB
      subst HLB
      exact bodyPost_ret (v := .tuple #[.agg #[.int .i64 0, .int .i64 0, .int .i64 0, .int .i64 0, .int .i64 0, .int .i64 0, .int .i64 0, .int .i64 0, .int .i64 0], .bool false]) (by simp [results, Try.results9, go_sem, r0, r1, r2, r3, r4, r5, r6, r7, r8]) rfl ⟨rfl, hX9⟩
  · have hbf : b = false := by rw [HB.out, decide_eq_false h24]; rfl
    have h24n : ¬ (s.size : Int) = 24 := by omega
    clear HB
    have Cd := C.drew
    clear C
    refine wp_region_stage (CL w [(z, #[.int .i64 0, .int .i64 0, .int .i64 0, .int .i64 0, .int .i64 0, .int .i64 0, .int .i64 0, .int .i64 0, .int .i64 0])]) [] [(0, 0, false), (0, 0, false), (0, 0, false), (0, 0, false), (0, 0, false), (0, 0, false), (0, 0, false), (0, 0, false), (0, 0, false), (0, 0, false), (0, 0, false), (0, 0, false), (0, 0, false), (0, 0, false), (0, 0, false), (0, 0, false), (0, 0, false), (0, 0, false), (0, 0, false), (0, 0, false), (0, 0, false)]
      (by kernel_rfl) (by kernel_rfl) (by kernel_rfl) (Cd) ?_
    simp only [List.zip_cons_cons, List.zip_nil_right]
    refine wpStage_yes (by go_simp) ?_
    intro K hK
    apply Exists.intro
    refine ⟨fun kk ww hk1 hk2 hC => ?_, ?_⟩
    · go_simp
      with_reducible exact rfl
    go_simp
    refine hK _ ?_
    clear hK K
    refine wpStage_yes (by go_simp) ?_
    intro K hK
    apply Exists.intro
    refine ⟨fun kk ww hk1 hk2 hC => ?_, ?_⟩
    · go_simp
      with_reducible exact rfl
    go_simp
    refine hK _ ?_
    clear hK K
    refine wpStage_yes (by go_simp) ?_
    intro K hK
    apply Exists.intro
    refine ⟨fun kk ww hk1 hk2 hC => ?_, ?_⟩
    · go_simp
      with_reducible exact rfl
    go_simp
    refine hK _ ?_
    clear hK K
    refine wpStage_yes (by go_simp) ?_
    intro K hK
    apply Exists.intro
    refine ⟨fun kk ww hk1 hk2 hC => ?_, ?_⟩
    · go_simp
      with_reducible exact rfl
    go_simp
    refine hK _ ?_
    clear hK K
    refine wpStage_no (by go_simp) ?_
    intro K hK
    go_simp
    refine hK _ ?_
    clear hK K
    refine wpStage_no (by go_simp) ?_
    intro K hK
    go_simp
    refine hK _ ?_
    clear hK K
    refine wpStage_no (by go_simp) ?_
    intro K hK
    go_simp
    refine hK _ ?_
    clear hK K
    refine wpStage_no (by go_simp) ?_
    intro K hK
    go_simp
    refine hK _ ?_
    clear hK K
    refine wpStage_no (by go_simp) ?_
    intro K hK
    go_simp
    refine hK _ ?_
    clear hK K
    refine wpStage_no (by go_simp) ?_
    intro K hK
    go_simp
    refine hK _ ?_
    clear hK K
    refine wpStage_no (by go_simp) ?_
    intro K hK
    go_simp
    refine hK _ ?_
    clear hK K
    refine wpStage_no (by go_simp) ?_
    intro K hK
    go_simp
    refine hK _ ?_
    clear hK K
    refine wpStage_yes (by go_simp) ?_
    intro K hK
    apply Exists.intro
    refine ⟨fun kk ww hk1 hk2 hC => ?_, ?_⟩
    · go_simp
      with_reducible exact rfl
    go_simp
    refine hK _ ?_
    clear hK K
    refine wpStage_yes (by go_simp) ?_
    intro K hK
    apply Exists.intro
    refine ⟨fun kk ww hk1 hk2 hC => ?_, ?_⟩
    · go_simp
      with_reducible exact rfl
    go_simp
    refine hK _ ?_
    clear hK K
    refine wpStage_no (by go_simp) ?_
    intro K hK
    go_simp
    refine hK _ ?_
    clear hK K
    refine wpStage_no (by go_simp) ?_
    intro K hK
    go_simp
    refine hK _ ?_
    clear hK K
    refine wpStage_no (by go_simp) ?_
    intro K hK
    go_simp
    refine hK _ ?_
    clear hK K
    refine wpStage_no (by go_simp) ?_
    intro K hK
    go_simp
    refine hK _ ?_
    clear hK K
    refine wpStage_no (by go_simp) ?_
    intro K hK
    go_simp
    refine hK _ ?_
    clear hK K
    refine wpStage_no (by go_simp) ?_
    intro K hK
    go_simp
    refine hK _ ?_
    clear hK K
    refine wpStage_yes (by go_simp) ?_
    intro K hK
    apply Exists.intro
    refine ⟨fun kk ww hk1 hk2 hC => ?_, ?_⟩
    · go_simp
      with_reducible exact rfl
    go_simp
    refine hK _ ?_
    clear hK K
    refine wpStage_nil (fun ww hC => ?_)
    clear Cd
    have C := hC
    clear hC
    have hR := C.get 0 rfl
    have hX := C.x
    clear C
    have r0 : ww.cell? ⟨z, 0, none⟩ = some (.int .i64 0) := hR.cell 0; have rf0 := hR.frozen 0
    have r1 : ww.cell? ⟨z, 1, none⟩ = some (.int .i64 0) := hR.cell 1; have rf1 := hR.frozen 1
    have r2 : ww.cell? ⟨z, 2, none⟩ = some (.int .i64 0) := hR.cell 2; have rf2 := hR.frozen 2
    have r3 : ww.cell? ⟨z, 3, none⟩ = some (.int .i64 0) := hR.cell 3; have rf3 := hR.frozen 3
    have r4 : ww.cell? ⟨z, 4, none⟩ = some (.int .i64 0) := hR.cell 4; have rf4 := hR.frozen 4
    have r5 : ww.cell? ⟨z, 5, none⟩ = some (.int .i64 0) := hR.cell 5; have rf5 := hR.frozen 5
    have r6 : ww.cell? ⟨z, 6, none⟩ = some (.int .i64 0) := hR.cell 6; have rf6 := hR.frozen 6
    have r7 : ww.cell? ⟨z, 7, none⟩ = some (.int .i64 0) := hR.cell 7; have rf7 := hR.frozen 7
    have r8 : ww.cell? ⟨z, 8, none⟩ = some (.int .i64 0) := hR.cell 8; have rf8 := hR.frozen 8
    go_wp2_with (with_reducible refine hold_post ?_)
    refine Lib.hid ?_
    have hR9 := (((((((((hR).set 0 (.int .i64 0) rfl).set 1 (.int .i64 0) rfl).set 2 (.int .i64 0) rfl).set 3 (.int .i64 0) rfl).set 4 (.int .i64 0) rfl).set 5 (.int .i64 0) rfl).set 6 (.int .i64 0) rfl).set 7 (.int .i64 0) rfl).set 8 (.int .i64 0) rfl
    simp only [List.setIfInBounds_toArray, List.set_cons_succ, List.set_cons_zero] at hR9
    have hX9 := (((((((((hX).setCell (p := ⟨z, 0, none⟩) (Or.inr (by simp; omega)) (.int .i64 0)).setCell (p := ⟨z, 1, none⟩) (Or.inr (by simp; omega)) (.int .i64 0)).setCell (p := ⟨z, 2, none⟩) (Or.inr (by simp; omega)) (.int .i64 0)).setCell (p := ⟨z, 3, none⟩) (Or.inr (by simp; omega)) (.int .i64 0)).setCell (p := ⟨z, 4, none⟩) (Or.inr (by simp; omega)) (.int .i64 0)).setCell (p := ⟨z, 5, none⟩) (Or.inr (by simp; omega)) (.int .i64 0)).setCell (p := ⟨z, 6, none⟩) (Or.inr (by simp; omega)) (.int .i64 0)).setCell (p := ⟨z, 7, none⟩) (Or.inr (by simp; omega)) (.int .i64 0)).setCell (p := ⟨z, 8, none⟩) (Or.inr (by simp; omega)) (.int .i64 0)
    generalize (((((((((ww).setCell ⟨z, 0, none⟩ (.int .i64 0)).setCell ⟨z, 1, none⟩ (.int .i64 0)).setCell ⟨z, 2, none⟩ (.int .i64 0)).setCell ⟨z, 3, none⟩ (.int .i64 0)).setCell ⟨z, 4, none⟩ (.int .i64 0)).setCell ⟨z, 5, none⟩ (.int .i64 0)).setCell ⟨z, 6, none⟩ (.int .i64 0)).setCell ⟨z, 7, none⟩ (.int .i64 0)).setCell ⟨z, 8, none⟩ (.int .i64 0) = w9 at *
    clear r0 rf0 r1 rf1 r2 rf2 r3 rf3 r4 rf4 r5 rf5 r6 rf6 r7 rf7 r8 rf8
    have r0 : w9.cell? ⟨z, 0, none⟩ = some (.int .i64 0) := hR9.cell 0
    have r1 : w9.cell? ⟨z, 1, none⟩ = some (.int .i64 0) := hR9.cell 1
    have r2 : w9.cell? ⟨z, 2, none⟩ = some (.int .i64 0) := hR9.cell 2
    have r3 : w9.cell? ⟨z, 3, none⟩ = some (.int .i64 0) := hR9.cell 3
    have r4 : w9.cell? ⟨z, 4, none⟩ = some (.int .i64 0) := hR9.cell 4
    have r5 : w9.cell? ⟨z, 5, none⟩ = some (.int .i64 0) := hR9.cell 5
    have r6 : w9.cell? ⟨z, 6, none⟩ = some (.int .i64 0) := hR9.cell 6
    have r7 : w9.cell? ⟨z, 7, none⟩ = some (.int .i64 0) := hR9.cell 7
    have r8 : w9.cell? ⟨z, 8, none⟩ = some (.int .i64 0) := hR9.cell 8
    obtain rfl := hbf
    replace HLB := HLB.out
    rw [if_neg (by simp)] at HLB
    subst HLB
    exact bodyPost_ret (v := .tuple #[.agg #[.int .i64 0, .int .i64 0, .int .i64 0, .int .i64 0, .int .i64 0, .int .i64 0, .int .i64 0, .int .i64 0, .int .i64 0], .bool false]) (by simp [results, Try.results9, go_sem, r0, r1, r2, r3, r4, r5, r6, r7, r8]) rfl ⟨rfl, hX9⟩
end Go.Proofs.Ytjneidmkllhbjaa
