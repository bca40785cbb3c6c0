/- The reference of fix: Root. -/
import Derived.Test.YthdjanjlpgcmoaaFaw
import Derived.Deep.LoopGhost
namespace Go.Proofs.Ythdjanjlpgcmoaa
open Go.RowKit

/-- What a round of Root keeps. -/
structure RtI (v : Int) (g : Nat) (l : Int) : Prop where
  l0 : 0 ≤ l
  hb : l + 2 ^ g ≤ 4611686018427387904
  lo : l * l ≤ v
  hi : v < (l + 2 ^ g) * (l + 2 ^ g)
set_option maxHeartbeats 2000000 in
theorem rroot_any (w : World) (a : WV) (ha : a.ok) (h0 : 0 ≤ a.val) (h1 : a.val < 21267647932558653966460912964485513216) :
    Calls Try.prog 28 #[.agg a.cells] w fun e w' => e = .returned (.int .i64 (rootV a.val)) ∧ Chg [] w w' := by
  have Hu := Lib.hid (rootV_unique a.val)
  have I0 := Lib.hid (show RtI a.val 62 0 from ⟨by omega, by decide, by omega, by rw [show ((0 : Int) + 2 ^ 62) * (0 + 2 ^ 62) = 21267647932558653966460912964485513216 from rfl]; exact h1⟩)
  have HC := Lib.hid (fun m (g0 : 0 ≤ m) (g1 : m ≤ 4611686018427387904) => show ofV (m * m) |>.ok from ofV_ok _ (by have := Int.mul_nonneg g0 g0; omega) (by have := sq_le m 4611686018427387904 g0 g1; omega))
  obtain ⟨v, hv⟩ : ∃ v, a.val = v := ⟨_, rfl⟩
  rw [hv] at Hu I0 h0 h1
  have HV := Lib.hid hv
  clear hv
  have CC := (CL.new w 0).push #[.int .i64 a.hi, .int .u64 a.lo] 43
  rw [wv_cells a]
  go_enter Try.func28, Try.ntmps28
  generalize hzW : w.heap.size = z at *
  go_wp2_with fail
  go_loopg [3, 4] 62 (fun g lo hi wr => ∃ l h : Int, lo = .int .i64 l ∧ hi = .int .i64 h ∧ Hid (h = l + 2 ^ g) ∧ Hid (RtI v g l) ∧ CL w [(z, #[.int .i64 a.hi, .int .u64 a.lo])] 0 wr)
  case atStart => exact ⟨0, 4611686018427387904, rfl, rfl, Lib.hid (by decide), I0, CC⟩
  case round =>
    clear CC I0
    obtain ⟨l, h, rfl, rfl, HH, HI, CC⟩ := hrel
    have hI := HI.out
    have l0 := hI.l0
    have hh := HH.out
    have hb := hI.hb
    rcases gk with _ | j
    · have e1 : h = l + 1 := by rw [hh]; rfl
      have hr := Hu.out l l0 hI.lo (by have := hI.hi; exact this)
      have HR := Lib.hid hr
      have k1 : h - l = 1 := by omega
      have hh1 : h ≤ 4611686018427387904 := by rw [hh]; exact hb
      clear hI HI HH hh hb hr e1 Hu
      have cc0 := CC.cells 0 rfl
      go_wp2_with fail
      go_returns
      exact ⟨by rw [HV.out, ← HR.out]; rfl, CC.x⟩
    · have hp := pow_pos' j
      rw [pow_succ'] at hh hb
      obtain ⟨q, hq⟩ : ∃ q : Int, (2 : Int) ^ j = q := ⟨_, rfl⟩
      rw [hq] at hh hb hp
      have hi' := hI.hi
      rw [pow_succ', hq] at hi'
      have hlo := hI.lo
      have k1 : h - l = 2 * q := by omega
      have k2 : 2 * q / 2 = q := by omega
      have hh1 : h ≤ 4611686018427387904 := by omega
      obtain ⟨m, hm⟩ : ∃ m, l + q = m := ⟨_, rfl⟩
      have m0 : 0 ≤ m := by omega
      have m1 : m ≤ 4611686018427387904 := by omega
      have HM := Lib.hid hm
      have HQ := Lib.hid hq
      have M1 := fun w => rmul_any w m m (by omega) (by omega) (by omega) (by omega)
      have N1 := fun w => rcmp_any w (ofV (m * m)) a (HC.out m m0 m1) ha
      have hc : (m * m ≤ v ∧ cmpV (ofV (m * m)) a ≤ 0) ∨ (v < m * m ∧ 0 < cmpV (ofV (m * m)) a) := by
        rcases Int.lt_or_le v (m * m) with g | g
        · right; exact ⟨g, by unfold cmpV cmpI; rw [ofV_val', HV.out, if_neg (by omega), if_pos g]; decide⟩
        · left; exact ⟨g, by unfold cmpV cmpI; rw [ofV_val', HV.out]; split <;> (try split) <;> omega⟩
      generalize cmpV (ofV (m * m)) a = y at *
      generalize ofV (m * m) = x at *
      simp only [wv_cells] at M1 N1
      replace M1 := Lib.hid M1
      replace N1 := Lib.hid N1
      have g1 : 1 < 2 * q := by omega
      have HF := Lib.hid hh
      have HL := Lib.hid hlo
      have HX := Lib.hid hi'
      clear hI HI HH hh hb hi' hlo hq
      go_wp2_with fail
      try rw [hm]
      rcases hc with ⟨hc, hy⟩ | ⟨hc, hy⟩
      · have HN := Lib.hid hc
        clear hc hm k1 k2
        have CCd := CC.drew
        clear CC
        refine wp_region_stage (CL w [(z, #[.int .i64 a.hi, .int .u64 a.lo])]) [] [(0, 0, false), (0, 0, false), (0, 0, false), (0, 0, false), (0, 0, false), (0, 0, false)]
          (by kernel_rfl) (by kernel_rfl) (by kernel_rfl) (CCd) ?_
        simp only [List.zip_cons_cons, List.zip_nil_right]
        refine wpStage_yes (by go_simp) ?_
        intro K hK
        apply Exists.intro
        refine ⟨fun kk ww hk1 hk2 hC => ?_, ?_⟩
        · go_simp
          with_reducible exact rfl
        go_simp
        refine hK _ ?_
        clear hK K
        refine wpStage_yes (by go_simp) ?_
        intro K hK
        apply Exists.intro
        refine ⟨fun kk ww hk1 hk2 hC => ?_, ?_⟩
        · go_simp
          with_reducible exact rfl
        go_simp
        refine hK _ ?_
        clear hK K
        refine wpStage_yes (by go_simp) ?_
        intro K hK
        apply Exists.intro
        refine ⟨fun kk ww hk1 hk2 hC => ?_, ?_⟩
        · go_simp
          go_at_call 35; refine (M1.out _).mono ?_; rintro e w' ⟨rfl, hX⟩
          exact ⟨rfl, hC.step hX⟩
        go_simp
        refine hK _ ?_
        clear hK K
        refine wpStage_yes (by go_simp) ?_
        intro K hK
        apply Exists.intro
        refine ⟨fun kk ww hk1 hk2 hC => ?_, ?_⟩
        · have c0 := (hC.get 0 rfl).cell 0; have c1 := (hC.get 0 rfl).cell 1
          go_simp
          with_reducible exact rfl
        go_simp
        refine hK _ ?_
        clear hK K
        refine wpStage_yes (by go_simp) ?_
        intro K hK
        apply Exists.intro
        refine ⟨fun kk ww hk1 hk2 hC => ?_, ?_⟩
        · go_simp
          go_at_call 47; refine (N1.out _).mono ?_; rintro e w' ⟨rfl, hX⟩
          exact ⟨rfl, hC.step hX⟩
        go_simp
        refine hK _ ?_
        clear hK K
        refine wpStage_yes (by go_simp) ?_
        intro K hK
        apply Exists.intro
        refine ⟨fun kk ww hk1 hk2 hC => ?_, ?_⟩
        · go_simp
          with_reducible exact rfl
        go_simp
        refine hK _ ?_
        clear hK K
        refine wpStage_nil (fun ww hC => ?_)
        clear CCd
        have CC := hC
        clear hC
        have cc0 := CC.cells 0 rfl
        go_wp2_with fail
        clear cc0
        go_roundg j
        case rel => exact ⟨m, h, rfl, rfl, Lib.hid (by rw [HQ.out, HF.out, ← HM.out]; omega), Lib.hid ⟨m0, by rw [HQ.out]; have := HF.out; have := HM.out; omega, HN.out, by rw [HQ.out, ← HM.out, show l + q + q = l + 2 * q by omega]; exact HX.out⟩, CC⟩
        case measure => omega
      · have HN := Lib.hid hc
        clear hc hm k1 k2
        have CCd := CC.drew
        clear CC
        refine wp_region_stage (CL w [(z, #[.int .i64 a.hi, .int .u64 a.lo])]) [] [(0, 0, false), (0, 0, false), (0, 0, false), (0, 0, false), (0, 0, false), (0, 0, false)]
          (by kernel_rfl) (by kernel_rfl) (by kernel_rfl) (CCd) ?_
        simp only [List.zip_cons_cons, List.zip_nil_right]
        refine wpStage_yes (by go_simp) ?_
        intro K hK
        apply Exists.intro
        refine ⟨fun kk ww hk1 hk2 hC => ?_, ?_⟩
        · go_simp
          with_reducible exact rfl
        go_simp
        refine hK _ ?_
        clear hK K
        refine wpStage_yes (by go_simp) ?_
        intro K hK
        apply Exists.intro
        refine ⟨fun kk ww hk1 hk2 hC => ?_, ?_⟩
        · go_simp
          with_reducible exact rfl
        go_simp
        refine hK _ ?_
        clear hK K
        refine wpStage_yes (by go_simp) ?_
        intro K hK
        apply Exists.intro
        refine ⟨fun kk ww hk1 hk2 hC => ?_, ?_⟩
        · go_simp
          go_at_call 35; refine (M1.out _).mono ?_; rintro e w' ⟨rfl, hX⟩
          exact ⟨rfl, hC.step hX⟩
        go_simp
        refine hK _ ?_
        clear hK K
        refine wpStage_yes (by go_simp) ?_
        intro K hK
        apply Exists.intro
        refine ⟨fun kk ww hk1 hk2 hC => ?_, ?_⟩
        · have c0 := (hC.get 0 rfl).cell 0; have c1 := (hC.get 0 rfl).cell 1
          go_simp
          with_reducible exact rfl
        go_simp
        refine hK _ ?_
        clear hK K
        refine wpStage_yes (by go_simp) ?_
        intro K hK
        apply Exists.intro
        refine ⟨fun kk ww hk1 hk2 hC => ?_, ?_⟩
        · go_simp
          go_at_call 47; refine (N1.out _).mono ?_; rintro e w' ⟨rfl, hX⟩
          exact ⟨rfl, hC.step hX⟩
        go_simp
        refine hK _ ?_
        clear hK K
        refine wpStage_yes (by go_simp) ?_
        intro K hK
        apply Exists.intro
        refine ⟨fun kk ww hk1 hk2 hC => ?_, ?_⟩
        · go_simp
          with_reducible exact rfl
        go_simp
        refine hK _ ?_
        clear hK K
        refine wpStage_nil (fun ww hC => ?_)
        clear CCd
        have CC := hC
        clear hC
        have cc0 := CC.cells 0 rfl
        go_wp2_with fail
        clear cc0
        go_roundg j
        case rel => exact ⟨l, m, rfl, rfl, Lib.hid (by rw [HQ.out, ← HM.out]), Lib.hid ⟨l0, by rw [HQ.out]; have := HF.out; have := HM.out; omega, HL.out, by rw [HQ.out, HM.out]; exact HN.out⟩, CC⟩
        case measure => omega
end Go.Proofs.Ythdjanjlpgcmoaa
