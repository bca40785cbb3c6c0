/- The law LatchSlots. -/
import Derived.Test.YtjneidmkllhbjaaLsp
namespace Go.Proofs.Ytjneidmkllhbjaa
open Go.RowKit

set_option maxRecDepth 100000 in
set_option maxHeartbeats 8000000 in
theorem lslots_z (W : World) (q : RcV) (a b0 : ByteArray) (hza : a.size = 24) (hzb : b0.size = 24) (hk : keptK a b0 = 0) : Calls Try.prog 4 #[.string a, .string b0, .agg q.cells] W fun e w' => e = .returned (.bool true) ∧ Below W.heap.size W w' := by
  have HK := fun w => rkept_any w a b0 (by unfold maxLen; omega) (by unfold maxLen; omega)
  have Hop := kept_open a b0 hza hzb
  have hsq := kept_seq a b0
  have Htwo := two_slots a b0 hza hzb
  rw [hk] at HK Hop
  clear hk
  generalize keptR a b0 = m at *
  have HLm := fun w => like_any w m
  obtain ⟨l, hl⟩ : ∃ l : LtV, l = ⟨0, 0, m, true⟩ := ⟨_, rfl⟩
  obtain ⟨p, hp⟩ : ∃ p : RcV, p = q.next l := ⟨_, rfl⟩
  have hpn : p.next l = p := by rw [hp]; rfl
  have hp2 : p = ⟨m.seq + 1, q.cyc, q.ph, q.st, q.fl, q.vi, q.di, q.inv, q.inph⟩ := by rw [hp, hl]; rfl
  obtain ⟨s2, hs2⟩ : ∃ s : FL, s = ⟨a ++ b0, false, 0, false, 0 + 1 + 1⟩ := ⟨_, rfl⟩
  have hlk : LaOk s2 l 1000 := by
    rw [hs2, hl]
    refine ⟨by show (a ++ b0).size ≤ 4096; rw [ByteArray.size_append]; omega, by dsimp only; omega, by show (0 : Int) + 48 ≤ ((a ++ b0).size : Int); rw [ByteArray.size_append]; omega, by dsimp only; omega, by dsimp only; omega, hsq.1, hsq.2, by dsimp only; omega, by dsimp only; omega⟩
  have HLp := fun w => like_any w p
  have HRp := fun w => rright_any w p
  have hna : ((a.size : Int) != 24) = false := by rw [hza]; rfl
  have hnb : ((b0.size : Int) != 24) = false := by rw [hzb]; rfl
  replace Hop := Lib.hid (show LtV.open 0 (a ++ b0) = l by rw [hl]; exact Hop)
  have Hl := Lib.hid hl
  have Hp := Lib.hid hp2
  have Hpn := Lib.hid hpn
  have Hs2 := Lib.hid hs2
  replace Htwo := Lib.hid Htwo
  clear hl hp hp2 hpn hs2
  rw [show p.cells = #[.int .i64 (m.seq + 1), .int .i64 q.cyc, .int .i64 q.ph, .int .i64 q.st, .int .i64 q.fl, .int .i64 q.vi, .int .i64 q.di, .int .i64 q.inv, .int .i64 q.inph] by rw [Hp.out]; rfl] at HLp HRp
  rw [show q.cells = #[.int .i64 q.seq, .int .i64 q.cyc, .int .i64 q.ph, .int .i64 q.st, .int .i64 q.fl, .int .i64 q.vi, .int .i64 q.di, .int .i64 q.inv, .int .i64 q.inph] from rfl]
  rw [show m.cells = #[.int .i64 m.seq, .int .i64 m.cyc, .int .i64 m.ph, .int .i64 m.st, .int .i64 m.fl, .int .i64 m.vi, .int .i64 m.di, .int .i64 m.inv, .int .i64 m.inph] from rfl] at *
  replace HK := Lib.hid HK
  replace HLm := Lib.hid HLm
  replace HLp := Lib.hid HLp
  replace HRp := Lib.hid HRp
  go_enter Try.func4, Try.ntmps4
  go_upto_region 1 with fail
  have h5 := At.new W #[.int .i64 q.seq, .int .i64 q.cyc, .int .i64 q.ph, .int .i64 q.st, .int .i64 q.fl, .int .i64 q.vi, .int .i64 q.di, .int .i64 q.inv, .int .i64 q.inph] 23
  have hX : Chg [] W (W.alloc (.cells #[.int .i64 q.seq, .int .i64 q.cyc, .int .i64 q.ph, .int .i64 q.st, .int .i64 q.fl, .int .i64 q.vi, .int .i64 q.di, .int .i64 q.inv, .int .i64 q.inph] 23)) := (Chg.refl [] W).alloc _
  generalize hz : W.heap.size = z5 at h5 ⊢
  have hzW : W.heap.size ≤ z5 := by omega
  clear hz
  generalize W.alloc (.cells #[.int .i64 q.seq, .int .i64 q.cyc, .int .i64 q.ph, .int .i64 q.st, .int .i64 q.fl, .int .i64 q.vi, .int .i64 q.di, .int .i64 q.inv, .int .i64 q.inph] 23) = w0 at *
  go_wp2_with fail
  refine (awake09 _).mono ?_; rintro e w1 ⟨rfl, hX1⟩
  replace h5 := hX1.at h5 (by simp)
  replace hX := hX.trans hX1
  clear hX1
  have HN := fl_new w1 48 (by omega) (by omega)
  rw [show ((48 : Nat) : Int) = 48 from rfl] at HN
  go_wp2_with fail
  refine HN.mono ?_; clear HN; rintro e w2 ⟨f, r, c, rfl, hf, hr, hc, hF, hX2⟩
  have h5l := h5.lt
  have hWs := hX.size
  have d5 : z5 ≠ f ∧ z5 ≠ r ∧ z5 ≠ c ∧ W.heap.size ≤ f ∧ W.heap.size ≤ r ∧ W.heap.size ≤ c := by omega
  clear hf hr hc h5l hWs
  replace h5 := hX2.at h5 (by simp)
  replace hX := hX.trans hX2
  clear hX2
  have HW := fl_write w2 f r c _ hF rfl rfl 0 a (by show (rep 48).size ≤ 4096; rw [rep_size]; omega) (by show 0 + a.size ≤ (rep 48).size; rw [rep_size]; omega) (by decide) (by decide)
  rw [show ((0 : Nat) : Int) = 0 from rfl] at HW
  go_wp2_with fail
  refine HW.mono ?_; clear HW; rintro e w3 ⟨rfl, hF3, hX3⟩
  replace h5 := hX3.at h5 (by simp; omega)
  replace hX := hX.then hX3 (by simp; omega)
  clear hX3 hF
  have HW := fl_write w3 f r c _ hF3 rfl rfl 24 b0 (by show (over (rep 48) 0 a).size ≤ 4096; rw [over_size _ _ _ (by rw [rep_size]; omega), rep_size]; omega) (by show 24 + b0.size ≤ (over (rep 48) 0 a).size; rw [over_size _ _ _ (by rw [rep_size]; omega), rep_size]; omega) (by dsimp only; omega) (by dsimp only; omega)
  rw [show ((24 : Nat) : Int) = 24 from rfl] at HW
  go_wp2_with fail
  refine HW.mono ?_; clear HW; rintro e w4 ⟨rfl, hF4, hX4⟩
  replace h5 := hX4.at h5 (by simp; omega)
  replace hX := hX.then hX4 (by simp; omega)
  clear hX4 hF3
  have hF : FlA w4 f r c s2 := by rw [Hs2.out]; rw [← Htwo.out]; exact hF4
  clear hF4
  have HO := lopen_ok w4 f r c _ hF (by rw [Hs2.out]) (by rw [Hs2.out]; show (a ++ b0).size ≤ 4096; rw [ByteArray.size_append]; omega) 0 (by rw [Hs2.out]; show 0 + 48 ≤ (a ++ b0).size; rw [ByteArray.size_append]; omega)
  rw [show ((0 : Nat) : Int) = 0 from rfl, show LtV.open 0 s2.B = l by rw [Hs2.out]; exact Hop.out] at HO
  go_wp2_with fail
  refine HO.mono ?_; clear HO; rintro e w5 ⟨b, rfl, hL, hX5, hb⟩
  have hfl := hF.at_.lt; have hrl : r < w4.heap.size := hF.row.lt; have hcl := hF.ctr.lt; have h5l := h5.lt; have hWs := hX.size
  have hA : LaA w5 b f r c s2 l := ⟨hF.keep hX5 (by simp) (by simp) (by simp), hL, by omega, by omega, by omega⟩
  have d6 : z5 ≠ b ∧ W.heap.size ≤ b := by omega
  clear hfl hrl hcl h5l hWs hb hL hF
  replace h5 := hX5.at h5 (by simp)
  replace hX := hX.trans hX5
  clear hX5
  go_wp2_with fail
  refine (HK.out _).mono ?_; rintro e w6 ⟨rfl, hX6⟩
  replace hA := hA.keep hX6 (by simp) (by simp) (by simp) (by simp)
  replace h5 := hX6.at h5 (by simp)
  replace hX := hX.trans hX6
  clear hX6
  have C : CL W [(z5, #[.int .i64 q.seq, .int .i64 q.cyc, .int .i64 q.ph, .int .i64 q.st, .int .i64 q.fl, .int .i64 q.vi, .int .i64 q.di, .int .i64 q.inv, .int .i64 q.inph])] 0 w6 := ⟨by simp; exact h5, hX⟩
  go_wp2_with (refine wpList_put rfl rfl rfl rfl (At.new _ _ _) rfl (by kernel_rfl) (by simp [Value.oneCell']) ?_; intro w7 hz7 hX7; refine Hid.out ?_)
  refine Lib.hid ?_
  replace C := C.fill hX7 hz7
  have hbs := hA.lt.lt; have hfs := hA.fl.at_.lt; have hrs : r < w6.heap.size := hA.fl.row.lt; have hcs := hA.fl.ctr.lt
  replace hA := (hA.keep ((Chg.refl [] w6).alloc _) (by simp) (by simp) (by simp) (by simp)).keep hX7 (by simp; omega) (by simp; omega) (by simp; omega) (by simp; omega)
  clear hX7 hz7 hbs hfs hrs hcs h5 hX
  generalize w6.heap.size = z12 at *
  have HL := llast_any w7 b f _ hA.lt
  rw [show l.last.cells = #[.int .i64 m.seq, .int .i64 m.cyc, .int .i64 m.ph, .int .i64 m.st, .int .i64 m.fl, .int .i64 m.vi, .int .i64 m.di, .int .i64 m.inv, .int .i64 m.inph] by rw [Hl.out]; rfl, show l.ok = true by rw [Hl.out]] at HL
  go_wp2_with fail
  refine HL.mono ?_; clear HL; rintro e w8 ⟨rfl, hX8⟩
  replace hA := hA.keep hX8 (by simp) (by simp) (by simp) (by simp)
  replace C := C.step (j := 0) hX8
  clear hX8
  go_wp2_with (refine wpList_put rfl rfl rfl rfl (At.new _ _ _) rfl (by kernel_rfl) (by simp [Value.oneCell']) ?_; intro w9 hz9 hX9; refine Hid.out ?_)
  refine Lib.hid ?_
  have hbs := hA.lt.lt; have hfs := hA.fl.at_.lt; have hrs : r < w8.heap.size := hA.fl.row.lt; have hcs := hA.fl.ctr.lt
  have hz12 := (C.get 0 rfl).lt; have hz5 := (C.get 1 rfl).lt
  replace C := C.fill hX9 hz9
  replace hA := (hA.keep ((Chg.refl [] w8).alloc _) (by simp) (by simp) (by simp) (by simp)).keep hX9 (by simp; omega) (by simp; omega) (by simp; omega) (by simp; omega)
  clear hX9 hz9 hbs hfs hrs hcs hz12 hz5
  generalize w8.heap.size = z13 at *
  go_upto_region 9 with fail
  refine wp_region_ex (fun _ w => CL W [(z13, #[.int .i64 m.seq, .int .i64 m.cyc, .int .i64 m.ph, .int .i64 m.st, .int .i64 m.fl, .int .i64 m.vi, .int .i64 m.di, .int .i64 m.inv, .int .i64 m.inph]), (z12, #[.int .i64 m.seq, .int .i64 m.cyc, .int .i64 m.ph, .int .i64 m.st, .int .i64 m.fl, .int .i64 m.vi, .int .i64 m.di, .int .i64 m.inv, .int .i64 m.inph]), (z5, #[.int .i64 q.seq, .int .i64 q.cyc, .int .i64 q.ph, .int .i64 q.st, .int .i64 q.fl, .int .i64 q.vi, .int .i64 q.di, .int .i64 q.inv, .int .i64 q.inph])] 0 w ∧ LaA w b f r c s2 l) (fun _ _ => True) [] [(0, 0, false), (0, 0, false), (0, 0, false), (0, 0, false), (0, 0, false), (0, 0, false), (0, 0, false), (0, 0, false), (0, 0, false), (0, 0, false), (0, 0, false), (0, 0, false), (0, 0, false), (0, 0, false)] [57, 58, 59, 60, 61, 62, 63, 64, 65, 66, 67, 68, 69, 70] (by kernel_rfl) rfl (by kernel_rfl) (by kernel_rfl) (⟨C.drew, hA.keep ((Chg.refl [] _).drew) (by simp) (by simp) (by simp) (by simp)⟩) ?_
  simp only [List.zip_cons_cons, List.zip_nil_right]
  refine ex_det 57 [10] rfl rfl (fun _ _ _ _ _ _ _ _ => rfl) ?_
  apply Exists.intro
  refine ⟨?_, ?_⟩
  · intro wx b k hk1 hk2 hC hb hd K hK
    have e10 := hb 10 rfl
    simp only [exSlot, List.getD_cons_succ, List.getD_cons_zero] at e10
    simp only [execOp, e10]
    clear hb hd
    go_simp
    exact hK _ hC (trivial)
  refine ex_det 58 [57] rfl rfl (fun _ _ _ _ _ _ _ _ => rfl) ?_
  apply Exists.intro
  refine ⟨?_, ?_⟩
  · intro wx b k hk1 hk2 hC hb hd K hK
    have e57 := hd 57 _ _ rfl rfl
    try dsimp only at e57
    simp only [execOp, e57]
    clear hb hd
    go_simp
    exact hK _ hC (trivial)
  refine ex_det 59 [58] rfl rfl (fun _ _ _ _ _ _ _ _ => rfl) ?_
  apply Exists.intro
  refine ⟨?_, ?_⟩
  · intro wx b k hk1 hk2 hC hb hd K hK
    have e58 := hd 58 _ _ rfl rfl
    try dsimp only at e58
    simp only [execOp, e58]
    clear hb hd
    go_simp
    exact hK _ hC (trivial)
  refine ex_det 60 [14, 59] rfl rfl (fun _ b _ _ _ _ hb hd => (wanted_guard b rfl rfl (hd 59 _ _ rfl rfl)).trans rfl) ?_
  apply Exists.intro
  refine ⟨?_, ?_⟩
  · intro wx b k hk1 hk2 hC hb hd K hK
    have e14 := hb 14 rfl
    simp only [exSlot, List.getD_cons_succ, List.getD_cons_zero] at e14
    simp only [execOp, e14]
    clear hb hd
    go_simp
    exact hK _ hC (trivial)
  refine ex_det 61 [11, 59] rfl rfl (fun _ b _ _ _ _ hb hd => (wanted_guard b rfl rfl (hd 59 _ _ rfl rfl)).trans rfl) ?_
  apply Exists.intro
  refine ⟨?_, ?_⟩
  · intro wx b k hk1 hk2 hC hb hd K hK
    have e11 := hb 11 rfl
    simp only [exSlot, List.getD_cons_succ, List.getD_cons_zero] at e11
    simp only [execOp, e11]
    clear hb hd
    go_simp
    exact hK _ hC (trivial)
  refine ex_det 62 [61, 59] rfl rfl (fun _ b _ _ _ _ hb hd => (wanted_guard b rfl rfl (hd 59 _ _ rfl rfl)).trans rfl) ?_
  apply Exists.intro
  refine ⟨?_, ?_⟩
  · intro wx b k hk1 hk2 hC hb hd K hK
    have e61 := hd 61 _ _ rfl rfl
    try dsimp only at e61
    simp only [execOp, e61]
    clear hb hd
    go_simp
    exact hK _ hC (trivial)
  refine ex_det 63 [60, 62, 59] rfl rfl (fun _ b _ _ _ _ hb hd => (wanted_guard b rfl rfl (hd 59 _ _ rfl rfl)).trans rfl) ?_
  apply Exists.intro
  refine ⟨?_, ?_⟩
  · intro wx b k hk1 hk2 hC hb hd K hK
    have e60 := hd 60 _ _ rfl rfl
    try dsimp only at e60
    have e62 := hd 62 _ _ rfl rfl
    try dsimp only at e62
    simp only [execOp, e60, e62]
    clear hb hd
    go_simp
    exact hK _ hC (trivial)
  refine ex_det 64 [59, 63] rfl rfl (fun _ _ _ _ _ _ _ _ => rfl) ?_
  apply Exists.intro
  refine ⟨?_, ?_⟩
  · intro wx b k hk1 hk2 hC hb hd K hK
    have e59 := hd 59 _ _ rfl rfl
    try dsimp only at e59
    have e63 := hd 63 _ _ rfl rfl
    try dsimp only at e63
    simp only [execOp, e59, e63]
    clear hb hd
    go_simp
    exact hK _ hC (trivial)
  refine ex_det 65 [64] rfl rfl (fun _ _ _ _ _ _ _ _ => rfl) ?_
  apply Exists.intro
  refine ⟨?_, ?_⟩
  · intro wx b k hk1 hk2 hC hb hd K hK
    have e64 := hd 64 _ _ rfl rfl
    try dsimp only at e64
    simp only [execOp, e64]
    clear hb hd
    go_simp
    exact hK _ hC (trivial)
  refine ex_det 66 [13, 65] rfl rfl (fun _ b _ _ _ _ hb hd => (wanted_guard b rfl rfl (hd 65 _ _ rfl rfl)).trans rfl) ?_
  apply Exists.intro
  refine ⟨?_, ?_⟩
  · intro wx b k hk1 hk2 hC hb hd K hK
    have e13 := hb 13 rfl
    simp only [exSlot, List.getD_cons_succ, List.getD_cons_zero] at e13
    simp only [execOp, e13]
    clear hb hd
    have hrun := (hC.1.get 0 rfl).load 23 (by kernel_rfl)
    simp only [Sem.run_bind, hrun, Result.andThen_ok, Sem.run_pure, invUpon]
    exact hK _ hC (trivial)
  refine ex_det 67 [66, 65] rfl rfl (fun _ b _ _ _ _ hb hd => (wanted_guard b rfl rfl (hd 65 _ _ rfl rfl)).trans rfl) ?_
  apply Exists.intro
  refine ⟨?_, ?_⟩
  · intro wx b k hk1 hk2 hC hb hd K hK
    have e66 := hd 66 _ _ rfl rfl
    try dsimp only at e66
    simp only [execOp, resolve, List.map_toArray, List.map_cons, List.map_nil, e66]
    clear hb hd
    go_simp
    refine (HLm.out wx).mono ?_; rintro e w' ⟨rfl, hX⟩
    exact ⟨_, rfl, hK _ ⟨hC.1.step hX, hC.2.keep hX (by simp) (by simp) (by simp) (by simp)⟩ trivial⟩
  refine ex_det 68 [12, 65] rfl rfl (fun _ b _ _ _ _ hb hd => (wanted_guard b rfl rfl (hd 65 _ _ rfl rfl)).trans rfl) ?_
  apply Exists.intro
  refine ⟨?_, ?_⟩
  · intro wx b k hk1 hk2 hC hb hd K hK
    have e12 := hb 12 rfl
    simp only [exSlot, List.getD_cons_succ, List.getD_cons_zero] at e12
    simp only [execOp, e12]
    clear hb hd
    have hrun := (hC.1.get 1 rfl).load 28 (by kernel_rfl)
    simp only [Sem.run_bind, hrun, Result.andThen_ok, Sem.run_pure, invUpon]
    exact hK _ hC (trivial)
  refine ex_det 69 [67, 68, 65] rfl rfl (fun _ b _ _ _ _ hb hd => (wanted_guard b rfl rfl (hd 65 _ _ rfl rfl)).trans rfl) ?_
  apply Exists.intro
  refine ⟨?_, ?_⟩
  · intro wx b k hk1 hk2 hC hb hd K hK
    have e67 := hd 67 _ _ rfl rfl
    try dsimp only at e67
    have e68 := hd 68 _ _ rfl rfl
    try dsimp only at e68
    simp only [execOp, e67, e68]
    clear hb hd
    go_simp
    exact hK _ hC (trivial)
  refine ex_det 70 [65, 69] rfl rfl (fun _ _ _ _ _ _ _ _ => rfl) ?_
  apply Exists.intro
  refine ⟨?_, ?_⟩
  · intro wx b k hk1 hk2 hC hb hd K hK
    have e65 := hd 65 _ _ rfl rfl
    try dsimp only at e65
    have e69 := hd 69 _ _ rfl rfl
    try dsimp only at e69
    simp only [execOp, e65, e69]
    clear hb hd
    go_simp
    exact hK _ hC (trivial)
  refine ex_end ?_
  intro us w2 hus hC hall
  obtain ⟨v0, us, rfl⟩ := List.exists_cons_of_length_eq_add_one hus
  replace hus := Nat.succ.inj hus
  obtain ⟨v1, us, rfl⟩ := List.exists_cons_of_length_eq_add_one hus
  replace hus := Nat.succ.inj hus
  obtain ⟨v2, us, rfl⟩ := List.exists_cons_of_length_eq_add_one hus
  replace hus := Nat.succ.inj hus
  obtain ⟨v3, us, rfl⟩ := List.exists_cons_of_length_eq_add_one hus
  replace hus := Nat.succ.inj hus
  obtain ⟨v4, us, rfl⟩ := List.exists_cons_of_length_eq_add_one hus
  replace hus := Nat.succ.inj hus
  obtain ⟨v5, us, rfl⟩ := List.exists_cons_of_length_eq_add_one hus
  replace hus := Nat.succ.inj hus
  obtain ⟨v6, us, rfl⟩ := List.exists_cons_of_length_eq_add_one hus
  replace hus := Nat.succ.inj hus
  obtain ⟨v7, us, rfl⟩ := List.exists_cons_of_length_eq_add_one hus
  replace hus := Nat.succ.inj hus
  obtain ⟨v8, us, rfl⟩ := List.exists_cons_of_length_eq_add_one hus
  replace hus := Nat.succ.inj hus
  obtain ⟨v9, us, rfl⟩ := List.exists_cons_of_length_eq_add_one hus
  replace hus := Nat.succ.inj hus
  obtain ⟨v10, us, rfl⟩ := List.exists_cons_of_length_eq_add_one hus
  replace hus := Nat.succ.inj hus
  obtain ⟨v11, us, rfl⟩ := List.exists_cons_of_length_eq_add_one hus
  replace hus := Nat.succ.inj hus
  obtain ⟨v12, us, rfl⟩ := List.exists_cons_of_length_eq_add_one hus
  replace hus := Nat.succ.inj hus
  obtain ⟨v13, us, rfl⟩ := List.exists_cons_of_length_eq_add_one hus
  replace hus := Nat.succ.inj hus
  obtain rfl := List.length_eq_zero_iff.1 hus
  clear hus
  generalize hbb : exPuts _ _ _ = bb at hall ⊢
  simp only [exPuts, Act.put, List.setIfInBounds_toArray, List.set_cons_succ, List.set_cons_zero] at hbb
  subst hbb
  obtain ⟨h13, h12, h11, h10, h9, h8, h7, h6, h5, h4, h3, h2, h1, h0, -⟩ := hall
  obtain rfl : v0 = _ := h0
  obtain rfl : v1 = _ := h1
  obtain rfl : v2 = _ := h2
  obtain rfl : v3 = _ := h3
  obtain rfl : v4 = _ := h4
  obtain rfl : v5 = _ := h5
  obtain rfl : v6 = _ := h6
  obtain rfl : v7 = _ := h7
  obtain rfl : v8 = _ := h8
  obtain rfl : v9 = _ := h9
  obtain rfl : v10 = _ := h10
  obtain rfl : v11 = _ := h11
  obtain rfl : v12 = _ := h12
  obtain rfl : v13 = _ := h13
  obtain ⟨C, hA⟩ := hC
  have t0 : w2.cell? ⟨z12, 0, none⟩ = some (.int .i64 m.seq) := (C.get 1 rfl).cell 0
  have q0 : w2.cell? ⟨z5, 0, none⟩ = some (.int .i64 q.seq) := (C.get 2 rfl).cell 0
  have qf : w2.frozen? ⟨z5, 0, none⟩ = false := (C.get 2 rfl).frozen 0
  have h5 := C.get 2 rfl
  have hX := C.x
  dsimp only at h5
  go_upto_region 12 with fail
  clear t0 q0 qf C
  have d7 : z5 ∉ [b, f, r, c] := by simp; omega
  replace hA := hA.keep ((Chg.refl [z5] w2).setCell (p := ⟨z5, 0, none⟩) (.inl (by simp)) (.int .i64 (m.seq + 1))) (by simp; omega) (by simp; omega) (by simp; omega) (by simp; omega)
  replace h5 := h5.set 0 (.int .i64 (m.seq + 1)) rfl
  simp only [List.setIfInBounds_toArray, List.set_cons_zero] at h5
  replace hX := hX.setCell (p := ⟨z5, 0, none⟩) (.inr hzW) (.int .i64 (m.seq + 1))
  generalize w2.setCell ⟨z5, 0, none⟩ (.int .i64 (m.seq + 1)) = w3 at *
  go_wp2_with (refine wpList_get rfl rfl rfl h5 (by kernel_rfl) ?_)
  have HS := lsave_any w3 b f r c _ _ p hA hlk (by rw [Hs2.out]; show (0 : Int) ≤ 0; omega)
  rw [show p.cells = #[.int .i64 (m.seq + 1), .int .i64 q.cyc, .int .i64 q.ph, .int .i64 q.st, .int .i64 q.fl, .int .i64 q.vi, .int .i64 q.di, .int .i64 q.inv, .int .i64 q.inph] by rw [Hp.out]; rfl] at HS
  refine HS.mono ?_; clear HS; rintro e w4 ⟨rfl, hA4, hX4⟩
  replace h5 := hX4.at h5 d7
  replace hX := hX.then hX4 (by simp; omega)
  clear hA hX4
  go_wp2_with (refine wpList_get rfl rfl rfl h5 (by kernel_rfl) ?_)
  refine (HLp.out _).mono ?_; rintro e w5 ⟨rfl, hX5⟩
  replace h5 := hX5.at h5 (by simp)
  replace hX := hX.trans hX5
  replace hA4 := hA4.keep hX5 (by simp) (by simp) (by simp) (by simp)
  clear hX5
  go_wp2_with fail
  refine (HRp.out _).mono ?_; rintro e w6 ⟨rfl, hX6⟩
  replace h5 := hX6.at h5 (by simp)
  replace hX := hX.trans hX6
  replace hA4 := hA4.keep hX6 (by simp) (by simp) (by simp) (by simp)
  clear hX6
  have HnR := Hpn.out
  cases hr : p.right with
  | false =>
    rw [show saveE s2 l p = 1 by unfold saveE; rw [HnR, hr]; rfl]
    go_wp2
    go_returns
    exact ⟨rfl, hX.to_below⟩
  | true =>
    have e0 : saveE s2 l p = 0 := by unfold saveE; rw [HnR, hr, Hs2.out]; rfl
    have hz24 : (strOfNums p.all).size = 24 := by rw [strOfNums_size, RcV.all_len]
    have eB : (saveF s2 l p).B = a ++ strOfNums p.all ∧ (saveF s2 l p).off = false := by
      unfold saveF
      rw [HnR, hr, Hs2.out]
      refine ⟨?_, rfl⟩
      show over (a ++ b0) (FL.place l) _ = _
      rw [show FL.place l = 24 by unfold FL.place; rw [Hl.out]; rfl]
      exact over_1 a b0 _ hza hzb hz24
    have hws : (a ++ strOfNums p.all).size = 48 := by rw [ByteArray.size_append]; omega
    have HP : Calls Try.prog 8 #[.agg #[.int .i64 (m.seq + 1), .int .i64 q.cyc, .int .i64 q.ph, .int .i64 q.st, .int .i64 q.fl, .int .i64 q.vi, .int .i64 q.di, .int .i64 q.inv, .int .i64 q.inph]] w6 fun e w' => e = .returned (.string (strOfNums p.all)) ∧ Chg [] w6 w' := by
      have := lprint_any w6 p
      rw [show p.cells = #[.int .i64 (m.seq + 1), .int .i64 q.cyc, .int .i64 q.ph, .int .i64 q.st, .int .i64 q.fl, .int .i64 q.vi, .int .i64 q.di, .int .i64 q.inv, .int .i64 q.inph] by rw [Hp.out]; rfl, show p.print = strOfNums p.all by unfold RcV.print; rw [hr]; rfl] at this
      exact this
    have HR := fl_read w6 f r c _ hA4.fl eB.2 0 48 (by rw [eB.1, hws]; omega) (by rw [eB.1, hws]; omega)
    rw [eB.1, show ((a ++ strOfNums p.all).extract 0 (0 + 48)) = a ++ strOfNums p.all by have := ext_all (a ++ strOfNums p.all); rw [hws] at this; exact this, show ((0 : Nat) : Int) = 0 from rfl, show ((48 : Nat) : Int) = 48 from rfl] at HR
    rw [e0]
    clear eB hA4 HnR
    generalize strOfNums p.all = t at *
    go_wp2_with fail
    refine HR.mono ?_; clear HR; rintro e w7 ⟨rfl, rfl⟩
    have cc := h5.cell
    have u0 : w6.cell? ⟨z5, 0, none⟩ = some (.int .i64 (m.seq + 1)) := cc 0
    have u1 : w6.cell? ⟨z5, 1, none⟩ = some (.int .i64 (q.cyc)) := cc 1
    have u2 : w6.cell? ⟨z5, 2, none⟩ = some (.int .i64 (q.ph)) := cc 2
    have u3 : w6.cell? ⟨z5, 3, none⟩ = some (.int .i64 (q.st)) := cc 3
    have u4 : w6.cell? ⟨z5, 4, none⟩ = some (.int .i64 (q.fl)) := cc 4
    have u5 : w6.cell? ⟨z5, 5, none⟩ = some (.int .i64 (q.vi)) := cc 5
    have u6 : w6.cell? ⟨z5, 6, none⟩ = some (.int .i64 (q.di)) := cc 6
    have u7 : w6.cell? ⟨z5, 7, none⟩ = some (.int .i64 (q.inv)) := cc 7
    have u8 : w6.cell? ⟨z5, 8, none⟩ = some (.int .i64 (q.inph)) := cc 8
    clear cc
    go_wp2_with fail
    refine HP.mono ?_; clear HP; rintro e w8 ⟨rfl, hX8⟩
    go_wp2
    go_returns
    exact ⟨rfl, (hX.trans hX8).to_below⟩
set_option maxRecDepth 100000 in
set_option maxHeartbeats 8000000 in
theorem lslots_o (W : World) (q : RcV) (a b0 : ByteArray) (hza : a.size = 24) (hzb : b0.size = 24) (hk : keptK a b0 = 1) : Calls Try.prog 4 #[.string a, .string b0, .agg q.cells] W fun e w' => e = .returned (.bool true) ∧ Below W.heap.size W w' := by
  have HK := fun w => rkept_any w a b0 (by unfold maxLen; omega) (by unfold maxLen; omega)
  have Hop := kept_open a b0 hza hzb
  have hsq := kept_seq a b0
  have Htwo := two_slots a b0 hza hzb
  rw [hk] at HK Hop
  clear hk
  generalize keptR a b0 = m at *
  have HLm := fun w => like_any w m
  obtain ⟨l, hl⟩ : ∃ l : LtV, l = ⟨0, 1, m, true⟩ := ⟨_, rfl⟩
  obtain ⟨p, hp⟩ : ∃ p : RcV, p = q.next l := ⟨_, rfl⟩
  have hpn : p.next l = p := by rw [hp]; rfl
  have hp2 : p = ⟨m.seq + 1, q.cyc, q.ph, q.st, q.fl, q.vi, q.di, q.inv, q.inph⟩ := by rw [hp, hl]; rfl
  obtain ⟨s2, hs2⟩ : ∃ s : FL, s = ⟨a ++ b0, false, 0, false, 0 + 1 + 1⟩ := ⟨_, rfl⟩
  have hlk : LaOk s2 l 1000 := by
    rw [hs2, hl]
    refine ⟨by show (a ++ b0).size ≤ 4096; rw [ByteArray.size_append]; omega, by dsimp only; omega, by show (0 : Int) + 48 ≤ ((a ++ b0).size : Int); rw [ByteArray.size_append]; omega, by dsimp only; omega, by dsimp only; omega, hsq.1, hsq.2, by dsimp only; omega, by dsimp only; omega⟩
  have HLp := fun w => like_any w p
  have HRp := fun w => rright_any w p
  have hna : ((a.size : Int) != 24) = false := by rw [hza]; rfl
  have hnb : ((b0.size : Int) != 24) = false := by rw [hzb]; rfl
  replace Hop := Lib.hid (show LtV.open 0 (a ++ b0) = l by rw [hl]; exact Hop)
  have Hl := Lib.hid hl
  have Hp := Lib.hid hp2
  have Hpn := Lib.hid hpn
  have Hs2 := Lib.hid hs2
  replace Htwo := Lib.hid Htwo
  clear hl hp hp2 hpn hs2
  rw [show p.cells = #[.int .i64 (m.seq + 1), .int .i64 q.cyc, .int .i64 q.ph, .int .i64 q.st, .int .i64 q.fl, .int .i64 q.vi, .int .i64 q.di, .int .i64 q.inv, .int .i64 q.inph] by rw [Hp.out]; rfl] at HLp HRp
  rw [show q.cells = #[.int .i64 q.seq, .int .i64 q.cyc, .int .i64 q.ph, .int .i64 q.st, .int .i64 q.fl, .int .i64 q.vi, .int .i64 q.di, .int .i64 q.inv, .int .i64 q.inph] from rfl]
  rw [show m.cells = #[.int .i64 m.seq, .int .i64 m.cyc, .int .i64 m.ph, .int .i64 m.st, .int .i64 m.fl, .int .i64 m.vi, .int .i64 m.di, .int .i64 m.inv, .int .i64 m.inph] from rfl] at *
  replace HK := Lib.hid HK
  replace HLm := Lib.hid HLm
  replace HLp := Lib.hid HLp
  replace HRp := Lib.hid HRp
  go_enter Try.func4, Try.ntmps4
  go_upto_region 1 with fail
  have h5 := At.new W #[.int .i64 q.seq, .int .i64 q.cyc, .int .i64 q.ph, .int .i64 q.st, .int .i64 q.fl, .int .i64 q.vi, .int .i64 q.di, .int .i64 q.inv, .int .i64 q.inph] 23
  have hX : Chg [] W (W.alloc (.cells #[.int .i64 q.seq, .int .i64 q.cyc, .int .i64 q.ph, .int .i64 q.st, .int .i64 q.fl, .int .i64 q.vi, .int .i64 q.di, .int .i64 q.inv, .int .i64 q.inph] 23)) := (Chg.refl [] W).alloc _
  generalize hz : W.heap.size = z5 at h5 ⊢
  have hzW : W.heap.size ≤ z5 := by omega
  clear hz
  generalize W.alloc (.cells #[.int .i64 q.seq, .int .i64 q.cyc, .int .i64 q.ph, .int .i64 q.st, .int .i64 q.fl, .int .i64 q.vi, .int .i64 q.di, .int .i64 q.inv, .int .i64 q.inph] 23) = w0 at *
  go_wp2_with fail
  refine (awake09 _).mono ?_; rintro e w1 ⟨rfl, hX1⟩
  replace h5 := hX1.at h5 (by simp)
  replace hX := hX.trans hX1
  clear hX1
  have HN := fl_new w1 48 (by omega) (by omega)
  rw [show ((48 : Nat) : Int) = 48 from rfl] at HN
  go_wp2_with fail
  refine HN.mono ?_; clear HN; rintro e w2 ⟨f, r, c, rfl, hf, hr, hc, hF, hX2⟩
  have h5l := h5.lt
  have hWs := hX.size
  have d5 : z5 ≠ f ∧ z5 ≠ r ∧ z5 ≠ c ∧ W.heap.size ≤ f ∧ W.heap.size ≤ r ∧ W.heap.size ≤ c := by omega
  clear hf hr hc h5l hWs
  replace h5 := hX2.at h5 (by simp)
  replace hX := hX.trans hX2
  clear hX2
  have HW := fl_write w2 f r c _ hF rfl rfl 0 a (by show (rep 48).size ≤ 4096; rw [rep_size]; omega) (by show 0 + a.size ≤ (rep 48).size; rw [rep_size]; omega) (by decide) (by decide)
  rw [show ((0 : Nat) : Int) = 0 from rfl] at HW
  go_wp2_with fail
  refine HW.mono ?_; clear HW; rintro e w3 ⟨rfl, hF3, hX3⟩
  replace h5 := hX3.at h5 (by simp; omega)
  replace hX := hX.then hX3 (by simp; omega)
  clear hX3 hF
  have HW := fl_write w3 f r c _ hF3 rfl rfl 24 b0 (by show (over (rep 48) 0 a).size ≤ 4096; rw [over_size _ _ _ (by rw [rep_size]; omega), rep_size]; omega) (by show 24 + b0.size ≤ (over (rep 48) 0 a).size; rw [over_size _ _ _ (by rw [rep_size]; omega), rep_size]; omega) (by dsimp only; omega) (by dsimp only; omega)
  rw [show ((24 : Nat) : Int) = 24 from rfl] at HW
  go_wp2_with fail
  refine HW.mono ?_; clear HW; rintro e w4 ⟨rfl, hF4, hX4⟩
  replace h5 := hX4.at h5 (by simp; omega)
  replace hX := hX.then hX4 (by simp; omega)
  clear hX4 hF3
  have hF : FlA w4 f r c s2 := by rw [Hs2.out]; rw [← Htwo.out]; exact hF4
  clear hF4
  have HO := lopen_ok w4 f r c _ hF (by rw [Hs2.out]) (by rw [Hs2.out]; show (a ++ b0).size ≤ 4096; rw [ByteArray.size_append]; omega) 0 (by rw [Hs2.out]; show 0 + 48 ≤ (a ++ b0).size; rw [ByteArray.size_append]; omega)
  rw [show ((0 : Nat) : Int) = 0 from rfl, show LtV.open 0 s2.B = l by rw [Hs2.out]; exact Hop.out] at HO
  go_wp2_with fail
  refine HO.mono ?_; clear HO; rintro e w5 ⟨b, rfl, hL, hX5, hb⟩
  have hfl := hF.at_.lt; have hrl : r < w4.heap.size := hF.row.lt; have hcl := hF.ctr.lt; have h5l := h5.lt; have hWs := hX.size
  have hA : LaA w5 b f r c s2 l := ⟨hF.keep hX5 (by simp) (by simp) (by simp), hL, by omega, by omega, by omega⟩
  have d6 : z5 ≠ b ∧ W.heap.size ≤ b := by omega
  clear hfl hrl hcl h5l hWs hb hL hF
  replace h5 := hX5.at h5 (by simp)
  replace hX := hX.trans hX5
  clear hX5
  go_wp2_with fail
  refine (HK.out _).mono ?_; rintro e w6 ⟨rfl, hX6⟩
  replace hA := hA.keep hX6 (by simp) (by simp) (by simp) (by simp)
  replace h5 := hX6.at h5 (by simp)
  replace hX := hX.trans hX6
  clear hX6
  have C : CL W [(z5, #[.int .i64 q.seq, .int .i64 q.cyc, .int .i64 q.ph, .int .i64 q.st, .int .i64 q.fl, .int .i64 q.vi, .int .i64 q.di, .int .i64 q.inv, .int .i64 q.inph])] 0 w6 := ⟨by simp; exact h5, hX⟩
  go_wp2_with (refine wpList_put rfl rfl rfl rfl (At.new _ _ _) rfl (by kernel_rfl) (by simp [Value.oneCell']) ?_; intro w7 hz7 hX7; refine Hid.out ?_)
  refine Lib.hid ?_
  replace C := C.fill hX7 hz7
  have hbs := hA.lt.lt; have hfs := hA.fl.at_.lt; have hrs : r < w6.heap.size := hA.fl.row.lt; have hcs := hA.fl.ctr.lt
  replace hA := (hA.keep ((Chg.refl [] w6).alloc _) (by simp) (by simp) (by simp) (by simp)).keep hX7 (by simp; omega) (by simp; omega) (by simp; omega) (by simp; omega)
  clear hX7 hz7 hbs hfs hrs hcs h5 hX
  generalize w6.heap.size = z12 at *
  have HL := llast_any w7 b f _ hA.lt
  rw [show l.last.cells = #[.int .i64 m.seq, .int .i64 m.cyc, .int .i64 m.ph, .int .i64 m.st, .int .i64 m.fl, .int .i64 m.vi, .int .i64 m.di, .int .i64 m.inv, .int .i64 m.inph] by rw [Hl.out]; rfl, show l.ok = true by rw [Hl.out]] at HL
  go_wp2_with fail
  refine HL.mono ?_; clear HL; rintro e w8 ⟨rfl, hX8⟩
  replace hA := hA.keep hX8 (by simp) (by simp) (by simp) (by simp)
  replace C := C.step (j := 0) hX8
  clear hX8
  go_wp2_with (refine wpList_put rfl rfl rfl rfl (At.new _ _ _) rfl (by kernel_rfl) (by simp [Value.oneCell']) ?_; intro w9 hz9 hX9; refine Hid.out ?_)
  refine Lib.hid ?_
  have hbs := hA.lt.lt; have hfs := hA.fl.at_.lt; have hrs : r < w8.heap.size := hA.fl.row.lt; have hcs := hA.fl.ctr.lt
  have hz12 := (C.get 0 rfl).lt; have hz5 := (C.get 1 rfl).lt
  replace C := C.fill hX9 hz9
  replace hA := (hA.keep ((Chg.refl [] w8).alloc _) (by simp) (by simp) (by simp) (by simp)).keep hX9 (by simp; omega) (by simp; omega) (by simp; omega) (by simp; omega)
  clear hX9 hz9 hbs hfs hrs hcs hz12 hz5
  generalize w8.heap.size = z13 at *
  go_upto_region 9 with fail
  refine wp_region_ex (fun _ w => CL W [(z13, #[.int .i64 m.seq, .int .i64 m.cyc, .int .i64 m.ph, .int .i64 m.st, .int .i64 m.fl, .int .i64 m.vi, .int .i64 m.di, .int .i64 m.inv, .int .i64 m.inph]), (z12, #[.int .i64 m.seq, .int .i64 m.cyc, .int .i64 m.ph, .int .i64 m.st, .int .i64 m.fl, .int .i64 m.vi, .int .i64 m.di, .int .i64 m.inv, .int .i64 m.inph]), (z5, #[.int .i64 q.seq, .int .i64 q.cyc, .int .i64 q.ph, .int .i64 q.st, .int .i64 q.fl, .int .i64 q.vi, .int .i64 q.di, .int .i64 q.inv, .int .i64 q.inph])] 0 w ∧ LaA w b f r c s2 l) (fun _ _ => True) [] [(0, 0, false), (0, 0, false), (0, 0, false), (0, 0, false), (0, 0, false), (0, 0, false), (0, 0, false), (0, 0, false), (0, 0, false), (0, 0, false), (0, 0, false), (0, 0, false), (0, 0, false), (0, 0, false)] [57, 58, 59, 60, 61, 62, 63, 64, 65, 66, 67, 68, 69, 70] (by kernel_rfl) rfl (by kernel_rfl) (by kernel_rfl) (⟨C.drew, hA.keep ((Chg.refl [] _).drew) (by simp) (by simp) (by simp) (by simp)⟩) ?_
  simp only [List.zip_cons_cons, List.zip_nil_right]
  refine ex_det 57 [10] rfl rfl (fun _ _ _ _ _ _ _ _ => rfl) ?_
  apply Exists.intro
  refine ⟨?_, ?_⟩
  · intro wx b k hk1 hk2 hC hb hd K hK
    have e10 := hb 10 rfl
    simp only [exSlot, List.getD_cons_succ, List.getD_cons_zero] at e10
    simp only [execOp, e10]
    clear hb hd
    go_simp
    exact hK _ hC (trivial)
  refine ex_det 58 [57] rfl rfl (fun _ _ _ _ _ _ _ _ => rfl) ?_
  apply Exists.intro
  refine ⟨?_, ?_⟩
  · intro wx b k hk1 hk2 hC hb hd K hK
    have e57 := hd 57 _ _ rfl rfl
    try dsimp only at e57
    simp only [execOp, e57]
    clear hb hd
    go_simp
    exact hK _ hC (trivial)
  refine ex_det 59 [58] rfl rfl (fun _ _ _ _ _ _ _ _ => rfl) ?_
  apply Exists.intro
  refine ⟨?_, ?_⟩
  · intro wx b k hk1 hk2 hC hb hd K hK
    have e58 := hd 58 _ _ rfl rfl
    try dsimp only at e58
    simp only [execOp, e58]
    clear hb hd
    go_simp
    exact hK _ hC (trivial)
  refine ex_det 60 [14, 59] rfl rfl (fun _ b _ _ _ _ hb hd => (wanted_guard b rfl rfl (hd 59 _ _ rfl rfl)).trans rfl) ?_
  apply Exists.intro
  refine ⟨?_, ?_⟩
  · intro wx b k hk1 hk2 hC hb hd K hK
    have e14 := hb 14 rfl
    simp only [exSlot, List.getD_cons_succ, List.getD_cons_zero] at e14
    simp only [execOp, e14]
    clear hb hd
    go_simp
    exact hK _ hC (trivial)
  refine ex_det 61 [11, 59] rfl rfl (fun _ b _ _ _ _ hb hd => (wanted_guard b rfl rfl (hd 59 _ _ rfl rfl)).trans rfl) ?_
  apply Exists.intro
  refine ⟨?_, ?_⟩
  · intro wx b k hk1 hk2 hC hb hd K hK
    have e11 := hb 11 rfl
    simp only [exSlot, List.getD_cons_succ, List.getD_cons_zero] at e11
    simp only [execOp, e11]
    clear hb hd
    go_simp
    exact hK _ hC (trivial)
  refine ex_det 62 [61, 59] rfl rfl (fun _ b _ _ _ _ hb hd => (wanted_guard b rfl rfl (hd 59 _ _ rfl rfl)).trans rfl) ?_
  apply Exists.intro
  refine ⟨?_, ?_⟩
  · intro wx b k hk1 hk2 hC hb hd K hK
    have e61 := hd 61 _ _ rfl rfl
    try dsimp only at e61
    simp only [execOp, e61]
    clear hb hd
    go_simp
    exact hK _ hC (trivial)
  refine ex_det 63 [60, 62, 59] rfl rfl (fun _ b _ _ _ _ hb hd => (wanted_guard b rfl rfl (hd 59 _ _ rfl rfl)).trans rfl) ?_
  apply Exists.intro
  refine ⟨?_, ?_⟩
  · intro wx b k hk1 hk2 hC hb hd K hK
    have e60 := hd 60 _ _ rfl rfl
    try dsimp only at e60
    have e62 := hd 62 _ _ rfl rfl
    try dsimp only at e62
    simp only [execOp, e60, e62]
    clear hb hd
    go_simp
    exact hK _ hC (trivial)
  refine ex_det 64 [59, 63] rfl rfl (fun _ _ _ _ _ _ _ _ => rfl) ?_
  apply Exists.intro
  refine ⟨?_, ?_⟩
  · intro wx b k hk1 hk2 hC hb hd K hK
    have e59 := hd 59 _ _ rfl rfl
    try dsimp only at e59
    have e63 := hd 63 _ _ rfl rfl
    try dsimp only at e63
    simp only [execOp, e59, e63]
    clear hb hd
    go_simp
    exact hK _ hC (trivial)
  refine ex_det 65 [64] rfl rfl (fun _ _ _ _ _ _ _ _ => rfl) ?_
  apply Exists.intro
  refine ⟨?_, ?_⟩
  · intro wx b k hk1 hk2 hC hb hd K hK
    have e64 := hd 64 _ _ rfl rfl
    try dsimp only at e64
    simp only [execOp, e64]
    clear hb hd
    go_simp
    exact hK _ hC (trivial)
  refine ex_det 66 [13, 65] rfl rfl (fun _ b _ _ _ _ hb hd => (wanted_guard b rfl rfl (hd 65 _ _ rfl rfl)).trans rfl) ?_
  apply Exists.intro
  refine ⟨?_, ?_⟩
  · intro wx b k hk1 hk2 hC hb hd K hK
    have e13 := hb 13 rfl
    simp only [exSlot, List.getD_cons_succ, List.getD_cons_zero] at e13
    simp only [execOp, e13]
    clear hb hd
    have hrun := (hC.1.get 0 rfl).load 23 (by kernel_rfl)
    simp only [Sem.run_bind, hrun, Result.andThen_ok, Sem.run_pure, invUpon]
    exact hK _ hC (trivial)
  refine ex_det 67 [66, 65] rfl rfl (fun _ b _ _ _ _ hb hd => (wanted_guard b rfl rfl (hd 65 _ _ rfl rfl)).trans rfl) ?_
  apply Exists.intro
  refine ⟨?_, ?_⟩
  · intro wx b k hk1 hk2 hC hb hd K hK
    have e66 := hd 66 _ _ rfl rfl
    try dsimp only at e66
    simp only [execOp, resolve, List.map_toArray, List.map_cons, List.map_nil, e66]
    clear hb hd
    go_simp
    refine (HLm.out wx).mono ?_; rintro e w' ⟨rfl, hX⟩
    exact ⟨_, rfl, hK _ ⟨hC.1.step hX, hC.2.keep hX (by simp) (by simp) (by simp) (by simp)⟩ trivial⟩
  refine ex_det 68 [12, 65] rfl rfl (fun _ b _ _ _ _ hb hd => (wanted_guard b rfl rfl (hd 65 _ _ rfl rfl)).trans rfl) ?_
  apply Exists.intro
  refine ⟨?_, ?_⟩
  · intro wx b k hk1 hk2 hC hb hd K hK
    have e12 := hb 12 rfl
    simp only [exSlot, List.getD_cons_succ, List.getD_cons_zero] at e12
    simp only [execOp, e12]
    clear hb hd
    have hrun := (hC.1.get 1 rfl).load 28 (by kernel_rfl)
    simp only [Sem.run_bind, hrun, Result.andThen_ok, Sem.run_pure, invUpon]
    exact hK _ hC (trivial)
  refine ex_det 69 [67, 68, 65] rfl rfl (fun _ b _ _ _ _ hb hd => (wanted_guard b rfl rfl (hd 65 _ _ rfl rfl)).trans rfl) ?_
  apply Exists.intro
  refine ⟨?_, ?_⟩
  · intro wx b k hk1 hk2 hC hb hd K hK
    have e67 := hd 67 _ _ rfl rfl
    try dsimp only at e67
    have e68 := hd 68 _ _ rfl rfl
    try dsimp only at e68
    simp only [execOp, e67, e68]
    clear hb hd
    go_simp
    exact hK _ hC (trivial)
  refine ex_det 70 [65, 69] rfl rfl (fun _ _ _ _ _ _ _ _ => rfl) ?_
  apply Exists.intro
  refine ⟨?_, ?_⟩
  · intro wx b k hk1 hk2 hC hb hd K hK
    have e65 := hd 65 _ _ rfl rfl
    try dsimp only at e65
    have e69 := hd 69 _ _ rfl rfl
    try dsimp only at e69
    simp only [execOp, e65, e69]
    clear hb hd
    go_simp
    exact hK _ hC (trivial)
  refine ex_end ?_
  intro us w2 hus hC hall
  obtain ⟨v0, us, rfl⟩ := List.exists_cons_of_length_eq_add_one hus
  replace hus := Nat.succ.inj hus
  obtain ⟨v1, us, rfl⟩ := List.exists_cons_of_length_eq_add_one hus
  replace hus := Nat.succ.inj hus
  obtain ⟨v2, us, rfl⟩ := List.exists_cons_of_length_eq_add_one hus
  replace hus := Nat.succ.inj hus
  obtain ⟨v3, us, rfl⟩ := List.exists_cons_of_length_eq_add_one hus
  replace hus := Nat.succ.inj hus
  obtain ⟨v4, us, rfl⟩ := List.exists_cons_of_length_eq_add_one hus
  replace hus := Nat.succ.inj hus
  obtain ⟨v5, us, rfl⟩ := List.exists_cons_of_length_eq_add_one hus
  replace hus := Nat.succ.inj hus
  obtain ⟨v6, us, rfl⟩ := List.exists_cons_of_length_eq_add_one hus
  replace hus := Nat.succ.inj hus
  obtain ⟨v7, us, rfl⟩ := List.exists_cons_of_length_eq_add_one hus
  replace hus := Nat.succ.inj hus
  obtain ⟨v8, us, rfl⟩ := List.exists_cons_of_length_eq_add_one hus
  replace hus := Nat.succ.inj hus
  obtain ⟨v9, us, rfl⟩ := List.exists_cons_of_length_eq_add_one hus
  replace hus := Nat.succ.inj hus
  obtain ⟨v10, us, rfl⟩ := List.exists_cons_of_length_eq_add_one hus
  replace hus := Nat.succ.inj hus
  obtain ⟨v11, us, rfl⟩ := List.exists_cons_of_length_eq_add_one hus
  replace hus := Nat.succ.inj hus
  obtain ⟨v12, us, rfl⟩ := List.exists_cons_of_length_eq_add_one hus
  replace hus := Nat.succ.inj hus
  obtain ⟨v13, us, rfl⟩ := List.exists_cons_of_length_eq_add_one hus
  replace hus := Nat.succ.inj hus
  obtain rfl := List.length_eq_zero_iff.1 hus
  clear hus
  generalize hbb : exPuts _ _ _ = bb at hall ⊢
  simp only [exPuts, Act.put, List.setIfInBounds_toArray, List.set_cons_succ, List.set_cons_zero] at hbb
  subst hbb
  obtain ⟨h13, h12, h11, h10, h9, h8, h7, h6, h5, h4, h3, h2, h1, h0, -⟩ := hall
  obtain rfl : v0 = _ := h0
  obtain rfl : v1 = _ := h1
  obtain rfl : v2 = _ := h2
  obtain rfl : v3 = _ := h3
  obtain rfl : v4 = _ := h4
  obtain rfl : v5 = _ := h5
  obtain rfl : v6 = _ := h6
  obtain rfl : v7 = _ := h7
  obtain rfl : v8 = _ := h8
  obtain rfl : v9 = _ := h9
  obtain rfl : v10 = _ := h10
  obtain rfl : v11 = _ := h11
  obtain rfl : v12 = _ := h12
  obtain rfl : v13 = _ := h13
  obtain ⟨C, hA⟩ := hC
  have t0 : w2.cell? ⟨z12, 0, none⟩ = some (.int .i64 m.seq) := (C.get 1 rfl).cell 0
  have q0 : w2.cell? ⟨z5, 0, none⟩ = some (.int .i64 q.seq) := (C.get 2 rfl).cell 0
  have qf : w2.frozen? ⟨z5, 0, none⟩ = false := (C.get 2 rfl).frozen 0
  have h5 := C.get 2 rfl
  have hX := C.x
  dsimp only at h5
  go_upto_region 12 with fail
  clear t0 q0 qf C
  have d7 : z5 ∉ [b, f, r, c] := by simp; omega
  replace hA := hA.keep ((Chg.refl [z5] w2).setCell (p := ⟨z5, 0, none⟩) (.inl (by simp)) (.int .i64 (m.seq + 1))) (by simp; omega) (by simp; omega) (by simp; omega) (by simp; omega)
  replace h5 := h5.set 0 (.int .i64 (m.seq + 1)) rfl
  simp only [List.setIfInBounds_toArray, List.set_cons_zero] at h5
  replace hX := hX.setCell (p := ⟨z5, 0, none⟩) (.inr hzW) (.int .i64 (m.seq + 1))
  generalize w2.setCell ⟨z5, 0, none⟩ (.int .i64 (m.seq + 1)) = w3 at *
  go_wp2_with (refine wpList_get rfl rfl rfl h5 (by kernel_rfl) ?_)
  have HS := lsave_any w3 b f r c _ _ p hA hlk (by rw [Hs2.out]; show (0 : Int) ≤ 0; omega)
  rw [show p.cells = #[.int .i64 (m.seq + 1), .int .i64 q.cyc, .int .i64 q.ph, .int .i64 q.st, .int .i64 q.fl, .int .i64 q.vi, .int .i64 q.di, .int .i64 q.inv, .int .i64 q.inph] by rw [Hp.out]; rfl] at HS
  refine HS.mono ?_; clear HS; rintro e w4 ⟨rfl, hA4, hX4⟩
  replace h5 := hX4.at h5 d7
  replace hX := hX.then hX4 (by simp; omega)
  clear hA hX4
  go_wp2_with (refine wpList_get rfl rfl rfl h5 (by kernel_rfl) ?_)
  refine (HLp.out _).mono ?_; rintro e w5 ⟨rfl, hX5⟩
  replace h5 := hX5.at h5 (by simp)
  replace hX := hX.trans hX5
  replace hA4 := hA4.keep hX5 (by simp) (by simp) (by simp) (by simp)
  clear hX5
  go_wp2_with fail
  refine (HRp.out _).mono ?_; rintro e w6 ⟨rfl, hX6⟩
  replace h5 := hX6.at h5 (by simp)
  replace hX := hX.trans hX6
  replace hA4 := hA4.keep hX6 (by simp) (by simp) (by simp) (by simp)
  clear hX6
  have HnR := Hpn.out
  cases hr : p.right with
  | false =>
    rw [show saveE s2 l p = 1 by unfold saveE; rw [HnR, hr]; rfl]
    go_wp2
    go_returns
    exact ⟨rfl, hX.to_below⟩
  | true =>
    have e0 : saveE s2 l p = 0 := by unfold saveE; rw [HnR, hr, Hs2.out]; rfl
    have hz24 : (strOfNums p.all).size = 24 := by rw [strOfNums_size, RcV.all_len]
    have eB : (saveF s2 l p).B = strOfNums p.all ++ b0 ∧ (saveF s2 l p).off = false := by
      unfold saveF
      rw [HnR, hr, Hs2.out]
      refine ⟨?_, rfl⟩
      show over (a ++ b0) (FL.place l) _ = _
      rw [show FL.place l = 0 by unfold FL.place; rw [Hl.out]; rfl]
      exact over_0 a b0 _ hza hzb hz24
    have hws : (strOfNums p.all ++ b0).size = 48 := by rw [ByteArray.size_append]; omega
    have HP : Calls Try.prog 8 #[.agg #[.int .i64 (m.seq + 1), .int .i64 q.cyc, .int .i64 q.ph, .int .i64 q.st, .int .i64 q.fl, .int .i64 q.vi, .int .i64 q.di, .int .i64 q.inv, .int .i64 q.inph]] w6 fun e w' => e = .returned (.string (strOfNums p.all)) ∧ Chg [] w6 w' := by
      have := lprint_any w6 p
      rw [show p.cells = #[.int .i64 (m.seq + 1), .int .i64 q.cyc, .int .i64 q.ph, .int .i64 q.st, .int .i64 q.fl, .int .i64 q.vi, .int .i64 q.di, .int .i64 q.inv, .int .i64 q.inph] by rw [Hp.out]; rfl, show p.print = strOfNums p.all by unfold RcV.print; rw [hr]; rfl] at this
      exact this
    have HR := fl_read w6 f r c _ hA4.fl eB.2 0 48 (by rw [eB.1, hws]; omega) (by rw [eB.1, hws]; omega)
    rw [eB.1, show ((strOfNums p.all ++ b0).extract 0 (0 + 48)) = strOfNums p.all ++ b0 by have := ext_all (strOfNums p.all ++ b0); rw [hws] at this; exact this, show ((0 : Nat) : Int) = 0 from rfl, show ((48 : Nat) : Int) = 48 from rfl] at HR
    rw [e0]
    clear eB hA4 HnR
    generalize strOfNums p.all = t at *
    go_wp2_with fail
    refine HR.mono ?_; clear HR; rintro e w7 ⟨rfl, rfl⟩
    have cc := h5.cell
    have u0 : w6.cell? ⟨z5, 0, none⟩ = some (.int .i64 (m.seq + 1)) := cc 0
    have u1 : w6.cell? ⟨z5, 1, none⟩ = some (.int .i64 (q.cyc)) := cc 1
    have u2 : w6.cell? ⟨z5, 2, none⟩ = some (.int .i64 (q.ph)) := cc 2
    have u3 : w6.cell? ⟨z5, 3, none⟩ = some (.int .i64 (q.st)) := cc 3
    have u4 : w6.cell? ⟨z5, 4, none⟩ = some (.int .i64 (q.fl)) := cc 4
    have u5 : w6.cell? ⟨z5, 5, none⟩ = some (.int .i64 (q.vi)) := cc 5
    have u6 : w6.cell? ⟨z5, 6, none⟩ = some (.int .i64 (q.di)) := cc 6
    have u7 : w6.cell? ⟨z5, 7, none⟩ = some (.int .i64 (q.inv)) := cc 7
    have u8 : w6.cell? ⟨z5, 8, none⟩ = some (.int .i64 (q.inph)) := cc 8
    clear cc
    go_wp2_with fail
    refine HP.mono ?_; clear HP; rintro e w8 ⟨rfl, hX8⟩
    go_wp2
    go_returns
    exact ⟨rfl, (hX.trans hX8).to_below⟩
set_option maxRecDepth 100000 in
set_option maxHeartbeats 8000000 in
theorem lslots_n (W : World) (q : RcV) (a b0 : ByteArray) (hza : a.size = 24) (hzb : b0.size = 24) (hk : keptK a b0 = (-1)) : Calls Try.prog 4 #[.string a, .string b0, .agg q.cells] W fun e w' => e = .returned (.bool true) ∧ Below W.heap.size W w' := by
  have HK := fun w => rkept_any w a b0 (by unfold maxLen; omega) (by unfold maxLen; omega)
  have Hop := kept_open a b0 hza hzb
  have hsq := kept_seq a b0
  have Htwo := two_slots a b0 hza hzb
  rw [hk] at HK Hop
  clear hk
  generalize keptR a b0 = m at *
  have HLm := fun w => like_any w m
  obtain ⟨l, hl⟩ : ∃ l : LtV, l = ⟨0, 1, m, false⟩ := ⟨_, rfl⟩
  obtain ⟨p, hp⟩ : ∃ p : RcV, p = q.next l := ⟨_, rfl⟩
  have hpn : p.next l = p := by rw [hp]; rfl
  have hp2 : p = ⟨m.seq + 1, q.cyc, q.ph, q.st, q.fl, q.vi, q.di, q.inv, q.inph⟩ := by rw [hp, hl]; rfl
  obtain ⟨s2, hs2⟩ : ∃ s : FL, s = ⟨a ++ b0, false, 0, false, 0 + 1 + 1⟩ := ⟨_, rfl⟩
  have hlk : LaOk s2 l 1000 := by
    rw [hs2, hl]
    refine ⟨by show (a ++ b0).size ≤ 4096; rw [ByteArray.size_append]; omega, by dsimp only; omega, by show (0 : Int) + 48 ≤ ((a ++ b0).size : Int); rw [ByteArray.size_append]; omega, by dsimp only; omega, by dsimp only; omega, hsq.1, hsq.2, by dsimp only; omega, by dsimp only; omega⟩
  have HLp := fun w => like_any w p
  have HRp := fun w => rright_any w p
  have hna : ((a.size : Int) != 24) = false := by rw [hza]; rfl
  have hnb : ((b0.size : Int) != 24) = false := by rw [hzb]; rfl
  replace Hop := Lib.hid (show LtV.open 0 (a ++ b0) = l by rw [hl]; exact Hop)
  have Hl := Lib.hid hl
  have Hp := Lib.hid hp2
  have Hpn := Lib.hid hpn
  have Hs2 := Lib.hid hs2
  replace Htwo := Lib.hid Htwo
  clear hl hp hp2 hpn hs2
  rw [show p.cells = #[.int .i64 (m.seq + 1), .int .i64 q.cyc, .int .i64 q.ph, .int .i64 q.st, .int .i64 q.fl, .int .i64 q.vi, .int .i64 q.di, .int .i64 q.inv, .int .i64 q.inph] by rw [Hp.out]; rfl] at HLp HRp
  rw [show q.cells = #[.int .i64 q.seq, .int .i64 q.cyc, .int .i64 q.ph, .int .i64 q.st, .int .i64 q.fl, .int .i64 q.vi, .int .i64 q.di, .int .i64 q.inv, .int .i64 q.inph] from rfl]
  rw [show m.cells = #[.int .i64 m.seq, .int .i64 m.cyc, .int .i64 m.ph, .int .i64 m.st, .int .i64 m.fl, .int .i64 m.vi, .int .i64 m.di, .int .i64 m.inv, .int .i64 m.inph] from rfl] at *
  replace HK := Lib.hid HK
  replace HLm := Lib.hid HLm
  replace HLp := Lib.hid HLp
  replace HRp := Lib.hid HRp
  go_enter Try.func4, Try.ntmps4
  go_upto_region 1 with fail
  have h5 := At.new W #[.int .i64 q.seq, .int .i64 q.cyc, .int .i64 q.ph, .int .i64 q.st, .int .i64 q.fl, .int .i64 q.vi, .int .i64 q.di, .int .i64 q.inv, .int .i64 q.inph] 23
  have hX : Chg [] W (W.alloc (.cells #[.int .i64 q.seq, .int .i64 q.cyc, .int .i64 q.ph, .int .i64 q.st, .int .i64 q.fl, .int .i64 q.vi, .int .i64 q.di, .int .i64 q.inv, .int .i64 q.inph] 23)) := (Chg.refl [] W).alloc _
  generalize hz : W.heap.size = z5 at h5 ⊢
  have hzW : W.heap.size ≤ z5 := by omega
  clear hz
  generalize W.alloc (.cells #[.int .i64 q.seq, .int .i64 q.cyc, .int .i64 q.ph, .int .i64 q.st, .int .i64 q.fl, .int .i64 q.vi, .int .i64 q.di, .int .i64 q.inv, .int .i64 q.inph] 23) = w0 at *
  go_wp2_with fail
  refine (awake09 _).mono ?_; rintro e w1 ⟨rfl, hX1⟩
  replace h5 := hX1.at h5 (by simp)
  replace hX := hX.trans hX1
  clear hX1
  have HN := fl_new w1 48 (by omega) (by omega)
  rw [show ((48 : Nat) : Int) = 48 from rfl] at HN
  go_wp2_with fail
  refine HN.mono ?_; clear HN; rintro e w2 ⟨f, r, c, rfl, hf, hr, hc, hF, hX2⟩
  have h5l := h5.lt
  have hWs := hX.size
  have d5 : z5 ≠ f ∧ z5 ≠ r ∧ z5 ≠ c ∧ W.heap.size ≤ f ∧ W.heap.size ≤ r ∧ W.heap.size ≤ c := by omega
  clear hf hr hc h5l hWs
  replace h5 := hX2.at h5 (by simp)
  replace hX := hX.trans hX2
  clear hX2
  have HW := fl_write w2 f r c _ hF rfl rfl 0 a (by show (rep 48).size ≤ 4096; rw [rep_size]; omega) (by show 0 + a.size ≤ (rep 48).size; rw [rep_size]; omega) (by decide) (by decide)
  rw [show ((0 : Nat) : Int) = 0 from rfl] at HW
  go_wp2_with fail
  refine HW.mono ?_; clear HW; rintro e w3 ⟨rfl, hF3, hX3⟩
  replace h5 := hX3.at h5 (by simp; omega)
  replace hX := hX.then hX3 (by simp; omega)
  clear hX3 hF
  have HW := fl_write w3 f r c _ hF3 rfl rfl 24 b0 (by show (over (rep 48) 0 a).size ≤ 4096; rw [over_size _ _ _ (by rw [rep_size]; omega), rep_size]; omega) (by show 24 + b0.size ≤ (over (rep 48) 0 a).size; rw [over_size _ _ _ (by rw [rep_size]; omega), rep_size]; omega) (by dsimp only; omega) (by dsimp only; omega)
  rw [show ((24 : Nat) : Int) = 24 from rfl] at HW
  go_wp2_with fail
  refine HW.mono ?_; clear HW; rintro e w4 ⟨rfl, hF4, hX4⟩
  replace h5 := hX4.at h5 (by simp; omega)
  replace hX := hX.then hX4 (by simp; omega)
  clear hX4 hF3
  have hF : FlA w4 f r c s2 := by rw [Hs2.out]; rw [← Htwo.out]; exact hF4
  clear hF4
  have HO := lopen_ok w4 f r c _ hF (by rw [Hs2.out]) (by rw [Hs2.out]; show (a ++ b0).size ≤ 4096; rw [ByteArray.size_append]; omega) 0 (by rw [Hs2.out]; show 0 + 48 ≤ (a ++ b0).size; rw [ByteArray.size_append]; omega)
  rw [show ((0 : Nat) : Int) = 0 from rfl, show LtV.open 0 s2.B = l by rw [Hs2.out]; exact Hop.out] at HO
  go_wp2_with fail
  refine HO.mono ?_; clear HO; rintro e w5 ⟨b, rfl, hL, hX5, hb⟩
  have hfl := hF.at_.lt; have hrl : r < w4.heap.size := hF.row.lt; have hcl := hF.ctr.lt; have h5l := h5.lt; have hWs := hX.size
  have hA : LaA w5 b f r c s2 l := ⟨hF.keep hX5 (by simp) (by simp) (by simp), hL, by omega, by omega, by omega⟩
  have d6 : z5 ≠ b ∧ W.heap.size ≤ b := by omega
  clear hfl hrl hcl h5l hWs hb hL hF
  replace h5 := hX5.at h5 (by simp)
  replace hX := hX.trans hX5
  clear hX5
  go_wp2_with fail
  refine (HK.out _).mono ?_; rintro e w6 ⟨rfl, hX6⟩
  replace hA := hA.keep hX6 (by simp) (by simp) (by simp) (by simp)
  replace h5 := hX6.at h5 (by simp)
  replace hX := hX.trans hX6
  clear hX6
  have C : CL W [(z5, #[.int .i64 q.seq, .int .i64 q.cyc, .int .i64 q.ph, .int .i64 q.st, .int .i64 q.fl, .int .i64 q.vi, .int .i64 q.di, .int .i64 q.inv, .int .i64 q.inph])] 0 w6 := ⟨by simp; exact h5, hX⟩
  go_wp2_with (refine wpList_put rfl rfl rfl rfl (At.new _ _ _) rfl (by kernel_rfl) (by simp [Value.oneCell']) ?_; intro w7 hz7 hX7; refine Hid.out ?_)
  refine Lib.hid ?_
  replace C := C.fill hX7 hz7
  have hbs := hA.lt.lt; have hfs := hA.fl.at_.lt; have hrs : r < w6.heap.size := hA.fl.row.lt; have hcs := hA.fl.ctr.lt
  replace hA := (hA.keep ((Chg.refl [] w6).alloc _) (by simp) (by simp) (by simp) (by simp)).keep hX7 (by simp; omega) (by simp; omega) (by simp; omega) (by simp; omega)
  clear hX7 hz7 hbs hfs hrs hcs h5 hX
  generalize w6.heap.size = z12 at *
  have HL := llast_any w7 b f _ hA.lt
  rw [show l.last.cells = #[.int .i64 m.seq, .int .i64 m.cyc, .int .i64 m.ph, .int .i64 m.st, .int .i64 m.fl, .int .i64 m.vi, .int .i64 m.di, .int .i64 m.inv, .int .i64 m.inph] by rw [Hl.out]; rfl, show l.ok = false by rw [Hl.out]] at HL
  go_wp2_with fail
  refine HL.mono ?_; clear HL; rintro e w8 ⟨rfl, hX8⟩
  replace hA := hA.keep hX8 (by simp) (by simp) (by simp) (by simp)
  replace C := C.step (j := 0) hX8
  clear hX8
  go_wp2_with (refine wpList_put rfl rfl rfl rfl (At.new _ _ _) rfl (by kernel_rfl) (by simp [Value.oneCell']) ?_; intro w9 hz9 hX9; refine Hid.out ?_)
  refine Lib.hid ?_
  have hbs := hA.lt.lt; have hfs := hA.fl.at_.lt; have hrs : r < w8.heap.size := hA.fl.row.lt; have hcs := hA.fl.ctr.lt
  have hz12 := (C.get 0 rfl).lt; have hz5 := (C.get 1 rfl).lt
  replace C := C.fill hX9 hz9
  replace hA := (hA.keep ((Chg.refl [] w8).alloc _) (by simp) (by simp) (by simp) (by simp)).keep hX9 (by simp; omega) (by simp; omega) (by simp; omega) (by simp; omega)
  clear hX9 hz9 hbs hfs hrs hcs hz12 hz5
  generalize w8.heap.size = z13 at *
  go_upto_region 9 with fail
  refine wp_region_ex (fun _ w => CL W [(z13, #[.int .i64 m.seq, .int .i64 m.cyc, .int .i64 m.ph, .int .i64 m.st, .int .i64 m.fl, .int .i64 m.vi, .int .i64 m.di, .int .i64 m.inv, .int .i64 m.inph]), (z12, #[.int .i64 m.seq, .int .i64 m.cyc, .int .i64 m.ph, .int .i64 m.st, .int .i64 m.fl, .int .i64 m.vi, .int .i64 m.di, .int .i64 m.inv, .int .i64 m.inph]), (z5, #[.int .i64 q.seq, .int .i64 q.cyc, .int .i64 q.ph, .int .i64 q.st, .int .i64 q.fl, .int .i64 q.vi, .int .i64 q.di, .int .i64 q.inv, .int .i64 q.inph])] 0 w ∧ LaA w b f r c s2 l) (fun _ _ => True) [] [(0, 0, false), (0, 0, false), (0, 0, false), (0, 0, false), (0, 0, false), (0, 0, false), (0, 0, false), (0, 0, false), (0, 0, false), (0, 0, false), (0, 0, false), (0, 0, false), (0, 0, false), (0, 0, false)] [57, 58, 59, 60, 61, 62, 63, 64, 65, 66, 67, 68, 69, 70] (by kernel_rfl) rfl (by kernel_rfl) (by kernel_rfl) (⟨C.drew, hA.keep ((Chg.refl [] _).drew) (by simp) (by simp) (by simp) (by simp)⟩) ?_
  simp only [List.zip_cons_cons, List.zip_nil_right]
  refine ex_det 57 [10] rfl rfl (fun _ _ _ _ _ _ _ _ => rfl) ?_
  apply Exists.intro
  refine ⟨?_, ?_⟩
  · intro wx b k hk1 hk2 hC hb hd K hK
    have e10 := hb 10 rfl
    simp only [exSlot, List.getD_cons_succ, List.getD_cons_zero] at e10
    simp only [execOp, e10]
    clear hb hd
    go_simp
    exact hK _ hC (trivial)
  refine ex_det 58 [57] rfl rfl (fun _ _ _ _ _ _ _ _ => rfl) ?_
  apply Exists.intro
  refine ⟨?_, ?_⟩
  · intro wx b k hk1 hk2 hC hb hd K hK
    have e57 := hd 57 _ _ rfl rfl
    try dsimp only at e57
    simp only [execOp, e57]
    clear hb hd
    go_simp
    exact hK _ hC (trivial)
  refine ex_det 59 [58] rfl rfl (fun _ _ _ _ _ _ _ _ => rfl) ?_
  apply Exists.intro
  refine ⟨?_, ?_⟩
  · intro wx b k hk1 hk2 hC hb hd K hK
    have e58 := hd 58 _ _ rfl rfl
    try dsimp only at e58
    simp only [execOp, e58]
    clear hb hd
    go_simp
    exact hK _ hC (trivial)
  refine ex_det 60 [14, 59] rfl rfl (fun _ b _ _ _ _ hb hd => (wanted_guard b rfl rfl (hd 59 _ _ rfl rfl)).trans rfl) ?_
  apply Exists.intro
  refine ⟨?_, ?_⟩
  · intro wx b k hk1 hk2 hC hb hd K hK
    have e14 := hb 14 rfl
    simp only [exSlot, List.getD_cons_succ, List.getD_cons_zero] at e14
    simp only [execOp, e14]
    clear hb hd
    go_simp
    exact hK _ hC (trivial)
  refine ex_det 61 [11, 59] rfl rfl (fun _ b _ _ _ _ hb hd => (wanted_guard b rfl rfl (hd 59 _ _ rfl rfl)).trans rfl) ?_
  apply Exists.intro
  refine ⟨?_, ?_⟩
  · intro wx b k hk1 hk2 hC hb hd K hK
    have e11 := hb 11 rfl
    simp only [exSlot, List.getD_cons_succ, List.getD_cons_zero] at e11
    simp only [execOp, e11]
    clear hb hd
    go_simp
    exact hK _ hC (trivial)
  refine ex_det 62 [61, 59] rfl rfl (fun _ b _ _ _ _ hb hd => (wanted_guard b rfl rfl (hd 59 _ _ rfl rfl)).trans rfl) ?_
  apply Exists.intro
  refine ⟨?_, ?_⟩
  · intro wx b k hk1 hk2 hC hb hd K hK
    have e61 := hd 61 _ _ rfl rfl
    try dsimp only at e61
    simp only [execOp, e61]
    clear hb hd
    go_simp
    exact hK _ hC (trivial)
  refine ex_det 63 [60, 62, 59] rfl rfl (fun _ b _ _ _ _ hb hd => (wanted_guard b rfl rfl (hd 59 _ _ rfl rfl)).trans rfl) ?_
  apply Exists.intro
  refine ⟨?_, ?_⟩
  · intro wx b k hk1 hk2 hC hb hd K hK
    have e60 := hd 60 _ _ rfl rfl
    try dsimp only at e60
    have e62 := hd 62 _ _ rfl rfl
    try dsimp only at e62
    simp only [execOp, e60, e62]
    clear hb hd
    go_simp
    exact hK _ hC (trivial)
  refine ex_det 64 [59, 63] rfl rfl (fun _ _ _ _ _ _ _ _ => rfl) ?_
  apply Exists.intro
  refine ⟨?_, ?_⟩
  · intro wx b k hk1 hk2 hC hb hd K hK
    have e59 := hd 59 _ _ rfl rfl
    try dsimp only at e59
    have e63 := hd 63 _ _ rfl rfl
    try dsimp only at e63
    simp only [execOp, e59, e63]
    clear hb hd
    go_simp
    exact hK _ hC (trivial)
  refine ex_det 65 [64] rfl rfl (fun _ _ _ _ _ _ _ _ => rfl) ?_
  apply Exists.intro
  refine ⟨?_, ?_⟩
  · intro wx b k hk1 hk2 hC hb hd K hK
    have e64 := hd 64 _ _ rfl rfl
    try dsimp only at e64
    simp only [execOp, e64]
    clear hb hd
    go_simp
    exact hK _ hC (trivial)
  refine ex_det 66 [13, 65] rfl rfl (fun _ b _ _ _ _ hb hd => (wanted_guard b rfl rfl (hd 65 _ _ rfl rfl)).trans rfl) ?_
  apply Exists.intro
  refine ⟨?_, ?_⟩
  · intro wx b k hk1 hk2 hC hb hd K hK
    have e13 := hb 13 rfl
    simp only [exSlot, List.getD_cons_succ, List.getD_cons_zero] at e13
    simp only [execOp, e13]
    clear hb hd
    have hrun := (hC.1.get 0 rfl).load 23 (by kernel_rfl)
    simp only [Sem.run_bind, hrun, Result.andThen_ok, Sem.run_pure, invUpon]
    exact hK _ hC (trivial)
  refine ex_det 67 [66, 65] rfl rfl (fun _ b _ _ _ _ hb hd => (wanted_guard b rfl rfl (hd 65 _ _ rfl rfl)).trans rfl) ?_
  apply Exists.intro
  refine ⟨?_, ?_⟩
  · intro wx b k hk1 hk2 hC hb hd K hK
    have e66 := hd 66 _ _ rfl rfl
    try dsimp only at e66
    simp only [execOp, resolve, List.map_toArray, List.map_cons, List.map_nil, e66]
    clear hb hd
    go_simp
    refine (HLm.out wx).mono ?_; rintro e w' ⟨rfl, hX⟩
    exact ⟨_, rfl, hK _ ⟨hC.1.step hX, hC.2.keep hX (by simp) (by simp) (by simp) (by simp)⟩ trivial⟩
  refine ex_det 68 [12, 65] rfl rfl (fun _ b _ _ _ _ hb hd => (wanted_guard b rfl rfl (hd 65 _ _ rfl rfl)).trans rfl) ?_
  apply Exists.intro
  refine ⟨?_, ?_⟩
  · intro wx b k hk1 hk2 hC hb hd K hK
    have e12 := hb 12 rfl
    simp only [exSlot, List.getD_cons_succ, List.getD_cons_zero] at e12
    simp only [execOp, e12]
    clear hb hd
    have hrun := (hC.1.get 1 rfl).load 28 (by kernel_rfl)
    simp only [Sem.run_bind, hrun, Result.andThen_ok, Sem.run_pure, invUpon]
    exact hK _ hC (trivial)
  refine ex_det 69 [67, 68, 65] rfl rfl (fun _ b _ _ _ _ hb hd => (wanted_guard b rfl rfl (hd 65 _ _ rfl rfl)).trans rfl) ?_
  apply Exists.intro
  refine ⟨?_, ?_⟩
  · intro wx b k hk1 hk2 hC hb hd K hK
    have e67 := hd 67 _ _ rfl rfl
    try dsimp only at e67
    have e68 := hd 68 _ _ rfl rfl
    try dsimp only at e68
    simp only [execOp, e67, e68]
    clear hb hd
    go_simp
    exact hK _ hC (trivial)
  refine ex_det 70 [65, 69] rfl rfl (fun _ _ _ _ _ _ _ _ => rfl) ?_
  apply Exists.intro
  refine ⟨?_, ?_⟩
  · intro wx b k hk1 hk2 hC hb hd K hK
    have e65 := hd 65 _ _ rfl rfl
    try dsimp only at e65
    have e69 := hd 69 _ _ rfl rfl
    try dsimp only at e69
    simp only [execOp, e65, e69]
    clear hb hd
    go_simp
    exact hK _ hC (trivial)
  refine ex_end ?_
  intro us w2 hus hC hall
  obtain ⟨v0, us, rfl⟩ := List.exists_cons_of_length_eq_add_one hus
  replace hus := Nat.succ.inj hus
  obtain ⟨v1, us, rfl⟩ := List.exists_cons_of_length_eq_add_one hus
  replace hus := Nat.succ.inj hus
  obtain ⟨v2, us, rfl⟩ := List.exists_cons_of_length_eq_add_one hus
  replace hus := Nat.succ.inj hus
  obtain ⟨v3, us, rfl⟩ := List.exists_cons_of_length_eq_add_one hus
  replace hus := Nat.succ.inj hus
  obtain ⟨v4, us, rfl⟩ := List.exists_cons_of_length_eq_add_one hus
  replace hus := Nat.succ.inj hus
  obtain ⟨v5, us, rfl⟩ := List.exists_cons_of_length_eq_add_one hus
  replace hus := Nat.succ.inj hus
  obtain ⟨v6, us, rfl⟩ := List.exists_cons_of_length_eq_add_one hus
  replace hus := Nat.succ.inj hus
  obtain ⟨v7, us, rfl⟩ := List.exists_cons_of_length_eq_add_one hus
  replace hus := Nat.succ.inj hus
  obtain ⟨v8, us, rfl⟩ := List.exists_cons_of_length_eq_add_one hus
  replace hus := Nat.succ.inj hus
  obtain ⟨v9, us, rfl⟩ := List.exists_cons_of_length_eq_add_one hus
  replace hus := Nat.succ.inj hus
  obtain ⟨v10, us, rfl⟩ := List.exists_cons_of_length_eq_add_one hus
  replace hus := Nat.succ.inj hus
  obtain ⟨v11, us, rfl⟩ := List.exists_cons_of_length_eq_add_one hus
  replace hus := Nat.succ.inj hus
  obtain ⟨v12, us, rfl⟩ := List.exists_cons_of_length_eq_add_one hus
  replace hus := Nat.succ.inj hus
  obtain ⟨v13, us, rfl⟩ := List.exists_cons_of_length_eq_add_one hus
  replace hus := Nat.succ.inj hus
  obtain rfl := List.length_eq_zero_iff.1 hus
  clear hus
  generalize hbb : exPuts _ _ _ = bb at hall ⊢
  simp only [exPuts, Act.put, List.setIfInBounds_toArray, List.set_cons_succ, List.set_cons_zero] at hbb
  subst hbb
  obtain ⟨h13, h12, h11, h10, h9, h8, h7, h6, h5, h4, h3, h2, h1, h0, -⟩ := hall
  obtain rfl : v0 = _ := h0
  obtain rfl : v1 = _ := h1
  obtain rfl : v2 = _ := h2
  obtain rfl : v3 = _ := h3
  obtain rfl : v4 = _ := h4
  obtain rfl : v5 = _ := h5
  obtain rfl : v6 = _ := h6
  obtain rfl : v7 = _ := h7
  obtain rfl : v8 = _ := h8
  obtain rfl : v9 = _ := h9
  obtain rfl : v10 = _ := h10
  obtain rfl : v11 = _ := h11
  obtain rfl : v12 = _ := h12
  obtain rfl : v13 = _ := h13
  obtain ⟨C, hA⟩ := hC
  have t0 : w2.cell? ⟨z12, 0, none⟩ = some (.int .i64 m.seq) := (C.get 1 rfl).cell 0
  have q0 : w2.cell? ⟨z5, 0, none⟩ = some (.int .i64 q.seq) := (C.get 2 rfl).cell 0
  have qf : w2.frozen? ⟨z5, 0, none⟩ = false := (C.get 2 rfl).frozen 0
  have h5 := C.get 2 rfl
  have hX := C.x
  dsimp only at h5
  go_upto_region 12 with fail
  clear t0 q0 qf C
  have d7 : z5 ∉ [b, f, r, c] := by simp; omega
  replace hA := hA.keep ((Chg.refl [z5] w2).setCell (p := ⟨z5, 0, none⟩) (.inl (by simp)) (.int .i64 (m.seq + 1))) (by simp; omega) (by simp; omega) (by simp; omega) (by simp; omega)
  replace h5 := h5.set 0 (.int .i64 (m.seq + 1)) rfl
  simp only [List.setIfInBounds_toArray, List.set_cons_zero] at h5
  replace hX := hX.setCell (p := ⟨z5, 0, none⟩) (.inr hzW) (.int .i64 (m.seq + 1))
  generalize w2.setCell ⟨z5, 0, none⟩ (.int .i64 (m.seq + 1)) = w3 at *
  go_wp2_with (refine wpList_get rfl rfl rfl h5 (by kernel_rfl) ?_)
  have HS := lsave_any w3 b f r c _ _ p hA hlk (by rw [Hs2.out]; show (0 : Int) ≤ 0; omega)
  rw [show p.cells = #[.int .i64 (m.seq + 1), .int .i64 q.cyc, .int .i64 q.ph, .int .i64 q.st, .int .i64 q.fl, .int .i64 q.vi, .int .i64 q.di, .int .i64 q.inv, .int .i64 q.inph] by rw [Hp.out]; rfl] at HS
  refine HS.mono ?_; clear HS; rintro e w4 ⟨rfl, hA4, hX4⟩
  replace h5 := hX4.at h5 d7
  replace hX := hX.then hX4 (by simp; omega)
  clear hA hX4
  go_wp2_with (refine wpList_get rfl rfl rfl h5 (by kernel_rfl) ?_)
  refine (HLp.out _).mono ?_; rintro e w5 ⟨rfl, hX5⟩
  replace h5 := hX5.at h5 (by simp)
  replace hX := hX.trans hX5
  replace hA4 := hA4.keep hX5 (by simp) (by simp) (by simp) (by simp)
  clear hX5
  go_wp2_with fail
  refine (HRp.out _).mono ?_; rintro e w6 ⟨rfl, hX6⟩
  replace h5 := hX6.at h5 (by simp)
  replace hX := hX.trans hX6
  replace hA4 := hA4.keep hX6 (by simp) (by simp) (by simp) (by simp)
  clear hX6
  have HnR := Hpn.out
  cases hr : p.right with
  | false =>
    rw [show saveE s2 l p = 1 by unfold saveE; rw [HnR, hr]; rfl]
    go_wp2
    go_returns
    exact ⟨rfl, hX.to_below⟩
  | true =>
    have e0 : saveE s2 l p = 0 := by unfold saveE; rw [HnR, hr, Hs2.out]; rfl
    have hz24 : (strOfNums p.all).size = 24 := by rw [strOfNums_size, RcV.all_len]
    have eB : (saveF s2 l p).B = strOfNums p.all ++ b0 ∧ (saveF s2 l p).off = false := by
      unfold saveF
      rw [HnR, hr, Hs2.out]
      refine ⟨?_, rfl⟩
      show over (a ++ b0) (FL.place l) _ = _
      rw [show FL.place l = 0 by unfold FL.place; rw [Hl.out]; rfl]
      exact over_0 a b0 _ hza hzb hz24
    have hws : (strOfNums p.all ++ b0).size = 48 := by rw [ByteArray.size_append]; omega
    have HP : Calls Try.prog 8 #[.agg #[.int .i64 (m.seq + 1), .int .i64 q.cyc, .int .i64 q.ph, .int .i64 q.st, .int .i64 q.fl, .int .i64 q.vi, .int .i64 q.di, .int .i64 q.inv, .int .i64 q.inph]] w6 fun e w' => e = .returned (.string (strOfNums p.all)) ∧ Chg [] w6 w' := by
      have := lprint_any w6 p
      rw [show p.cells = #[.int .i64 (m.seq + 1), .int .i64 q.cyc, .int .i64 q.ph, .int .i64 q.st, .int .i64 q.fl, .int .i64 q.vi, .int .i64 q.di, .int .i64 q.inv, .int .i64 q.inph] by rw [Hp.out]; rfl, show p.print = strOfNums p.all by unfold RcV.print; rw [hr]; rfl] at this
      exact this
    have HR := fl_read w6 f r c _ hA4.fl eB.2 0 48 (by rw [eB.1, hws]; omega) (by rw [eB.1, hws]; omega)
    rw [eB.1, show ((strOfNums p.all ++ b0).extract 0 (0 + 48)) = strOfNums p.all ++ b0 by have := ext_all (strOfNums p.all ++ b0); rw [hws] at this; exact this, show ((0 : Nat) : Int) = 0 from rfl, show ((48 : Nat) : Int) = 48 from rfl] at HR
    rw [e0]
    clear eB hA4 HnR
    generalize strOfNums p.all = t at *
    go_wp2_with fail
    refine HR.mono ?_; clear HR; rintro e w7 ⟨rfl, rfl⟩
    have cc := h5.cell
    have u0 : w6.cell? ⟨z5, 0, none⟩ = some (.int .i64 (m.seq + 1)) := cc 0
    have u1 : w6.cell? ⟨z5, 1, none⟩ = some (.int .i64 (q.cyc)) := cc 1
    have u2 : w6.cell? ⟨z5, 2, none⟩ = some (.int .i64 (q.ph)) := cc 2
    have u3 : w6.cell? ⟨z5, 3, none⟩ = some (.int .i64 (q.st)) := cc 3
    have u4 : w6.cell? ⟨z5, 4, none⟩ = some (.int .i64 (q.fl)) := cc 4
    have u5 : w6.cell? ⟨z5, 5, none⟩ = some (.int .i64 (q.vi)) := cc 5
    have u6 : w6.cell? ⟨z5, 6, none⟩ = some (.int .i64 (q.di)) := cc 6
    have u7 : w6.cell? ⟨z5, 7, none⟩ = some (.int .i64 (q.inv)) := cc 7
    have u8 : w6.cell? ⟨z5, 8, none⟩ = some (.int .i64 (q.inph)) := cc 8
    clear cc
    go_wp2_with fail
    refine HP.mono ?_; clear HP; rintro e w8 ⟨rfl, hX8⟩
    go_wp2
    go_returns
    exact ⟨rfl, (hX.trans hX8).to_below⟩

theorem lslots_size (W : World) (q : RcV) (a b0 : ByteArray) (ha : a.size ≤ maxLen) (hb : b0.size ≤ maxLen) (h : a.size ≠ 24 ∨ b0.size ≠ 24) : Calls Try.prog 4 #[.string a, .string b0, .agg q.cells] W fun e w' => e = .returned (.bool true) ∧ Below W.heap.size W w' := by
  unfold maxLen at ha hb
  rw [show q.cells = #[.int .i64 q.seq, .int .i64 q.cyc, .int .i64 q.ph, .int .i64 q.st, .int .i64 q.fl, .int .i64 q.vi, .int .i64 q.di, .int .i64 q.inv, .int .i64 q.inph] from rfl]
  have hX : Chg [] W (W.alloc (.cells #[.int .i64 q.seq, .int .i64 q.cyc, .int .i64 q.ph, .int .i64 q.st, .int .i64 q.fl, .int .i64 q.vi, .int .i64 q.di, .int .i64 q.inv, .int .i64 q.inph] 23)) := (Chg.refl [] W).alloc _
  by_cases hza : a.size = 24
  · have hna : ((a.size : Int) != 24) = false := by rw [hza]; rfl
    have hnb : ((b0.size : Int) != 24) = true := by simp; omega
    clear h hza
    go_enter Try.func4, Try.ntmps4
    go_wp2_with fail
    refine (awake09 _).mono ?_; rintro e w1 ⟨rfl, hX1⟩
    go_wp2_with fail
    refine (awake09 _).mono ?_; rintro e w2 ⟨rfl, hX2⟩
    go_wp2
    go_returns
    exact ⟨rfl, (hX.trans (hX1.trans hX2)).to_below⟩
  · have hna : ((a.size : Int) != 24) = true := by simp; omega
    clear h hza
    go_enter Try.func4, Try.ntmps4
    go_wp2_with fail
    refine (awake09 _).mono ?_; rintro e w1 ⟨rfl, hX1⟩
    go_wp2_with fail
    refine (awake09 _).mono ?_; rintro e w2 ⟨rfl, hX2⟩
    go_wp2
    go_returns
    exact ⟨rfl, (hX.trans (hX1.trans hX2)).to_below⟩
theorem LatchSlots_walk (W : World) (a : ByteArray) (ha : a.size ≤ maxLen) (b0 : ByteArray) (hb : b0.size ≤ maxLen) (c2 : Array Value) (x2 : shRc.T) (h2 : shRc.rep W x2 c2.toList) :
    Calls Try.prog 4 #[.string a, .string b0, .agg c2] W fun e w' => e = .returned (.bool true) ∧ Below W.heap.size W w' := by
  obtain ⟨rfl, -⟩ := rc_of h2
  generalize toRc x2 = q
  by_cases hza : a.size = 24
  · by_cases hzb : b0.size = 24
    · rcases kept_k a b0 with h | h | h
      · exact lslots_z W q a b0 hza hzb h
      · exact lslots_o W q a b0 hza hzb h
      · exact lslots_n W q a b0 hza hzb h
    · exact lslots_size W q a b0 ha hb (.inr hzb)
  · exact lslots_size W q a b0 ha hb (.inl hza)
end Go.Proofs.Ytjneidmkllhbjaa
