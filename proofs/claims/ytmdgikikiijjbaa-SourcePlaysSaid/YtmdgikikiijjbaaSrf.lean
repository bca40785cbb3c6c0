/- Package source: faults. -/
import Derived.Test.YtmdgikikiijjbaaSrd
import Derived.Deep.DeepCutAuto
namespace Go.Proofs.Ytmdgikikiijjbaa
open Go.RowKit

def SV.faults (s : SV) (n : NV) : Int := (if s.has && n.cnt == s.last.cnt then 2 else 0) + (if n.flg == 0 then 0 else 4) + (if bey 1073741824 [n.x, n.y, n.z] || bey 65536 [n.vx, n.vy, n.vz] then 8 else 0) + (if s.has && s.jumps n then 16 else 0)
structure J2 (W : World) (L : List (Nat × Array Value)) (z : Nat) (cs ds : Array Value) (k : Nat) (w : World) : Prop where
  c : CL W L 0 w
  s : w.heap.size = z + k
  a : 1 ≤ k → At w z cs
  b : 2 ≤ k → At w (z + 1) ds

set_option maxRecDepth 100000 in
set_option maxHeartbeats 2000000 in
theorem faults_any (w : World) (b c nb : Nat) (s : SV) (n : NV) (hs : s.ok) (hn : n.bd) (hB : At w b (s.cells c)) (hK : Ctr w c s.old 1000000) (hN : At w nb n.cells) :
    Calls Try.prog 17 #[.pointer (some ⟨b, 0, none⟩), .pointer (some ⟨nb, 0, none⟩)] w fun e w' => e = .returned (.int .i64 (s.faults n)) ∧ Chg [] w w' := by
  obtain ⟨st, mo, la, ha, ol⟩ := s
  have P1 := Lib.hid (fun w hB hK hN => jumps_any w b c nb ⟨st, mo, la, ha, ol⟩ n hs hn hB hK hN)
  have B0 := Lib.hid (fun w g h => beyond_any w 1073741824 (by decide) (by decide) g 3 3 [n.x, n.y, n.z] rfl (by decide) h)
  have B1 := Lib.hid (fun w g h => beyond_any w 65536 (by decide) (by decide) g 3 3 [n.vx, n.vy, n.vz] rfl (by decide) h)
  obtain ⟨res, hr⟩ : ∃ r, SV.faults ⟨st, mo, la, ha, ol⟩ n = r := ⟨_, rfl⟩
  rw [hr]
  simp only [SV.faults] at hr
  generalize SV.jumps ⟨st, mo, la, ha, ol⟩ n = jm at *
  generalize bey 1073741824 [n.x, n.y, n.z] = g1 at *
  generalize bey 65536 [n.vx, n.vy, n.vz] = g2 at *
  cases ha
  · have hC0 : CL w [(b, #[.int .i64 st, .int .i64 mo, .int .i64 la.cnt, .int .i64 la.flg, .int .i64 la.x, .int .i64 la.y, .int .i64 la.z, .int .i64 la.vx, .int .i64 la.vy, .int .i64 la.vz, .bool false, .pointer (some ⟨c, 0, none⟩)]), (nb, #[.int .i64 n.cnt, .int .i64 n.flg, .int .i64 n.x, .int .i64 n.y, .int .i64 n.z, .int .i64 n.vx, .int .i64 n.vy, .int .i64 n.vz]), (c, #[.int .i64 ol, .int .i64 1000000])] 0 w := (((CL.new w 0).cons hK).cons hN).cons hB
    clear hB hK hN
    have HR := Lib.hid hr
    clear hr
    go_enter Try.func17, Try.ntmps17
    go_wp2_with fail
    have Cd := hC0.drew
    clear hC0
    refine wp_region_stage (CL w [(b, #[.int .i64 st, .int .i64 mo, .int .i64 la.cnt, .int .i64 la.flg, .int .i64 la.x, .int .i64 la.y, .int .i64 la.z, .int .i64 la.vx, .int .i64 la.vy, .int .i64 la.vz, .bool false, .pointer (some ⟨c, 0, none⟩)]), (nb, #[.int .i64 n.cnt, .int .i64 n.flg, .int .i64 n.x, .int .i64 n.y, .int .i64 n.z, .int .i64 n.vx, .int .i64 n.vy, .int .i64 n.vz]), (c, #[.int .i64 ol, .int .i64 1000000])]) [] [(0, 0, false), (0, 0, false), (0, 0, false), (0, 0, false), (0, 0, false), (0, 0, false), (0, 0, false), (0, 0, false), (0, 0, false), (0, 0, false), (0, 0, false), (0, 0, false), (0, 0, false), (0, 0, false), (0, 0, false), (0, 0, false)]
      (by kernel_rfl) (by kernel_rfl) (by kernel_rfl) (Cd) ?_
    simp only [List.zip_cons_cons, List.zip_nil_right]
    refine wpStage_yes (by go_simp) ?_
    intro K hK
    apply Exists.intro
    refine ⟨fun kk ww hk1 hk2 hC => ?_, ?_⟩
    · go_simp
      with_reducible exact rfl
    go_simp
    refine hK _ ?_
    clear hK K
    refine wpStage_yes (by go_simp) ?_
    intro K hK
    apply Exists.intro
    refine ⟨fun kk ww hk1 hk2 hC => ?_, ?_⟩
    · go_simp
      with_reducible exact rfl
    go_simp
    refine hK _ ?_
    clear hK K
    refine wpStage_yes (by go_simp) ?_
    intro K hK
    apply Exists.intro
    refine ⟨fun kk ww hk1 hk2 hC => ?_, ?_⟩
    · go_simp
      with_reducible exact rfl
    go_simp
    refine hK _ ?_
    clear hK K
    refine wpStage_yes (by go_simp) ?_
    intro K hK
    apply Exists.intro
    refine ⟨fun kk ww hk1 hk2 hC => ?_, ?_⟩
    · have c0_10 := (hC.get 0 rfl).cell 10
      go_simp
      with_reducible exact rfl
    go_simp
    refine hK _ ?_
    clear hK K
    refine wpStage_yes (by go_simp) ?_
    intro K hK
    apply Exists.intro
    refine ⟨fun kk ww hk1 hk2 hC => ?_, ?_⟩
    · go_simp
      with_reducible exact rfl
    go_simp
    refine hK _ ?_
    clear hK K
    refine wpStage_no (by go_simp) ?_
    intro K hK
    go_simp
    refine hK _ ?_
    clear hK K
    refine wpStage_no (by go_simp) ?_
    intro K hK
    go_simp
    refine hK _ ?_
    clear hK K
    refine wpStage_no (by go_simp) ?_
    intro K hK
    go_simp
    refine hK _ ?_
    clear hK K
    refine wpStage_no (by go_simp) ?_
    intro K hK
    go_simp
    refine hK _ ?_
    clear hK K
    refine wpStage_no (by go_simp) ?_
    intro K hK
    go_simp
    refine hK _ ?_
    clear hK K
    refine wpStage_no (by go_simp) ?_
    intro K hK
    go_simp
    refine hK _ ?_
    clear hK K
    refine wpStage_no (by go_simp) ?_
    intro K hK
    go_simp
    refine hK _ ?_
    clear hK K
    refine wpStage_no (by go_simp) ?_
    intro K hK
    go_simp
    refine hK _ ?_
    clear hK K
    refine wpStage_no (by go_simp) ?_
    intro K hK
    go_simp
    refine hK _ ?_
    clear hK K
    refine wpStage_no (by go_simp) ?_
    intro K hK
    go_simp
    refine hK _ ?_
    clear hK K
    refine wpStage_yes (by go_simp) ?_
    intro K hK
    apply Exists.intro
    refine ⟨fun kk ww hk1 hk2 hC => ?_, ?_⟩
    · go_simp
      with_reducible exact rfl
    go_simp
    refine hK _ ?_
    clear hK K
    refine wpStage_nil (fun ww hC => ?_)
    clear Cd
    simp only [Bool.false_and] at HR
    have c1_1 := (hC.get 1 rfl).cell 1
    have hyy : (n.flg == 0) = decide (n.flg = 0) := rfl
    rw [hyy] at HR
    clear hyy
    go_upto_if 27 with fail
    go_cut [4] (fun v wx => ∃ a : Int, v = .int .i64 a ∧ Hid (a = (0 + (if decide (n.flg = 0) then 0 else 4))) ∧ ww = wx)
    case first =>
      by_cases hy : n.flg = 0
      · go_wp2_with fail
        go_meet
        exact ⟨_, rfl, Lib.hid (by (first | rw [decide_eq_true hy] | rw [decide_eq_false hy]); rfl), rfl⟩
      · go_wp2_with fail
        go_meet
        exact ⟨_, rfl, Lib.hid (by (first | rw [decide_eq_true hy] | rw [decide_eq_false hy]); rfl), rfl⟩
    obtain ⟨a, rfl, HA, rfl⟩ := hcut
    generalize hy : decide (n.flg = 0) = y at *
    clear hy
    go_upto_region 5 with fail
    obtain ⟨z, hz⟩ : ∃ z, z = ww.drew.heap.size := ⟨_, rfl⟩
    have HZ := Lib.hid hz
    clear hz
    cases g1
    · refine wp_region_stage (J2 w [(b, #[.int .i64 st, .int .i64 mo, .int .i64 la.cnt, .int .i64 la.flg, .int .i64 la.x, .int .i64 la.y, .int .i64 la.z, .int .i64 la.vx, .int .i64 la.vy, .int .i64 la.vz, .bool false, .pointer (some ⟨c, 0, none⟩)]), (nb, #[.int .i64 n.cnt, .int .i64 n.flg, .int .i64 n.x, .int .i64 n.y, .int .i64 n.z, .int .i64 n.vx, .int .i64 n.vy, .int .i64 n.vz]), (c, #[.int .i64 ol, .int .i64 1000000])] z #[.int .i64 n.x, .int .i64 n.y, .int .i64 n.z] #[.int .i64 n.vx, .int .i64 n.vy, .int .i64 n.vz]) [12, 27] [(0, 0, false), (0, 0, false), (0, 0, false), (0, 0, false), (0, 0, false), (0, 0, false), (0, 0, false), (0, 0, false), (0, 0, false), (0, 0, false), (0, 0, false), (0, 0, false), (0, 0, true), (1, 1, false), (1, 1, false), (1, 1, false), (1, 1, false), (1, 1, false), (1, 1, false), (1, 1, false), (1, 1, false), (1, 1, false), (1, 1, false), (1, 1, false), (1, 1, false), (1, 1, false), (1, 1, false), (1, 1, true), (2, 2, false), (2, 2, false)]
        (by kernel_rfl) (by kernel_rfl) (by kernel_rfl) (⟨hC.drew, HZ.out.symm, fun h => absurd h (by omega), fun h => absurd h (by omega)⟩) ?_
      simp only [List.zip_cons_cons, List.zip_nil_right]
      refine wpStage_yes (by go_simp) ?_
      intro K hK
      apply Exists.intro
      refine ⟨fun kk ww hk1 hk2 hC => ?_, ?_⟩
      · go_simp
        with_reducible exact rfl
      go_simp
      refine hK _ ?_
      clear hK K
      refine wpStage_yes (by go_simp) ?_
      intro K hK
      apply Exists.intro
      refine ⟨fun kk ww hk1 hk2 hC => ?_, ?_⟩
      · go_simp
        with_reducible exact rfl
      go_simp
      refine hK _ ?_
      clear hK K
      refine wpStage_yes (by go_simp) ?_
      intro K hK
      apply Exists.intro
      refine ⟨fun kk ww hk1 hk2 hC => ?_, ?_⟩
      · go_simp
        with_reducible exact rfl
      go_simp
      refine hK _ ?_
      clear hK K
      refine wpStage_yes (by go_simp) ?_
      intro K hK
      apply Exists.intro
      refine ⟨fun kk ww hk1 hk2 hC => ?_, ?_⟩
      · have c1_2 := (hC.c.get 1 rfl).cell 2
        go_simp
        with_reducible exact rfl
      go_simp
      refine hK _ ?_
      clear hK K
      refine wpStage_yes (by go_simp) ?_
      intro K hK
      apply Exists.intro
      refine ⟨fun kk ww hk1 hk2 hC => ?_, ?_⟩
      · go_simp
        with_reducible exact rfl
      go_simp
      refine hK _ ?_
      clear hK K
      refine wpStage_yes (by go_simp) ?_
      intro K hK
      apply Exists.intro
      refine ⟨fun kk ww hk1 hk2 hC => ?_, ?_⟩
      · go_simp
        with_reducible exact rfl
      go_simp
      refine hK _ ?_
      clear hK K
      refine wpStage_yes (by go_simp) ?_
      intro K hK
      apply Exists.intro
      refine ⟨fun kk ww hk1 hk2 hC => ?_, ?_⟩
      · go_simp
        with_reducible exact rfl
      go_simp
      refine hK _ ?_
      clear hK K
      refine wpStage_yes (by go_simp) ?_
      intro K hK
      apply Exists.intro
      refine ⟨fun kk ww hk1 hk2 hC => ?_, ?_⟩
      · have c1_3 := (hC.c.get 1 rfl).cell 3
        go_simp
        with_reducible exact rfl
      go_simp
      refine hK _ ?_
      clear hK K
      refine wpStage_yes (by go_simp) ?_
      intro K hK
      apply Exists.intro
      refine ⟨fun kk ww hk1 hk2 hC => ?_, ?_⟩
      · go_simp
        with_reducible exact rfl
      go_simp
      refine hK _ ?_
      clear hK K
      refine wpStage_yes (by go_simp) ?_
      intro K hK
      apply Exists.intro
      refine ⟨fun kk ww hk1 hk2 hC => ?_, ?_⟩
      · go_simp
        with_reducible exact rfl
      go_simp
      refine hK _ ?_
      clear hK K
      refine wpStage_yes (by go_simp) ?_
      intro K hK
      apply Exists.intro
      refine ⟨fun kk ww hk1 hk2 hC => ?_, ?_⟩
      · go_simp
        with_reducible exact rfl
      go_simp
      refine hK _ ?_
      clear hK K
      refine wpStage_yes (by go_simp) ?_
      intro K hK
      apply Exists.intro
      refine ⟨fun kk ww hk1 hk2 hC => ?_, ?_⟩
      · have c1_4 := (hC.c.get 1 rfl).cell 4
        go_simp
        with_reducible exact rfl
      go_simp
      refine hK _ ?_
      clear hK K
      refine wpStage_yes (by go_simp) ?_
      intro K hK
      apply Exists.intro
      refine ⟨fun kk ww hk1 hk2 hC => ?_, ?_⟩
      · obtain rfl : kk = 0 := by omega
        have hsz := hC.s
        have hA := At.new ww #[.int .i64 n.x, .int .i64 n.y, .int .i64 n.z] 2
        rw [hsz] at hA
        go_simp
        exact ⟨rfl, hC.c.alloc0 _, by simp [hsz], fun _ => hA, fun h => absurd h (by omega)⟩
      go_simp
      refine hK _ ?_
      clear hK K
      refine wpStage_yes (by go_simp) ?_
      intro K hK
      apply Exists.intro
      refine ⟨fun kk ww hk1 hk2 hC => ?_, ?_⟩
      · go_simp
        refine (B0.out _ z (at_row (hC.a (by omega)) rfl)).mono ?_; rintro e w' ⟨he, rfl⟩
        exact ⟨he, hC⟩
      go_simp
      refine hK _ ?_
      clear hK K
      refine wpStage_yes (by go_simp) ?_
      intro K hK
      apply Exists.intro
      refine ⟨fun kk ww hk1 hk2 hC => ?_, ?_⟩
      · go_simp
        with_reducible exact rfl
      go_simp
      refine hK _ ?_
      clear hK K
      refine wpStage_yes (by go_simp) ?_
      intro K hK
      apply Exists.intro
      refine ⟨fun kk ww hk1 hk2 hC => ?_, ?_⟩
      · go_simp
        with_reducible exact rfl
      go_simp
      refine hK _ ?_
      clear hK K
      refine wpStage_yes (by go_simp) ?_
      intro K hK
      apply Exists.intro
      refine ⟨fun kk ww hk1 hk2 hC => ?_, ?_⟩
      · go_simp
        with_reducible exact rfl
      go_simp
      refine hK _ ?_
      clear hK K
      refine wpStage_yes (by go_simp) ?_
      intro K hK
      apply Exists.intro
      refine ⟨fun kk ww hk1 hk2 hC => ?_, ?_⟩
      · go_simp
        with_reducible exact rfl
      go_simp
      refine hK _ ?_
      clear hK K
      refine wpStage_yes (by go_simp) ?_
      intro K hK
      apply Exists.intro
      refine ⟨fun kk ww hk1 hk2 hC => ?_, ?_⟩
      · have c1_5 := (hC.c.get 1 rfl).cell 5
        go_simp
        with_reducible exact rfl
      go_simp
      refine hK _ ?_
      clear hK K
      refine wpStage_yes (by go_simp) ?_
      intro K hK
      apply Exists.intro
      refine ⟨fun kk ww hk1 hk2 hC => ?_, ?_⟩
      · go_simp
        with_reducible exact rfl
      go_simp
      refine hK _ ?_
      clear hK K
      refine wpStage_yes (by go_simp) ?_
      intro K hK
      apply Exists.intro
      refine ⟨fun kk ww hk1 hk2 hC => ?_, ?_⟩
      · go_simp
        with_reducible exact rfl
      go_simp
      refine hK _ ?_
      clear hK K
      refine wpStage_yes (by go_simp) ?_
      intro K hK
      apply Exists.intro
      refine ⟨fun kk ww hk1 hk2 hC => ?_, ?_⟩
      · go_simp
        with_reducible exact rfl
      go_simp
      refine hK _ ?_
      clear hK K
      refine wpStage_yes (by go_simp) ?_
      intro K hK
      apply Exists.intro
      refine ⟨fun kk ww hk1 hk2 hC => ?_, ?_⟩
      · have c1_6 := (hC.c.get 1 rfl).cell 6
        go_simp
        with_reducible exact rfl
      go_simp
      refine hK _ ?_
      clear hK K
      refine wpStage_yes (by go_simp) ?_
      intro K hK
      apply Exists.intro
      refine ⟨fun kk ww hk1 hk2 hC => ?_, ?_⟩
      · go_simp
        with_reducible exact rfl
      go_simp
      refine hK _ ?_
      clear hK K
      refine wpStage_yes (by go_simp) ?_
      intro K hK
      apply Exists.intro
      refine ⟨fun kk ww hk1 hk2 hC => ?_, ?_⟩
      · go_simp
        with_reducible exact rfl
      go_simp
      refine hK _ ?_
      clear hK K
      refine wpStage_yes (by go_simp) ?_
      intro K hK
      apply Exists.intro
      refine ⟨fun kk ww hk1 hk2 hC => ?_, ?_⟩
      · go_simp
        with_reducible exact rfl
      go_simp
      refine hK _ ?_
      clear hK K
      refine wpStage_yes (by go_simp) ?_
      intro K hK
      apply Exists.intro
      refine ⟨fun kk ww hk1 hk2 hC => ?_, ?_⟩
      · have c1_7 := (hC.c.get 1 rfl).cell 7
        go_simp
        with_reducible exact rfl
      go_simp
      refine hK _ ?_
      clear hK K
      refine wpStage_yes (by go_simp) ?_
      intro K hK
      apply Exists.intro
      refine ⟨fun kk ww hk1 hk2 hC => ?_, ?_⟩
      · obtain rfl : kk = 1 := by omega
        have hsz := hC.s
        have hA := At.new ww #[.int .i64 n.vx, .int .i64 n.vy, .int .i64 n.vz] 2
        rw [hsz] at hA
        go_simp
        exact ⟨rfl, hC.c.alloc0 _, by simp [hsz], fun _ => (hC.a (by omega)).alloc _, fun _ => hA⟩
      go_simp
      refine hK _ ?_
      clear hK K
      refine wpStage_yes (by go_simp) ?_
      intro K hK
      apply Exists.intro
      refine ⟨fun kk ww hk1 hk2 hC => ?_, ?_⟩
      · go_simp
        refine (B1.out _ (z + 1) (at_row (hC.b (by omega)) rfl)).mono ?_; rintro e w' ⟨he, rfl⟩
        exact ⟨he, hC⟩
      go_simp
      refine hK _ ?_
      clear hK K
      refine wpStage_yes (by go_simp) ?_
      intro K hK
      apply Exists.intro
      refine ⟨fun kk ww hk1 hk2 hC => ?_, ?_⟩
      · go_simp
        with_reducible exact rfl
      go_simp
      refine hK _ ?_
      clear hK K
      refine wpStage_nil (fun ww hC => ?_)
      have CC := hC.c
      clear hC HZ B0 B1
      cases g2
      · have c0_10 := (CC.get 0 rfl).cell 10
        go_wp2_with fail
        go_returns
        exact ⟨ret_int (by rw [← HR.out, HA.out]; cases y <;> rfl), CC.x⟩
      · have c0_10 := (CC.get 0 rfl).cell 10
        go_wp2_with fail
        go_returns
        exact ⟨ret_int (by rw [← HR.out, HA.out]; cases y <;> rfl), CC.x⟩
    · refine wp_region_stage (J2 w [(b, #[.int .i64 st, .int .i64 mo, .int .i64 la.cnt, .int .i64 la.flg, .int .i64 la.x, .int .i64 la.y, .int .i64 la.z, .int .i64 la.vx, .int .i64 la.vy, .int .i64 la.vz, .bool false, .pointer (some ⟨c, 0, none⟩)]), (nb, #[.int .i64 n.cnt, .int .i64 n.flg, .int .i64 n.x, .int .i64 n.y, .int .i64 n.z, .int .i64 n.vx, .int .i64 n.vy, .int .i64 n.vz]), (c, #[.int .i64 ol, .int .i64 1000000])] z #[.int .i64 n.x, .int .i64 n.y, .int .i64 n.z] #[.int .i64 n.vx, .int .i64 n.vy, .int .i64 n.vz]) [12] [(0, 0, false), (0, 0, false), (0, 0, false), (0, 0, false), (0, 0, false), (0, 0, false), (0, 0, false), (0, 0, false), (0, 0, false), (0, 0, false), (0, 0, false), (0, 0, false), (0, 0, true), (1, 1, false), (1, 1, false), (1, 1, false), (1, 1, false), (1, 1, false), (1, 1, false), (1, 1, false), (1, 1, false), (1, 1, false), (1, 1, false), (1, 1, false), (1, 1, false), (1, 1, false), (1, 1, false), (1, 1, false), (1, 1, false), (1, 1, false)]
        (by kernel_rfl) (by kernel_rfl) (by kernel_rfl) (⟨hC.drew, HZ.out.symm, fun h => absurd h (by omega), fun h => absurd h (by omega)⟩) ?_
      simp only [List.zip_cons_cons, List.zip_nil_right]
      refine wpStage_yes (by go_simp) ?_
      intro K hK
      apply Exists.intro
      refine ⟨fun kk ww hk1 hk2 hC => ?_, ?_⟩
      · go_simp
        with_reducible exact rfl
      go_simp
      refine hK _ ?_
      clear hK K
      refine wpStage_yes (by go_simp) ?_
      intro K hK
      apply Exists.intro
      refine ⟨fun kk ww hk1 hk2 hC => ?_, ?_⟩
      · go_simp
        with_reducible exact rfl
      go_simp
      refine hK _ ?_
      clear hK K
      refine wpStage_yes (by go_simp) ?_
      intro K hK
      apply Exists.intro
      refine ⟨fun kk ww hk1 hk2 hC => ?_, ?_⟩
      · go_simp
        with_reducible exact rfl
      go_simp
      refine hK _ ?_
      clear hK K
      refine wpStage_yes (by go_simp) ?_
      intro K hK
      apply Exists.intro
      refine ⟨fun kk ww hk1 hk2 hC => ?_, ?_⟩
      · have c1_2 := (hC.c.get 1 rfl).cell 2
        go_simp
        with_reducible exact rfl
      go_simp
      refine hK _ ?_
      clear hK K
      refine wpStage_yes (by go_simp) ?_
      intro K hK
      apply Exists.intro
      refine ⟨fun kk ww hk1 hk2 hC => ?_, ?_⟩
      · go_simp
        with_reducible exact rfl
      go_simp
      refine hK _ ?_
      clear hK K
      refine wpStage_yes (by go_simp) ?_
      intro K hK
      apply Exists.intro
      refine ⟨fun kk ww hk1 hk2 hC => ?_, ?_⟩
      · go_simp
        with_reducible exact rfl
      go_simp
      refine hK _ ?_
      clear hK K
      refine wpStage_yes (by go_simp) ?_
      intro K hK
      apply Exists.intro
      refine ⟨fun kk ww hk1 hk2 hC => ?_, ?_⟩
      · go_simp
        with_reducible exact rfl
      go_simp
      refine hK _ ?_
      clear hK K
      refine wpStage_yes (by go_simp) ?_
      intro K hK
      apply Exists.intro
      refine ⟨fun kk ww hk1 hk2 hC => ?_, ?_⟩
      · have c1_3 := (hC.c.get 1 rfl).cell 3
        go_simp
        with_reducible exact rfl
      go_simp
      refine hK _ ?_
      clear hK K
      refine wpStage_yes (by go_simp) ?_
      intro K hK
      apply Exists.intro
      refine ⟨fun kk ww hk1 hk2 hC => ?_, ?_⟩
      · go_simp
        with_reducible exact rfl
      go_simp
      refine hK _ ?_
      clear hK K
      refine wpStage_yes (by go_simp) ?_
      intro K hK
      apply Exists.intro
      refine ⟨fun kk ww hk1 hk2 hC => ?_, ?_⟩
      · go_simp
        with_reducible exact rfl
      go_simp
      refine hK _ ?_
      clear hK K
      refine wpStage_yes (by go_simp) ?_
      intro K hK
      apply Exists.intro
      refine ⟨fun kk ww hk1 hk2 hC => ?_, ?_⟩
      · go_simp
        with_reducible exact rfl
      go_simp
      refine hK _ ?_
      clear hK K
      refine wpStage_yes (by go_simp) ?_
      intro K hK
      apply Exists.intro
      refine ⟨fun kk ww hk1 hk2 hC => ?_, ?_⟩
      · have c1_4 := (hC.c.get 1 rfl).cell 4
        go_simp
        with_reducible exact rfl
      go_simp
      refine hK _ ?_
      clear hK K
      refine wpStage_yes (by go_simp) ?_
      intro K hK
      apply Exists.intro
      refine ⟨fun kk ww hk1 hk2 hC => ?_, ?_⟩
      · obtain rfl : kk = 0 := by omega
        have hsz := hC.s
        have hA := At.new ww #[.int .i64 n.x, .int .i64 n.y, .int .i64 n.z] 2
        rw [hsz] at hA
        go_simp
        exact ⟨rfl, hC.c.alloc0 _, by simp [hsz], fun _ => hA, fun h => absurd h (by omega)⟩
      go_simp
      refine hK _ ?_
      clear hK K
      refine wpStage_yes (by go_simp) ?_
      intro K hK
      apply Exists.intro
      refine ⟨fun kk ww hk1 hk2 hC => ?_, ?_⟩
      · go_simp
        refine (B0.out _ z (at_row (hC.a (by omega)) rfl)).mono ?_; rintro e w' ⟨he, rfl⟩
        exact ⟨he, hC⟩
      go_simp
      refine hK _ ?_
      clear hK K
      refine wpStage_yes (by go_simp) ?_
      intro K hK
      apply Exists.intro
      refine ⟨fun kk ww hk1 hk2 hC => ?_, ?_⟩
      · go_simp
        with_reducible exact rfl
      go_simp
      refine hK _ ?_
      clear hK K
      refine wpStage_no (by go_simp) ?_
      intro K hK
      go_simp
      refine hK _ ?_
      clear hK K
      refine wpStage_no (by go_simp) ?_
      intro K hK
      go_simp
      refine hK _ ?_
      clear hK K
      refine wpStage_no (by go_simp) ?_
      intro K hK
      go_simp
      refine hK _ ?_
      clear hK K
      refine wpStage_no (by go_simp) ?_
      intro K hK
      go_simp
      refine hK _ ?_
      clear hK K
      refine wpStage_no (by go_simp) ?_
      intro K hK
      go_simp
      refine hK _ ?_
      clear hK K
      refine wpStage_no (by go_simp) ?_
      intro K hK
      go_simp
      refine hK _ ?_
      clear hK K
      refine wpStage_no (by go_simp) ?_
      intro K hK
      go_simp
      refine hK _ ?_
      clear hK K
      refine wpStage_no (by go_simp) ?_
      intro K hK
      go_simp
      refine hK _ ?_
      clear hK K
      refine wpStage_no (by go_simp) ?_
      intro K hK
      go_simp
      refine hK _ ?_
      clear hK K
      refine wpStage_no (by go_simp) ?_
      intro K hK
      go_simp
      refine hK _ ?_
      clear hK K
      refine wpStage_no (by go_simp) ?_
      intro K hK
      go_simp
      refine hK _ ?_
      clear hK K
      refine wpStage_no (by go_simp) ?_
      intro K hK
      go_simp
      refine hK _ ?_
      clear hK K
      refine wpStage_no (by go_simp) ?_
      intro K hK
      go_simp
      refine hK _ ?_
      clear hK K
      refine wpStage_no (by go_simp) ?_
      intro K hK
      go_simp
      refine hK _ ?_
      clear hK K
      refine wpStage_yes (by go_simp) ?_
      intro K hK
      apply Exists.intro
      refine ⟨fun kk ww hk1 hk2 hC => ?_, ?_⟩
      · go_simp
        with_reducible exact rfl
      go_simp
      refine hK _ ?_
      clear hK K
      refine wpStage_nil (fun ww hC => ?_)
      have CC := hC.c
      clear hC HZ B0 B1
      replace HR := Lib.hid (HR.out)
      have c0_10 := (CC.get 0 rfl).cell 10
      go_wp2_with fail
      go_returns
      exact ⟨ret_int (by rw [← HR.out, HA.out]; cases y <;> rfl), CC.x⟩
  · have hC0 : CL w [(b, #[.int .i64 st, .int .i64 mo, .int .i64 la.cnt, .int .i64 la.flg, .int .i64 la.x, .int .i64 la.y, .int .i64 la.z, .int .i64 la.vx, .int .i64 la.vy, .int .i64 la.vz, .bool true, .pointer (some ⟨c, 0, none⟩)]), (nb, #[.int .i64 n.cnt, .int .i64 n.flg, .int .i64 n.x, .int .i64 n.y, .int .i64 n.z, .int .i64 n.vx, .int .i64 n.vy, .int .i64 n.vz]), (c, #[.int .i64 ol, .int .i64 1000000])] 0 w := (((CL.new w 0).cons hK).cons hN).cons hB
    clear hB hK hN
    have HR := Lib.hid hr
    clear hr
    go_enter Try.func17, Try.ntmps17
    go_wp2_with fail
    have Cd := hC0.drew
    clear hC0
    refine wp_region_stage (CL w [(b, #[.int .i64 st, .int .i64 mo, .int .i64 la.cnt, .int .i64 la.flg, .int .i64 la.x, .int .i64 la.y, .int .i64 la.z, .int .i64 la.vx, .int .i64 la.vy, .int .i64 la.vz, .bool true, .pointer (some ⟨c, 0, none⟩)]), (nb, #[.int .i64 n.cnt, .int .i64 n.flg, .int .i64 n.x, .int .i64 n.y, .int .i64 n.z, .int .i64 n.vx, .int .i64 n.vy, .int .i64 n.vz]), (c, #[.int .i64 ol, .int .i64 1000000])]) [] [(0, 0, false), (0, 0, false), (0, 0, false), (0, 0, false), (0, 0, false), (0, 0, false), (0, 0, false), (0, 0, false), (0, 0, false), (0, 0, false), (0, 0, false), (0, 0, false), (0, 0, false), (0, 0, false), (0, 0, false), (0, 0, false)]
      (by kernel_rfl) (by kernel_rfl) (by kernel_rfl) (Cd) ?_
    simp only [List.zip_cons_cons, List.zip_nil_right]
    refine wpStage_yes (by go_simp) ?_
    intro K hK
    apply Exists.intro
    refine ⟨fun kk ww hk1 hk2 hC => ?_, ?_⟩
    · go_simp
      with_reducible exact rfl
    go_simp
    refine hK _ ?_
    clear hK K
    refine wpStage_yes (by go_simp) ?_
    intro K hK
    apply Exists.intro
    refine ⟨fun kk ww hk1 hk2 hC => ?_, ?_⟩
    · go_simp
      with_reducible exact rfl
    go_simp
    refine hK _ ?_
    clear hK K
    refine wpStage_yes (by go_simp) ?_
    intro K hK
    apply Exists.intro
    refine ⟨fun kk ww hk1 hk2 hC => ?_, ?_⟩
    · go_simp
      with_reducible exact rfl
    go_simp
    refine hK _ ?_
    clear hK K
    refine wpStage_yes (by go_simp) ?_
    intro K hK
    apply Exists.intro
    refine ⟨fun kk ww hk1 hk2 hC => ?_, ?_⟩
    · have c0_10 := (hC.get 0 rfl).cell 10
      go_simp
      with_reducible exact rfl
    go_simp
    refine hK _ ?_
    clear hK K
    refine wpStage_yes (by go_simp) ?_
    intro K hK
    apply Exists.intro
    refine ⟨fun kk ww hk1 hk2 hC => ?_, ?_⟩
    · go_simp
      with_reducible exact rfl
    go_simp
    refine hK _ ?_
    clear hK K
    refine wpStage_yes (by go_simp) ?_
    intro K hK
    apply Exists.intro
    refine ⟨fun kk ww hk1 hk2 hC => ?_, ?_⟩
    · go_simp
      with_reducible exact rfl
    go_simp
    refine hK _ ?_
    clear hK K
    refine wpStage_yes (by go_simp) ?_
    intro K hK
    apply Exists.intro
    refine ⟨fun kk ww hk1 hk2 hC => ?_, ?_⟩
    · go_simp
      with_reducible exact rfl
    go_simp
    refine hK _ ?_
    clear hK K
    refine wpStage_yes (by go_simp) ?_
    intro K hK
    apply Exists.intro
    refine ⟨fun kk ww hk1 hk2 hC => ?_, ?_⟩
    · go_simp
      with_reducible exact rfl
    go_simp
    refine hK _ ?_
    clear hK K
    refine wpStage_yes (by go_simp) ?_
    intro K hK
    apply Exists.intro
    refine ⟨fun kk ww hk1 hk2 hC => ?_, ?_⟩
    · have c1_0 := (hC.get 1 rfl).cell 0
      go_simp
      with_reducible exact rfl
    go_simp
    refine hK _ ?_
    clear hK K
    refine wpStage_yes (by go_simp) ?_
    intro K hK
    apply Exists.intro
    refine ⟨fun kk ww hk1 hk2 hC => ?_, ?_⟩
    · go_simp
      with_reducible exact rfl
    go_simp
    refine hK _ ?_
    clear hK K
    refine wpStage_yes (by go_simp) ?_
    intro K hK
    apply Exists.intro
    refine ⟨fun kk ww hk1 hk2 hC => ?_, ?_⟩
    · go_simp
      with_reducible exact rfl
    go_simp
    refine hK _ ?_
    clear hK K
    refine wpStage_yes (by go_simp) ?_
    intro K hK
    apply Exists.intro
    refine ⟨fun kk ww hk1 hk2 hC => ?_, ?_⟩
    · go_simp
      with_reducible exact rfl
    go_simp
    refine hK _ ?_
    clear hK K
    refine wpStage_yes (by go_simp) ?_
    intro K hK
    apply Exists.intro
    refine ⟨fun kk ww hk1 hk2 hC => ?_, ?_⟩
    · go_simp
      with_reducible exact rfl
    go_simp
    refine hK _ ?_
    clear hK K
    refine wpStage_yes (by go_simp) ?_
    intro K hK
    apply Exists.intro
    refine ⟨fun kk ww hk1 hk2 hC => ?_, ?_⟩
    · have c0_2 := (hC.get 0 rfl).cell 2
      go_simp
      with_reducible exact rfl
    go_simp
    refine hK _ ?_
    clear hK K
    refine wpStage_yes (by go_simp) ?_
    intro K hK
    apply Exists.intro
    refine ⟨fun kk ww hk1 hk2 hC => ?_, ?_⟩
    · go_simp
      with_reducible exact rfl
    go_simp
    refine hK _ ?_
    clear hK K
    refine wpStage_yes (by go_simp) ?_
    intro K hK
    apply Exists.intro
    refine ⟨fun kk ww hk1 hk2 hC => ?_, ?_⟩
    · go_simp
      with_reducible exact rfl
    go_simp
    refine hK _ ?_
    clear hK K
    refine wpStage_nil (fun ww hC => ?_)
    clear Cd
    generalize (n.cnt == la.cnt) = q at *
    simp only [Bool.true_and] at HR
    go_upto_if 20 with fail
    go_cut [4] (fun v wx => v = .int .i64 (if q then 2 else 0) ∧ ww = wx)
    case first =>
      cases q
      · go_wp2_with fail
        go_meet
        exact ⟨rfl, rfl⟩
      · go_wp2_with fail
        go_meet
        exact ⟨rfl, rfl⟩
    obtain ⟨rfl, rfl⟩ := hcut
    have c1_1 := (hC.get 1 rfl).cell 1
    have hyy : (n.flg == 0) = decide (n.flg = 0) := rfl
    rw [hyy] at HR
    clear hyy
    go_upto_if 27 with fail
    go_cut [4] (fun v wx => ∃ a : Int, v = .int .i64 a ∧ Hid (a = ((if q then 2 else 0) + (if decide (n.flg = 0) then 0 else 4))) ∧ ww = wx)
    case first =>
      by_cases hy : n.flg = 0
      · cases q
        · go_wp2_with fail
          go_meet
          exact ⟨_, rfl, Lib.hid (by (first | rw [decide_eq_true hy] | rw [decide_eq_false hy]); rfl), rfl⟩
        · go_wp2_with fail
          go_meet
          exact ⟨_, rfl, Lib.hid (by (first | rw [decide_eq_true hy] | rw [decide_eq_false hy]); rfl), rfl⟩
      · cases q
        · go_wp2_with fail
          go_meet
          exact ⟨_, rfl, Lib.hid (by (first | rw [decide_eq_true hy] | rw [decide_eq_false hy]); rfl), rfl⟩
        · go_wp2_with fail
          go_meet
          exact ⟨_, rfl, Lib.hid (by (first | rw [decide_eq_true hy] | rw [decide_eq_false hy]); rfl), rfl⟩
    obtain ⟨a, rfl, HA, rfl⟩ := hcut
    generalize hy : decide (n.flg = 0) = y at *
    clear hy
    go_upto_region 5 with fail
    obtain ⟨z, hz⟩ : ∃ z, z = ww.drew.heap.size := ⟨_, rfl⟩
    have HZ := Lib.hid hz
    clear hz
    cases g1
    · refine wp_region_stage (J2 w [(b, #[.int .i64 st, .int .i64 mo, .int .i64 la.cnt, .int .i64 la.flg, .int .i64 la.x, .int .i64 la.y, .int .i64 la.z, .int .i64 la.vx, .int .i64 la.vy, .int .i64 la.vz, .bool true, .pointer (some ⟨c, 0, none⟩)]), (nb, #[.int .i64 n.cnt, .int .i64 n.flg, .int .i64 n.x, .int .i64 n.y, .int .i64 n.z, .int .i64 n.vx, .int .i64 n.vy, .int .i64 n.vz]), (c, #[.int .i64 ol, .int .i64 1000000])] z #[.int .i64 n.x, .int .i64 n.y, .int .i64 n.z] #[.int .i64 n.vx, .int .i64 n.vy, .int .i64 n.vz]) [12, 27] [(0, 0, false), (0, 0, false), (0, 0, false), (0, 0, false), (0, 0, false), (0, 0, false), (0, 0, false), (0, 0, false), (0, 0, false), (0, 0, false), (0, 0, false), (0, 0, false), (0, 0, true), (1, 1, false), (1, 1, false), (1, 1, false), (1, 1, false), (1, 1, false), (1, 1, false), (1, 1, false), (1, 1, false), (1, 1, false), (1, 1, false), (1, 1, false), (1, 1, false), (1, 1, false), (1, 1, false), (1, 1, true), (2, 2, false), (2, 2, false)]
        (by kernel_rfl) (by kernel_rfl) (by kernel_rfl) (⟨hC.drew, HZ.out.symm, fun h => absurd h (by omega), fun h => absurd h (by omega)⟩) ?_
      simp only [List.zip_cons_cons, List.zip_nil_right]
      refine wpStage_yes (by go_simp) ?_
      intro K hK
      apply Exists.intro
      refine ⟨fun kk ww hk1 hk2 hC => ?_, ?_⟩
      · go_simp
        with_reducible exact rfl
      go_simp
      refine hK _ ?_
      clear hK K
      refine wpStage_yes (by go_simp) ?_
      intro K hK
      apply Exists.intro
      refine ⟨fun kk ww hk1 hk2 hC => ?_, ?_⟩
      · go_simp
        with_reducible exact rfl
      go_simp
      refine hK _ ?_
      clear hK K
      refine wpStage_yes (by go_simp) ?_
      intro K hK
      apply Exists.intro
      refine ⟨fun kk ww hk1 hk2 hC => ?_, ?_⟩
      · go_simp
        with_reducible exact rfl
      go_simp
      refine hK _ ?_
      clear hK K
      refine wpStage_yes (by go_simp) ?_
      intro K hK
      apply Exists.intro
      refine ⟨fun kk ww hk1 hk2 hC => ?_, ?_⟩
      · have c1_2 := (hC.c.get 1 rfl).cell 2
        go_simp
        with_reducible exact rfl
      go_simp
      refine hK _ ?_
      clear hK K
      refine wpStage_yes (by go_simp) ?_
      intro K hK
      apply Exists.intro
      refine ⟨fun kk ww hk1 hk2 hC => ?_, ?_⟩
      · go_simp
        with_reducible exact rfl
      go_simp
      refine hK _ ?_
      clear hK K
      refine wpStage_yes (by go_simp) ?_
      intro K hK
      apply Exists.intro
      refine ⟨fun kk ww hk1 hk2 hC => ?_, ?_⟩
      · go_simp
        with_reducible exact rfl
      go_simp
      refine hK _ ?_
      clear hK K
      refine wpStage_yes (by go_simp) ?_
      intro K hK
      apply Exists.intro
      refine ⟨fun kk ww hk1 hk2 hC => ?_, ?_⟩
      · go_simp
        with_reducible exact rfl
      go_simp
      refine hK _ ?_
      clear hK K
      refine wpStage_yes (by go_simp) ?_
      intro K hK
      apply Exists.intro
      refine ⟨fun kk ww hk1 hk2 hC => ?_, ?_⟩
      · have c1_3 := (hC.c.get 1 rfl).cell 3
        go_simp
        with_reducible exact rfl
      go_simp
      refine hK _ ?_
      clear hK K
      refine wpStage_yes (by go_simp) ?_
      intro K hK
      apply Exists.intro
      refine ⟨fun kk ww hk1 hk2 hC => ?_, ?_⟩
      · go_simp
        with_reducible exact rfl
      go_simp
      refine hK _ ?_
      clear hK K
      refine wpStage_yes (by go_simp) ?_
      intro K hK
      apply Exists.intro
      refine ⟨fun kk ww hk1 hk2 hC => ?_, ?_⟩
      · go_simp
        with_reducible exact rfl
      go_simp
      refine hK _ ?_
      clear hK K
      refine wpStage_yes (by go_simp) ?_
      intro K hK
      apply Exists.intro
      refine ⟨fun kk ww hk1 hk2 hC => ?_, ?_⟩
      · go_simp
        with_reducible exact rfl
      go_simp
      refine hK _ ?_
      clear hK K
      refine wpStage_yes (by go_simp) ?_
      intro K hK
      apply Exists.intro
      refine ⟨fun kk ww hk1 hk2 hC => ?_, ?_⟩
      · have c1_4 := (hC.c.get 1 rfl).cell 4
        go_simp
        with_reducible exact rfl
      go_simp
      refine hK _ ?_
      clear hK K
      refine wpStage_yes (by go_simp) ?_
      intro K hK
      apply Exists.intro
      refine ⟨fun kk ww hk1 hk2 hC => ?_, ?_⟩
      · obtain rfl : kk = 0 := by omega
        have hsz := hC.s
        have hA := At.new ww #[.int .i64 n.x, .int .i64 n.y, .int .i64 n.z] 2
        rw [hsz] at hA
        go_simp
        exact ⟨rfl, hC.c.alloc0 _, by simp [hsz], fun _ => hA, fun h => absurd h (by omega)⟩
      go_simp
      refine hK _ ?_
      clear hK K
      refine wpStage_yes (by go_simp) ?_
      intro K hK
      apply Exists.intro
      refine ⟨fun kk ww hk1 hk2 hC => ?_, ?_⟩
      · go_simp
        refine (B0.out _ z (at_row (hC.a (by omega)) rfl)).mono ?_; rintro e w' ⟨he, rfl⟩
        exact ⟨he, hC⟩
      go_simp
      refine hK _ ?_
      clear hK K
      refine wpStage_yes (by go_simp) ?_
      intro K hK
      apply Exists.intro
      refine ⟨fun kk ww hk1 hk2 hC => ?_, ?_⟩
      · go_simp
        with_reducible exact rfl
      go_simp
      refine hK _ ?_
      clear hK K
      refine wpStage_yes (by go_simp) ?_
      intro K hK
      apply Exists.intro
      refine ⟨fun kk ww hk1 hk2 hC => ?_, ?_⟩
      · go_simp
        with_reducible exact rfl
      go_simp
      refine hK _ ?_
      clear hK K
      refine wpStage_yes (by go_simp) ?_
      intro K hK
      apply Exists.intro
      refine ⟨fun kk ww hk1 hk2 hC => ?_, ?_⟩
      · go_simp
        with_reducible exact rfl
      go_simp
      refine hK _ ?_
      clear hK K
      refine wpStage_yes (by go_simp) ?_
      intro K hK
      apply Exists.intro
      refine ⟨fun kk ww hk1 hk2 hC => ?_, ?_⟩
      · go_simp
        with_reducible exact rfl
      go_simp
      refine hK _ ?_
      clear hK K
      refine wpStage_yes (by go_simp) ?_
      intro K hK
      apply Exists.intro
      refine ⟨fun kk ww hk1 hk2 hC => ?_, ?_⟩
      · have c1_5 := (hC.c.get 1 rfl).cell 5
        go_simp
        with_reducible exact rfl
      go_simp
      refine hK _ ?_
      clear hK K
      refine wpStage_yes (by go_simp) ?_
      intro K hK
      apply Exists.intro
      refine ⟨fun kk ww hk1 hk2 hC => ?_, ?_⟩
      · go_simp
        with_reducible exact rfl
      go_simp
      refine hK _ ?_
      clear hK K
      refine wpStage_yes (by go_simp) ?_
      intro K hK
      apply Exists.intro
      refine ⟨fun kk ww hk1 hk2 hC => ?_, ?_⟩
      · go_simp
        with_reducible exact rfl
      go_simp
      refine hK _ ?_
      clear hK K
      refine wpStage_yes (by go_simp) ?_
      intro K hK
      apply Exists.intro
      refine ⟨fun kk ww hk1 hk2 hC => ?_, ?_⟩
      · go_simp
        with_reducible exact rfl
      go_simp
      refine hK _ ?_
      clear hK K
      refine wpStage_yes (by go_simp) ?_
      intro K hK
      apply Exists.intro
      refine ⟨fun kk ww hk1 hk2 hC => ?_, ?_⟩
      · have c1_6 := (hC.c.get 1 rfl).cell 6
        go_simp
        with_reducible exact rfl
      go_simp
      refine hK _ ?_
      clear hK K
      refine wpStage_yes (by go_simp) ?_
      intro K hK
      apply Exists.intro
      refine ⟨fun kk ww hk1 hk2 hC => ?_, ?_⟩
      · go_simp
        with_reducible exact rfl
      go_simp
      refine hK _ ?_
      clear hK K
      refine wpStage_yes (by go_simp) ?_
      intro K hK
      apply Exists.intro
      refine ⟨fun kk ww hk1 hk2 hC => ?_, ?_⟩
      · go_simp
        with_reducible exact rfl
      go_simp
      refine hK _ ?_
      clear hK K
      refine wpStage_yes (by go_simp) ?_
      intro K hK
      apply Exists.intro
      refine ⟨fun kk ww hk1 hk2 hC => ?_, ?_⟩
      · go_simp
        with_reducible exact rfl
      go_simp
      refine hK _ ?_
      clear hK K
      refine wpStage_yes (by go_simp) ?_
      intro K hK
      apply Exists.intro
      refine ⟨fun kk ww hk1 hk2 hC => ?_, ?_⟩
      · have c1_7 := (hC.c.get 1 rfl).cell 7
        go_simp
        with_reducible exact rfl
      go_simp
      refine hK _ ?_
      clear hK K
      refine wpStage_yes (by go_simp) ?_
      intro K hK
      apply Exists.intro
      refine ⟨fun kk ww hk1 hk2 hC => ?_, ?_⟩
      · obtain rfl : kk = 1 := by omega
        have hsz := hC.s
        have hA := At.new ww #[.int .i64 n.vx, .int .i64 n.vy, .int .i64 n.vz] 2
        rw [hsz] at hA
        go_simp
        exact ⟨rfl, hC.c.alloc0 _, by simp [hsz], fun _ => (hC.a (by omega)).alloc _, fun _ => hA⟩
      go_simp
      refine hK _ ?_
      clear hK K
      refine wpStage_yes (by go_simp) ?_
      intro K hK
      apply Exists.intro
      refine ⟨fun kk ww hk1 hk2 hC => ?_, ?_⟩
      · go_simp
        refine (B1.out _ (z + 1) (at_row (hC.b (by omega)) rfl)).mono ?_; rintro e w' ⟨he, rfl⟩
        exact ⟨he, hC⟩
      go_simp
      refine hK _ ?_
      clear hK K
      refine wpStage_yes (by go_simp) ?_
      intro K hK
      apply Exists.intro
      refine ⟨fun kk ww hk1 hk2 hC => ?_, ?_⟩
      · go_simp
        with_reducible exact rfl
      go_simp
      refine hK _ ?_
      clear hK K
      refine wpStage_nil (fun ww hC => ?_)
      have CC := hC.c
      clear hC HZ B0 B1
      cases g2
      · have c0_10 := (CC.get 0 rfl).cell 10
        go_wp2_with fail
        refine (P1.out _ (CC.get 0 rfl) (CC.get 2 rfl) (CC.get 1 rfl)).mono ?_; rintro e w1 ⟨rfl, hX⟩
        replace CC := CC.step (j := 0) hX
        clear hX
        cases jm
        · go_wp2_with fail
          go_returns
          exact ⟨ret_int (by rw [← HR.out, HA.out]; cases q <;> cases y <;> rfl), CC.x⟩
        · go_wp2_with fail
          go_returns
          exact ⟨ret_int (by rw [← HR.out, HA.out]; cases q <;> cases y <;> rfl), CC.x⟩
      · have c0_10 := (CC.get 0 rfl).cell 10
        go_wp2_with fail
        refine (P1.out _ (CC.get 0 rfl) (CC.get 2 rfl) (CC.get 1 rfl)).mono ?_; rintro e w1 ⟨rfl, hX⟩
        replace CC := CC.step (j := 0) hX
        clear hX
        cases jm
        · go_wp2_with fail
          go_returns
          exact ⟨ret_int (by rw [← HR.out, HA.out]; cases q <;> cases y <;> rfl), CC.x⟩
        · go_wp2_with fail
          go_returns
          exact ⟨ret_int (by rw [← HR.out, HA.out]; cases q <;> cases y <;> rfl), CC.x⟩
    · refine wp_region_stage (J2 w [(b, #[.int .i64 st, .int .i64 mo, .int .i64 la.cnt, .int .i64 la.flg, .int .i64 la.x, .int .i64 la.y, .int .i64 la.z, .int .i64 la.vx, .int .i64 la.vy, .int .i64 la.vz, .bool true, .pointer (some ⟨c, 0, none⟩)]), (nb, #[.int .i64 n.cnt, .int .i64 n.flg, .int .i64 n.x, .int .i64 n.y, .int .i64 n.z, .int .i64 n.vx, .int .i64 n.vy, .int .i64 n.vz]), (c, #[.int .i64 ol, .int .i64 1000000])] z #[.int .i64 n.x, .int .i64 n.y, .int .i64 n.z] #[.int .i64 n.vx, .int .i64 n.vy, .int .i64 n.vz]) [12] [(0, 0, false), (0, 0, false), (0, 0, false), (0, 0, false), (0, 0, false), (0, 0, false), (0, 0, false), (0, 0, false), (0, 0, false), (0, 0, false), (0, 0, false), (0, 0, false), (0, 0, true), (1, 1, false), (1, 1, false), (1, 1, false), (1, 1, false), (1, 1, false), (1, 1, false), (1, 1, false), (1, 1, false), (1, 1, false), (1, 1, false), (1, 1, false), (1, 1, false), (1, 1, false), (1, 1, false), (1, 1, false), (1, 1, false), (1, 1, false)]
        (by kernel_rfl) (by kernel_rfl) (by kernel_rfl) (⟨hC.drew, HZ.out.symm, fun h => absurd h (by omega), fun h => absurd h (by omega)⟩) ?_
      simp only [List.zip_cons_cons, List.zip_nil_right]
      refine wpStage_yes (by go_simp) ?_
      intro K hK
      apply Exists.intro
      refine ⟨fun kk ww hk1 hk2 hC => ?_, ?_⟩
      · go_simp
        with_reducible exact rfl
      go_simp
      refine hK _ ?_
      clear hK K
      refine wpStage_yes (by go_simp) ?_
      intro K hK
      apply Exists.intro
      refine ⟨fun kk ww hk1 hk2 hC => ?_, ?_⟩
      · go_simp
        with_reducible exact rfl
      go_simp
      refine hK _ ?_
      clear hK K
      refine wpStage_yes (by go_simp) ?_
      intro K hK
      apply Exists.intro
      refine ⟨fun kk ww hk1 hk2 hC => ?_, ?_⟩
      · go_simp
        with_reducible exact rfl
      go_simp
      refine hK _ ?_
      clear hK K
      refine wpStage_yes (by go_simp) ?_
      intro K hK
      apply Exists.intro
      refine ⟨fun kk ww hk1 hk2 hC => ?_, ?_⟩
      · have c1_2 := (hC.c.get 1 rfl).cell 2
        go_simp
        with_reducible exact rfl
      go_simp
      refine hK _ ?_
      clear hK K
      refine wpStage_yes (by go_simp) ?_
      intro K hK
      apply Exists.intro
      refine ⟨fun kk ww hk1 hk2 hC => ?_, ?_⟩
      · go_simp
        with_reducible exact rfl
      go_simp
      refine hK _ ?_
      clear hK K
      refine wpStage_yes (by go_simp) ?_
      intro K hK
      apply Exists.intro
      refine ⟨fun kk ww hk1 hk2 hC => ?_, ?_⟩
      · go_simp
        with_reducible exact rfl
      go_simp
      refine hK _ ?_
      clear hK K
      refine wpStage_yes (by go_simp) ?_
      intro K hK
      apply Exists.intro
      refine ⟨fun kk ww hk1 hk2 hC => ?_, ?_⟩
      · go_simp
        with_reducible exact rfl
      go_simp
      refine hK _ ?_
      clear hK K
      refine wpStage_yes (by go_simp) ?_
      intro K hK
      apply Exists.intro
      refine ⟨fun kk ww hk1 hk2 hC => ?_, ?_⟩
      · have c1_3 := (hC.c.get 1 rfl).cell 3
        go_simp
        with_reducible exact rfl
      go_simp
      refine hK _ ?_
      clear hK K
      refine wpStage_yes (by go_simp) ?_
      intro K hK
      apply Exists.intro
      refine ⟨fun kk ww hk1 hk2 hC => ?_, ?_⟩
      · go_simp
        with_reducible exact rfl
      go_simp
      refine hK _ ?_
      clear hK K
      refine wpStage_yes (by go_simp) ?_
      intro K hK
      apply Exists.intro
      refine ⟨fun kk ww hk1 hk2 hC => ?_, ?_⟩
      · go_simp
        with_reducible exact rfl
      go_simp
      refine hK _ ?_
      clear hK K
      refine wpStage_yes (by go_simp) ?_
      intro K hK
      apply Exists.intro
      refine ⟨fun kk ww hk1 hk2 hC => ?_, ?_⟩
      · go_simp
        with_reducible exact rfl
      go_simp
      refine hK _ ?_
      clear hK K
      refine wpStage_yes (by go_simp) ?_
      intro K hK
      apply Exists.intro
      refine ⟨fun kk ww hk1 hk2 hC => ?_, ?_⟩
      · have c1_4 := (hC.c.get 1 rfl).cell 4
        go_simp
        with_reducible exact rfl
      go_simp
      refine hK _ ?_
      clear hK K
      refine wpStage_yes (by go_simp) ?_
      intro K hK
      apply Exists.intro
      refine ⟨fun kk ww hk1 hk2 hC => ?_, ?_⟩
      · obtain rfl : kk = 0 := by omega
        have hsz := hC.s
        have hA := At.new ww #[.int .i64 n.x, .int .i64 n.y, .int .i64 n.z] 2
        rw [hsz] at hA
        go_simp
        exact ⟨rfl, hC.c.alloc0 _, by simp [hsz], fun _ => hA, fun h => absurd h (by omega)⟩
      go_simp
      refine hK _ ?_
      clear hK K
      refine wpStage_yes (by go_simp) ?_
      intro K hK
      apply Exists.intro
      refine ⟨fun kk ww hk1 hk2 hC => ?_, ?_⟩
      · go_simp
        refine (B0.out _ z (at_row (hC.a (by omega)) rfl)).mono ?_; rintro e w' ⟨he, rfl⟩
        exact ⟨he, hC⟩
      go_simp
      refine hK _ ?_
      clear hK K
      refine wpStage_yes (by go_simp) ?_
      intro K hK
      apply Exists.intro
      refine ⟨fun kk ww hk1 hk2 hC => ?_, ?_⟩
      · go_simp
        with_reducible exact rfl
      go_simp
      refine hK _ ?_
      clear hK K
      refine wpStage_no (by go_simp) ?_
      intro K hK
      go_simp
      refine hK _ ?_
      clear hK K
      refine wpStage_no (by go_simp) ?_
      intro K hK
      go_simp
      refine hK _ ?_
      clear hK K
      refine wpStage_no (by go_simp) ?_
      intro K hK
      go_simp
      refine hK _ ?_
      clear hK K
      refine wpStage_no (by go_simp) ?_
      intro K hK
      go_simp
      refine hK _ ?_
      clear hK K
      refine wpStage_no (by go_simp) ?_
      intro K hK
      go_simp
      refine hK _ ?_
      clear hK K
      refine wpStage_no (by go_simp) ?_
      intro K hK
      go_simp
      refine hK _ ?_
      clear hK K
      refine wpStage_no (by go_simp) ?_
      intro K hK
      go_simp
      refine hK _ ?_
      clear hK K
      refine wpStage_no (by go_simp) ?_
      intro K hK
      go_simp
      refine hK _ ?_
      clear hK K
      refine wpStage_no (by go_simp) ?_
      intro K hK
      go_simp
      refine hK _ ?_
      clear hK K
      refine wpStage_no (by go_simp) ?_
      intro K hK
      go_simp
      refine hK _ ?_
      clear hK K
      refine wpStage_no (by go_simp) ?_
      intro K hK
      go_simp
      refine hK _ ?_
      clear hK K
      refine wpStage_no (by go_simp) ?_
      intro K hK
      go_simp
      refine hK _ ?_
      clear hK K
      refine wpStage_no (by go_simp) ?_
      intro K hK
      go_simp
      refine hK _ ?_
      clear hK K
      refine wpStage_no (by go_simp) ?_
      intro K hK
      go_simp
      refine hK _ ?_
      clear hK K
      refine wpStage_yes (by go_simp) ?_
      intro K hK
      apply Exists.intro
      refine ⟨fun kk ww hk1 hk2 hC => ?_, ?_⟩
      · go_simp
        with_reducible exact rfl
      go_simp
      refine hK _ ?_
      clear hK K
      refine wpStage_nil (fun ww hC => ?_)
      have CC := hC.c
      clear hC HZ B0 B1
      replace HR := Lib.hid (HR.out)
      have c0_10 := (CC.get 0 rfl).cell 10
      go_wp2_with fail
      refine (P1.out _ (CC.get 0 rfl) (CC.get 2 rfl) (CC.get 1 rfl)).mono ?_; rintro e w1 ⟨rfl, hX⟩
      replace CC := CC.step (j := 0) hX
      clear hX
      cases jm
      · go_wp2_with fail
        go_returns
        exact ⟨ret_int (by rw [← HR.out, HA.out]; cases q <;> cases y <;> rfl), CC.x⟩
      · go_wp2_with fail
        go_returns
        exact ⟨ret_int (by rw [← HR.out, HA.out]; cases q <;> cases y <;> rfl), CC.x⟩
end Go.Proofs.Ytmdgikikiijjbaa
