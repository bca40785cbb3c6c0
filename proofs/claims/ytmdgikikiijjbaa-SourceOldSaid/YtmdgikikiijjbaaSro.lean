/- Package apogeelaw15: few; the walk of SourceOld. -/
import Derived.Test.YtmdgikikiijjbaaSrn
import Derived.Test.YtmdgikikiijjbaaPairs
import Derived.Test.YtmdgikikiijjbaaMsk
import Derived.LoopTactic
import Derived.Deep.LoopGhost
namespace Go.Proofs.Ytmdgikikiijjbaa
open Go.RowKit

def oldS (age k : Int) : SV := ⟨50, age, if k ≤ age then ⟨70000, 0, 0, 0, 0, 0, 0, 0⟩ else NV.zero, decide (k ≤ age), k⟩
theorem oldS_bad (age k : Int) (h0 : 0 ≤ k) (h1 : k < 1000000) : (oldS age k).bad = oldS age (k + 1) := by
  have e : cAdd k 1000000 1 = k + 1 := by unfold cAdd; omega
  unfold SV.bad oldS
  simp only [e]
  by_cases h : k + 1 > age
  · rw [if_pos h, if_neg (by omega : ¬ k + 1 ≤ age), decide_eq_false (by omega : ¬ k + 1 ≤ age)]
  · rw [if_neg h, if_pos (by omega : k + 1 ≤ age), decide_eq_true (by omega : k + 1 ≤ age), if_pos (by omega : k ≤ age), decide_eq_true (by omega : k ≤ age)]
theorem oldS_ok (age k : Int) (h0 : 0 ≤ k) (h1 : k ≤ 1000000) (ha : i64b age) : (oldS age k).ok := by
  refine ⟨show (1 : Int) ≤ 50 by decide, show (50 : Int) ≤ 9223372036854775807 by decide, ha, ?_, h0, h1⟩
  unfold oldS
  split
  · simp [bd_iff, i64b]
  · exact NV.zero_bd

set_option maxRecDepth 100000 in
set_option maxHeartbeats 2000000 in
theorem SourceOld_walk (W : World) (a : Int) (_w0 : (Lit.int .i64 a).wf = true) (b : Int) (_w1 : (Lit.int .i64 b).wf = true) (c2 : Array Value) (x2 : shNV.T) (h2 : shNV.rep W x2 c2.toList) :
    Calls Try.prog 5 #[.int .i64 a, .int .i64 b, .agg c2] W fun e w' => e = .returned (.bool true) ∧ Below W.heap.size W w' := by
  obtain ⟨rfl, hn⟩ := nv_of h2
  generalize toNV x2 = n at *
  have b1 := umod_bd a 50 (by omega) (by omega)
  have b2 := umod_bd b 80 (by omega) (by omega)
  clear h2 _w0 _w1
  simp only [NV.cells] at *
  have hN := At.new W #[.int .i64 n.cnt, .int .i64 n.flg, .int .i64 n.x, .int .i64 n.y, .int .i64 n.z, .int .i64 n.vx, .int .i64 n.vy, .int .i64 n.vz] 32
  have hX : Chg [] W (W.alloc (.cells #[.int .i64 n.cnt, .int .i64 n.flg, .int .i64 n.x, .int .i64 n.y, .int .i64 n.z, .int .i64 n.vx, .int .i64 n.vy, .int .i64 n.vz] 32)) := (Chg.refl _ _).alloc _
  go_enter Try.func5, Try.ntmps5
  go_upto_region 2 with fail
  generalize wrap64 ((IntKind.u64.wrap a).tmod 50) = p at *
  generalize wrap64 ((IntKind.u64.wrap b).tmod 80) = q at *
  generalize hz0 : W.heap.size = z0 at *
  generalize W.alloc (.cells #[.int .i64 n.cnt, .int .i64 n.flg, .int .i64 n.x, .int .i64 n.y, .int .i64 n.z, .int .i64 n.vx, .int .i64 n.vy, .int .i64 n.vz] 32) = w0 at *
  go_wp2_with fail
  refine (mission_1 _).mono ?_; rintro e w1 ⟨g0, p0, rfl, hX1⟩
  replace hN := hX1.at hN (by simp)
  replace hX := hX.trans hX1
  clear hX1
  go_wp2_with fail
  refine (sNew_any _ _ _ _ _ _ _ _ _ _ (by decide) (by omega)).mono ?_; rintro e w2 ⟨b, c, rfl, hS, hX2, hb, hc⟩
  replace hN := hX2.at (hN.alloc _) (by simp)
  have hX := ((hX.alloc _).trans hX2).mono (S' := [b, c]) (by simp)
  have hbz : z0 ≤ b ∧ z0 ≤ c := by have := (hX.size); simp at hb hc; have hh := ‹Chg [] W w1›.size; omega
  rename Chg [] W w1 => hXo
  clear hXo hX2 hb hc
  have k0 := SV.new_ok 50 (1 + p) (by decide) (by decide) ⟨by omega, by omega⟩
  go_wp2_with fail
  refine (sCyc_any _ b c _ k0 (hS.keep ((Chg.refl [] _).alloc _) (by simp) (by simp)) _ [⟨70000, 0, 0, 0, 0, 0, 0, 0⟩] (NSl.mk [⟨70000, 0, 0, 0, 0, 0, 0, 0⟩] 1 1 (At.new _ _ _) rfl rfl) (by simp [Okl, bd_iff, i64b]) (by decide)).mono ?_; rintro e w3 ⟨he, hS2, hY⟩
  have hn0 : z0 ≠ b ∧ z0 ≠ c := ⟨At.ne hN hS.b (by simp [SV.cells]), At.ne hN hS.c (by simp)⟩
  replace hX := (hX.alloc _).trans hY
  replace hN := hY.at (hN.alloc _) (by simp [hn0])
  have hsn : SV.nextN (SV.new 50 (1 + p)) ([⟨70000, 0, 0, 0, 0, 0, 0, 0⟩] : List NV).getLast? = oldS (1 + p) 0 := by
    unfold oldS
    rw [if_pos (by omega), decide_eq_true (by omega)]
    rfl
  rw [hsn] at hS2
  clear hsn hS k0 hY
  replace he : e = .returned (.tuple #[.agg #[.int .i64 70000, .int .i64 0, .int .i64 0, .int .i64 0, .int .i64 0, .int .i64 0, .int .i64 0, .int .i64 0], .int .i64 0]) := he
  subst he
  go_wp2_with fail
  refine (awake15 _).mono ?_; rintro e w4 ⟨rfl, hY⟩
  replace hX := (hX.alloc _).trans (hY.mono (by simp))
  replace hN := hY.at (hN.alloc _) (by simp)
  have hS := hS2.keep ((((Chg.refl [] _).alloc _)).trans hY) (by simp) (by simp)
  clear hS2 hY
  go_wp2_with fail
  go_loopg [43] q.toNat (fun gk idx wr => ∃ k : Nat, k + gk = q.toNat ∧ idx = .int .i64 k ∧ Src wr b c (oldS (1 + p) k) ∧ At wr z0 #[.int .i64 n.cnt, .int .i64 n.flg, .int .i64 n.x, .int .i64 n.y, .int .i64 n.z, .int .i64 n.vx, .int .i64 n.vy, .int .i64 n.vz] ∧ Chg [b, c] W wr)
  case atStart => exact ⟨0, by omega, rfl, hS, hN, hX⟩
  case round =>
    obtain ⟨k, hk, rfl, hS, hN, hX⟩ := hrel
    by_cases hlt : (k : Int) < q
    · go_wp2_with fail
      refine (sCyc_any _ b c _ (oldS_ok _ _ (by omega) (by omega) ⟨by omega, by omega⟩) hS _ [] (.inl ⟨rfl, _, _, rfl⟩) (fun _ h => absurd h (by simp)) (by decide)).mono ?_; rintro e w5 ⟨he, hS2, hY⟩
      subst he
      have hS : Src w5 b c (oldS (1 + p) ((k + 1 : Nat) : Int)) := by
        have := oldS_bad (1 + p) k (by omega) (by omega)
        rw [Int.natCast_add]
        exact this ▸ hS2
      replace hN := hY.at hN (by simp [hn0])
      replace hX := hX.trans hY
      clear hS2 hY
      have Hk := Lib.hid hk
      clear hk
      go_wp2_with fail
      go_roundg (gk - 1)
      case measure => have := Hk.out; omega
      case rel => exact ⟨k + 1, by have := Hk.out; omega, by go_num, hS, hN, hX⟩
    · have hq : (k : Int) = q := by omega
      have hok := oldS_ok (1 + p) k (by omega) (by omega) ⟨by omega, by omega⟩
      clear hk
      go_wp2_with fail
      refine (sLast_any _ b c _ hS).mono ?_; rintro e w5 ⟨he, hY⟩
      replace he : e = .returned (.tuple #[.agg (oldS (1 + p) k).last.cells, .bool (decide ((k : Int) ≤ 1 + p))]) := he
      subst he
      replace hX := hX.trans (hY.mono (by simp))
      replace hN := hY.at hN (by simp)
      replace hS := hS.keep hY (by simp) (by simp)
      clear hY
      generalize hla : (oldS (1 + p) k).last = la at *
      clear hla
      simp only [NV.cells] at *
      subst hq
      go_upto_region 13 with fail
      replace hS := hS.keep ((Chg.refl [] w5).alloc (.cells #[.int .i64 la.cnt, .int .i64 la.flg, .int .i64 la.x, .int .i64 la.y, .int .i64 la.z, .int .i64 la.vx, .int .i64 la.vy, .int .i64 la.vz] 32)) (by simp) (by simp)
      replace hX := hX.alloc (.cells #[.int .i64 la.cnt, .int .i64 la.flg, .int .i64 la.x, .int .i64 la.y, .int .i64 la.z, .int .i64 la.vx, .int .i64 la.vy, .int .i64 la.vz] 32)
      replace hN := hN.alloc (.cells #[.int .i64 la.cnt, .int .i64 la.flg, .int .i64 la.x, .int .i64 la.y, .int .i64 la.z, .int .i64 la.vx, .int .i64 la.vy, .int .i64 la.vz] 32)
      generalize w5.alloc (.cells #[.int .i64 la.cnt, .int .i64 la.flg, .int .i64 la.x, .int .i64 la.y, .int .i64 la.z, .int .i64 la.vx, .int .i64 la.vy, .int .i64 la.vz] 32) = w6 at *
      generalize w5.heap.size = z5 at *
      have A : ∀ w, Src w b c (oldS (1 + p) k) → Calls Try.prog 13 #[.pointer (some ⟨b, 0, none⟩)] w fun e w' => e = .returned (.int .i64 k) ∧ w = w' := fun w h => sAge_any w b c (oldS (1 + p) k) h
      have n0 := hN.cell 0; have n1 := hN.cell 1; have n2 := hN.cell 2; have n3 := hN.cell 3; have n4 := hN.cell 4; have n5 := hN.cell 5; have n6 := hN.cell 6; have n7 := hN.cell 7
      have f0 := hN.frozen 0; have f1 := hN.frozen 1; have f2 := hN.frozen 2; have f3 := hN.frozen 3; have f4 := hN.frozen 4; have f5 := hN.frozen 5; have f6 := hN.frozen 6; have f7 := hN.frozen 7
      have HM : ∃ m : NV, m.bd ∧ m.flg = 0 ∧ m.cnt = n.cnt ∧ (0 ≤ m.x ∧ m.x ≤ 65535) ∧ m.y = 0 ∧ m.z = 0 ∧ (0 ≤ m.vx ∧ m.vx ≤ 65535) ∧ m.vy = 0 ∧ (-65535 ≤ m.vz ∧ m.vz ≤ 0) ∧ bits .and .i64 n.x 65535 = m.x ∧ bits .and .i64 n.vx 65535 = m.vx ∧ wrap64 (-bits .and .i64 n.vz 65535) = m.vz := by
        refine ⟨⟨n.cnt, 0, n.x % 65536, 0, 0, n.vx % 65536, 0, -(n.vz % 65536)⟩, ?_⟩
        rw [mask16, mask16, mask16]
        have e : wrap64 (-(n.vz % 65536)) = -(n.vz % 65536) := IntWalk.wrap64_in _ ⟨by omega, by omega⟩
        rw [e]
        have := hn.cnt
        dsimp only
        refine ⟨?_, rfl, rfl, ⟨by omega, by omega⟩, rfl, rfl, ⟨by omega, by omega⟩, rfl, ⟨by omega, by omega⟩, rfl, rfl, rfl⟩
        simp only [bd_iff, i64b] at *
        omega
      obtain ⟨m, hm, m1, m0, m2, m3, m4, m5, m6, m7, e2, e5, e7⟩ := HM
      have HF : ¬ (k : Int) ≤ 1 + p → (oldS (1 + p) k).faults m = 0 := by
        intro h
        unfold SV.faults oldS bey bey1
        rw [decide_eq_false h, m1, m3, m4, m6]
        simp
        omega
      have hsz5 := hX.size
      have hme : m = ⟨n.cnt, 0, m.x, 0, 0, m.vx, 0, m.vz⟩ := by cases m; simp_all
      have HL : Okl [⟨n.cnt, 0, m.x, 0, 0, m.vx, 0, m.vz⟩] := by rw [← hme]; simpa [Okl] using hm
      have Hme := Lib.hid hme
      have E2 := Lib.hid e2
      have E5 := Lib.hid e5
      have E7 := Lib.hid e7
      clear hme e2 e5 e7
      by_cases hage : (k : Int) ≤ 1 + p
      · rw [decide_eq_true hage]
        go_wp2_with fail
        refine (A _ hS).mono ?_; rintro e w' ⟨rfl, rfl⟩
        go_upto_region 16 with fail
        rw [E2.out, E5.out, E7.out]
        have hN9 := ((((((((hN).set 0 (.int .i64 n.cnt) rfl).set 1 (.int .i64 0) rfl).set 2 (.int .i64 m.x) rfl).set 3 (.int .i64 0) rfl).set 4 (.int .i64 0) rfl).set 5 (.int .i64 m.vx) rfl).set 6 (.int .i64 0) rfl).set 7 (.int .i64 m.vz) rfl
        simp only [List.setIfInBounds_toArray, List.set_cons_succ, List.set_cons_zero] at hN9
        have hX9 := ((((((((Chg.refl [z0] w6).setCell (p := ⟨z0, 0, none⟩) (Or.inl (by simp)) (.int .i64 n.cnt)).setCell (p := ⟨z0, 1, none⟩) (Or.inl (by simp)) (.int .i64 0)).setCell (p := ⟨z0, 2, none⟩) (Or.inl (by simp)) (.int .i64 m.x)).setCell (p := ⟨z0, 3, none⟩) (Or.inl (by simp)) (.int .i64 0)).setCell (p := ⟨z0, 4, none⟩) (Or.inl (by simp)) (.int .i64 0)).setCell (p := ⟨z0, 5, none⟩) (Or.inl (by simp)) (.int .i64 m.vx)).setCell (p := ⟨z0, 6, none⟩) (Or.inl (by simp)) (.int .i64 0)).setCell (p := ⟨z0, 7, none⟩) (Or.inl (by simp)) (.int .i64 m.vz)
        generalize ((((((((w6).setCell ⟨z0, 0, none⟩ (.int .i64 n.cnt)).setCell ⟨z0, 1, none⟩ (.int .i64 0)).setCell ⟨z0, 2, none⟩ (.int .i64 m.x)).setCell ⟨z0, 3, none⟩ (.int .i64 0)).setCell ⟨z0, 4, none⟩ (.int .i64 0)).setCell ⟨z0, 5, none⟩ (.int .i64 m.vx)).setCell ⟨z0, 6, none⟩ (.int .i64 0)).setCell ⟨z0, 7, none⟩ (.int .i64 m.vz) = w8 at *
        clear n0 n1 n2 n3 n4 n5 n6 n7 f0 f1 f2 f3 f4 f5 f6 f7 hN
        have r0 := hN9.cell 0; have r1 := hN9.cell 1; have r2 := hN9.cell 2; have r3 := hN9.cell 3; have r4 := hN9.cell 4; have r5 := hN9.cell 5; have r6 := hN9.cell 6; have r7 := hN9.cell 7
        replace hS := hS.keep hX9 (by simp [hn0.1.symm]) (by simp [hn0.2.symm])
        replace hX9 := (hX.mono (S' := [b, c, z0]) (by intro x hx _; simp at hx ⊢; rcases hx with h | h <;> simp [h])).trans (hX9.mono (S' := [b, c, z0]) (by simp))
        go_wp2_with fail
        clear r0 r1 r2 r3 r4 r5 r6 r7
        refine (sCyc_any _ b c _ hok (hS.keep ((Chg.refl [] _).alloc _) (by simp) (by simp)) _ [⟨n.cnt, 0, m.x, 0, 0, m.vx, 0, m.vz⟩] (NSl.mk [⟨n.cnt, 0, m.x, 0, 0, m.vx, 0, m.vz⟩] 1 1 (At.new _ _ _) rfl rfl) HL (by simp)).mono ?_; rintro e w7 ⟨he, hS2, hY⟩
        replace hX9 := (hX9.alloc _).trans (hY.mono (by simp))
        clear hS2 hY hS hN9
        replace he : e = .returned (.tuple #[.agg ((oldS (1 + p) k).tellN (some ⟨n.cnt, 0, m.x, 0, 0, m.vx, 0, m.vz⟩)).cells, .int .i64 ((oldS (1 + p) k).wrongN (some ⟨n.cnt, 0, m.x, 0, 0, m.vx, 0, m.vz⟩))]) := he
        generalize (oldS (1 + p) k).wrongN (some ⟨n.cnt, 0, m.x, 0, 0, m.vx, 0, m.vz⟩) = fa at *
        subst he
        generalize (oldS (1 + p) k).tellN (some ⟨n.cnt, 0, m.x, 0, 0, m.vx, 0, m.vz⟩) = te at *
        simp only [NV.cells]
        go_wp2
        go_returns
        exact ⟨rfl, (hX9.alloc _).to_below' (by omega) (by simp; omega)⟩
      · rw [decide_eq_false hage]
        go_wp2_with fail
        refine (A _ hS).mono ?_; rintro e w' ⟨rfl, rfl⟩
        go_upto_region 16 with fail
        rw [E2.out, E5.out, E7.out]
        have hN9 := ((((((((hN).set 0 (.int .i64 n.cnt) rfl).set 1 (.int .i64 0) rfl).set 2 (.int .i64 m.x) rfl).set 3 (.int .i64 0) rfl).set 4 (.int .i64 0) rfl).set 5 (.int .i64 m.vx) rfl).set 6 (.int .i64 0) rfl).set 7 (.int .i64 m.vz) rfl
        simp only [List.setIfInBounds_toArray, List.set_cons_succ, List.set_cons_zero] at hN9
        have hX9 := ((((((((Chg.refl [z0] w6).setCell (p := ⟨z0, 0, none⟩) (Or.inl (by simp)) (.int .i64 n.cnt)).setCell (p := ⟨z0, 1, none⟩) (Or.inl (by simp)) (.int .i64 0)).setCell (p := ⟨z0, 2, none⟩) (Or.inl (by simp)) (.int .i64 m.x)).setCell (p := ⟨z0, 3, none⟩) (Or.inl (by simp)) (.int .i64 0)).setCell (p := ⟨z0, 4, none⟩) (Or.inl (by simp)) (.int .i64 0)).setCell (p := ⟨z0, 5, none⟩) (Or.inl (by simp)) (.int .i64 m.vx)).setCell (p := ⟨z0, 6, none⟩) (Or.inl (by simp)) (.int .i64 0)).setCell (p := ⟨z0, 7, none⟩) (Or.inl (by simp)) (.int .i64 m.vz)
        generalize ((((((((w6).setCell ⟨z0, 0, none⟩ (.int .i64 n.cnt)).setCell ⟨z0, 1, none⟩ (.int .i64 0)).setCell ⟨z0, 2, none⟩ (.int .i64 m.x)).setCell ⟨z0, 3, none⟩ (.int .i64 0)).setCell ⟨z0, 4, none⟩ (.int .i64 0)).setCell ⟨z0, 5, none⟩ (.int .i64 m.vx)).setCell ⟨z0, 6, none⟩ (.int .i64 0)).setCell ⟨z0, 7, none⟩ (.int .i64 m.vz) = w8 at *
        clear n0 n1 n2 n3 n4 n5 n6 n7 f0 f1 f2 f3 f4 f5 f6 f7 hN
        have r0 := hN9.cell 0; have r1 := hN9.cell 1; have r2 := hN9.cell 2; have r3 := hN9.cell 3; have r4 := hN9.cell 4; have r5 := hN9.cell 5; have r6 := hN9.cell 6; have r7 := hN9.cell 7
        replace hS := hS.keep hX9 (by simp [hn0.1.symm]) (by simp [hn0.2.symm])
        replace hX9 := (hX.mono (S' := [b, c, z0]) (by intro x hx _; simp at hx ⊢; rcases hx with h | h <;> simp [h])).trans (hX9.mono (S' := [b, c, z0]) (by simp))
        go_wp2_with fail
        clear r0 r1 r2 r3 r4 r5 r6 r7
        refine (sCyc_any _ b c _ hok (hS.keep ((Chg.refl [] _).alloc _) (by simp) (by simp)) _ [⟨n.cnt, 0, m.x, 0, 0, m.vx, 0, m.vz⟩] (NSl.mk [⟨n.cnt, 0, m.x, 0, 0, m.vx, 0, m.vz⟩] 1 1 (At.new _ _ _) rfl rfl) HL (by simp)).mono ?_; rintro e w7 ⟨he, hS2, hY⟩
        replace hX9 := (hX9.alloc _).trans (hY.mono (by simp))
        clear hS2 hY hS hN9
        have hz : (oldS (1 + p) k).wrongN (some ⟨n.cnt, 0, m.x, 0, 0, m.vx, 0, m.vz⟩) = 0 := by have := HF hage; rw [Hme.out] at this; exact this
        replace he : e = .returned (.tuple #[.agg ((oldS (1 + p) k).tellN (some ⟨n.cnt, 0, m.x, 0, 0, m.vx, 0, m.vz⟩)).cells, .int .i64 ((oldS (1 + p) k).wrongN (some ⟨n.cnt, 0, m.x, 0, 0, m.vx, 0, m.vz⟩))]) := he
        rw [hz] at he
        clear hz
        subst he
        generalize (oldS (1 + p) k).tellN (some ⟨n.cnt, 0, m.x, 0, 0, m.vx, 0, m.vz⟩) = te at *
        simp only [NV.cells]
        go_wp2
        go_returns
        exact ⟨rfl, (hX9.alloc _).to_below' (by omega) (by simp; omega)⟩
end Go.Proofs.Ytmdgikikiijjbaa
