/- Package apogeelaw15: the walk of SourceRight. -/
import Derived.Test.YtmdgikikiijjbaaSrp
namespace Go.Proofs.Ytmdgikikiijjbaa
open Go.RowKit

def mx6 (a b c d e f : Int) : Int := max f (max e (max d (max c (max b a))))
@[go_sem] theorem run_max_int6 (w : World) (ts : Array TypeId) (t : TypeId) (k1 k2 k3 k4 k5 k6 : IntKind) (a b c d e f : Int) : (Builtin.max_ ts t #[.int k1 a, .int k2 b, .int k3 c, .int k4 d, .int k5 e, .int k6 f]).run Try.prog w = .ok (.int k1 (mx6 a b c d e f)) w := by
  have e : ∀ x y : Int, (if y > x then y else x) = max y x := fun x y => by omega
  simp only [mx6, ← e]
  simp [Builtin.max_, Builtin.max2]
theorem mx6_le {m x y z : Int} (hx : -m ≤ x ∧ x ≤ m) (hy : -m ≤ y ∧ y ≤ m) (hz : -m ≤ z ∧ z ≤ m) : mx6 x (-x) y (-y) z (-z) ≤ m := by unfold mx6; omega
theorem Came.keep {S : List Nat} {W w : World} {v : Value} {L : List NV} (h : Came W v L) (hX : Chg S W w) (hS : ∀ b ∈ S, W.heap.size ≤ b) : NSl w v L := by
  refine h.sl.keep hX ?_
  intro b off cap e h0 hb
  obtain ⟨a, c, e2, _, hl⟩ := h.form
  rw [e2] at e
  cases e
  have := hl _ rfl h0
  have := hS b hb
  simp at *
  omega
theorem Came.nil {W : World} {v : Value} {L : List NV} (h : Came W v L) : ∀ ad n c, v = .slice ad n c → ad = none → c = 0 := by
  intro ad n c e ha
  obtain ⟨a, c2, e2, hc, _⟩ := h.form
  rw [e2] at e
  cases e
  exact hc ha

set_option maxRecDepth 100000 in
set_option maxHeartbeats 2000000 in
theorem SourceRight_walk (W : World) (v0 : Value) (l : List (List shNV.T)) (h0 : (Sh.slice (Sh.slice shNV)).rep W l [v0]) :
    Calls Try.prog 6 #[v0] W fun e w' => e = .returned (.bool true) ∧ Below W.heap.size W w' := by
  have hR := rows2_of h0
  clear h0
  generalize l.length = n at *
  generalize (fun k => (l.getD k []).map toNV) = L at *
  go_enter Try.func6, Try.ntmps6
  go_wp2_with fail
  refine (awake15 _).mono ?_; rintro e w1 ⟨rfl, hX⟩
  go_wp2_with fail
  have hR1 : Rows2 w1 v0 n L := by
    obtain ⟨ad, cap, e, hn, hc⟩ := hR.out
    refine ⟨ad, cap, e, hn, fun k hk => ?_⟩
    obtain ⟨b, off, v', e1, hb, hcell, hC⟩ := hc k hk
    refine ⟨b, off, v', e1, by have := hX.size; omega, hX.cell hcell (by simp), ⟨hC.keep hX (by simp), hC.ok, hC.len, ?_⟩⟩
    obtain ⟨a, c, e2, h1, h2⟩ := hC.form
    exact ⟨a, c, e2, h1, fun p hp h0 => by have := h2 p hp h0; have := hX.size; omega⟩
  refine (few_any _ _ _ _ hR1).mono ?_; rintro e w' ⟨r, rfl, rfl, hfew⟩
  clear hR1
  cases r with
  | false =>
    clear hR hfew
    go_wp2_with fail
    refine (awake15 _).mono ?_; rintro e w2 ⟨rfl, hX2⟩
    go_wp2
    go_returns
    exact ⟨rfl, (hX.trans hX2).to_below⟩
  | true =>
    obtain ⟨hn1, hL5⟩ := hfew rfl
    clear hfew
    go_wp2_with fail
    refine (mission_2 _).mono ?_; rintro e w2 ⟨g0, p0, rfl, hX2⟩
    go_wp2_with fail
    refine (sNew_any _ _ _ _ _ _ _ _ _ _ (by decide) (by decide)).mono ?_; rintro e w3 ⟨b, c, rfl, hS, hX3, hb, hc⟩
    have hbW : W.heap.size ≤ b ∧ W.heap.size ≤ c := by have := hX.size; have := hX2.size; have := hX3.size; omega
    replace hX := ((hX.trans hX2).trans hX3).mono (S' := [b, c]) (by simp)
    clear hX2 hX3 hb hc
    go_upto_region 5 with fail
    have hZ := At.new w3 #[.int .i64 0, .int .i64 0, .int .i64 0, .int .i64 0, .int .i64 0, .int .i64 0, .int .i64 0, .int .i64 0] 32
    replace hS := hS.keep ((Chg.refl [] w3).alloc (.cells #[.int .i64 0, .int .i64 0, .int .i64 0, .int .i64 0, .int .i64 0, .int .i64 0, .int .i64 0, .int .i64 0] 32)) (by simp) (by simp)
    have hzb := At.ne hZ hS.b (by simp [SV.cells])
    have hzc := At.ne hZ hS.c (by simp)
    have hzW : W.heap.size ≤ w3.heap.size := hX.size
    replace hX := (hX.alloc (.cells #[.int .i64 0, .int .i64 0, .int .i64 0, .int .i64 0, .int .i64 0, .int .i64 0, .int .i64 0, .int .i64 0] 32)).mono (S' := [b, c, w3.heap.size]) (by simp)
    generalize w3.alloc (.cells #[.int .i64 0, .int .i64 0, .int .i64 0, .int .i64 0, .int .i64 0, .int .i64 0, .int .i64 0, .int .i64 0] 32) = w4 at *
    generalize w3.heap.size = z at *
    have hok : (SV.new 50 2).ok := SV.new_ok 50 2 (by decide) (by decide) ⟨by decide, by decide⟩
    obtain ⟨ad, cap, rfl, hlen, hcell⟩ := hR.out
    clear hR
    unfold maxLen at hlen
    have hSW : ∀ x ∈ [b, c, z], W.heap.size ≤ x := by intro x hx; simp at hx; omega
    go_wp2_with fail
    go_loopg [5, 28] n (fun gk has idx wr => ∃ (k : Nat) (s : SV), k + gk = n ∧ idx = .int .i64 k ∧ has = .bool s.has ∧ s.ok ∧ Src wr b c s ∧ At wr z s.last.cells ∧ Chg [b, c, z] W wr)
    case atStart => exact ⟨0, SV.new 50 2, by omega, rfl, rfl, hok, hS, hZ, hX⟩
    case round =>
      clear hok
      obtain ⟨k, s, hk, rfl, rfl, hok, hS, hZ, hX⟩ := hrel
      by_cases hlt : k < n
      · obtain ⟨bb, off, v', rfl, hb, hc, hC⟩ := hcell k hlt
        have hc' := hX.cell hc (fun h => by have := hSW _ h; simp at this; omega)
        have hL := hL5 k hlt
        have Hk := Lib.hid hk
        have Hc := Lib.hid hcell
        clear hcell hk hc hL5
        generalize L k = M at *
        have hNR := NRow.lit0 wr wr.heap.size (Nat.le_refl _)
        have hM : NSl (wr.alloc (.cells #[] 32)) v' M := hC.keep (hX.alloc _) hSW
        have hsz : wr.heap.size ≤ (wr.alloc (.cells #[] 32)).heap.size := by simp
        go_wp2_with (at_builtin; refine wpList_appNs rfl (.tmp 34) (.tmp 35) rfl rfl hNR rfl hM hC.nil (by simp; omega) hsz ?_; intro v1 ws1 hQ g; refine Hid.out ?_)
        refine Lib.hid ?_
        have hXs := NRow.grown hNR ((Chg.refl [] wr).alloc _) g (Nat.le_refl _)
        clear g hM hsz hNR
        rw [List.nil_append] at hQ
        have hM := hQ.isl
        replace hS := hS.keep hXs (by simp) (by simp)
        replace hZ := hXs.at hZ (by simp)
        replace hX := hX.trans (hXs.mono (by simp))
        clear hXs hQ hc'
        go_wp2_with fail
        refine (sCyc_any _ b c _ hok hS _ M hM hC.ok (by omega)).mono ?_; rintro e w5 ⟨he, hS2, hY⟩
        replace hZ := hY.at hZ (by simp [hzb, hzc])
        replace hX := hX.trans (hY.mono (by simp))
        clear hY hM
        have hok2 : (s.nextN M.getLast?).ok := hok.next _ (fun m hm => hC.ok m (List.mem_of_getLast? hm))
        have hmb : ∀ m, M.getLast? = some m → m.bd := fun m hm => hC.ok m (List.mem_of_getLast? hm)
        rcases next_cases s M.getLast? with ⟨m, e0, e1, e2, e3, e4⟩ | ⟨e2, e3, e4⟩
        · rw [e2, e3] at he
          rw [e4] at hS2 hok2
          subst he
          obtain ⟨q2, q1, ⟨x1, x2, x3⟩, ⟨v1, v2, v3⟩, _⟩ := faults_zero e1
          replace x1 := bey1_false x1
          replace x2 := bey1_false x2
          replace x3 := bey1_false x3
          replace v1 := bey1_false v1
          replace v2 := bey1_false v2
          replace v3 := bey1_false v3
          clear e1 e2 e3 e4 hS hok hC
          obtain ⟨mc, mf, mx, my, mz, mvx, mvy, mvz⟩ := m
          dsimp only at q1 x1 x2 x3 v1 v2 v3 q2
          obtain rfl : mf = 0 := q1
          have hS := hS2
          clear hS2
          simp only [NV.cells] at *
          go_upto_region 13 with fail
          have hN := At.new w5 #[.int .i64 mc, .int .i64 0, .int .i64 mx, .int .i64 my, .int .i64 mz, .int .i64 mvx, .int .i64 mvy, .int .i64 mvz] 32
          have hyz : w5.heap.size ≠ z := by have := hZ.lt; omega
          replace hS := hS.keep ((Chg.refl [] w5).alloc (.cells #[.int .i64 mc, .int .i64 0, .int .i64 mx, .int .i64 my, .int .i64 mz, .int .i64 mvx, .int .i64 mvy, .int .i64 mvz] 32)) (by simp) (by simp)
          replace hZ := hZ.alloc (.cells #[.int .i64 mc, .int .i64 0, .int .i64 mx, .int .i64 my, .int .i64 mz, .int .i64 mvx, .int .i64 mvy, .int .i64 mvz] 32)
          replace hX := hX.alloc (.cells #[.int .i64 mc, .int .i64 0, .int .i64 mx, .int .i64 my, .int .i64 mz, .int .i64 mvx, .int .i64 mvy, .int .i64 mvz] 32)
          generalize w5.alloc (.cells #[.int .i64 mc, .int .i64 0, .int .i64 mx, .int .i64 my, .int .i64 mz, .int .i64 mvx, .int .i64 mvy, .int .i64 mvz] 32) = w6 at *
          generalize w5.heap.size = y at *
          have n0 : w6.cell? ⟨y, 0, none⟩ = some (.int .i64 mc) := hN.cell 0
          have n1 : w6.cell? ⟨y, 1, none⟩ = some (.int .i64 0) := hN.cell 1
          have n2 : w6.cell? ⟨y, 2, none⟩ = some (.int .i64 mx) := hN.cell 2
          have n3 : w6.cell? ⟨y, 3, none⟩ = some (.int .i64 my) := hN.cell 3
          have n4 : w6.cell? ⟨y, 4, none⟩ = some (.int .i64 mz) := hN.cell 4
          have n5 : w6.cell? ⟨y, 5, none⟩ = some (.int .i64 mvx) := hN.cell 5
          have n6 : w6.cell? ⟨y, 6, none⟩ = some (.int .i64 mvy) := hN.cell 6
          have n7 : w6.cell? ⟨y, 7, none⟩ = some (.int .i64 mvz) := hN.cell 7
          have l0 : w6.cell? ⟨z, 0, none⟩ = some (.int .i64 s.last.cnt) := hZ.cell 0
          have hp := mx6_le x1 x2 x3
          have hq := mx6_le v1 v2 v3
          have hsh : ∀ hb, s.has = hb → (hb && mc == s.last.cnt) = false := fun hb e => e ▸ q2
          clear q2
          cases hh : s.has
          all_goals
            have hd := hsh _ hh
            clear hsh
            simp only [Bool.false_and, Bool.true_and] at hd
            have HH := Lib.hid hh
            clear hh
            go_upto_region 15 with fail
            have l1 : w6.cell? ⟨z, 1, none⟩ = some (.int .i64 s.last.flg) := hZ.cell 1
            have lf1 := hZ.frozen 1
            have l2 : w6.cell? ⟨z, 2, none⟩ = some (.int .i64 s.last.x) := hZ.cell 2
            have lf2 := hZ.frozen 2
            have l3 : w6.cell? ⟨z, 3, none⟩ = some (.int .i64 s.last.y) := hZ.cell 3
            have lf3 := hZ.frozen 3
            have l4 : w6.cell? ⟨z, 4, none⟩ = some (.int .i64 s.last.z) := hZ.cell 4
            have lf4 := hZ.frozen 4
            have l5 : w6.cell? ⟨z, 5, none⟩ = some (.int .i64 s.last.vx) := hZ.cell 5
            have lf5 := hZ.frozen 5
            have l6 : w6.cell? ⟨z, 6, none⟩ = some (.int .i64 s.last.vy) := hZ.cell 6
            have lf6 := hZ.frozen 6
            have l7 : w6.cell? ⟨z, 7, none⟩ = some (.int .i64 s.last.vz) := hZ.cell 7
            have lf7 := hZ.frozen 7
            have lf0 := hZ.frozen 0
            go_wp2_with fail
            clear l0 l1 l2 l3 l4 l5 l6 l7 lf0 lf1 lf2 lf3 lf4 lf5 lf6 lf7 n0 n1 n2 n3 n4 n5 n6 n7
            have hZ9 := ((((((((hZ).set 0 (.int .i64 mc) rfl).set 1 (.int .i64 0) rfl).set 2 (.int .i64 mx) rfl).set 3 (.int .i64 my) rfl).set 4 (.int .i64 mz) rfl).set 5 (.int .i64 mvx) rfl).set 6 (.int .i64 mvy) rfl).set 7 (.int .i64 mvz) rfl
            simp only [List.setIfInBounds_toArray, List.set_cons_succ, List.set_cons_zero] at hZ9
            have hX9 := ((((((((Chg.refl [z] w6).setCell (p := ⟨z, 0, none⟩) (Or.inl (by simp)) (.int .i64 mc)).setCell (p := ⟨z, 1, none⟩) (Or.inl (by simp)) (.int .i64 0)).setCell (p := ⟨z, 2, none⟩) (Or.inl (by simp)) (.int .i64 mx)).setCell (p := ⟨z, 3, none⟩) (Or.inl (by simp)) (.int .i64 my)).setCell (p := ⟨z, 4, none⟩) (Or.inl (by simp)) (.int .i64 mz)).setCell (p := ⟨z, 5, none⟩) (Or.inl (by simp)) (.int .i64 mvx)).setCell (p := ⟨z, 6, none⟩) (Or.inl (by simp)) (.int .i64 mvy)).setCell (p := ⟨z, 7, none⟩) (Or.inl (by simp)) (.int .i64 mvz)
            generalize ((((((((w6).setCell ⟨z, 0, none⟩ (.int .i64 mc)).setCell ⟨z, 1, none⟩ (.int .i64 0)).setCell ⟨z, 2, none⟩ (.int .i64 mx)).setCell ⟨z, 3, none⟩ (.int .i64 my)).setCell ⟨z, 4, none⟩ (.int .i64 mz)).setCell ⟨z, 5, none⟩ (.int .i64 mvx)).setCell ⟨z, 6, none⟩ (.int .i64 mvy)).setCell ⟨z, 7, none⟩ (.int .i64 mvz) = w9 at *
            replace hS := hS.keep hX9 (by simp [hzb.symm]) (by simp [hzc.symm])
            replace hX := hX.trans (hX9.mono (by simp))
            go_roundg (gk - 1)
            case measure => have := Hk.out; omega
            case rel => exact ⟨k + 1, s.good ⟨mc, 0, mx, my, mz, mvx, mvy, mvz⟩, by have := Hk.out; omega, by go_num, rfl, hok2, hS, hZ9, hX⟩
        · rw [e3] at he
          rw [e4] at hS2 hok2
          generalize s.wrongN M.getLast? = fl at *
          subst he
          have hS := hS2
          have Hs := Lib.hid hok
          have Hs2 := Lib.hid hok2
          clear hS2 e3 e4 hC hok hok2
          simp only [NV.cells, NV.zero] at *
          have hfl : (fl == 0) = false := by simpa using e2
          have E2 := Lib.hid e2
          clear e2
          go_upto_region 12 with fail
          have hyz : w5.heap.size ≠ z := by have := hZ.lt; omega
          replace hS := hS.keep ((Chg.refl [] w5).alloc (.cells #[.int .i64 0, .int .i64 0, .int .i64 0, .int .i64 0, .int .i64 0, .int .i64 0, .int .i64 0, .int .i64 0] 32)) (by simp) (by simp)
          replace hZ := hZ.alloc (.cells #[.int .i64 0, .int .i64 0, .int .i64 0, .int .i64 0, .int .i64 0, .int .i64 0, .int .i64 0, .int .i64 0] 32)
          replace hX := hX.alloc (.cells #[.int .i64 0, .int .i64 0, .int .i64 0, .int .i64 0, .int .i64 0, .int .i64 0, .int .i64 0, .int .i64 0] 32)
          generalize w5.alloc (.cells #[.int .i64 0, .int .i64 0, .int .i64 0, .int .i64 0, .int .i64 0, .int .i64 0, .int .i64 0, .int .i64 0] 32) = w6 at *
          generalize w5.heap.size = y at *
          go_wp2_with fail
          refine (sLast_any _ b c _ hS).mono ?_; rintro e w8 ⟨rfl, hY⟩
          replace hZ := hY.at hZ (by simp)
          replace hX := hX.trans (hY.mono (by simp))
          replace hS := hS.keep hY (by simp) (by simp)
          clear hY
          simp only [NV.cells]
          have l0 : w8.cell? ⟨z, 0, none⟩ = some (.int .i64 s.last.cnt) := hZ.cell 0
          have lf0 := hZ.frozen 0
          have l1 : w8.cell? ⟨z, 1, none⟩ = some (.int .i64 s.last.flg) := hZ.cell 1
          have lf1 := hZ.frozen 1
          have l2 : w8.cell? ⟨z, 2, none⟩ = some (.int .i64 s.last.x) := hZ.cell 2
          have lf2 := hZ.frozen 2
          have l3 : w8.cell? ⟨z, 3, none⟩ = some (.int .i64 s.last.y) := hZ.cell 3
          have lf3 := hZ.frozen 3
          have l4 : w8.cell? ⟨z, 4, none⟩ = some (.int .i64 s.last.z) := hZ.cell 4
          have lf4 := hZ.frozen 4
          have l5 : w8.cell? ⟨z, 5, none⟩ = some (.int .i64 s.last.vx) := hZ.cell 5
          have lf5 := hZ.frozen 5
          have l6 : w8.cell? ⟨z, 6, none⟩ = some (.int .i64 s.last.vy) := hZ.cell 6
          have lf6 := hZ.frozen 6
          have l7 : w8.cell? ⟨z, 7, none⟩ = some (.int .i64 s.last.vz) := hZ.cell 7
          have lf7 := hZ.frozen 7
          go_wp2_with fail
          clear l0 l1 l2 l3 l4 l5 l6 l7 lf0 lf1 lf2 lf3 lf4 lf5 lf6 lf7
          have hZ9 := ((((((((hZ).set 0 (.int .i64 s.bad.last.cnt) rfl).set 1 (.int .i64 s.bad.last.flg) rfl).set 2 (.int .i64 s.bad.last.x) rfl).set 3 (.int .i64 s.bad.last.y) rfl).set 4 (.int .i64 s.bad.last.z) rfl).set 5 (.int .i64 s.bad.last.vx) rfl).set 6 (.int .i64 s.bad.last.vy) rfl).set 7 (.int .i64 s.bad.last.vz) rfl
          simp only [List.setIfInBounds_toArray, List.set_cons_succ, List.set_cons_zero] at hZ9
          have hX9 := ((((((((Chg.refl [z] w8).setCell (p := ⟨z, 0, none⟩) (Or.inl (by simp)) (.int .i64 s.bad.last.cnt)).setCell (p := ⟨z, 1, none⟩) (Or.inl (by simp)) (.int .i64 s.bad.last.flg)).setCell (p := ⟨z, 2, none⟩) (Or.inl (by simp)) (.int .i64 s.bad.last.x)).setCell (p := ⟨z, 3, none⟩) (Or.inl (by simp)) (.int .i64 s.bad.last.y)).setCell (p := ⟨z, 4, none⟩) (Or.inl (by simp)) (.int .i64 s.bad.last.z)).setCell (p := ⟨z, 5, none⟩) (Or.inl (by simp)) (.int .i64 s.bad.last.vx)).setCell (p := ⟨z, 6, none⟩) (Or.inl (by simp)) (.int .i64 s.bad.last.vy)).setCell (p := ⟨z, 7, none⟩) (Or.inl (by simp)) (.int .i64 s.bad.last.vz)
          generalize ((((((((w8).setCell ⟨z, 0, none⟩ (.int .i64 s.bad.last.cnt)).setCell ⟨z, 1, none⟩ (.int .i64 s.bad.last.flg)).setCell ⟨z, 2, none⟩ (.int .i64 s.bad.last.x)).setCell ⟨z, 3, none⟩ (.int .i64 s.bad.last.y)).setCell ⟨z, 4, none⟩ (.int .i64 s.bad.last.z)).setCell ⟨z, 5, none⟩ (.int .i64 s.bad.last.vx)).setCell ⟨z, 6, none⟩ (.int .i64 s.bad.last.vy)).setCell ⟨z, 7, none⟩ (.int .i64 s.bad.last.vz) = w9 at *
          replace hS := hS.keep hX9 (by simp [hzb.symm]) (by simp [hzc.symm])
          replace hX := hX.trans (hX9.mono (by simp))
          go_roundg (gk - 1)
          case measure => have := Hk.out; omega
          case rel => exact ⟨k + 1, s.bad, by have := Hk.out; omega, by go_num, rfl, Hs2.out, hS, hZ9, hX⟩
      · clear hcell hL5 hk
        go_wp2_with fail
        refine (sReset_nil _).mono ?_; rintro e w' ⟨rfl, rfl⟩
        go_wp2_with fail
        refine (sCyc_nilp _ _).mono ?_; rintro e w5 ⟨rfl, hY⟩
        replace hX := hX.trans (hY.mono (by simp))
        clear hY
        simp only [NV.cells, NV.zero]
        go_wp2_with fail
        refine (sLast_nil _).mono ?_; rintro e w6 ⟨rfl, hY⟩
        have h0 := hY.at (At.new w5 #[.int .i64 0, .int .i64 0, .int .i64 0, .int .i64 0, .int .i64 0, .int .i64 0, .int .i64 0, .int .i64 0] 32) (by simp)
        replace hX := (hX.alloc _).trans (hY.mono (by simp))
        clear hY
        simp only [NV.cells, NV.zero]
        go_upto_region 21 with fail
        replace h0 := h0.alloc (.cells #[.int .i64 0, .int .i64 0, .int .i64 0, .int .i64 0, .int .i64 0, .int .i64 0, .int .i64 0, .int .i64 0] 32)
        replace hX := hX.alloc (.cells #[.int .i64 0, .int .i64 0, .int .i64 0, .int .i64 0, .int .i64 0, .int .i64 0, .int .i64 0, .int .i64 0] 32)
        generalize w6.alloc (.cells #[.int .i64 0, .int .i64 0, .int .i64 0, .int .i64 0, .int .i64 0, .int .i64 0, .int .i64 0, .int .i64 0] 32) = w7 at *
        generalize w5.heap.size = y at *
        have y0 : w7.cell? ⟨y, 0, none⟩ = some (.int .i64 0) := h0.cell 0
        have y1 : w7.cell? ⟨y, 1, none⟩ = some (.int .i64 0) := h0.cell 1
        have y2 : w7.cell? ⟨y, 2, none⟩ = some (.int .i64 0) := h0.cell 2
        have y3 : w7.cell? ⟨y, 3, none⟩ = some (.int .i64 0) := h0.cell 3
        have y4 : w7.cell? ⟨y, 4, none⟩ = some (.int .i64 0) := h0.cell 4
        have y5 : w7.cell? ⟨y, 5, none⟩ = some (.int .i64 0) := h0.cell 5
        have y6 : w7.cell? ⟨y, 6, none⟩ = some (.int .i64 0) := h0.cell 6
        have y7 : w7.cell? ⟨y, 7, none⟩ = some (.int .i64 0) := h0.cell 7
        go_wp2_with fail
        refine (sAge_nil _).mono ?_; rintro e w' ⟨rfl, rfl⟩
        go_wp2
        go_returns
        exact ⟨rfl, hX.to_below' (Nat.le_refl _) hSW⟩
end Go.Proofs.Ytmdgikikiijjbaa
