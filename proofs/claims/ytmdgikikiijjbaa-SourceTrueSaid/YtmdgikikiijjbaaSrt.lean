/- Package apogeelaw15: the walk of SourceTrue. -/
import Derived.Test.YtmdgikikiijjbaaSrp
import Derived.Test.YtmdgikikiijjbaaMsk
namespace Go.Proofs.Ytmdgikikiijjbaa
open Go.RowKit

/-- The value v is a slice of n triples of numbers of 8 bits. -/
structure Trip (W : World) (v : Value) (n : Nat) (D : Nat → Int × Int × Int) : Prop where
  intro ::
  out : ∃ ad cap, v = .slice ad n cap ∧ n ≤ maxLen ∧ ∀ k, k < n → ∃ b off, ad = some ⟨b, off, none⟩ ∧ b < W.heap.size ∧ W.cell? ⟨b, off + k * 3, none⟩ = some (.int .i8 (D k).1) ∧ W.cell? ⟨b, off + k * 3 + 1, none⟩ = some (.int .i8 (D k).2.1) ∧ W.cell? ⟨b, off + k * 3 + 2, none⟩ = some (.int .i8 (D k).2.2) ∧
    (-128 ≤ (D k).1 ∧ (D k).1 ≤ 127) ∧ (-128 ≤ (D k).2.1 ∧ (D k).2.1 ≤ 127) ∧ (-128 ≤ (D k).2.2 ∧ (D k).2.2 ≤ 127)
theorem bounds_i8 {n : Int} (h : (Lit.int .i8 n).wf = true) : -128 ≤ n ∧ n ≤ 127 := by
  simp [Lit.wf] at h
  have e1 : IntKind.i8.min = -128 := by rfl
  have e2 : IntKind.i8.max = 127 := by rfl
  omega
theorem trip_of {W : World} {v : Value} {l : List (Int × Int × Int × Unit)} (h : (Sh.slice (.prod (.int .i8) (.prod (.int .i8) (.prod (.int .i8) .unit)))).rep W l [v]) :
    Trip W v l.length (fun k => ((l.getD k (0, 0, 0, ())).1, (l.getD k (0, 0, 0, ())).2.1, (l.getD k (0, 0, 0, ())).2.2.1)) := by
  rcases h with ⟨rfl, a, cap, h, _⟩ | ⟨b, off, cap, h, h0, h1, h2, h3, h4⟩
  · exact ⟨a, cap, (List.cons.inj h).1, Nat.zero_le _, fun k hk => absurd hk (Nat.not_lt_zero _)⟩
  · refine ⟨some ⟨b, off, none⟩, cap, (List.cons.inj h).1, by have : l.length ≤ cap := h1; omega, fun k hk => ⟨b, off, rfl, h3, ?_⟩⟩
    obtain ⟨cs, hl, hc, c1, c2, rfl, _, ⟨rfl, hw1⟩, c3, c4, rfl, _, ⟨rfl, hw2⟩, c5, c6, rfl, _, ⟨rfl, hw3⟩, rfl⟩ := h4 k hk
    have e : l.getD k (0, 0, 0, ()) = List.get (α := Int × Int × Int × Unit) l ⟨k, hk⟩ := by simp [List.getD, hk]
    simp only [e]
    have g0 := hc 0 (by decide)
    have g1 := hc 1 (by decide)
    have g2 := hc 2 (by decide)
    exact ⟨g0, g1, g2, bounds_i8 hw1, bounds_i8 hw2, bounds_i8 hw3⟩
theorem tmod51 (a : Int) : -50 ≤ a.tmod 51 ∧ a.tmod 51 ≤ 50 := by
  rcases Int.le_total 0 a with h | h
  · rw [Int.tmod_eq_emod_of_nonneg h]; omega
  · obtain ⟨c, rfl⟩ : ∃ c, a = -c := ⟨-a, by omega⟩
    rw [Int.neg_tmod, Int.tmod_eq_emod_of_nonneg (by omega)]; omega
/-- A nav that goes on rightly has no fault. -/
theorem true_faults (s : SV) (n m : NV) (h1 : s.step = 50) (h2 : s.old = 0) (h3 : s.has = true → s.last = n) (hc : m.cnt ≠ n.cnt) (hf : m.flg = 0)
    (hx : -1073741824 ≤ m.x ∧ m.x ≤ 1073741824) (hy : -1073741824 ≤ m.y ∧ m.y ≤ 1073741824) (hz : -1073741824 ≤ m.z ∧ m.z ≤ 1073741824)
    (hvx : -65536 ≤ m.vx ∧ m.vx ≤ 65536) (hvy : -65536 ≤ m.vy ∧ m.vy ≤ 65536) (hvz : -65536 ≤ m.vz ∧ m.vz ≤ 65536)
    (dx : -50 ≤ m.vx - n.vx ∧ m.vx - n.vx ≤ 50) (dy : -50 ≤ m.vy - n.vy ∧ m.vy - n.vy ≤ 50) (dz : -50 ≤ m.vz - n.vz ∧ m.vz - n.vz ≤ 50) : s.faults m = 0 := by
  have e1 : (bey 1073741824 [m.x, m.y, m.z] || bey 65536 [m.vx, m.vy, m.vz]) = false := by
    simp [bey, bey1]; omega
  have e2 : (s.has && m.cnt == s.last.cnt) = false := by
    cases hh : s.has with
    | false => rfl
    | true => rw [h3 hh]; simpa using hc
  have e3 : (s.has && s.jumps m) = false := by
    cases hh : s.has with
    | false => rfl
    | true =>
      unfold SV.jumps jmp1
      rw [h3 hh, h1, h2]
      simp
      omega
  unfold SV.faults
  rw [e1, e2, e3, hf]
  rfl

set_option maxRecDepth 100000 in
set_option maxHeartbeats 2000000 in
theorem SourceTrue_walk (W : World) (v0 : Value) (l : List (Int × Int × Int × Unit)) (h0 : (Sh.slice (.prod (.int .i8) (.prod (.int .i8) (.prod (.int .i8) .unit)))).rep W l [v0])
    (c1 : Array Value) (x1 : shNV.T) (h1 : shNV.rep W x1 c1.toList) :
    Calls Try.prog 4 #[v0, .agg c1] W fun e w' => e = .returned (.bool true) ∧ Below W.heap.size W w' := by
  obtain ⟨rfl, hn⟩ := nv_of h1
  generalize toNV x1 = n at *
  have hT := trip_of h0
  clear h0 h1
  generalize l.length = len at *
  generalize (fun k => ((l.getD k (0, 0, 0, ())).1, (l.getD k (0, 0, 0, ())).2.1, (l.getD k (0, 0, 0, ())).2.2.1)) = D at *
  obtain ⟨ad, cap, rfl, hlen, hcell⟩ := hT.out
  clear hT
  unfold maxLen at hlen
  obtain ⟨nc, nf, nx, ny, nz, nvx, nvy, nvz⟩ := n
  simp only [NV.cells] at *
  have hN := At.new W #[.int .i64 nc, .int .i64 nf, .int .i64 nx, .int .i64 ny, .int .i64 nz, .int .i64 nvx, .int .i64 nvy, .int .i64 nvz] 32
  have hX : Chg [] W (W.alloc (.cells #[.int .i64 nc, .int .i64 nf, .int .i64 nx, .int .i64 ny, .int .i64 nz, .int .i64 nvx, .int .i64 nvy, .int .i64 nvz] 32)) := (Chg.refl _ _).alloc _
  go_enter Try.func4, Try.ntmps4
  go_upto_region 1 with fail
  generalize hz0 : W.heap.size = z0 at *
  generalize W.alloc (.cells #[.int .i64 nc, .int .i64 nf, .int .i64 nx, .int .i64 ny, .int .i64 nz, .int .i64 nvx, .int .i64 nvy, .int .i64 nvz] 32) = w0 at *
  go_wp2_with fail
  refine (awake15 _).mono ?_; rintro e w1 ⟨rfl, hY⟩
  replace hX := hX.trans hY
  replace hN := hY.at hN (by simp)
  clear hY
  by_cases hbig : 100 < len
  · clear hcell
    go_wp2_with fail
    refine (awake15 _).mono ?_; rintro e w2 ⟨rfl, hY⟩
    go_wp2
    go_returns
    exact ⟨rfl, (hX.trans hY).to_below' (by omega) (by simp)⟩
  · go_wp2_with fail
    refine (mission_1 _).mono ?_; rintro e w2 ⟨g0, p0, rfl, hX2⟩
    go_wp2_with fail
    refine (sNew_any _ _ _ _ _ _ _ _ _ _ (by decide) (by decide)).mono ?_; rintro e w3 ⟨b, c, rfl, hS, hX3, hb, hc⟩
    replace hN := hX3.at (hX2.at hN (by simp)) (by simp)
    have hbW : z0 ≤ b ∧ z0 ≤ c := by have := hX.size; have := hX2.size; have := hX3.size; omega
    replace hX := ((hX.trans hX2).trans hX3).mono (S' := [b, c]) (by simp)
    clear hX2 hX3 hb hc
    have n0 : w3.cell? ⟨z0, 0, none⟩ = some (.int .i64 nc) := hN.cell 0
    have n2 : w3.cell? ⟨z0, 2, none⟩ = some (.int .i64 nx) := hN.cell 2
    have n3 : w3.cell? ⟨z0, 3, none⟩ = some (.int .i64 ny) := hN.cell 3
    have n4 : w3.cell? ⟨z0, 4, none⟩ = some (.int .i64 nz) := hN.cell 4
    have n5 : w3.cell? ⟨z0, 5, none⟩ = some (.int .i64 nvx) := hN.cell 5
    have n6 : w3.cell? ⟨z0, 6, none⟩ = some (.int .i64 nvy) := hN.cell 6
    have n7 : w3.cell? ⟨z0, 7, none⟩ = some (.int .i64 nvz) := hN.cell 7
    go_upto_region 5 with fail
    clear n0 n2 n3 n4 n5 n6 n7 hN
    rw [mask16, mask16, mask16, mask16, mask10, mask10, mask10]
    have hZ := At.new w3 #[.int .i64 (nc % 65536), .int .i64 0, .int .i64 (nx % 65536), .int .i64 (ny % 65536), .int .i64 (nz % 65536), .int .i64 (nvx % 1024), .int .i64 (nvy % 1024), .int .i64 (nvz % 1024)] 32
    replace hS := hS.keep ((Chg.refl [] w3).alloc (.cells #[.int .i64 (nc % 65536), .int .i64 0, .int .i64 (nx % 65536), .int .i64 (ny % 65536), .int .i64 (nz % 65536), .int .i64 (nvx % 1024), .int .i64 (nvy % 1024), .int .i64 (nvz % 1024)] 32)) (by simp) (by simp)
    have hzb := At.ne hZ hS.b (by simp [SV.cells])
    have hzc := At.ne hZ hS.c (by simp)
    have hzW : z0 ≤ w3.heap.size := by have := hX.size; omega
    replace hX := (hX.alloc (.cells #[.int .i64 (nc % 65536), .int .i64 0, .int .i64 (nx % 65536), .int .i64 (ny % 65536), .int .i64 (nz % 65536), .int .i64 (nvx % 1024), .int .i64 (nvy % 1024), .int .i64 (nvz % 1024)] 32)).mono (S' := [b, c, w3.heap.size]) (by simp)
    generalize w3.alloc (.cells #[.int .i64 (nc % 65536), .int .i64 0, .int .i64 (nx % 65536), .int .i64 (ny % 65536), .int .i64 (nz % 65536), .int .i64 (nvx % 1024), .int .i64 (nvy % 1024), .int .i64 (nvz % 1024)] 32) = w4 at *
    generalize w3.heap.size = z at *
    have hok : (SV.new 50 2).ok := SV.new_ok 50 2 (by decide) (by decide) ⟨by decide, by decide⟩
    have hSW : ∀ x ∈ [b, c, z], z0 ≤ x := by intro x hx; simp at hx; omega
    obtain ⟨n, hn0⟩ : ∃ n : NV, n = ⟨nc % 65536, 0, nx % 65536, ny % 65536, nz % 65536, nvx % 1024, nvy % 1024, nvz % 1024⟩ := ⟨_, rfl⟩
    have hZ0 : At w4 z n.cells := by rw [hn0]; exact hZ
    have hb0 : (0 ≤ n.cnt ∧ n.cnt ≤ 65535) ∧ n.flg = 0 ∧ (0 ≤ n.x ∧ n.x ≤ 65535) ∧ (0 ≤ n.y ∧ n.y ≤ 65535) ∧ (0 ≤ n.z ∧ n.z ≤ 65535) ∧ (0 ≤ n.vx ∧ n.vx ≤ 1023) ∧ (0 ≤ n.vy ∧ n.vy ≤ 1023) ∧ (0 ≤ n.vz ∧ n.vz ≤ 1023) := by
      rw [hn0]; dsimp only; omega
    clear hZ hn0 hn
    go_wp2_with fail
    go_loopg [45] len (fun gk idx wr => ∃ (k : Nat) (s : SV) (n : NV), k + gk = len ∧ idx = .int .i64 k ∧ s.ok ∧ (s.step = 50 ∧ s.old = 0 ∧ (s.has = true → s.last = n)) ∧
      ((0 ≤ n.cnt ∧ n.cnt ≤ 65535) ∧ n.flg = 0 ∧ (-6100 * (k : Int) ≤ n.x ∧ n.x ≤ 65535 + 6100 * k) ∧ (-6100 * (k : Int) ≤ n.y ∧ n.y ≤ 65535 + 6100 * k) ∧ (-6100 * (k : Int) ≤ n.z ∧ n.z ≤ 65535 + 6100 * k) ∧ (-50 * (k : Int) ≤ n.vx ∧ n.vx ≤ 1023 + 50 * k) ∧ (-50 * (k : Int) ≤ n.vy ∧ n.vy ≤ 1023 + 50 * k) ∧ (-50 * (k : Int) ≤ n.vz ∧ n.vz ≤ 1023 + 50 * k)) ∧
      Src wr b c s ∧ At wr z n.cells ∧ Chg [b, c, z] W wr)
    case atStart => exact ⟨0, SV.new 50 2, n, by omega, rfl, hok, ⟨rfl, rfl, fun h => absurd h (by decide)⟩, by simp; omega, hS, hZ0, hX⟩
    case round =>
      clear hok hZ0 hb0
      obtain ⟨k, s, n, hk, rfl, hok, hst, hbd, hS, hZ, hX⟩ := hrel
      by_cases hlt : k < len
      · obtain ⟨bb, off, rfl, hb, hc0, hc1, hc2, hd0, hd1, hd2⟩ := hcell k hlt
        have hnS : ∀ x, x < z0 → x ∉ [b, c, z] := fun x hx h => by have := hSW _ h; omega
        have c0 := hX.cell hc0 (hnS _ (by omega))
        have c1 := hX.cell hc1 (hnS _ (by omega))
        have c2 := hX.cell hc2 (hnS _ (by omega))
        have Hk := Lib.hid hk
        have Hc := Lib.hid hcell
        have hk100 : k < 100 := by omega
        clear hcell hk hc0 hc1 hc2 hb
        generalize D k = dd at *
        obtain ⟨d0, d1, d2⟩ := dd
        dsimp only at c0 c1 c2 hd0 hd1 hd2
        go_upto_region 8 with fail
        have hQ := At.new wr #[.int .i8 d0, .int .i8 d1, .int .i8 d2] 48
        have hqz : wr.heap.size ≠ z := by have := hZ.lt; omega
        replace hS := hS.keep ((Chg.refl [] wr).alloc (.cells #[.int .i8 d0, .int .i8 d1, .int .i8 d2] 48)) (by simp) (by simp)
        replace hZ := hZ.alloc (.cells #[.int .i8 d0, .int .i8 d1, .int .i8 d2] 48)
        replace hX := hX.alloc (.cells #[.int .i8 d0, .int .i8 d1, .int .i8 d2] 48)
        clear c0 c1 c2
        generalize wr.alloc (.cells #[.int .i8 d0, .int .i8 d1, .int .i8 d2] 48) = wa at *
        generalize wr.heap.size = q at *
        have t0 := tmod51 d0
        have t1 := tmod51 d1
        have t2 := tmod51 d2
        obtain ⟨b0, bf, bx, by_, bz, bvx, bvy, bvz⟩ := hbd
        have n0 : wa.cell? ⟨z, 0, none⟩ = some (.int .i64 n.cnt) := hZ.cell 0
        have f0 := hZ.frozen 0
        have n1 : wa.cell? ⟨z, 1, none⟩ = some (.int .i64 n.flg) := hZ.cell 1
        have f1 := hZ.frozen 1
        have n2 : wa.cell? ⟨z, 2, none⟩ = some (.int .i64 n.x) := hZ.cell 2
        have f2 := hZ.frozen 2
        have n3 : wa.cell? ⟨z, 3, none⟩ = some (.int .i64 n.y) := hZ.cell 3
        have f3 := hZ.frozen 3
        have n4 : wa.cell? ⟨z, 4, none⟩ = some (.int .i64 n.z) := hZ.cell 4
        have f4 := hZ.frozen 4
        have n5 : wa.cell? ⟨z, 5, none⟩ = some (.int .i64 n.vx) := hZ.cell 5
        have f5 := hZ.frozen 5
        have n6 : wa.cell? ⟨z, 6, none⟩ = some (.int .i64 n.vy) := hZ.cell 6
        have f6 := hZ.frozen 6
        have n7 : wa.cell? ⟨z, 7, none⟩ = some (.int .i64 n.vz) := hZ.cell 7
        have f7 := hZ.frozen 7
        have q0 : wa.cell? ⟨q, 0, none⟩ = some (.int .i8 d0) := hQ.cell 0
        have q1 : wa.cell? ⟨q, 1, none⟩ = some (.int .i8 d1) := hQ.cell 1
        have q2 : wa.cell? ⟨q, 2, none⟩ = some (.int .i8 d2) := hQ.cell 2
        go_upto_region 9 with fail
        rw [mask16]
        go_upto_region 13 with fail
        clear n0 n1 n2 n3 n4 n5 n6 n7 f0 f1 f2 f3 f4 f5 f6 f7 q0 q1 q2 hQ
        have hZ9 := (((((((hZ).set 0 (.int .i64 ((n.cnt + 1) % 65536)) rfl).set 5 (.int .i64 (n.vx + d0.tmod 51)) rfl).set 6 (.int .i64 (n.vy + d1.tmod 51)) rfl).set 7 (.int .i64 (n.vz + d2.tmod 51)) rfl).set 2 (.int .i64 (n.x + (n.vx + d0.tmod 51))) rfl).set 3 (.int .i64 (n.y + (n.vy + d1.tmod 51))) rfl).set 4 (.int .i64 (n.z + (n.vz + d2.tmod 51))) rfl
        simp only [List.setIfInBounds_toArray, List.set_cons_succ, List.set_cons_zero, NV.cells] at hZ9
        have hX9 := (((((((Chg.refl [z] wa).setCell (p := ⟨z, 0, none⟩) (Or.inl (by simp)) (.int .i64 ((n.cnt + 1) % 65536))).setCell (p := ⟨z, 5, none⟩) (Or.inl (by simp)) (.int .i64 (n.vx + d0.tmod 51))).setCell (p := ⟨z, 6, none⟩) (Or.inl (by simp)) (.int .i64 (n.vy + d1.tmod 51))).setCell (p := ⟨z, 7, none⟩) (Or.inl (by simp)) (.int .i64 (n.vz + d2.tmod 51))).setCell (p := ⟨z, 2, none⟩) (Or.inl (by simp)) (.int .i64 (n.x + (n.vx + d0.tmod 51)))).setCell (p := ⟨z, 3, none⟩) (Or.inl (by simp)) (.int .i64 (n.y + (n.vy + d1.tmod 51)))).setCell (p := ⟨z, 4, none⟩) (Or.inl (by simp)) (.int .i64 (n.z + (n.vz + d2.tmod 51)))
        generalize (((((((wa).setCell ⟨z, 0, none⟩ (.int .i64 ((n.cnt + 1) % 65536))).setCell ⟨z, 5, none⟩ (.int .i64 (n.vx + d0.tmod 51))).setCell ⟨z, 6, none⟩ (.int .i64 (n.vy + d1.tmod 51))).setCell ⟨z, 7, none⟩ (.int .i64 (n.vz + d2.tmod 51))).setCell ⟨z, 2, none⟩ (.int .i64 (n.x + (n.vx + d0.tmod 51)))).setCell ⟨z, 3, none⟩ (.int .i64 (n.y + (n.vy + d1.tmod 51)))).setCell ⟨z, 4, none⟩ (.int .i64 (n.z + (n.vz + d2.tmod 51))) = w9 at *
        replace hS := hS.keep hX9 (by simp [hzb.symm]) (by simp [hzc.symm])
        replace hX := hX.trans (hX9.mono (by simp))
        obtain ⟨m, hm⟩ : ∃ m : NV, m = ⟨(n.cnt + 1) % 65536, n.flg, n.x + (n.vx + d0.tmod 51), n.y + (n.vy + d1.tmod 51), n.z + (n.vz + d2.tmod 51), n.vx + d0.tmod 51, n.vy + d1.tmod 51, n.vz + d2.tmod 51⟩ := ⟨_, rfl⟩
        have hZm : At w9 z m.cells := by rw [hm]; exact hZ9
        have hfm := true_faults s n m hst.1 hst.2.1 hst.2.2 (by rw [hm]; dsimp only; omega) (by rw [hm]; exact bf) (by rw [hm]; dsimp only; omega) (by rw [hm]; dsimp only; omega) (by rw [hm]; dsimp only; omega) (by rw [hm]; dsimp only; omega) (by rw [hm]; dsimp only; omega) (by rw [hm]; dsimp only; omega) (by rw [hm]; dsimp only; omega) (by rw [hm]; dsimp only; omega) (by rw [hm]; dsimp only; omega)
        have hbm : (0 ≤ m.cnt ∧ m.cnt ≤ 65535) ∧ m.flg = 0 ∧ (-6100 * ((k + 1 : Nat) : Int) ≤ m.x ∧ m.x ≤ 65535 + 6100 * ((k + 1 : Nat) : Int)) ∧ (-6100 * ((k + 1 : Nat) : Int) ≤ m.y ∧ m.y ≤ 65535 + 6100 * ((k + 1 : Nat) : Int)) ∧ (-6100 * ((k + 1 : Nat) : Int) ≤ m.z ∧ m.z ≤ 65535 + 6100 * ((k + 1 : Nat) : Int)) ∧ (-50 * ((k + 1 : Nat) : Int) ≤ m.vx ∧ m.vx ≤ 1023 + 50 * ((k + 1 : Nat) : Int)) ∧ (-50 * ((k + 1 : Nat) : Int) ≤ m.vy ∧ m.vy ≤ 1023 + 50 * ((k + 1 : Nat) : Int)) ∧ (-50 * ((k + 1 : Nat) : Int) ≤ m.vz ∧ m.vz ≤ 1023 + 50 * ((k + 1 : Nat) : Int)) := by
          rw [hm]; dsimp only; omega
        have hmb : m.bd := by simp only [bd_iff, i64b]; omega
        clear hm hZ9 hX9 hZ t0 t1 t2 b0 bf bx by_ bz bvx bvy bvz hd0 hd1 hd2
        have Hbm := Lib.hid hbm
        have Hst := Lib.hid hst
        clear hbm hst
        have hok2 : (s.good m).ok := hok.good hmb
        have e1 : s.tellN (some m) = m := if_pos hfm
        have e2 : s.wrongN (some m) = 0 := hfm
        have e3 : s.nextN (some m) = s.good m := if_pos hfm
        have hZ := hZm
        clear hZm
        simp only [NV.cells] at hZ
        have m0 : w9.cell? ⟨z, 0, none⟩ = some (.int .i64 m.cnt) := hZ.cell 0
        have m1 : w9.cell? ⟨z, 1, none⟩ = some (.int .i64 m.flg) := hZ.cell 1
        have m2 : w9.cell? ⟨z, 2, none⟩ = some (.int .i64 m.x) := hZ.cell 2
        have m3 : w9.cell? ⟨z, 3, none⟩ = some (.int .i64 m.y) := hZ.cell 3
        have m4 : w9.cell? ⟨z, 4, none⟩ = some (.int .i64 m.z) := hZ.cell 4
        have m5 : w9.cell? ⟨z, 5, none⟩ = some (.int .i64 m.vx) := hZ.cell 5
        have m6 : w9.cell? ⟨z, 6, none⟩ = some (.int .i64 m.vy) := hZ.cell 6
        have m7 : w9.cell? ⟨z, 7, none⟩ = some (.int .i64 m.vz) := hZ.cell 7
        go_wp2_with fail
        clear m0 m1 m2 m3 m4 m5 m6 m7
        refine (sCyc_any _ b c _ hok (hS.keep ((Chg.refl [] _).alloc _) (by simp) (by simp)) _ [m] (NSl.mk [m] 1 1 (At.new _ _ _) rfl rfl) (by simpa [Okl] using hmb) (by simp)).mono ?_; rintro e w10 ⟨he, hS2, hY⟩
        replace he : e = .returned (.tuple #[.agg (s.tellN (some m)).cells, .int .i64 (s.wrongN (some m))]) := he
        replace hS : Src w10 b c (s.nextN (some m)) := hS2
        rw [e1, e2] at he
        rw [e3] at hS
        subst he
        replace hZ := hY.at (hZ.alloc _) (by simp [hzb, hzc])
        replace hX := (hX.alloc _).trans (hY.mono (by simp))
        clear hS2 hY e1 e2 e3 hok
        simp only [NV.cells]
        go_upto_region 14 with fail
        have hB := At.new w10 #[.int .i64 m.cnt, .int .i64 m.flg, .int .i64 m.x, .int .i64 m.y, .int .i64 m.z, .int .i64 m.vx, .int .i64 m.vy, .int .i64 m.vz] 32
        have hyz : w10.heap.size ≠ z := by have := hZ.lt; omega
        replace hS := hS.keep ((Chg.refl [] w10).alloc (.cells #[.int .i64 m.cnt, .int .i64 m.flg, .int .i64 m.x, .int .i64 m.y, .int .i64 m.z, .int .i64 m.vx, .int .i64 m.vy, .int .i64 m.vz] 32)) (by simp) (by simp)
        replace hZ := hZ.alloc (.cells #[.int .i64 m.cnt, .int .i64 m.flg, .int .i64 m.x, .int .i64 m.y, .int .i64 m.z, .int .i64 m.vx, .int .i64 m.vy, .int .i64 m.vz] 32)
        replace hX := hX.alloc (.cells #[.int .i64 m.cnt, .int .i64 m.flg, .int .i64 m.x, .int .i64 m.y, .int .i64 m.z, .int .i64 m.vx, .int .i64 m.vy, .int .i64 m.vz] 32)
        generalize w10.alloc (.cells #[.int .i64 m.cnt, .int .i64 m.flg, .int .i64 m.x, .int .i64 m.y, .int .i64 m.z, .int .i64 m.vx, .int .i64 m.vy, .int .i64 m.vz] 32) = wb at *
        generalize w10.heap.size = y at *
        have m0 : wb.cell? ⟨z, 0, none⟩ = some (.int .i64 m.cnt) := hZ.cell 0
        have y0 : wb.cell? ⟨y, 0, none⟩ = some (.int .i64 m.cnt) := hB.cell 0
        have m1 : wb.cell? ⟨z, 1, none⟩ = some (.int .i64 m.flg) := hZ.cell 1
        have y1 : wb.cell? ⟨y, 1, none⟩ = some (.int .i64 m.flg) := hB.cell 1
        have m2 : wb.cell? ⟨z, 2, none⟩ = some (.int .i64 m.x) := hZ.cell 2
        have y2 : wb.cell? ⟨y, 2, none⟩ = some (.int .i64 m.x) := hB.cell 2
        have m3 : wb.cell? ⟨z, 3, none⟩ = some (.int .i64 m.y) := hZ.cell 3
        have y3 : wb.cell? ⟨y, 3, none⟩ = some (.int .i64 m.y) := hB.cell 3
        have m4 : wb.cell? ⟨z, 4, none⟩ = some (.int .i64 m.z) := hZ.cell 4
        have y4 : wb.cell? ⟨y, 4, none⟩ = some (.int .i64 m.z) := hB.cell 4
        have m5 : wb.cell? ⟨z, 5, none⟩ = some (.int .i64 m.vx) := hZ.cell 5
        have y5 : wb.cell? ⟨y, 5, none⟩ = some (.int .i64 m.vx) := hB.cell 5
        have m6 : wb.cell? ⟨z, 6, none⟩ = some (.int .i64 m.vy) := hZ.cell 6
        have y6 : wb.cell? ⟨y, 6, none⟩ = some (.int .i64 m.vy) := hB.cell 6
        have m7 : wb.cell? ⟨z, 7, none⟩ = some (.int .i64 m.vz) := hZ.cell 7
        have y7 : wb.cell? ⟨y, 7, none⟩ = some (.int .i64 m.vz) := hB.cell 7
        go_wp2_with fail
        refine (sAge_any _ b c _ hS).mono ?_; rintro e w' ⟨he, rfl⟩
        replace he : e = .returned (.int .i64 0) := he
        subst he
        go_wp2_with fail
        go_roundg (gk - 1)
        case measure => have := Hk.out; omega
        case rel => exact ⟨k + 1, s.good m, m, by have := Hk.out; omega, by go_num, hok2, ⟨Hst.out.1, rfl, fun _ => rfl⟩, Hbm.out, hS, hZ, hX⟩
      · clear hcell
        go_wp2
        go_returns
        exact ⟨rfl, hX.to_below' (Nat.le_refl _) (fun x hx => by rw [hz0]; exact hSW x hx)⟩
end Go.Proofs.Ytmdgikikiijjbaa
