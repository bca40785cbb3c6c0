/- Package apogeelaw15: the walk of SourcePlays. -/
import Derived.Test.YtmdgikikiijjbaaSrp
import Derived.Test.YtmdgikikiijjbaaSrs
import Derived.Test.YtmdgikikiijjbaaSrq
import Derived.Deep.QuietTactic
import Derived.BigQuiet
namespace Go.Proofs.Ytmdgikikiijjbaa
open Go.RowKit

abbrev shPt : Sh := .prod (.int .i64) (.prod (.int .i64) .unit)
abbrev shPh : Sh := .prod (.slice shPt) (.prod (.int .i64) (.prod (.int .i64) (.prod (.int .i64) (.prod (.int .i64) .unit))))
abbrev shRu : Sh := .prod (.slice shPh) (.prod (.int .i64) (.prod (.int .i64) (.prod (.int .i64) (.prod (.int .i64) (.prod (.int .i64) (.prod (.int .i64) (.prod (.int .i64) (.prod (.int .i64) .unit))))))))
theorem slice_form {W : World} {e : Sh} {l : e.slice.T} {cs : List Value} (h : e.slice.rep W l cs) : ∃ a n c, cs = [.slice a n c] := by
  rcases h with ⟨_, a, cap, h, _⟩ | ⟨b, off, cap, h, _⟩
  · exact ⟨_, _, _, h⟩
  · exact ⟨_, _, _, h⟩
theorem rules_of {W : World} {x : shRu.T} {c : Array Value} (h : shRu.rep W x c.toList) :
    ∃ a0 n0 c0 i1 i2 i3 i4 i5 i6 i7 i8, c = #[.slice a0 n0 c0, .int .i64 i1, .int .i64 i2, .int .i64 i3, .int .i64 i4, .int .i64 i5, .int .i64 i6, .int .i64 i7, .int .i64 i8] ∧ i64b i1 ∧ i64b i2 ∧ i64b i3 ∧ i64b i4 ∧ i64b i5 ∧ i64b i6 ∧ i64b i7 ∧ i64b i8 := by
  obtain ⟨a1, b1, e1, _, hsl, a2, b2, rfl, _, ⟨rfl, h2⟩, a3, b3, rfl, _, ⟨rfl, h3⟩, a4, b4, rfl, _, ⟨rfl, h4⟩, a5, b5, rfl, _, ⟨rfl, h5⟩, a6, b6, rfl, _, ⟨rfl, h6⟩, a7, b7, rfl, _, ⟨rfl, h7⟩, a8, b8, rfl, _, ⟨rfl, h8⟩, a9, b9, rfl, _, ⟨rfl, h9⟩, rfl⟩ := h
  obtain ⟨a, n, k, rfl⟩ := slice_form hsl
  refine ⟨a, n, k, _, _, _, _, _, _, _, _, ?_, bounds_i64 h2, bounds_i64 h3, bounds_i64 h4, bounds_i64 h5, bounds_i64 h6, bounds_i64 h7, bounds_i64 h8, bounds_i64 h9⟩
  apply Array.toList_inj.1
  rw [e1]
  rfl

set_option maxRecDepth 100000 in
set_option maxHeartbeats 2000000 in
theorem SourcePlays_walk (W : World) (c0 : Array Value) (x0 : shRu.T) (h0 : shRu.rep W x0 c0.toList) (v1 : Value) (l : List (List shNV.T)) (h1 : (Sh.slice (Sh.slice shNV)).rep W l [v1]) :
    Calls Try.prog 3 #[.agg c0, v1] W fun e w' => e = .returned (.bool true) ∧ Below W.heap.size W w' := by
  obtain ⟨a0, n0, c0, i1, i2, i3, i4, i5, i6, i7, i8, rfl, _, _, _, _, hi5, hi6, _, _⟩ := rules_of h0
  have hR := rows2_of h1
  clear h0 h1
  generalize l.length = n at *
  generalize (fun k => (l.getD k []).map toNV) = L at *
  have hN := At.new W #[.slice a0 n0 c0, .int .i64 i1, .int .i64 i2, .int .i64 i3, .int .i64 i4, .int .i64 i5, .int .i64 i6, .int .i64 i7, .int .i64 i8] 24
  have hX : Chg [] W (W.alloc (.cells #[.slice a0 n0 c0, .int .i64 i1, .int .i64 i2, .int .i64 i3, .int .i64 i4, .int .i64 i5, .int .i64 i6, .int .i64 i7, .int .i64 i8] 24)) := (Chg.refl _ _).alloc _
  go_enter Try.func3, Try.ntmps3
  go_upto_region 1 with fail
  generalize hz0 : W.heap.size = z0 at *
  generalize W.alloc (.cells #[.slice a0 n0 c0, .int .i64 i1, .int .i64 i2, .int .i64 i3, .int .i64 i4, .int .i64 i5, .int .i64 i6, .int .i64 i7, .int .i64 i8] 24) = w0 at *
  go_wp2_with fail
  refine (awake15 _).mono ?_; rintro e w1 ⟨rfl, hY⟩
  replace hX := hX.trans hY
  replace hN := hY.at hN (by simp)
  clear hY
  go_wp2_with fail
  have hR1 : Rows2 w1 v1 n L := by
    obtain ⟨ad, cap, e, hn, hc⟩ := hR.out
    refine ⟨ad, cap, e, hn, fun k hk => ?_⟩
    obtain ⟨b, off, v', e1, hb, hcell, hC⟩ := hc k hk
    refine ⟨b, off, v', e1, by have := hX.size; omega, hX.cell hcell (by simp), ⟨hC.keep hX (by simp), hC.ok, hC.len, ?_⟩⟩
    obtain ⟨a, c, e2, h1, h2⟩ := hC.form
    exact ⟨a, c, e2, h1, fun p hp h0 => by have := h2 p hp h0; have := hX.size; omega⟩
  refine (few_any _ _ _ _ hR1).mono ?_; rintro e w' ⟨r, rfl, rfl, hfew⟩
  clear hR1
  cases r with
  | false =>
    clear hR hfew
    go_wp2_with fail
    refine (awake15 _).mono ?_; rintro e w2 ⟨rfl, hX2⟩
    go_wp2
    go_returns
    exact ⟨rfl, (hX.trans hX2).to_below' (by omega) (by simp)⟩
  | true =>
    obtain ⟨hn1, hL5⟩ := hfew rfl
    clear hfew
    have r0 : w1.cell? ⟨z0, 0, none⟩ = some (.slice a0 n0 c0) := hN.cell 0
    have r1 : w1.cell? ⟨z0, 1, none⟩ = some (.int .i64 i1) := hN.cell 1
    have r2 : w1.cell? ⟨z0, 2, none⟩ = some (.int .i64 i2) := hN.cell 2
    have r3 : w1.cell? ⟨z0, 3, none⟩ = some (.int .i64 i3) := hN.cell 3
    have r4 : w1.cell? ⟨z0, 4, none⟩ = some (.int .i64 i4) := hN.cell 4
    have r5 : w1.cell? ⟨z0, 5, none⟩ = some (.int .i64 i5) := hN.cell 5
    have r6 : w1.cell? ⟨z0, 6, none⟩ = some (.int .i64 i6) := hN.cell 6
    have r7 : w1.cell? ⟨z0, 7, none⟩ = some (.int .i64 i7) := hN.cell 7
    have r8 : w1.cell? ⟨z0, 8, none⟩ = some (.int .i64 i8) := hN.cell 8
    by_cases hbad : i5 < 1 ∨ i6 < 1
    · go_wp2_with fail
      refine (sNew_none _ _ _ _ _ _ _ _ _ _ hbad).mono ?_; rintro e w2 ⟨rfl, hX2⟩
      replace hN := hX2.at hN (by simp)
      clear r0 r1 r2 r3 r4 r5 r6 r7 r8
      have r0 : w2.cell? ⟨z0, 0, none⟩ = some (.slice a0 n0 c0) := hN.cell 0
      have r1 : w2.cell? ⟨z0, 1, none⟩ = some (.int .i64 i1) := hN.cell 1
      have r2 : w2.cell? ⟨z0, 2, none⟩ = some (.int .i64 i2) := hN.cell 2
      have r3 : w2.cell? ⟨z0, 3, none⟩ = some (.int .i64 i3) := hN.cell 3
      have r4 : w2.cell? ⟨z0, 4, none⟩ = some (.int .i64 i4) := hN.cell 4
      have r5 : w2.cell? ⟨z0, 5, none⟩ = some (.int .i64 i5) := hN.cell 5
      have r6 : w2.cell? ⟨z0, 6, none⟩ = some (.int .i64 i6) := hN.cell 6
      have r7 : w2.cell? ⟨z0, 7, none⟩ = some (.int .i64 i7) := hN.cell 7
      have r8 : w2.cell? ⟨z0, 8, none⟩ = some (.int .i64 i8) := hN.cell 8
      rcases hbad with hb | hb
      · go_wp2
        go_returns
        exact ⟨rfl, (hX.trans hX2).to_below' (by omega) (by simp)⟩
      · by_cases hb5 : i5 < 1
        · go_wp2
          go_returns
          exact ⟨rfl, (hX.trans hX2).to_below' (by omega) (by simp)⟩
        · go_wp2
          go_returns
          exact ⟨rfl, (hX.trans hX2).to_below' (by omega) (by simp)⟩
    · have h51 : 1 ≤ i5 := by omega
      have h61 : 1 ≤ i6 := by omega
      clear hbad
      go_wp2_with fail
      refine (sNew_any _ _ _ _ _ _ _ _ _ _ h51 h61).mono ?_; rintro e w2 ⟨b, c, rfl, hS, hX2, hb, hc⟩
      replace hN := hX2.at hN (by simp)
      clear r0 r1 r2 r3 r4 r5 r6 r7 r8
      have r0 : w2.cell? ⟨z0, 0, none⟩ = some (.slice a0 n0 c0) := hN.cell 0
      have r1 : w2.cell? ⟨z0, 1, none⟩ = some (.int .i64 i1) := hN.cell 1
      have r2 : w2.cell? ⟨z0, 2, none⟩ = some (.int .i64 i2) := hN.cell 2
      have r3 : w2.cell? ⟨z0, 3, none⟩ = some (.int .i64 i3) := hN.cell 3
      have r4 : w2.cell? ⟨z0, 4, none⟩ = some (.int .i64 i4) := hN.cell 4
      have r5 : w2.cell? ⟨z0, 5, none⟩ = some (.int .i64 i5) := hN.cell 5
      have r6 : w2.cell? ⟨z0, 6, none⟩ = some (.int .i64 i6) := hN.cell 6
      have r7 : w2.cell? ⟨z0, 7, none⟩ = some (.int .i64 i7) := hN.cell 7
      have r8 : w2.cell? ⟨z0, 8, none⟩ = some (.int .i64 i8) := hN.cell 8
      have hbW : z0 ≤ b ∧ z0 ≤ c := by have := hX.size; omega
      replace hX := (hX.trans hX2).mono (S' := [b, c]) (by simp)
      clear hX2 hb hc
      by_cases hbig : 1099511627776 < i5
      · clear hR
        go_wp2
        go_returns
        exact ⟨rfl, hX.to_below' (by omega) (by intro x hx; simp at hx; omega)⟩
      · go_upto_region 11 with fail
        clear r0 r1 r2 r3 r4 r5 r6 r7 r8 hN
        have hD : At (w2.alloc (.cells #[.int .i64 i5, .int .i64 i6, .int .i64 0, .int .i64 0, .int .i64 0, .int .i64 0, .int .i64 0, .int .i64 0, .int .i64 0, .int .i64 0, .bool false, .int .i64 0] 34)) w2.heap.size (SV.new i5 i6).rcells := At.new w2 #[.int .i64 i5, .int .i64 i6, .int .i64 0, .int .i64 0, .int .i64 0, .int .i64 0, .int .i64 0, .int .i64 0, .int .i64 0, .int .i64 0, .bool false, .int .i64 0] 34
        replace hS := hS.keep ((Chg.refl [] w2).alloc (.cells #[.int .i64 i5, .int .i64 i6, .int .i64 0, .int .i64 0, .int .i64 0, .int .i64 0, .int .i64 0, .int .i64 0, .int .i64 0, .int .i64 0, .bool false, .int .i64 0] 34)) (by simp) (by simp)
        have hdb : w2.heap.size ≠ b ∧ w2.heap.size ≠ c := ⟨by have h1 := hS.b; rintro rfl; obtain ⟨T1, h1⟩ := h1; obtain ⟨T2, h2⟩ := hD; rw [h1] at h2; simp [SV.cells, SV.rcells] at h2, At.ne hD hS.c (by simp [SV.rcells])⟩
        have hzW : z0 ≤ w2.heap.size := by have := hX.size; omega
        replace hX := (hX.alloc (.cells #[.int .i64 i5, .int .i64 i6, .int .i64 0, .int .i64 0, .int .i64 0, .int .i64 0, .int .i64 0, .int .i64 0, .int .i64 0, .int .i64 0, .bool false, .int .i64 0] 34)).mono (S' := [b, c, w2.heap.size]) (by simp)
        generalize w2.alloc (.cells #[.int .i64 i5, .int .i64 i6, .int .i64 0, .int .i64 0, .int .i64 0, .int .i64 0, .int .i64 0, .int .i64 0, .int .i64 0, .int .i64 0, .bool false, .int .i64 0] 34) = w3 at *
        generalize w2.heap.size = d at *
        have hok : (SV.new i5 i6).ok := SV.new_ok i5 i6 h51 hi5.2 hi6
        have hokr : (SV.new i5 i6).okr := SV.new_okr i5 i6 (by omega)
        obtain ⟨ad, cap, rfl, hlen, hcell⟩ := hR.out
        clear hR
        unfold maxLen at hlen
        have hSW : ∀ x ∈ [b, c, d], z0 ≤ x := by intro x hx; simp at hx; omega
        obtain ⟨hdb1, hdc1⟩ := hdb
        clear hi5 hi6 h51 h61 hbig
        go_wp2_with fail
        go_loopg [48] n (fun gk idx wr => ∃ (k : Nat) (s : SV), k + gk = n ∧ idx = .int .i64 k ∧ s.ok ∧ s.okr ∧ Src wr b c s ∧ At wr d s.rcells ∧ Chg [b, c, d] W wr)
        case atStart => exact ⟨0, SV.new i5 i6, by omega, rfl, hok, hokr, hS, hD, hX⟩
        case round =>
          clear hok hokr
          obtain ⟨k, s, hk, rfl, hok, hokr, hS, hD, hX⟩ := hrel
          by_cases hlt : k < n
          · obtain ⟨bb, off, v', rfl, hb, hc, hC⟩ := hcell k hlt
            have hc' := hX.cell hc (fun h => by have := hSW _ h; simp at this; omega)
            have hL := hL5 k hlt
            have Hk := Lib.hid hk
            have Hc := Lib.hid hcell
            clear hcell hk hc hL5
            generalize L k = M at *
            have hSW' : ∀ x ∈ [b, c, d], W.heap.size ≤ x := fun x hx => by rw [hz0]; exact hSW x hx
            have hNR := NRow.lit0 wr wr.heap.size (Nat.le_refl _)
            have hM : NSl (wr.alloc (.cells #[] 32)) v' M := hC.keep (hX.alloc _) hSW'
            have hsz : wr.heap.size ≤ (wr.alloc (.cells #[] 32)).heap.size := by simp
            go_wp2_with (at_builtin; refine wpList_appNs rfl (.tmp 54) (.tmp 55) rfl rfl hNR rfl hM hC.nil (by simp; omega) hsz ?_; intro v1 ws1 hQ g; refine Hid.out ?_)
            refine Lib.hid ?_
            have hXs := NRow.grown hNR ((Chg.refl [] wr).alloc _) g (Nat.le_refl _)
            clear g hM hsz hNR
            rw [List.nil_append] at hQ
            have hM := hQ.isl
            replace hS := hS.keep hXs (by simp) (by simp)
            replace hD := hXs.at hD (by simp)
            replace hX := hX.trans (hXs.mono (by simp))
            clear hXs hQ hc'
            go_wp2_with fail
            refine (sCyc_any _ b c _ hok hS _ M hM hC.ok (by omega)).mono ?_; rintro e w5 ⟨rfl, hS2, hY⟩
            replace hD := hY.at hD (by simp [hdb1, hdc1])
            replace hX := hX.trans (hY.mono (by simp))
            clear hY hM hS
            have hM2 : NSl (w5.alloc (.cells (s.tellN M.getLast?).cells 32)) v' M := hC.keep (hX.alloc _) hSW'
            have hok2 : (s.nextN M.getLast?).ok := hok.next _ (fun m hm => hC.ok m (List.mem_of_getLast? hm))
            have hokr2 : (s.nextN M.getLast?).okr := hokr.next _
            have HR := fun w hA hv => rCyc_any w d s hok hokr hA v' M hv hC.ok (by omega)
            generalize M.getLast? = o at *
            generalize s.tellN o = t at *
            generalize s.wrongN o = f at *
            generalize s.nextN o = s2 at *
            have HR := Lib.hid HR
            simp only [NV.cells] at hM2 ⊢
            go_upto_region 15 with fail
            have hY1 := At.new w5 #[.int .i64 t.cnt, .int .i64 t.flg, .int .i64 t.x, .int .i64 t.y, .int .i64 t.z, .int .i64 t.vx, .int .i64 t.vy, .int .i64 t.vz] 32
            replace hS2 := hS2.keep ((Chg.refl [] w5).alloc (.cells #[.int .i64 t.cnt, .int .i64 t.flg, .int .i64 t.x, .int .i64 t.y, .int .i64 t.z, .int .i64 t.vx, .int .i64 t.vy, .int .i64 t.vz] 32)) (by simp) (by simp)
            replace hD := hD.alloc (.cells #[.int .i64 t.cnt, .int .i64 t.flg, .int .i64 t.x, .int .i64 t.y, .int .i64 t.z, .int .i64 t.vx, .int .i64 t.vy, .int .i64 t.vz] 32)
            replace hX := hX.alloc (.cells #[.int .i64 t.cnt, .int .i64 t.flg, .int .i64 t.x, .int .i64 t.y, .int .i64 t.z, .int .i64 t.vx, .int .i64 t.vy, .int .i64 t.vz] 32)
            have hyb := At.ne hY1 hS2.b (by simp [SV.cells])
            have hyc := At.ne hY1 hS2.c (by simp)
            have hyd := At.ne hY1 hD (by simp [SV.rcells])
            generalize w5.alloc (.cells #[.int .i64 t.cnt, .int .i64 t.flg, .int .i64 t.x, .int .i64 t.y, .int .i64 t.z, .int .i64 t.vx, .int .i64 t.vy, .int .i64 t.vz] 32) = w6 at *
            generalize w5.heap.size = y at *
            go_wp2_with fail
            refine (HR.out _ hD hM2).mono ?_; rintro e w7 ⟨rfl, hD2, hY⟩
            replace hS2 := hS2.keep hY (by simp [hdb1.symm]) (by simp [hdc1.symm])
            replace hY1 := hY.at hY1 (by simp [hyd])
            replace hX := hX.trans (hY.mono (by simp))
            clear hY hM2 hD HR hC
            simp only [NV.cells]
            go_upto_region 16 with fail
            have hY2 := At.new w7 #[.int .i64 t.cnt, .int .i64 t.flg, .int .i64 t.x, .int .i64 t.y, .int .i64 t.z, .int .i64 t.vx, .int .i64 t.vy, .int .i64 t.vz] 32
            replace hS2 := hS2.keep ((Chg.refl [] w7).alloc (.cells #[.int .i64 t.cnt, .int .i64 t.flg, .int .i64 t.x, .int .i64 t.y, .int .i64 t.z, .int .i64 t.vx, .int .i64 t.vy, .int .i64 t.vz] 32)) (by simp) (by simp)
            replace hD2 := hD2.alloc (.cells #[.int .i64 t.cnt, .int .i64 t.flg, .int .i64 t.x, .int .i64 t.y, .int .i64 t.z, .int .i64 t.vx, .int .i64 t.vy, .int .i64 t.vz] 32)
            replace hY1 := hY1.alloc (.cells #[.int .i64 t.cnt, .int .i64 t.flg, .int .i64 t.x, .int .i64 t.y, .int .i64 t.z, .int .i64 t.vx, .int .i64 t.vy, .int .i64 t.vz] 32)
            replace hX := hX.alloc (.cells #[.int .i64 t.cnt, .int .i64 t.flg, .int .i64 t.x, .int .i64 t.y, .int .i64 t.z, .int .i64 t.vx, .int .i64 t.vy, .int .i64 t.vz] 32)
            generalize w7.alloc (.cells #[.int .i64 t.cnt, .int .i64 t.flg, .int .i64 t.x, .int .i64 t.y, .int .i64 t.z, .int .i64 t.vx, .int .i64 t.vy, .int .i64 t.vz] 32) = w8 at *
            generalize w7.heap.size = y2 at *
            go_wp2_with fail
            refine (sLast_any _ b c _ hS2).mono ?_; rintro e w9 ⟨rfl, hY⟩
            replace hS2 := hS2.keep hY (by simp) (by simp)
            replace hD2 := hY.at hD2 (by simp)
            replace hY1 := hY.at hY1 (by simp)
            replace hY2 := hY.at hY2 (by simp)
            replace hX := hX.trans (hY.mono (by simp))
            clear hY
            simp only [NV.cells]
            go_upto_region 17 with fail
            have hY3 := At.new w9 #[.int .i64 s2.last.cnt, .int .i64 s2.last.flg, .int .i64 s2.last.x, .int .i64 s2.last.y, .int .i64 s2.last.z, .int .i64 s2.last.vx, .int .i64 s2.last.vy, .int .i64 s2.last.vz] 32
            replace hS2 := hS2.keep ((Chg.refl [] w9).alloc (.cells #[.int .i64 s2.last.cnt, .int .i64 s2.last.flg, .int .i64 s2.last.x, .int .i64 s2.last.y, .int .i64 s2.last.z, .int .i64 s2.last.vx, .int .i64 s2.last.vy, .int .i64 s2.last.vz] 32)) (by simp) (by simp)
            replace hD2 := hD2.alloc (.cells #[.int .i64 s2.last.cnt, .int .i64 s2.last.flg, .int .i64 s2.last.x, .int .i64 s2.last.y, .int .i64 s2.last.z, .int .i64 s2.last.vx, .int .i64 s2.last.vy, .int .i64 s2.last.vz] 32)
            replace hY1 := hY1.alloc (.cells #[.int .i64 s2.last.cnt, .int .i64 s2.last.flg, .int .i64 s2.last.x, .int .i64 s2.last.y, .int .i64 s2.last.z, .int .i64 s2.last.vx, .int .i64 s2.last.vy, .int .i64 s2.last.vz] 32)
            replace hY2 := hY2.alloc (.cells #[.int .i64 s2.last.cnt, .int .i64 s2.last.flg, .int .i64 s2.last.x, .int .i64 s2.last.y, .int .i64 s2.last.z, .int .i64 s2.last.vx, .int .i64 s2.last.vy, .int .i64 s2.last.vz] 32)
            replace hX := hX.alloc (.cells #[.int .i64 s2.last.cnt, .int .i64 s2.last.flg, .int .i64 s2.last.x, .int .i64 s2.last.y, .int .i64 s2.last.z, .int .i64 s2.last.vx, .int .i64 s2.last.vy, .int .i64 s2.last.vz] 32)
            generalize w9.alloc (.cells #[.int .i64 s2.last.cnt, .int .i64 s2.last.flg, .int .i64 s2.last.x, .int .i64 s2.last.y, .int .i64 s2.last.z, .int .i64 s2.last.vx, .int .i64 s2.last.vy, .int .i64 s2.last.vz] 32) = wa at *
            generalize w9.heap.size = y3 at *
            have a0 : wa.cell? ⟨y, 0, none⟩ = some (.int .i64 t.cnt) := hY1.cell 0
            have b0 : wa.cell? ⟨y2, 0, none⟩ = some (.int .i64 t.cnt) := hY2.cell 0
            have e0 : wa.cell? ⟨y3, 0, none⟩ = some (.int .i64 s2.last.cnt) := hY3.cell 0
            have d2 : wa.cell? ⟨d, 2, none⟩ = some (.int .i64 s2.last.cnt) := hD2.cell 2
            have a1 : wa.cell? ⟨y, 1, none⟩ = some (.int .i64 t.flg) := hY1.cell 1
            have b1 : wa.cell? ⟨y2, 1, none⟩ = some (.int .i64 t.flg) := hY2.cell 1
            have e1 : wa.cell? ⟨y3, 1, none⟩ = some (.int .i64 s2.last.flg) := hY3.cell 1
            have d3 : wa.cell? ⟨d, 3, none⟩ = some (.int .i64 s2.last.flg) := hD2.cell 3
            have a2 : wa.cell? ⟨y, 2, none⟩ = some (.int .i64 t.x) := hY1.cell 2
            have b2 : wa.cell? ⟨y2, 2, none⟩ = some (.int .i64 t.x) := hY2.cell 2
            have e2 : wa.cell? ⟨y3, 2, none⟩ = some (.int .i64 s2.last.x) := hY3.cell 2
            have d4 : wa.cell? ⟨d, 4, none⟩ = some (.int .i64 s2.last.x) := hD2.cell 4
            have a3 : wa.cell? ⟨y, 3, none⟩ = some (.int .i64 t.y) := hY1.cell 3
            have b3 : wa.cell? ⟨y2, 3, none⟩ = some (.int .i64 t.y) := hY2.cell 3
            have e3 : wa.cell? ⟨y3, 3, none⟩ = some (.int .i64 s2.last.y) := hY3.cell 3
            have d5 : wa.cell? ⟨d, 5, none⟩ = some (.int .i64 s2.last.y) := hD2.cell 5
            have a4 : wa.cell? ⟨y, 4, none⟩ = some (.int .i64 t.z) := hY1.cell 4
            have b4 : wa.cell? ⟨y2, 4, none⟩ = some (.int .i64 t.z) := hY2.cell 4
            have e4 : wa.cell? ⟨y3, 4, none⟩ = some (.int .i64 s2.last.z) := hY3.cell 4
            have d6 : wa.cell? ⟨d, 6, none⟩ = some (.int .i64 s2.last.z) := hD2.cell 6
            have a5 : wa.cell? ⟨y, 5, none⟩ = some (.int .i64 t.vx) := hY1.cell 5
            have b5 : wa.cell? ⟨y2, 5, none⟩ = some (.int .i64 t.vx) := hY2.cell 5
            have e5 : wa.cell? ⟨y3, 5, none⟩ = some (.int .i64 s2.last.vx) := hY3.cell 5
            have d7 : wa.cell? ⟨d, 7, none⟩ = some (.int .i64 s2.last.vx) := hD2.cell 7
            have a6 : wa.cell? ⟨y, 6, none⟩ = some (.int .i64 t.vy) := hY1.cell 6
            have b6 : wa.cell? ⟨y2, 6, none⟩ = some (.int .i64 t.vy) := hY2.cell 6
            have e6 : wa.cell? ⟨y3, 6, none⟩ = some (.int .i64 s2.last.vy) := hY3.cell 6
            have d8 : wa.cell? ⟨d, 8, none⟩ = some (.int .i64 s2.last.vy) := hD2.cell 8
            have a7 : wa.cell? ⟨y, 7, none⟩ = some (.int .i64 t.vz) := hY1.cell 7
            have b7 : wa.cell? ⟨y2, 7, none⟩ = some (.int .i64 t.vz) := hY2.cell 7
            have e7 : wa.cell? ⟨y3, 7, none⟩ = some (.int .i64 s2.last.vz) := hY3.cell 7
            have d9 : wa.cell? ⟨d, 9, none⟩ = some (.int .i64 s2.last.vz) := hD2.cell 9
            have d10 : wa.cell? ⟨d, 10, none⟩ = some (.bool s2.has) := hD2.cell 10
            have d11 : wa.cell? ⟨d, 11, none⟩ = some (.int .i64 s2.old) := hD2.cell 11
            have A : ∀ n, Calls Try.prog 13 #[.pointer (some ⟨b, 0, none⟩)] (wa.drewN n) fun e w' => e = .returned (.int .i64 s2.old) ∧ wa.drewN n = w' := fun n => sAge_any (wa.drewN n) b c s2 ⟨hS2.b.drewN n, hS2.c.drewN n⟩
            go_quiet (with_reducible refine quiet_same (A _))
            clear a0 b0 e0 d2 a1 b1 e1 d3 a2 b2 e2 d4 a3 b3 e3 d5 a4 b4 e4 d6 a5 b5 e5 d7 a6 b6 e6 d8 a7 b7 e7 d9 d10 d11 A
            replace hS2 : Src (wa.drewN nq) b c s2 := ⟨hS2.b.drewN nq, hS2.c.drewN nq⟩
            replace hD2 := hD2.drewN nq
            replace hX := hX.drewN nq
            generalize wa.drewN nq = wb at *
            clear nq
            go_wp2_with fail
            go_roundg (gk - 1)
            case measure => have := Hk.out; omega
            case rel => exact ⟨k + 1, s2, by have := Hk.out; omega, by go_num, hok2, hokr2, hS2, hD2, hX⟩
          · clear hcell
            go_wp2
            go_returns
            exact ⟨rfl, hX.to_below' (Nat.le_refl _) (fun x hx => by rw [hz0]; exact hSW x hx)⟩
end Go.Proofs.Ytmdgikikiijjbaa
