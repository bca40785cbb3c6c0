/- The reference of package source: Cycle, behind its first if. -/
import Derived.Test.YtmdgikikiijjbaaSri
namespace Go.Proofs.Ytmdgikikiijjbaa
open Go.RowKit

def subC : List Nat → Code → Code
  | [], c => c
  | 0 :: l, .seq a _ => subC l a
  | 1 :: l, .seq _ b => subC l b
  | 2 :: l, .cond _ a _ => subC l a
  | 3 :: l, .cond _ _ b => subC l b
  | _ :: _, c => c
def seqR : Nat → Code → Code
  | 0, c => c
  | n + 1, .seq _ c => seqR n c
  | _ + 1, c => c

set_option maxRecDepth 100000 in
set_option maxHeartbeats 2000000 in
theorem rtail (w wx : World) (b z y : Nat) (s : SV) (n : NV) (hs : s.ok) (f fv : Int) (hff : f = fv) (u1 u2 u3 u5 u8 u9 u10 u11 u12 u13 u14 u15 u16 u17 u18 u19 u20 u21 u22 u23 u24 u25 u26 u27 u28 u29 u30 u31 u32 u33 u34 u35 u36 u37 u38 u39 u40 u41 u42 u43 u44 u45 u46 u47 u48 u49 u50 u51 u52 u53 u54 u55 u56 u57 u58 u59 u60 u61 u62 u63 u64 u65 u66 u67 u68 u69 u70 u71 u72 u73 u74 u75 u76 u77 u78 u79 u80 u81 u82 u83 u84 u85 u86 u87 u88 u89 u90 u91 u92 u93 u94 u95 u96 u97 u98 u99 u100 u101 u102 u103 u104 u105 u106 u107 u108 u109 u110 u111 u112 u113 u114 u115 u116 u117 u118 u119 u120 u121 u122 u123 u124 u125 u126 u127 u128 u129 u130 u131 u132 u133 u134 u135 u136 u137 u138 u139 u140 u141 u142 u143 u144 u145 u146 u147 u148 u149 u150 u151 u152 u153 u154 u155 u156 u157 u158 u159 u160 : Value) (hz : w.heap.size = z) (hBz : b < z) (hzy : z < y) (hby : b ≠ y) (hyz : y ≠ z) (hbz : b ≠ z) (C : CL w [(b, #[.int .i64 s.step, .int .i64 s.most, .int .i64 s.last.cnt, .int .i64 s.last.flg, .int .i64 s.last.x, .int .i64 s.last.y, .int .i64 s.last.z, .int .i64 s.last.vx, .int .i64 s.last.vy, .int .i64 s.last.vz, .bool s.has, .int .i64 s.old]), (z, #[.int .i64 0, .int .i64 0, .int .i64 0, .int .i64 0, .int .i64 0, .int .i64 0, .int .i64 0, .int .i64 0]), (y, #[.int .i64 n.cnt, .int .i64 n.flg, .int .i64 n.x, .int .i64 n.y, .int .i64 n.z, .int .i64 n.vx, .int .i64 n.vy, .int .i64 n.vz])] 0 wx)
    (Q : Ending → World → Prop) (hQ0 : fv = 0 → ∀ w', At w' b (s.good n).rcells → Chg [b] w w' → Q (.returned (.tuple #[.agg n.cells, .int .i64 0])) w')
    (hQ1 : fv ≠ 0 → ∀ w', At w' b s.bad.rcells → Chg [b] w w' → Q (.returned (.tuple #[.agg NV.zero.cells, .int .i64 fv])) w') :
    Code.wp Try.prog (seqR 4 (Try.f11.body.getD .skip)) (bodyPost Try.prog Try.f11 Q) ⟨#[.pointer (some ⟨b, 0, none⟩), u1, u2, u3, .pointer (some ⟨z, 0, none⟩), u5, .int .i64 f, .pointer (some ⟨y, 0, none⟩), u8, u9, u10, u11, u12, u13, u14, u15, u16, u17, u18, u19, u20, u21, u22, u23, u24, u25, u26, u27, u28, u29, u30, u31, u32, u33, u34, u35, u36, u37, u38, u39, u40, u41, u42, u43, u44, u45, u46, u47, u48, u49, u50, u51, u52, u53, u54, u55, u56, u57, u58, u59, u60, u61, u62, u63, u64, u65, u66, u67, u68, u69, u70, u71, u72, u73, u74, u75, u76, u77, u78, u79, u80, u81, u82, u83, u84, u85, u86, u87, u88, u89, u90, u91, u92, u93, u94, u95, u96, u97, u98, u99, u100, u101, u102, u103, u104, u105, u106, u107, u108, u109, u110, u111, u112, u113, u114, u115, u116, u117, u118, u119, u120, u121, u122, u123, u124, u125, u126, u127, u128, u129, u130, u131, u132, u133, u134, u135, u136, u137, u138, u139, u140, u141, u142, u143, u144, u145, u146, u147, u148, u149, u150, u151, u152, u153, u154, u155, u156, u157, u158, u159, u160], []⟩ wx := by
  obtain ⟨o, ho⟩ : ∃ o, o = cAdd s.old 1000000 1 := ⟨_, rfl⟩
  have HO := Lib.hid ho
  obtain ⟨sb, hsb⟩ : ∃ x, x = s.bad := ⟨_, rfl⟩
  rw [← hsb] at hQ1
  unfold SV.bad at hsb
  rw [← ho] at hsb
  have HSB := Lib.hid hsb
  clear ho hsb
  simp only [NV.cells, NV.zero, SV.rcells] at *
  have HQ0 := Lib.hid hQ0
  have HQ1 := Lib.hid hQ1
  clear hQ0 hQ1
  simp only [seqR, Try.f11, Option.getD]
  generalize wx = wc at *
  by_cases hf : fv = 0
  · obtain rfl : f = 0 := hff.trans hf
    clear hff
    have hB := C.get 0 rfl
    have hR := C.get 1 rfl
    have hN := C.get 2 rfl
    have hX := C.x.mono (S' := [b]) (by simp)
    clear C
    simp only at hB hR hN
    go_upto_region 17 with fail
    have n0 := hN.cell 0
    have n1 := hN.cell 1
    have n2 := hN.cell 2
    have n3 := hN.cell 3
    have n4 := hN.cell 4
    have n5 := hN.cell 5
    have n6 := hN.cell 6
    have n7 := hN.cell 7
    have b2 := hB.cell 2
    have b3 := hB.cell 3
    have b4 := hB.cell 4
    have b5 := hB.cell 5
    have b6 := hB.cell 6
    have b7 := hB.cell 7
    have b8 := hB.cell 8
    have b9 := hB.cell 9
    have b10 := hB.cell 10
    have b11 := hB.cell 11
    have bf2 := hB.frozen 2
    have bf3 := hB.frozen 3
    have bf4 := hB.frozen 4
    have bf5 := hB.frozen 5
    have bf6 := hB.frozen 6
    have bf7 := hB.frozen 7
    have bf8 := hB.frozen 8
    have bf9 := hB.frozen 9
    have bf10 := hB.frozen 10
    have bf11 := hB.frozen 11
    go_upto_region 20 with fail
    clear n0 n1 n2 n3 n4 n5 n6 n7 b2 bf2 b3 bf3 b4 bf4 b5 bf5 b6 bf6 b7 bf7 b8 bf8 b9 bf9 b10 bf10 b11 bf11
    have hB2 := ((((((((((hB).set 2 (.int .i64 n.cnt) rfl).set 3 (.int .i64 n.flg) rfl).set 4 (.int .i64 n.x) rfl).set 5 (.int .i64 n.y) rfl).set 6 (.int .i64 n.z) rfl).set 7 (.int .i64 n.vx) rfl).set 8 (.int .i64 n.vy) rfl).set 9 (.int .i64 n.vz) rfl).set 10 (.bool true) rfl).set 11 (.int .i64 0) rfl
    simp only [List.setIfInBounds_toArray, List.set_cons_succ, List.set_cons_zero] at hB2
    have hN2 := ((((((((((hN).other ⟨b, 2, none⟩ (.int .i64 n.cnt) hby.symm).other ⟨b, 3, none⟩ (.int .i64 n.flg) hby.symm).other ⟨b, 4, none⟩ (.int .i64 n.x) hby.symm).other ⟨b, 5, none⟩ (.int .i64 n.y) hby.symm).other ⟨b, 6, none⟩ (.int .i64 n.z) hby.symm).other ⟨b, 7, none⟩ (.int .i64 n.vx) hby.symm).other ⟨b, 8, none⟩ (.int .i64 n.vy) hby.symm).other ⟨b, 9, none⟩ (.int .i64 n.vz) hby.symm).other ⟨b, 10, none⟩ (.bool true) hby.symm).other ⟨b, 11, none⟩ (.int .i64 0) hby.symm
    have hR2 := ((((((((((hR).other ⟨b, 2, none⟩ (.int .i64 n.cnt) hbz.symm).other ⟨b, 3, none⟩ (.int .i64 n.flg) hbz.symm).other ⟨b, 4, none⟩ (.int .i64 n.x) hbz.symm).other ⟨b, 5, none⟩ (.int .i64 n.y) hbz.symm).other ⟨b, 6, none⟩ (.int .i64 n.z) hbz.symm).other ⟨b, 7, none⟩ (.int .i64 n.vx) hbz.symm).other ⟨b, 8, none⟩ (.int .i64 n.vy) hbz.symm).other ⟨b, 9, none⟩ (.int .i64 n.vz) hbz.symm).other ⟨b, 10, none⟩ (.bool true) hbz.symm).other ⟨b, 11, none⟩ (.int .i64 0) hbz.symm
    have hX2 : Chg [b] w _ := ((((((((((hX).setCell (p := ⟨b, 2, none⟩) (Or.inl (by simp)) (.int .i64 n.cnt)).setCell (p := ⟨b, 3, none⟩) (Or.inl (by simp)) (.int .i64 n.flg)).setCell (p := ⟨b, 4, none⟩) (Or.inl (by simp)) (.int .i64 n.x)).setCell (p := ⟨b, 5, none⟩) (Or.inl (by simp)) (.int .i64 n.y)).setCell (p := ⟨b, 6, none⟩) (Or.inl (by simp)) (.int .i64 n.z)).setCell (p := ⟨b, 7, none⟩) (Or.inl (by simp)) (.int .i64 n.vx)).setCell (p := ⟨b, 8, none⟩) (Or.inl (by simp)) (.int .i64 n.vy)).setCell (p := ⟨b, 9, none⟩) (Or.inl (by simp)) (.int .i64 n.vz)).setCell (p := ⟨b, 10, none⟩) (Or.inl (by simp)) (.bool true)).setCell (p := ⟨b, 11, none⟩) (Or.inl (by simp)) (.int .i64 0)
    clear hB hN hR hX
    generalize ((((((((((wc).setCell ⟨b, 2, none⟩ (.int .i64 n.cnt)).setCell ⟨b, 3, none⟩ (.int .i64 n.flg)).setCell ⟨b, 4, none⟩ (.int .i64 n.x)).setCell ⟨b, 5, none⟩ (.int .i64 n.y)).setCell ⟨b, 6, none⟩ (.int .i64 n.z)).setCell ⟨b, 7, none⟩ (.int .i64 n.vx)).setCell ⟨b, 8, none⟩ (.int .i64 n.vy)).setCell ⟨b, 9, none⟩ (.int .i64 n.vz)).setCell ⟨b, 10, none⟩ (.bool true)).setCell ⟨b, 11, none⟩ (.int .i64 0) = w2 at *
    have n0 := hN2.cell 0
    have n1 := hN2.cell 1
    have n2 := hN2.cell 2
    have n3 := hN2.cell 3
    have n4 := hN2.cell 4
    have n5 := hN2.cell 5
    have n6 := hN2.cell 6
    have n7 := hN2.cell 7
    have r0 := hR2.cell 0
    have r1 := hR2.cell 1
    have r2 := hR2.cell 2
    have r3 := hR2.cell 3
    have r4 := hR2.cell 4
    have r5 := hR2.cell 5
    have r6 := hR2.cell 6
    have r7 := hR2.cell 7
    have rf0 := hR2.frozen 0
    have rf1 := hR2.frozen 1
    have rf2 := hR2.frozen 2
    have rf3 := hR2.frozen 3
    have rf4 := hR2.frozen 4
    have rf5 := hR2.frozen 5
    have rf6 := hR2.frozen 6
    have rf7 := hR2.frozen 7
    go_wp2_with (with_reducible refine hold_post ?_)
    refine Lib.hid ?_
    clear n0 n1 n2 n3 n4 n5 n6 n7
    clear r0 rf0 r1 rf1 r2 rf2 r3 rf3 r4 rf4 r5 rf5 r6 rf6 r7 rf7
    have hR9 := ((((((((hR2).set 0 (.int .i64 n.cnt) rfl).set 1 (.int .i64 n.flg) rfl).set 2 (.int .i64 n.x) rfl).set 3 (.int .i64 n.y) rfl).set 4 (.int .i64 n.z) rfl).set 5 (.int .i64 n.vx) rfl).set 6 (.int .i64 n.vy) rfl).set 7 (.int .i64 n.vz) rfl
    simp only [List.setIfInBounds_toArray, List.set_cons_succ, List.set_cons_zero] at hR9
    have hB9 := ((((((((hB2).other ⟨z, 0, none⟩ (.int .i64 n.cnt) hbz).other ⟨z, 1, none⟩ (.int .i64 n.flg) hbz).other ⟨z, 2, none⟩ (.int .i64 n.x) hbz).other ⟨z, 3, none⟩ (.int .i64 n.y) hbz).other ⟨z, 4, none⟩ (.int .i64 n.z) hbz).other ⟨z, 5, none⟩ (.int .i64 n.vx) hbz).other ⟨z, 6, none⟩ (.int .i64 n.vy) hbz).other ⟨z, 7, none⟩ (.int .i64 n.vz) hbz
    have hX9 := ((((((((hX2).setCell (p := ⟨z, 0, none⟩) (Or.inr (by simp; omega)) (.int .i64 n.cnt)).setCell (p := ⟨z, 1, none⟩) (Or.inr (by simp; omega)) (.int .i64 n.flg)).setCell (p := ⟨z, 2, none⟩) (Or.inr (by simp; omega)) (.int .i64 n.x)).setCell (p := ⟨z, 3, none⟩) (Or.inr (by simp; omega)) (.int .i64 n.y)).setCell (p := ⟨z, 4, none⟩) (Or.inr (by simp; omega)) (.int .i64 n.z)).setCell (p := ⟨z, 5, none⟩) (Or.inr (by simp; omega)) (.int .i64 n.vx)).setCell (p := ⟨z, 6, none⟩) (Or.inr (by simp; omega)) (.int .i64 n.vy)).setCell (p := ⟨z, 7, none⟩) (Or.inr (by simp; omega)) (.int .i64 n.vz)
    clear hR2 hB2 hX2
    generalize ((((((((w2).setCell ⟨z, 0, none⟩ (.int .i64 n.cnt)).setCell ⟨z, 1, none⟩ (.int .i64 n.flg)).setCell ⟨z, 2, none⟩ (.int .i64 n.x)).setCell ⟨z, 3, none⟩ (.int .i64 n.y)).setCell ⟨z, 4, none⟩ (.int .i64 n.z)).setCell ⟨z, 5, none⟩ (.int .i64 n.vx)).setCell ⟨z, 6, none⟩ (.int .i64 n.vy)).setCell ⟨z, 7, none⟩ (.int .i64 n.vz) = w9 at *
    have r0 : w9.cell? ⟨z, 0, none⟩ = some (.int .i64 n.cnt) := hR9.cell 0
    have r1 : w9.cell? ⟨z, 1, none⟩ = some (.int .i64 n.flg) := hR9.cell 1
    have r2 : w9.cell? ⟨z, 2, none⟩ = some (.int .i64 n.x) := hR9.cell 2
    have r3 : w9.cell? ⟨z, 3, none⟩ = some (.int .i64 n.y) := hR9.cell 3
    have r4 : w9.cell? ⟨z, 4, none⟩ = some (.int .i64 n.z) := hR9.cell 4
    have r5 : w9.cell? ⟨z, 5, none⟩ = some (.int .i64 n.vx) := hR9.cell 5
    have r6 : w9.cell? ⟨z, 6, none⟩ = some (.int .i64 n.vy) := hR9.cell 6
    have r7 : w9.cell? ⟨z, 7, none⟩ = some (.int .i64 n.vz) := hR9.cell 7
    exact bodyPost_ret (v := .tuple #[.agg #[.int .i64 n.cnt, .int .i64 n.flg, .int .i64 n.x, .int .i64 n.y, .int .i64 n.z, .int .i64 n.vx, .int .i64 n.vy, .int .i64 n.vz], .int .i64 0]) (by simp [results, Try.results11, go_sem, r0, r1, r2, r3, r4, r5, r6, r7]) rfl (HQ0.out hf _ hB9 hX9)
  · obtain rfl := hff
    have hf0 : f ≠ 0 := hf
    clear hf
    have hB := C.get 0 rfl
    have hR := C.get 1 rfl
    have hX := C.x.mono (S' := [b]) (by simp)
    clear C
    simp only at hB hR
    go_upto_region 21 with fail
    have ho0 := hs.o0
    have ho2 := hs.o1
    have hwo1 : IntKind.i64.wrap (s.old + 1) = s.old + 1 := by rw [IntKind.wrap_i64]; omega
    by_cases hmx : 1000000 < s.old + 1
    · have ho1 : 1000000 = o := by rw [HO.out]; unfold cAdd; omega
      have b11 := hB.cell 11
      have bf11 := hB.frozen 11
      go_upto_region 22 with fail
      clear b11 bf11
      have hB2 := hB.set 11 (.int .i64 o) rfl
      simp only [List.setIfInBounds_toArray, List.set_cons_succ, List.set_cons_zero] at hB2
      have hR2 := hR.other ⟨b, 11, none⟩ (.int .i64 o) hbz.symm
      have hX2 : Chg [b] w _ := hX.setCell (p := ⟨b, 11, none⟩) (Or.inl (by simp)) (.int .i64 o)
      clear hB hR hX
      generalize wc.setCell ⟨b, 11, none⟩ (.int .i64 o) = w2 at *
      clear ho1 HO
      have hB2d : WB b z #[.int .i64 s.step, .int .i64 s.most, .int .i64 s.last.cnt, .int .i64 s.last.flg, .int .i64 s.last.x, .int .i64 s.last.y, .int .i64 s.last.z, .int .i64 s.last.vx, .int .i64 s.last.vy, .int .i64 s.last.vz, .bool s.has, .int .i64 o] #[.int .i64 0, .int .i64 0, .int .i64 0, .int .i64 0, .int .i64 0, .int .i64 0, .int .i64 0, .int .i64 0] w 0 w2.drew := ⟨hB2.drew, hR2.drew, hX2.drew⟩
      clear hB2 hR2 hX2
      refine wp_region_stage (WB b z #[.int .i64 s.step, .int .i64 s.most, .int .i64 s.last.cnt, .int .i64 s.last.flg, .int .i64 s.last.x, .int .i64 s.last.y, .int .i64 s.last.z, .int .i64 s.last.vx, .int .i64 s.last.vy, .int .i64 s.last.vz, .bool s.has, .int .i64 o] #[.int .i64 0, .int .i64 0, .int .i64 0, .int .i64 0, .int .i64 0, .int .i64 0, .int .i64 0, .int .i64 0] w) [] [(0, 0, false), (0, 0, false), (0, 0, false), (0, 0, false), (0, 0, false), (0, 0, false), (0, 0, false), (0, 0, false), (0, 0, false)]
        (by kernel_rfl) (by kernel_rfl) (by kernel_rfl) (hB2d) ?_
      simp only [List.zip_cons_cons, List.zip_nil_right]
      refine wpStage_yes (by go_simp) ?_
      intro K hK
      apply Exists.intro
      refine ⟨fun kk ww2 hk1 hk2 hC => ?_, ?_⟩
      · go_simp
        with_reducible exact rfl
      go_simp
      refine hK _ ?_
      clear hK K
      refine wpStage_yes (by go_simp) ?_
      intro K hK
      apply Exists.intro
      refine ⟨fun kk ww2 hk1 hk2 hC => ?_, ?_⟩
      · go_simp
        with_reducible exact rfl
      go_simp
      refine hK _ ?_
      clear hK K
      refine wpStage_yes (by go_simp) ?_
      intro K hK
      apply Exists.intro
      refine ⟨fun kk ww2 hk1 hk2 hC => ?_, ?_⟩
      · go_simp
        with_reducible exact rfl
      go_simp
      refine hK _ ?_
      clear hK K
      refine wpStage_yes (by go_simp) ?_
      intro K hK
      apply Exists.intro
      refine ⟨fun kk ww2 hk1 hk2 hC => ?_, ?_⟩
      · have b11 := hC.hb.cell 11
        go_simp
        with_reducible exact rfl
      go_simp
      refine hK _ ?_
      clear hK K
      refine wpStage_yes (by go_simp) ?_
      intro K hK
      apply Exists.intro
      refine ⟨fun kk ww2 hk1 hk2 hC => ?_, ?_⟩
      · go_simp
        with_reducible exact rfl
      go_simp
      refine hK _ ?_
      clear hK K
      refine wpStage_yes (by go_simp) ?_
      intro K hK
      apply Exists.intro
      refine ⟨fun kk ww2 hk1 hk2 hC => ?_, ?_⟩
      · go_simp
        with_reducible exact rfl
      go_simp
      refine hK _ ?_
      clear hK K
      refine wpStage_yes (by go_simp) ?_
      intro K hK
      apply Exists.intro
      refine ⟨fun kk ww2 hk1 hk2 hC => ?_, ?_⟩
      · go_simp
        with_reducible exact rfl
      go_simp
      refine hK _ ?_
      clear hK K
      refine wpStage_yes (by go_simp) ?_
      intro K hK
      apply Exists.intro
      refine ⟨fun kk ww2 hk1 hk2 hC => ?_, ?_⟩
      · have b1 := hC.hb.cell 1
        go_simp
        with_reducible exact rfl
      go_simp
      refine hK _ ?_
      clear hK K
      refine wpStage_yes (by go_simp) ?_
      intro K hK
      apply Exists.intro
      refine ⟨fun kk ww2 hk1 hk2 hC => ?_, ?_⟩
      · go_simp
        with_reducible exact rfl
      go_simp
      refine hK _ ?_
      clear hK K
      refine wpStage_nil (fun ww2 hC => ?_)
      clear hB2d
      obtain ⟨hB2, hR2, hX2⟩ := hC
      by_cases hgt : o > s.most
      · obtain rfl := HSB.out.trans (if_pos hgt)
        replace hgt : s.most < o := hgt
        have b2 := hB2.cell 2
        have b3 := hB2.cell 3
        have b4 := hB2.cell 4
        have b5 := hB2.cell 5
        have b6 := hB2.cell 6
        have b7 := hB2.cell 7
        have b8 := hB2.cell 8
        have b9 := hB2.cell 9
        have b10 := hB2.cell 10
        have bf2 := hB2.frozen 2
        have bf3 := hB2.frozen 3
        have bf4 := hB2.frozen 4
        have bf5 := hB2.frozen 5
        have bf6 := hB2.frozen 6
        have bf7 := hB2.frozen 7
        have bf8 := hB2.frozen 8
        have bf9 := hB2.frozen 9
        have bf10 := hB2.frozen 10
        go_upto_region 25 with fail
        clear b2 bf2 b3 bf3 b4 bf4 b5 bf5 b6 bf6 b7 bf7 b8 bf8 b9 bf9 b10 bf10
        have hB3 := ((((((((hB2.set 10 (.bool false) rfl).set 2 (.int .i64 0) rfl).set 3 (.int .i64 0) rfl).set 4 (.int .i64 0) rfl).set 5 (.int .i64 0) rfl).set 6 (.int .i64 0) rfl).set 7 (.int .i64 0) rfl).set 8 (.int .i64 0) rfl).set 9 (.int .i64 0) rfl
        simp only [List.setIfInBounds_toArray, List.set_cons_succ, List.set_cons_zero] at hB3
        have hR3 := ((((((((hR2.other ⟨b, 10, none⟩ (.bool false) hbz.symm).other ⟨b, 2, none⟩ (.int .i64 0) hbz.symm).other ⟨b, 3, none⟩ (.int .i64 0) hbz.symm).other ⟨b, 4, none⟩ (.int .i64 0) hbz.symm).other ⟨b, 5, none⟩ (.int .i64 0) hbz.symm).other ⟨b, 6, none⟩ (.int .i64 0) hbz.symm).other ⟨b, 7, none⟩ (.int .i64 0) hbz.symm).other ⟨b, 8, none⟩ (.int .i64 0) hbz.symm).other ⟨b, 9, none⟩ (.int .i64 0) hbz.symm
        have hX3 := ((((((((hX2.setCell (p := ⟨b, 10, none⟩) (Or.inl (by simp)) (.bool false)).setCell (p := ⟨b, 2, none⟩) (Or.inl (by simp)) (.int .i64 0)).setCell (p := ⟨b, 3, none⟩) (Or.inl (by simp)) (.int .i64 0)).setCell (p := ⟨b, 4, none⟩) (Or.inl (by simp)) (.int .i64 0)).setCell (p := ⟨b, 5, none⟩) (Or.inl (by simp)) (.int .i64 0)).setCell (p := ⟨b, 6, none⟩) (Or.inl (by simp)) (.int .i64 0)).setCell (p := ⟨b, 7, none⟩) (Or.inl (by simp)) (.int .i64 0)).setCell (p := ⟨b, 8, none⟩) (Or.inl (by simp)) (.int .i64 0)).setCell (p := ⟨b, 9, none⟩) (Or.inl (by simp)) (.int .i64 0)
        clear hB2 hR2 hX2
        generalize (((((((((ww2.setCell ⟨b, 10, none⟩ (.bool false))).setCell ⟨b, 2, none⟩ (.int .i64 0)).setCell ⟨b, 3, none⟩ (.int .i64 0)).setCell ⟨b, 4, none⟩ (.int .i64 0)).setCell ⟨b, 5, none⟩ (.int .i64 0)).setCell ⟨b, 6, none⟩ (.int .i64 0)).setCell ⟨b, 7, none⟩ (.int .i64 0)).setCell ⟨b, 8, none⟩ (.int .i64 0)).setCell ⟨b, 9, none⟩ (.int .i64 0) = w3 at *
        have r0 := hR3.cell 0
        have r1 := hR3.cell 1
        have r2 := hR3.cell 2
        have r3 := hR3.cell 3
        have r4 := hR3.cell 4
        have r5 := hR3.cell 5
        have r6 := hR3.cell 6
        have r7 := hR3.cell 7
        have rf0 := hR3.frozen 0
        have rf1 := hR3.frozen 1
        have rf2 := hR3.frozen 2
        have rf3 := hR3.frozen 3
        have rf4 := hR3.frozen 4
        have rf5 := hR3.frozen 5
        have rf6 := hR3.frozen 6
        have rf7 := hR3.frozen 7
        go_wp2_with (with_reducible refine hold_post ?_)
        refine Lib.hid ?_
        clear r0 rf0 r1 rf1 r2 rf2 r3 rf3 r4 rf4 r5 rf5 r6 rf6 r7 rf7
        have hR9 := ((((((((hR3).set 0 (.int .i64 0) rfl).set 1 (.int .i64 0) rfl).set 2 (.int .i64 0) rfl).set 3 (.int .i64 0) rfl).set 4 (.int .i64 0) rfl).set 5 (.int .i64 0) rfl).set 6 (.int .i64 0) rfl).set 7 (.int .i64 0) rfl
        simp only [List.setIfInBounds_toArray, List.set_cons_succ, List.set_cons_zero] at hR9
        have hB9 := ((((((((hB3).other ⟨z, 0, none⟩ (.int .i64 0) hbz).other ⟨z, 1, none⟩ (.int .i64 0) hbz).other ⟨z, 2, none⟩ (.int .i64 0) hbz).other ⟨z, 3, none⟩ (.int .i64 0) hbz).other ⟨z, 4, none⟩ (.int .i64 0) hbz).other ⟨z, 5, none⟩ (.int .i64 0) hbz).other ⟨z, 6, none⟩ (.int .i64 0) hbz).other ⟨z, 7, none⟩ (.int .i64 0) hbz
        have hX9 := ((((((((hX3).setCell (p := ⟨z, 0, none⟩) (Or.inr (by simp; omega)) (.int .i64 0)).setCell (p := ⟨z, 1, none⟩) (Or.inr (by simp; omega)) (.int .i64 0)).setCell (p := ⟨z, 2, none⟩) (Or.inr (by simp; omega)) (.int .i64 0)).setCell (p := ⟨z, 3, none⟩) (Or.inr (by simp; omega)) (.int .i64 0)).setCell (p := ⟨z, 4, none⟩) (Or.inr (by simp; omega)) (.int .i64 0)).setCell (p := ⟨z, 5, none⟩) (Or.inr (by simp; omega)) (.int .i64 0)).setCell (p := ⟨z, 6, none⟩) (Or.inr (by simp; omega)) (.int .i64 0)).setCell (p := ⟨z, 7, none⟩) (Or.inr (by simp; omega)) (.int .i64 0)
        clear hR3 hB3 hX3
        generalize ((((((((w3).setCell ⟨z, 0, none⟩ (.int .i64 0)).setCell ⟨z, 1, none⟩ (.int .i64 0)).setCell ⟨z, 2, none⟩ (.int .i64 0)).setCell ⟨z, 3, none⟩ (.int .i64 0)).setCell ⟨z, 4, none⟩ (.int .i64 0)).setCell ⟨z, 5, none⟩ (.int .i64 0)).setCell ⟨z, 6, none⟩ (.int .i64 0)).setCell ⟨z, 7, none⟩ (.int .i64 0) = w9 at *
        have r0 : w9.cell? ⟨z, 0, none⟩ = some (.int .i64 0) := hR9.cell 0
        have r1 : w9.cell? ⟨z, 1, none⟩ = some (.int .i64 0) := hR9.cell 1
        have r2 : w9.cell? ⟨z, 2, none⟩ = some (.int .i64 0) := hR9.cell 2
        have r3 : w9.cell? ⟨z, 3, none⟩ = some (.int .i64 0) := hR9.cell 3
        have r4 : w9.cell? ⟨z, 4, none⟩ = some (.int .i64 0) := hR9.cell 4
        have r5 : w9.cell? ⟨z, 5, none⟩ = some (.int .i64 0) := hR9.cell 5
        have r6 : w9.cell? ⟨z, 6, none⟩ = some (.int .i64 0) := hR9.cell 6
        have r7 : w9.cell? ⟨z, 7, none⟩ = some (.int .i64 0) := hR9.cell 7
        exact bodyPost_ret (v := .tuple #[.agg #[.int .i64 0, .int .i64 0, .int .i64 0, .int .i64 0, .int .i64 0, .int .i64 0, .int .i64 0, .int .i64 0], .int .i64 f]) (by simp [results, Try.results11, go_sem, r0, r1, r2, r3, r4, r5, r6, r7]) rfl (HQ1.out hf0 _ hB9 hX9)
      · obtain rfl := HSB.out.trans (if_neg hgt)
        replace hgt : o ≤ s.most := by omega
        have r0 := hR2.cell 0
        have r1 := hR2.cell 1
        have r2 := hR2.cell 2
        have r3 := hR2.cell 3
        have r4 := hR2.cell 4
        have r5 := hR2.cell 5
        have r6 := hR2.cell 6
        have r7 := hR2.cell 7
        have rf0 := hR2.frozen 0
        have rf1 := hR2.frozen 1
        have rf2 := hR2.frozen 2
        have rf3 := hR2.frozen 3
        have rf4 := hR2.frozen 4
        have rf5 := hR2.frozen 5
        have rf6 := hR2.frozen 6
        have rf7 := hR2.frozen 7
        go_wp2_with (with_reducible refine hold_post ?_)
        refine Lib.hid ?_
        clear r0 rf0 r1 rf1 r2 rf2 r3 rf3 r4 rf4 r5 rf5 r6 rf6 r7 rf7
        have hR9 := ((((((((hR2).set 0 (.int .i64 0) rfl).set 1 (.int .i64 0) rfl).set 2 (.int .i64 0) rfl).set 3 (.int .i64 0) rfl).set 4 (.int .i64 0) rfl).set 5 (.int .i64 0) rfl).set 6 (.int .i64 0) rfl).set 7 (.int .i64 0) rfl
        simp only [List.setIfInBounds_toArray, List.set_cons_succ, List.set_cons_zero] at hR9
        have hB9 := ((((((((hB2).other ⟨z, 0, none⟩ (.int .i64 0) hbz).other ⟨z, 1, none⟩ (.int .i64 0) hbz).other ⟨z, 2, none⟩ (.int .i64 0) hbz).other ⟨z, 3, none⟩ (.int .i64 0) hbz).other ⟨z, 4, none⟩ (.int .i64 0) hbz).other ⟨z, 5, none⟩ (.int .i64 0) hbz).other ⟨z, 6, none⟩ (.int .i64 0) hbz).other ⟨z, 7, none⟩ (.int .i64 0) hbz
        have hX9 := ((((((((hX2).setCell (p := ⟨z, 0, none⟩) (Or.inr (by simp; omega)) (.int .i64 0)).setCell (p := ⟨z, 1, none⟩) (Or.inr (by simp; omega)) (.int .i64 0)).setCell (p := ⟨z, 2, none⟩) (Or.inr (by simp; omega)) (.int .i64 0)).setCell (p := ⟨z, 3, none⟩) (Or.inr (by simp; omega)) (.int .i64 0)).setCell (p := ⟨z, 4, none⟩) (Or.inr (by simp; omega)) (.int .i64 0)).setCell (p := ⟨z, 5, none⟩) (Or.inr (by simp; omega)) (.int .i64 0)).setCell (p := ⟨z, 6, none⟩) (Or.inr (by simp; omega)) (.int .i64 0)).setCell (p := ⟨z, 7, none⟩) (Or.inr (by simp; omega)) (.int .i64 0)
        clear hR2 hB2 hX2
        generalize ((((((((ww2).setCell ⟨z, 0, none⟩ (.int .i64 0)).setCell ⟨z, 1, none⟩ (.int .i64 0)).setCell ⟨z, 2, none⟩ (.int .i64 0)).setCell ⟨z, 3, none⟩ (.int .i64 0)).setCell ⟨z, 4, none⟩ (.int .i64 0)).setCell ⟨z, 5, none⟩ (.int .i64 0)).setCell ⟨z, 6, none⟩ (.int .i64 0)).setCell ⟨z, 7, none⟩ (.int .i64 0) = w9 at *
        have r0 : w9.cell? ⟨z, 0, none⟩ = some (.int .i64 0) := hR9.cell 0
        have r1 : w9.cell? ⟨z, 1, none⟩ = some (.int .i64 0) := hR9.cell 1
        have r2 : w9.cell? ⟨z, 2, none⟩ = some (.int .i64 0) := hR9.cell 2
        have r3 : w9.cell? ⟨z, 3, none⟩ = some (.int .i64 0) := hR9.cell 3
        have r4 : w9.cell? ⟨z, 4, none⟩ = some (.int .i64 0) := hR9.cell 4
        have r5 : w9.cell? ⟨z, 5, none⟩ = some (.int .i64 0) := hR9.cell 5
        have r6 : w9.cell? ⟨z, 6, none⟩ = some (.int .i64 0) := hR9.cell 6
        have r7 : w9.cell? ⟨z, 7, none⟩ = some (.int .i64 0) := hR9.cell 7
        exact bodyPost_ret (v := .tuple #[.agg #[.int .i64 0, .int .i64 0, .int .i64 0, .int .i64 0, .int .i64 0, .int .i64 0, .int .i64 0, .int .i64 0], .int .i64 f]) (by simp [results, Try.results11, go_sem, r0, r1, r2, r3, r4, r5, r6, r7]) rfl (HQ1.out hf0 _ hB9 hX9)
    · replace hmx : s.old + 1 ≤ 1000000 := by omega
      have ho1 : s.old + 1 = o := by rw [HO.out]; unfold cAdd; omega
      have b11 := hB.cell 11
      have bf11 := hB.frozen 11
      go_upto_region 22 with fail
      clear b11 bf11
      have hB2 := hB.set 11 (.int .i64 o) rfl
      simp only [List.setIfInBounds_toArray, List.set_cons_succ, List.set_cons_zero] at hB2
      have hR2 := hR.other ⟨b, 11, none⟩ (.int .i64 o) hbz.symm
      have hX2 : Chg [b] w _ := hX.setCell (p := ⟨b, 11, none⟩) (Or.inl (by simp)) (.int .i64 o)
      clear hB hR hX
      generalize wc.setCell ⟨b, 11, none⟩ (.int .i64 o) = w2 at *
      clear ho1 HO
      have hB2d : WB b z #[.int .i64 s.step, .int .i64 s.most, .int .i64 s.last.cnt, .int .i64 s.last.flg, .int .i64 s.last.x, .int .i64 s.last.y, .int .i64 s.last.z, .int .i64 s.last.vx, .int .i64 s.last.vy, .int .i64 s.last.vz, .bool s.has, .int .i64 o] #[.int .i64 0, .int .i64 0, .int .i64 0, .int .i64 0, .int .i64 0, .int .i64 0, .int .i64 0, .int .i64 0] w 0 w2.drew := ⟨hB2.drew, hR2.drew, hX2.drew⟩
      clear hB2 hR2 hX2
      refine wp_region_stage (WB b z #[.int .i64 s.step, .int .i64 s.most, .int .i64 s.last.cnt, .int .i64 s.last.flg, .int .i64 s.last.x, .int .i64 s.last.y, .int .i64 s.last.z, .int .i64 s.last.vx, .int .i64 s.last.vy, .int .i64 s.last.vz, .bool s.has, .int .i64 o] #[.int .i64 0, .int .i64 0, .int .i64 0, .int .i64 0, .int .i64 0, .int .i64 0, .int .i64 0, .int .i64 0] w) [] [(0, 0, false), (0, 0, false), (0, 0, false), (0, 0, false), (0, 0, false), (0, 0, false), (0, 0, false), (0, 0, false), (0, 0, false)]
        (by kernel_rfl) (by kernel_rfl) (by kernel_rfl) (hB2d) ?_
      simp only [List.zip_cons_cons, List.zip_nil_right]
      refine wpStage_yes (by go_simp) ?_
      intro K hK
      apply Exists.intro
      refine ⟨fun kk ww2 hk1 hk2 hC => ?_, ?_⟩
      · go_simp
        with_reducible exact rfl
      go_simp
      refine hK _ ?_
      clear hK K
      refine wpStage_yes (by go_simp) ?_
      intro K hK
      apply Exists.intro
      refine ⟨fun kk ww2 hk1 hk2 hC => ?_, ?_⟩
      · go_simp
        with_reducible exact rfl
      go_simp
      refine hK _ ?_
      clear hK K
      refine wpStage_yes (by go_simp) ?_
      intro K hK
      apply Exists.intro
      refine ⟨fun kk ww2 hk1 hk2 hC => ?_, ?_⟩
      · go_simp
        with_reducible exact rfl
      go_simp
      refine hK _ ?_
      clear hK K
      refine wpStage_yes (by go_simp) ?_
      intro K hK
      apply Exists.intro
      refine ⟨fun kk ww2 hk1 hk2 hC => ?_, ?_⟩
      · have b11 := hC.hb.cell 11
        go_simp
        with_reducible exact rfl
      go_simp
      refine hK _ ?_
      clear hK K
      refine wpStage_yes (by go_simp) ?_
      intro K hK
      apply Exists.intro
      refine ⟨fun kk ww2 hk1 hk2 hC => ?_, ?_⟩
      · go_simp
        with_reducible exact rfl
      go_simp
      refine hK _ ?_
      clear hK K
      refine wpStage_yes (by go_simp) ?_
      intro K hK
      apply Exists.intro
      refine ⟨fun kk ww2 hk1 hk2 hC => ?_, ?_⟩
      · go_simp
        with_reducible exact rfl
      go_simp
      refine hK _ ?_
      clear hK K
      refine wpStage_yes (by go_simp) ?_
      intro K hK
      apply Exists.intro
      refine ⟨fun kk ww2 hk1 hk2 hC => ?_, ?_⟩
      · go_simp
        with_reducible exact rfl
      go_simp
      refine hK _ ?_
      clear hK K
      refine wpStage_yes (by go_simp) ?_
      intro K hK
      apply Exists.intro
      refine ⟨fun kk ww2 hk1 hk2 hC => ?_, ?_⟩
      · have b1 := hC.hb.cell 1
        go_simp
        with_reducible exact rfl
      go_simp
      refine hK _ ?_
      clear hK K
      refine wpStage_yes (by go_simp) ?_
      intro K hK
      apply Exists.intro
      refine ⟨fun kk ww2 hk1 hk2 hC => ?_, ?_⟩
      · go_simp
        with_reducible exact rfl
      go_simp
      refine hK _ ?_
      clear hK K
      refine wpStage_nil (fun ww2 hC => ?_)
      clear hB2d
      obtain ⟨hB2, hR2, hX2⟩ := hC
      by_cases hgt : o > s.most
      · obtain rfl := HSB.out.trans (if_pos hgt)
        replace hgt : s.most < o := hgt
        have b2 := hB2.cell 2
        have b3 := hB2.cell 3
        have b4 := hB2.cell 4
        have b5 := hB2.cell 5
        have b6 := hB2.cell 6
        have b7 := hB2.cell 7
        have b8 := hB2.cell 8
        have b9 := hB2.cell 9
        have b10 := hB2.cell 10
        have bf2 := hB2.frozen 2
        have bf3 := hB2.frozen 3
        have bf4 := hB2.frozen 4
        have bf5 := hB2.frozen 5
        have bf6 := hB2.frozen 6
        have bf7 := hB2.frozen 7
        have bf8 := hB2.frozen 8
        have bf9 := hB2.frozen 9
        have bf10 := hB2.frozen 10
        go_upto_region 25 with fail
        clear b2 bf2 b3 bf3 b4 bf4 b5 bf5 b6 bf6 b7 bf7 b8 bf8 b9 bf9 b10 bf10
        have hB3 := ((((((((hB2.set 10 (.bool false) rfl).set 2 (.int .i64 0) rfl).set 3 (.int .i64 0) rfl).set 4 (.int .i64 0) rfl).set 5 (.int .i64 0) rfl).set 6 (.int .i64 0) rfl).set 7 (.int .i64 0) rfl).set 8 (.int .i64 0) rfl).set 9 (.int .i64 0) rfl
        simp only [List.setIfInBounds_toArray, List.set_cons_succ, List.set_cons_zero] at hB3
        have hR3 := ((((((((hR2.other ⟨b, 10, none⟩ (.bool false) hbz.symm).other ⟨b, 2, none⟩ (.int .i64 0) hbz.symm).other ⟨b, 3, none⟩ (.int .i64 0) hbz.symm).other ⟨b, 4, none⟩ (.int .i64 0) hbz.symm).other ⟨b, 5, none⟩ (.int .i64 0) hbz.symm).other ⟨b, 6, none⟩ (.int .i64 0) hbz.symm).other ⟨b, 7, none⟩ (.int .i64 0) hbz.symm).other ⟨b, 8, none⟩ (.int .i64 0) hbz.symm).other ⟨b, 9, none⟩ (.int .i64 0) hbz.symm
        have hX3 := ((((((((hX2.setCell (p := ⟨b, 10, none⟩) (Or.inl (by simp)) (.bool false)).setCell (p := ⟨b, 2, none⟩) (Or.inl (by simp)) (.int .i64 0)).setCell (p := ⟨b, 3, none⟩) (Or.inl (by simp)) (.int .i64 0)).setCell (p := ⟨b, 4, none⟩) (Or.inl (by simp)) (.int .i64 0)).setCell (p := ⟨b, 5, none⟩) (Or.inl (by simp)) (.int .i64 0)).setCell (p := ⟨b, 6, none⟩) (Or.inl (by simp)) (.int .i64 0)).setCell (p := ⟨b, 7, none⟩) (Or.inl (by simp)) (.int .i64 0)).setCell (p := ⟨b, 8, none⟩) (Or.inl (by simp)) (.int .i64 0)).setCell (p := ⟨b, 9, none⟩) (Or.inl (by simp)) (.int .i64 0)
        clear hB2 hR2 hX2
        generalize (((((((((ww2.setCell ⟨b, 10, none⟩ (.bool false))).setCell ⟨b, 2, none⟩ (.int .i64 0)).setCell ⟨b, 3, none⟩ (.int .i64 0)).setCell ⟨b, 4, none⟩ (.int .i64 0)).setCell ⟨b, 5, none⟩ (.int .i64 0)).setCell ⟨b, 6, none⟩ (.int .i64 0)).setCell ⟨b, 7, none⟩ (.int .i64 0)).setCell ⟨b, 8, none⟩ (.int .i64 0)).setCell ⟨b, 9, none⟩ (.int .i64 0) = w3 at *
        have r0 := hR3.cell 0
        have r1 := hR3.cell 1
        have r2 := hR3.cell 2
        have r3 := hR3.cell 3
        have r4 := hR3.cell 4
        have r5 := hR3.cell 5
        have r6 := hR3.cell 6
        have r7 := hR3.cell 7
        have rf0 := hR3.frozen 0
        have rf1 := hR3.frozen 1
        have rf2 := hR3.frozen 2
        have rf3 := hR3.frozen 3
        have rf4 := hR3.frozen 4
        have rf5 := hR3.frozen 5
        have rf6 := hR3.frozen 6
        have rf7 := hR3.frozen 7
        go_wp2_with (with_reducible refine hold_post ?_)
        refine Lib.hid ?_
        clear r0 rf0 r1 rf1 r2 rf2 r3 rf3 r4 rf4 r5 rf5 r6 rf6 r7 rf7
        have hR9 := ((((((((hR3).set 0 (.int .i64 0) rfl).set 1 (.int .i64 0) rfl).set 2 (.int .i64 0) rfl).set 3 (.int .i64 0) rfl).set 4 (.int .i64 0) rfl).set 5 (.int .i64 0) rfl).set 6 (.int .i64 0) rfl).set 7 (.int .i64 0) rfl
        simp only [List.setIfInBounds_toArray, List.set_cons_succ, List.set_cons_zero] at hR9
        have hB9 := ((((((((hB3).other ⟨z, 0, none⟩ (.int .i64 0) hbz).other ⟨z, 1, none⟩ (.int .i64 0) hbz).other ⟨z, 2, none⟩ (.int .i64 0) hbz).other ⟨z, 3, none⟩ (.int .i64 0) hbz).other ⟨z, 4, none⟩ (.int .i64 0) hbz).other ⟨z, 5, none⟩ (.int .i64 0) hbz).other ⟨z, 6, none⟩ (.int .i64 0) hbz).other ⟨z, 7, none⟩ (.int .i64 0) hbz
        have hX9 := ((((((((hX3).setCell (p := ⟨z, 0, none⟩) (Or.inr (by simp; omega)) (.int .i64 0)).setCell (p := ⟨z, 1, none⟩) (Or.inr (by simp; omega)) (.int .i64 0)).setCell (p := ⟨z, 2, none⟩) (Or.inr (by simp; omega)) (.int .i64 0)).setCell (p := ⟨z, 3, none⟩) (Or.inr (by simp; omega)) (.int .i64 0)).setCell (p := ⟨z, 4, none⟩) (Or.inr (by simp; omega)) (.int .i64 0)).setCell (p := ⟨z, 5, none⟩) (Or.inr (by simp; omega)) (.int .i64 0)).setCell (p := ⟨z, 6, none⟩) (Or.inr (by simp; omega)) (.int .i64 0)).setCell (p := ⟨z, 7, none⟩) (Or.inr (by simp; omega)) (.int .i64 0)
        clear hR3 hB3 hX3
        generalize ((((((((w3).setCell ⟨z, 0, none⟩ (.int .i64 0)).setCell ⟨z, 1, none⟩ (.int .i64 0)).setCell ⟨z, 2, none⟩ (.int .i64 0)).setCell ⟨z, 3, none⟩ (.int .i64 0)).setCell ⟨z, 4, none⟩ (.int .i64 0)).setCell ⟨z, 5, none⟩ (.int .i64 0)).setCell ⟨z, 6, none⟩ (.int .i64 0)).setCell ⟨z, 7, none⟩ (.int .i64 0) = w9 at *
        have r0 : w9.cell? ⟨z, 0, none⟩ = some (.int .i64 0) := hR9.cell 0
        have r1 : w9.cell? ⟨z, 1, none⟩ = some (.int .i64 0) := hR9.cell 1
        have r2 : w9.cell? ⟨z, 2, none⟩ = some (.int .i64 0) := hR9.cell 2
        have r3 : w9.cell? ⟨z, 3, none⟩ = some (.int .i64 0) := hR9.cell 3
        have r4 : w9.cell? ⟨z, 4, none⟩ = some (.int .i64 0) := hR9.cell 4
        have r5 : w9.cell? ⟨z, 5, none⟩ = some (.int .i64 0) := hR9.cell 5
        have r6 : w9.cell? ⟨z, 6, none⟩ = some (.int .i64 0) := hR9.cell 6
        have r7 : w9.cell? ⟨z, 7, none⟩ = some (.int .i64 0) := hR9.cell 7
        exact bodyPost_ret (v := .tuple #[.agg #[.int .i64 0, .int .i64 0, .int .i64 0, .int .i64 0, .int .i64 0, .int .i64 0, .int .i64 0, .int .i64 0], .int .i64 f]) (by simp [results, Try.results11, go_sem, r0, r1, r2, r3, r4, r5, r6, r7]) rfl (HQ1.out hf0 _ hB9 hX9)
      · obtain rfl := HSB.out.trans (if_neg hgt)
        replace hgt : o ≤ s.most := by omega
        have r0 := hR2.cell 0
        have r1 := hR2.cell 1
        have r2 := hR2.cell 2
        have r3 := hR2.cell 3
        have r4 := hR2.cell 4
        have r5 := hR2.cell 5
        have r6 := hR2.cell 6
        have r7 := hR2.cell 7
        have rf0 := hR2.frozen 0
        have rf1 := hR2.frozen 1
        have rf2 := hR2.frozen 2
        have rf3 := hR2.frozen 3
        have rf4 := hR2.frozen 4
        have rf5 := hR2.frozen 5
        have rf6 := hR2.frozen 6
        have rf7 := hR2.frozen 7
        go_wp2_with (with_reducible refine hold_post ?_)
        refine Lib.hid ?_
        clear r0 rf0 r1 rf1 r2 rf2 r3 rf3 r4 rf4 r5 rf5 r6 rf6 r7 rf7
        have hR9 := ((((((((hR2).set 0 (.int .i64 0) rfl).set 1 (.int .i64 0) rfl).set 2 (.int .i64 0) rfl).set 3 (.int .i64 0) rfl).set 4 (.int .i64 0) rfl).set 5 (.int .i64 0) rfl).set 6 (.int .i64 0) rfl).set 7 (.int .i64 0) rfl
        simp only [List.setIfInBounds_toArray, List.set_cons_succ, List.set_cons_zero] at hR9
        have hB9 := ((((((((hB2).other ⟨z, 0, none⟩ (.int .i64 0) hbz).other ⟨z, 1, none⟩ (.int .i64 0) hbz).other ⟨z, 2, none⟩ (.int .i64 0) hbz).other ⟨z, 3, none⟩ (.int .i64 0) hbz).other ⟨z, 4, none⟩ (.int .i64 0) hbz).other ⟨z, 5, none⟩ (.int .i64 0) hbz).other ⟨z, 6, none⟩ (.int .i64 0) hbz).other ⟨z, 7, none⟩ (.int .i64 0) hbz
        have hX9 := ((((((((hX2).setCell (p := ⟨z, 0, none⟩) (Or.inr (by simp; omega)) (.int .i64 0)).setCell (p := ⟨z, 1, none⟩) (Or.inr (by simp; omega)) (.int .i64 0)).setCell (p := ⟨z, 2, none⟩) (Or.inr (by simp; omega)) (.int .i64 0)).setCell (p := ⟨z, 3, none⟩) (Or.inr (by simp; omega)) (.int .i64 0)).setCell (p := ⟨z, 4, none⟩) (Or.inr (by simp; omega)) (.int .i64 0)).setCell (p := ⟨z, 5, none⟩) (Or.inr (by simp; omega)) (.int .i64 0)).setCell (p := ⟨z, 6, none⟩) (Or.inr (by simp; omega)) (.int .i64 0)).setCell (p := ⟨z, 7, none⟩) (Or.inr (by simp; omega)) (.int .i64 0)
        clear hR2 hB2 hX2
        generalize ((((((((ww2).setCell ⟨z, 0, none⟩ (.int .i64 0)).setCell ⟨z, 1, none⟩ (.int .i64 0)).setCell ⟨z, 2, none⟩ (.int .i64 0)).setCell ⟨z, 3, none⟩ (.int .i64 0)).setCell ⟨z, 4, none⟩ (.int .i64 0)).setCell ⟨z, 5, none⟩ (.int .i64 0)).setCell ⟨z, 6, none⟩ (.int .i64 0)).setCell ⟨z, 7, none⟩ (.int .i64 0) = w9 at *
        have r0 : w9.cell? ⟨z, 0, none⟩ = some (.int .i64 0) := hR9.cell 0
        have r1 : w9.cell? ⟨z, 1, none⟩ = some (.int .i64 0) := hR9.cell 1
        have r2 : w9.cell? ⟨z, 2, none⟩ = some (.int .i64 0) := hR9.cell 2
        have r3 : w9.cell? ⟨z, 3, none⟩ = some (.int .i64 0) := hR9.cell 3
        have r4 : w9.cell? ⟨z, 4, none⟩ = some (.int .i64 0) := hR9.cell 4
        have r5 : w9.cell? ⟨z, 5, none⟩ = some (.int .i64 0) := hR9.cell 5
        have r6 : w9.cell? ⟨z, 6, none⟩ = some (.int .i64 0) := hR9.cell 6
        have r7 : w9.cell? ⟨z, 7, none⟩ = some (.int .i64 0) := hR9.cell 7
        exact bodyPost_ret (v := .tuple #[.agg #[.int .i64 0, .int .i64 0, .int .i64 0, .int .i64 0, .int .i64 0, .int .i64 0, .int .i64 0, .int .i64 0], .int .i64 f]) (by simp [results, Try.results11, go_sem, r0, r1, r2, r3, r4, r5, r6, r7]) rfl (HQ1.out hf0 _ hB9 hX9)
end Go.Proofs.Ytmdgikikiijjbaa
