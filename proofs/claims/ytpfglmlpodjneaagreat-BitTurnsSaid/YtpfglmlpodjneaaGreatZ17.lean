/- Mi2, Rdr, Few. -/
import Derived.Test.YtpfglmlpodjneaaGreatZ15
import Derived.Test.YtpfglmlpodjneaaGreatZ16
import Derived.Test.YtpfglmlpodjneaaGreatZ14
import Derived.Test.YtpfglmlpodjneaaGreatZ04
set_option linter.unusedSimpArgs false
set_option linter.unusedVariables false
namespace Go.Proofs.YtpfglmlpodjneaaGreat
open Go.RowKit

def sqP : PhV := ⟨[⟨-1000, -1000⟩, ⟨1000, -1000⟩, ⟨1000, 1000⟩, ⟨-1000, 1000⟩], 1, 200, 5, 100⟩
def mis : RuV := ⟨List.replicate 2 sqP, 2, 3, 4, 2, 50, 2, 10, 2⟩
theorem mis_wrong : wrongN mis = 0 := by kernel_rfl
set_option maxRecDepth 100000 in
set_option maxHeartbeats 4000000 in
theorem mission_any (W : World) : Calls Tryz.prog 18 #[.int .i64 2] W fun e w' => ∃ va, e = .returned (.agg (mis.cells va)) ∧ (∀ (S : List Nat) (w2 : World), (∀ b ∈ S, b < W.heap.size) → Chg S w' w2 → PhsR w2 va mis.phs) ∧ Chg [] W w' := by
  have C := (CL.new W 0).push #[.slice none 0 0, .int .i64 0, .int .i64 0, .int .i64 0, .int .i64 0, .int .i64 0, .int .i64 0, .int .i64 0, .int .i64 0] 25
  go_enter Tryz.func18, Tryz.ntmps18
  go_upto_region 1 with fail
  generalize hz : W.heap.size = z at *
  have hzW : W.heap.size ≤ z := by omega
  generalize W.alloc (.cells #[.slice none 0 0, .int .i64 0, .int .i64 0, .int .i64 0, .int .i64 0, .int .i64 0, .int .i64 0, .int .i64 0, .int .i64 0] 25) = w1 at *
  clear hz
  have hN := At.new w1 #[.slice none 0 0, .int .i64 0, .int .i64 0, .int .i64 0, .int .i64 0, .int .i64 0, .int .i64 0, .int .i64 0, .int .i64 0] 25
  have CN := C.push #[.slice none 0 0, .int .i64 0, .int .i64 0, .int .i64 0, .int .i64 0, .int .i64 0, .int .i64 0, .int .i64 0, .int .i64 0] 25
  go_wp2_with (refine wpList_put rfl rfl rfl rfl hN rfl (by kernel_rfl) (by simp [Value.oneCell']) ?_; intro w3 hY3 hX3; refine Hid.out ?_)
  refine Lib.hid ?_
  generalize hyy : w1.heap.size = y at *
  have hzy : z < y := by rw [← hyy]; exact (C.get 0 rfl).lt
  have hWy : W.heap.size ≤ y := by omega
  have C3 : CL W [(y, #[.slice none 0 0, .int .i64 2, .int .i64 3, .int .i64 4, .int .i64 2, .int .i64 50, .int .i64 2, .int .i64 10, .int .i64 2]), (z, #[.slice none 0 0, .int .i64 0, .int .i64 0, .int .i64 0, .int .i64 0, .int .i64 0, .int .i64 0, .int .i64 0, .int .i64 0])] 0 w3 := CN.upd hX3 hY3 hWy _ (by intro q hq; simp only [List.mem_cons, List.not_mem_nil, or_false] at hq; rcases hq with rfl | rfl; exact .inl rfl; exact .inr ⟨by simp, by simp; omega⟩)
  clear C CN hN hX3 hY3 hyy
  have hyb : y < w3.heap.size := (C3.get 0 rfl).lt
  obtain ⟨b0, hb0⟩ : ∃ b0, b0 = w3.heap.size := ⟨_, rfl⟩
  rw [← hb0] at hyb
  have hb0 : b0 ≤ w3.heap.size := Nat.le_of_eq hb0
  go_wp2_with fail
  go_loopg [7] 2 (fun gk ii wr => ∃ (k : Nat) (va : Value), k + gk = 2 ∧ ii = .int .i64 k ∧ CL W [(y, #[va, .int .i64 2, .int .i64 3, .int .i64 4, .int .i64 2, .int .i64 50, .int .i64 2, .int .i64 10, .int .i64 2]), (z, #[.slice none 0 0, .int .i64 0, .int .i64 0, .int .i64 0, .int .i64 0, .int .i64 0, .int .i64 0, .int .i64 0, .int .i64 0])] 0 wr ∧ PhsB wr b0 va (List.replicate k sqP) ∧ b0 ≤ wr.heap.size)
  case atStart => exact ⟨0, _, by omega, rfl, C3, PhsB.nil _ _, hb0⟩
  case round =>
    clear C3 hb0
    obtain ⟨k, va, hk, rfl, C, hP, hb0⟩ := hrel
    by_cases hlt : k < 2
    · have hrl : (List.replicate k sqP).length = k := List.length_replicate
      have hrs := List.replicate_succ' (n := k) (a := sqP)
      generalize List.replicate k sqP = RL at *
      have Hrs := Lib.hid hrs
      clear hrs
      have k1 : (k : Int) < 2 := by omega
      have hY := C.get 0 rfl
      dsimp only at hY
      have cY := hY.cell 0
      have hX2 : Chg [] wr ((wr.alloc (.cells #[.int .i64 (-1000), .int .i64 (-1000), .int .i64 1000, .int .i64 (-1000), .int .i64 1000, .int .i64 1000, .int .i64 (-1000), .int .i64 1000] 53)).alloc (.cells #[.slice (some ⟨wr.heap.size, 0, none⟩) 4 4, .int .i64 1, .int .i64 200, .int .i64 5, .int .i64 100] 51)) := ((Chg.refl [] wr).alloc _).alloc _
      have hN := At.new (wr.alloc (.cells #[.int .i64 (-1000), .int .i64 (-1000), .int .i64 1000, .int .i64 (-1000), .int .i64 1000, .int .i64 1000, .int .i64 (-1000), .int .i64 1000] 53)) #[.slice (some ⟨wr.heap.size, 0, none⟩) 4 4, .int .i64 1, .int .i64 200, .int .i64 5, .int .i64 100] 51
      simp only [alloc_sz] at hN
      have hAr0 : AreaB (wr.alloc (.cells #[.int .i64 (-1000), .int .i64 (-1000), .int .i64 1000, .int .i64 (-1000), .int .i64 1000, .int .i64 1000, .int .i64 (-1000), .int .i64 1000] 53)) b0 (.slice (some ⟨wr.heap.size, 0, none⟩) 4 4) sqP.area := World.ownsRow_lit (base := b0) (e := 53) (size := 2) wr #[.int .i64 (-1000), .int .i64 (-1000), .int .i64 1000, .int .i64 (-1000), .int .i64 1000, .int .i64 1000, .int .i64 (-1000), .int .i64 1000] 4 hb0 (by unfold maxLen; omega) (by rfl)
      have hAr : AreaB ((wr.alloc (.cells #[.int .i64 (-1000), .int .i64 (-1000), .int .i64 1000, .int .i64 (-1000), .int .i64 1000, .int .i64 1000, .int .i64 (-1000), .int .i64 1000] 53)).alloc (.cells #[.slice (some ⟨wr.heap.size, 0, none⟩) 4 4, .int .i64 1, .int .i64 200, .int .i64 5, .int .i64 100] 51)) b0 (.slice (some ⟨wr.heap.size, 0, none⟩) 4 4) sqP.area := World.ownsRow.alloc hAr0 _
      clear hAr0
      obtain ⟨vs, v1, v2, v3⟩ := (hP.keep hX2 (by simp)).ex
      have Hrl := Lib.hid hrl
      clear hrl
      obtain ⟨ti, hi, hz0, hz1, hzb5⟩ := info_parts info_ph
      have hnews : ∀ j u, ([.slice (some ⟨wr.heap.size, 0, none⟩) 4 4, .int .i64 1, .int .i64 200, .int .i64 5, .int .i64 100] : List Value)[j]? = some u → ((wr.alloc (.cells #[.int .i64 (-1000), .int .i64 (-1000), .int .i64 1000, .int .i64 (-1000), .int .i64 1000, .int .i64 1000, .int .i64 (-1000), .int .i64 1000] 53)).alloc (.cells #[.slice (some ⟨wr.heap.size, 0, none⟩) 4 4, .int .i64 1, .int .i64 200, .int .i64 5, .int .i64 100] 51)).cell? ((⟨wr.heap.size + 1, 0, none⟩ : Addr).add j) = some u := by
        intro j u hu
        rw [addr_add, hN.cell j]
        simpa using hu
      have hone5 : ∀ u ∈ ([.slice (some ⟨wr.heap.size, 0, none⟩) 4 4, .int .i64 1, .int .i64 200, .int .i64 5, .int .i64 100] : List Value), u.oneCell' = true := by
        intro u hu
        simp only [List.mem_cons, List.not_mem_nil, or_false] at hu
        rcases hu with rfl | rfl | rfl | rfl | rfl
        · rfl
        · rfl
        · rfl
        · rfl
        · rfl
      have Hnews := Lib.hid hnews
      have Hone5 := Lib.hid hone5
      have Hi := Lib.hid hi
      have Hz0 := Lib.hid hz0
      have Hz1 := Lib.hid hz1
      have Hzb := Lib.hid hzb5
      have Hv1 := Lib.hid v1
      have Hv3 := Lib.hid v3
      clear hnews hone5 hi hz0 hz1 hzb5 v1 v3
      have hL2 : RL.length ≤ 2 := by have := Hrl.out; omega
      have hyz : y ≠ z := by omega
      have hbW2 : b0 ≤ ((wr.alloc (.cells #[.int .i64 (-1000), .int .i64 (-1000), .int .i64 1000, .int .i64 (-1000), .int .i64 1000, .int .i64 1000, .int .i64 (-1000), .int .i64 1000] 53)).alloc (.cells #[.slice (some ⟨wr.heap.size, 0, none⟩) 4 4, .int .i64 1, .int .i64 200, .int .i64 5, .int .i64 100] 51)).heap.size := Nat.le_trans hb0 hX2.size
      go_wp2_with (at_builtin; refine wpList_append_own _ rfl (.tmp 10) (.tmp 17) 23 rfl b0 51 ti (.agg #[.slice none 0 0, .int .i64 0, .int .i64 0, .int .i64 0, .int .i64 0]) 5 56 und_phs Hi.out Hz0.out Hz1.out Hzb.out rfl (by decide) va RL.length (phCells vs RL) rfl v2 ⟨wr.heap.size + 1, 0, none⟩ 1 1 [.slice (some ⟨wr.heap.size, 0, none⟩) 4 4, .int .i64 1, .int .i64 200, .int .i64 5, .int .i64 100] rfl rfl Hnews.out Hone5.out (by unfold maxLen; omega) (by omega) hbW2 ?_; intro v9 w9 h9 hg9 _; refine Hid.out ?_)
      refine Lib.hid ?_
      have hP9 : PhsB w9 b0 v9 (RL ++ [sqP]) := PhsB.app1 vs Hv1.out v2 Hv3.out hAr h9 hg9
      have hXa : Chg [] W w9 := row_grown v2 (C.x.trans hX2) hg9 (by omega)
      have hY9 : At w9 y #[va, .int .i64 2, .int .i64 3, .int .i64 4, .int .i64 2, .int .i64 50, .int .i64 2, .int .i64 10, .int .i64 2] := row_far v2 hg9 (hX2.at hY (by simp)) hyb
      have hZ9 : At w9 z #[.slice none 0 0, .int .i64 0, .int .i64 0, .int .i64 0, .int .i64 0, .int .i64 0, .int .i64 0, .int .i64 0, .int .i64 0] := row_far v2 hg9 (hX2.at (C.get 1 rfl) (by simp)) (by omega)
      obtain ⟨g9, cap9, rfl, -, -⟩ := World.ownsRow.form h9 (by omega)
      have cY9 := hY9.cell 0
      have fY9 := hY9.frozen 0
      clear cY
      have hYs := hY9.set 0 (.slice (some ⟨g9, 0, none⟩) (RL.length + 1) cap9) rfl
      simp only [List.setIfInBounds_toArray, List.set_cons_zero] at hYs
      have hXs : Chg [y] w9 (w9.setCell ⟨y, 0, none⟩ (.slice (some ⟨g9, 0, none⟩) (RL.length + 1) cap9)) := (Chg.refl [y] w9).setCell (.inl (by simp)) _
      have hZs := hXs.at hZ9 (by simp; omega)
      have hPs := hP9.keep hXs (by simp; omega)
      have hXw := hXa.then hXs (fun x hx hl => by simp at hx; omega)
      have hbs := Nat.le_trans (Nat.le_trans hbW2 hg9.size) hXs.size
      have hCs : CL W [(y, #[.slice (some ⟨g9, 0, none⟩) (RL.length + 1) cap9, .int .i64 2, .int .i64 3, .int .i64 4, .int .i64 2, .int .i64 50, .int .i64 2, .int .i64 10, .int .i64 2]), (z, #[.slice none 0 0, .int .i64 0, .int .i64 0, .int .i64 0, .int .i64 0, .int .i64 0, .int .i64 0, .int .i64 0, .int .i64 0])] 0 _ := ⟨fun e he => by simp only [List.mem_cons, List.not_mem_nil, or_false] at he; rcases he with rfl | rfl; exact hYs; exact hZs, hXw⟩
      go_wp2_with fail
      go_roundg (gk - 1)
      case rel => exact ⟨k + 1, _, by omega, by go_num, hCs, by rw [Hrs.out]; exact hPs, hbs⟩
      case measure => omega
    · obtain rfl : gk = 0 := by omega
      obtain rfl : k = 2 := by omega
      have hy := C.get 0 rfl
      have hz := C.get 1 rfl
      dsimp only at hy hz
      obtain ⟨ad, cap, rfl⟩ := hP.toA.len_
      go_wp2_with (first | (refine wpList_get rfl rfl rfl hy (by kernel_rfl) ?_) | (refine wpList_put rfl rfl rfl rfl hz rfl (by kernel_rfl) (by simp [Value.oneCell']) ?_; intro w8 hz8 hX8; refine Hid.out ?_))
      refine Lib.hid ?_
      go_wp2_with (with_reducible refine hold_post ?_)
      refine Lib.hid ?_
      exact bodyPost_ret (res_c rfl hz8 (by kernel_rfl) rfl) rfl ⟨_, rfl, fun S wq hS hq => ((hP.keep hX8 (by simp; omega)).keep hq (fun b hb => by have := hS b hb; omega)).phs (by simp [mis]) (by intro p hp; rw [List.eq_of_mem_replicate hp]; decide), C.x.then hX8 (fun x hx hl => by simp at hx; omega)⟩
end Go.Proofs.YtpfglmlpodjneaaGreat
namespace Go.Proofs.YtpfglmlpodjneaaGreat
open Go.RowKit

set_option maxRecDepth 100000 in
set_option maxHeartbeats 2000000 in
theorem qread_a (W : World) (s : ByteArray) (hs0 : s.size ≤ 1000000) (hm : magicB s = false) : Calls Tryz.prog 10 #[.string s] W (RdPost W (readV s)) := by
  have HV : Hid (readV s = (zRu, 3)) := Lib.hid (by unfold readV; rw [if_pos hm])
  have Hno : Hid (¬ ∀ j, j < min s.size 4 → by_ s j = by_ aftu j) := Lib.hid (by rw [← magic_iff, hm]; simp)
  have C := (CL.new W 0).push #[.slice none 0 0, .int .i64 0, .int .i64 0, .int .i64 0, .int .i64 0, .int .i64 0, .int .i64 0, .int .i64 0, .int .i64 0] 25
  go_enter Tryz.func10, Tryz.ntmps10
  go_upto_region 1 with fail
  generalize hz : W.heap.size = z at *
  have hzW : W.heap.size ≤ z := by omega
  generalize W.alloc (.cells #[.slice none 0 0, .int .i64 0, .int .i64 0, .int .i64 0, .int .i64 0, .int .i64 0, .int .i64 0, .int .i64 0, .int .i64 0] 25) = w1 at *
  clear hz
  go_wp2_with fail
  go_loopg [4] 4 (fun gk ii wr => ∃ i : Nat, i + gk = 4 ∧ ii = .int .i64 i ∧ CL W [(z, #[.slice none 0 0, .int .i64 0, .int .i64 0, .int .i64 0, .int .i64 0, .int .i64 0, .int .i64 0, .int .i64 0, .int .i64 0])] 0 wr ∧ Hid (∀ j, j < i → j < s.size → by_ s j = by_ aftu j))
  case atStart => exact ⟨0, by omega, rfl, C, Lib.hid (fun j h => by omega)⟩
  case round =>
    clear C
    obtain ⟨i, hi, rfl, C, HP⟩ := hrel
    by_cases hlt : i < s.size ∧ i < 4
    · obtain ⟨h1, h4⟩ := hlt
      have j0 : (0 : Int) ≤ (i : Int) := by omega
      have j1 : (i : Int) < (s.size : Int) := by omega
      have j2 : (i : Int).toNat = i := by omega
      have j3 : (i : Int) < 4 := by omega
      have hsz4 : ByteArray.size ⟨#[65, 70, 84, 85]⟩ = 4 := rfl
      have gs := by_get s i (by omega)
      have ga := by_get ⟨#[65, 70, 84, 85]⟩ i (by show i < 4; omega)
      have hba : by_ ⟨#[65, 70, 84, 85]⟩ i = by_ aftu i := rfl
      rw [hba] at ga
      clear hba
      by_cases heq : by_ s i = by_ aftu i
      · have HP2 : Hid (∀ j, j < i + 1 → j < s.size → by_ s j = by_ aftu j) := Lib.hid (fun j hj hs => by by_cases e : j = i; subst e; exact heq; exact HP.out j (by omega) hs)
        generalize by_ aftu i = y at *
        rw [← heq] at ga
        clear heq
        skip
        go_wp2_with fail
        go_quiet (fail)
        go_wp2_with fail
        go_roundg (gk - 1)
        case rel => exact ⟨i + 1, by omega, by go_num, C.step ((Chg.refl [] _).drewN _), HP2⟩
        case measure => omega
      · have hne : (by_ s i == by_ aftu i) = false := by simpa using heq
        skip
        generalize by_ aftu i = y at *
        generalize by_ s i = y2 at *
        go_wp2_with fail
        go_quiet (fail)
        have CD := fun n => C.step (j := 0) ((Chg.refl [] wr).drewN n)
        go_upto_region 5 with fail
        generalize hw9 : wr.drewN _ = w9
        have C9 : CL W [(z, #[.slice none 0 0, .int .i64 0, .int .i64 0, .int .i64 0, .int .i64 0, .int .i64 0, .int .i64 0, .int .i64 0, .int .i64 0])] 0 w9 := by rw [← hw9]; exact CD _
        clear hw9
        have hz := C9.get 0 rfl
        dsimp only at hz
        refine wp_region_lit ?_
        refine wpList_bld rfl rfl #[.slice none 0 0, .int .i64 0, .int .i64 0, .int .i64 0, .int .i64 0, .int .i64 0, .int .i64 0, .int .i64 0, .int .i64 0] (by kernel_rfl) ?_
        refine wpList_put rfl rfl rfl rfl hz rfl (by kernel_rfl) (by simp [Value.oneCell']) ?_
        intro w5 hA5 hX5
        go_wp2_with (with_reducible refine hold_post ?_)
        refine Lib.hid ?_
        exact bodyPost_ret (res_ct rfl hA5 (by kernel_rfl) rfl) rfl ⟨.slice none 0 0, by rw [HV.out]; rfl, by intro S wq hS hq; rw [HV.out]; exact nil_phs _, C9.x.then hX5 (fun x hx hl => by simp at hx; omega)⟩
    · exfalso
      exact Hno.out (fun j hj => HP.out j (by omega) (by omega))
set_option maxRecDepth 100000 in
set_option maxHeartbeats 2000000 in
theorem qread_b (W : World) (s : ByteArray) (hs0 : s.size ≤ 1000000) (hm : magicB s = true) (h22 : s.size < 22) : Calls Tryz.prog 10 #[.string s] W (RdPost W (readV s)) := by
  have HV : Hid (readV s = (zRu, 5)) := Lib.hid (by unfold readV; rw [if_neg (by rw [hm]; simp), if_pos h22])
  have HMg : Hid (∀ j, j < min s.size 4 → by_ s j = by_ aftu j) := Lib.hid ((magic_iff s).1 hm)
  have C := (CL.new W 0).push #[.slice none 0 0, .int .i64 0, .int .i64 0, .int .i64 0, .int .i64 0, .int .i64 0, .int .i64 0, .int .i64 0, .int .i64 0] 25
  obtain ⟨m, hm4⟩ : ∃ m, min s.size 4 = m := ⟨_, rfl⟩
  have hm5 : m = s.size ∨ m = 4 := by omega
  have hm6 : m ≤ s.size ∧ m ≤ 4 := by omega
  go_enter Tryz.func10, Tryz.ntmps10
  go_upto_region 1 with fail
  generalize hz : W.heap.size = z at *
  have hzW : W.heap.size ≤ z := by omega
  generalize W.alloc (.cells #[.slice none 0 0, .int .i64 0, .int .i64 0, .int .i64 0, .int .i64 0, .int .i64 0, .int .i64 0, .int .i64 0, .int .i64 0] 25) = w1 at *
  clear hz
  go_wp2_with fail
  go_loopg [4] m (fun gk ii wr => ∃ i : Nat, i + gk = m ∧ ii = .int .i64 i ∧ CL W [(z, #[.slice none 0 0, .int .i64 0, .int .i64 0, .int .i64 0, .int .i64 0, .int .i64 0, .int .i64 0, .int .i64 0, .int .i64 0])] 0 wr)
  case atStart => exact ⟨0, by omega, rfl, C⟩
  case round =>
    clear C
    obtain ⟨i, hi, rfl, C⟩ := hrel
    by_cases hlt : i < m
    · have h1 : i < s.size := by omega
      have h4 : i < 4 := by omega
      have j0 : (0 : Int) ≤ (i : Int) := by omega
      have j1 : (i : Int) < (s.size : Int) := by omega
      have j2 : (i : Int).toNat = i := by omega
      have j3 : (i : Int) < 4 := by omega
      have hsz4 : ByteArray.size ⟨#[65, 70, 84, 85]⟩ = 4 := rfl
      have gs := by_get s i (by omega)
      have ga := by_get ⟨#[65, 70, 84, 85]⟩ i (by show i < 4; omega)
      have hba : by_ ⟨#[65, 70, 84, 85]⟩ i = by_ aftu i := rfl
      rw [hba] at ga
      clear hba
      have heq : by_ s i = by_ aftu i := HMg.out i (by omega)
      rw [← heq] at ga
      clear heq
      go_wp2_with fail
      go_quiet (fail)
      go_wp2_with fail
      go_roundg (gk - 1)
      case rel => exact ⟨i + 1, by omega, by go_num, C.step ((Chg.refl [] _).drewN _)⟩
      case measure => omega
    · obtain rfl : gk = 0 := by omega
      have him : i = m := by omega
      have hlt22 : (s.size : Int) < 22 := by omega
      by_cases hs4 : s.size < 4
      · have hx : ¬((i : Int) < (s.size : Int)) := by omega
        clear him
        go_upto_region 7 with fail
        have hz := C.get 0 rfl
        dsimp only at hz
        refine wp_region_lit ?_
        refine wpList_bld rfl rfl #[.slice none 0 0, .int .i64 0, .int .i64 0, .int .i64 0, .int .i64 0, .int .i64 0, .int .i64 0, .int .i64 0, .int .i64 0] (by kernel_rfl) ?_
        refine wpList_put rfl rfl rfl rfl hz rfl (by kernel_rfl) (by simp [Value.oneCell']) ?_
        intro w5 hA5 hX5
        go_wp2_with (with_reducible refine hold_post ?_)
        refine Lib.hid ?_
        exact bodyPost_ret (res_ct rfl hA5 (by kernel_rfl) rfl) rfl ⟨.slice none 0 0, by rw [HV.out]; rfl, by intro S wq hS hq; rw [HV.out]; exact nil_phs _, C.x.then hX5 (fun x hx hl => by simp at hx; omega)⟩
      · have hx : ¬((i : Int) < 4) := by omega
        clear him
        by_cases hx2 : (i : Int) < (s.size : Int)
        · go_upto_region 7 with fail
          have hz := C.get 0 rfl
          dsimp only at hz
          refine wp_region_lit ?_
          refine wpList_bld rfl rfl #[.slice none 0 0, .int .i64 0, .int .i64 0, .int .i64 0, .int .i64 0, .int .i64 0, .int .i64 0, .int .i64 0, .int .i64 0] (by kernel_rfl) ?_
          refine wpList_put rfl rfl rfl rfl hz rfl (by kernel_rfl) (by simp [Value.oneCell']) ?_
          intro w5 hA5 hX5
          go_wp2_with (with_reducible refine hold_post ?_)
          refine Lib.hid ?_
          exact bodyPost_ret (res_ct rfl hA5 (by kernel_rfl) rfl) rfl ⟨.slice none 0 0, by rw [HV.out]; rfl, by intro S wq hS hq; rw [HV.out]; exact nil_phs _, C.x.then hX5 (fun x hx hl => by simp at hx; omega)⟩
        · go_upto_region 7 with fail
          have hz := C.get 0 rfl
          dsimp only at hz
          refine wp_region_lit ?_
          refine wpList_bld rfl rfl #[.slice none 0 0, .int .i64 0, .int .i64 0, .int .i64 0, .int .i64 0, .int .i64 0, .int .i64 0, .int .i64 0, .int .i64 0] (by kernel_rfl) ?_
          refine wpList_put rfl rfl rfl rfl hz rfl (by kernel_rfl) (by simp [Value.oneCell']) ?_
          intro w5 hA5 hX5
          go_wp2_with (with_reducible refine hold_post ?_)
          refine Lib.hid ?_
          exact bodyPost_ret (res_ct rfl hA5 (by kernel_rfl) rfl) rfl ⟨.slice none 0 0, by rw [HV.out]; rfl, by intro S wq hS hq; rw [HV.out]; exact nil_phs _, C.x.then hX5 (fun x hx hl => by simp at hx; omega)⟩
end Go.Proofs.YtpfglmlpodjneaaGreat
namespace Go.Proofs.YtpfglmlpodjneaaGreat
open Go.RowKit

/-- a block that is made (d), and filled (s) -/
structure PtW (Z0 : Array Value) (zb : Nat) (w : World) (d s : Bool) (v : Value) (Z : Array Value) : Prop where
  blk : d = true → ∃ y, v = .pointer (some ⟨y, 0, none⟩) ∧ zb ≤ y ∧ y < w.heap.size ∧ At w y (if s = true then Z else Z0)
  ord : s = true → d = true
structure PL (Z0 : Array Value) (zb : Nat) (w : World) (l : List (Bool × Bool × Value × Array Value)) : Prop where
  each : ∀ (i : Nat) (d s : Bool) (v : Value) (Z : Array Value), l[i]? = some (d, s, v, Z) → PtW Z0 zb w d s v Z
  far : ∀ (i j : Nat) (d s : Bool) (v : Value) (Z : Array Value) (d' s' : Bool) (v' : Value) (Z' : Array Value), i ≠ j → l[i]? = some (d, s, v, Z) → l[j]? = some (d', s', v', Z') → d = true → d' = true → v ≠ v'
  sz : zb ≤ w.heap.size
theorem PL.none_ {Z0 : Array Value} {zb : Nat} {w : World} {l : List (Bool × Bool × Value × Array Value)} (h : ∀ (i : Nat) (d s : Bool) (v : Value) (Z : Array Value), l[i]? = some (d, s, v, Z) → d = false ∧ s = false) (hz : zb ≤ w.heap.size) : PL Z0 zb w l := by
  refine ⟨fun i d s v Z hi => ?_, fun i j d s v Z d' s' v' Z' _ hi _ hd => ?_, hz⟩
  · obtain ⟨rfl, rfl⟩ := h i d s v Z hi
    exact ⟨fun h => by simp at h, fun h => by simp at h⟩
  · rw [(h i d s v Z hi).1] at hd; cases hd
theorem PL.keep {Z0 : Array Value} {zb : Nat} {w w' : World} {l : List (Bool × Bool × Value × Array Value)} (h : PL Z0 zb w l) (hX : Chg [] w w') : PL Z0 zb w' l := by
  refine ⟨fun i d s v Z hi => ⟨fun hd => ?_, (h.each i d s v Z hi).ord⟩, h.far, Nat.le_trans h.sz hX.size⟩
  obtain ⟨y, h1, h2, h3, h4⟩ := (h.each i d s v Z hi).blk hd
  exact ⟨y, h1, h2, Nat.lt_of_lt_of_le h3 hX.size, hX.at h4 (by simp)⟩
theorem PL.alloc {Z0 : Array Value} {zb : Nat} {w : World} {l : List (Bool × Bool × Value × Array Value)} (h : PL Z0 zb w l) (i : Nat) {s : Bool} {v : Value} {Z : Array Value} (hi : l[i]? = some (false, s, v, Z)) (T : TypeId) :
    PL Z0 zb (w.alloc (.cells Z0 T)) (l.set i (true, s, .pointer (some ⟨w.heap.size, 0, none⟩), Z)) := by
  have hs : s = false := by cases s; rfl; exact absurd ((h.each i _ _ _ _ hi).ord rfl) (by simp)
  subst hs
  have hlt : i < l.length := (List.getElem?_eq_some_iff.1 hi).1
  have hk := h.keep ((Chg.refl [] w).alloc (.cells Z0 T))
  have hnew : ∀ (j : Nat) (d s : Bool) (u : Value) (Z : Array Value), l[j]? = some (d, s, u, Z) → d = true → u ≠ .pointer (some ⟨w.heap.size, 0, none⟩) := by
    intro j d s u Z hj hd hu
    obtain ⟨y, h1, h2, h3, h4⟩ := (h.each j d s u Z hj).blk hd
    rw [hu] at h1
    simp only [Value.pointer.injEq, Option.some.injEq, Addr.mk.injEq] at h1
    omega
  refine ⟨fun j d s u Z' hj => ?_, fun j k d s u Z1 d' s' u' Z2 hne hj hk' hd hd' => ?_, Nat.le_trans h.sz (by simp)⟩
  · rw [List.getElem?_set] at hj
    by_cases hij : i = j
    · rw [if_pos hij, if_pos hlt] at hj
      simp only [Option.some.injEq, Prod.mk.injEq] at hj
      obtain ⟨rfl, rfl, rfl, rfl⟩ := hj
      exact ⟨fun _ => ⟨_, rfl, h.sz, by simp, by simpa using At.new w Z0 T⟩, fun h => by simp at h⟩
    · rw [if_neg hij] at hj
      exact hk.each j d s u Z' hj
  · rw [List.getElem?_set] at hj hk'
    by_cases hij : i = j
    · rw [if_pos hij, if_pos hlt] at hj
      rw [if_neg (by omega)] at hk'
      simp only [Option.some.injEq, Prod.mk.injEq] at hj
      obtain ⟨rfl, rfl, rfl, rfl⟩ := hj
      exact (hnew k _ _ _ _ hk' hd').symm
    · rw [if_neg hij] at hj
      by_cases hik : i = k
      · rw [if_pos hik, if_pos hlt] at hk'
        simp only [Option.some.injEq, Prod.mk.injEq] at hk'
        obtain ⟨rfl, rfl, rfl, rfl⟩ := hk'
        exact hnew j _ _ _ _ hj hd
      · rw [if_neg hik] at hk'
        exact h.far j k _ _ _ _ _ _ _ _ hne hj hk' hd hd'
theorem PL.store {Z0 : Array Value} {zb : Nat} {w w' : World} {l : List (Bool × Bool × Value × Array Value)} (h : PL Z0 zb w l) (i : Nat) {s : Bool} {y : Nat} {Z : Array Value} (hi : l[i]? = some (true, s, .pointer (some ⟨y, 0, none⟩), Z)) (hX : Chg [y] w w') (hA : At w' y Z) :
    PL Z0 zb w' (l.set i (true, true, .pointer (some ⟨y, 0, none⟩), Z)) := by
  have hlt : i < l.length := (List.getElem?_eq_some_iff.1 hi).1
  obtain ⟨y0, e1, e2, e3, e4⟩ := (h.each i _ _ _ _ hi).blk rfl
  obtain rfl : y = y0 := by simp at e1; exact e1
  refine ⟨fun j d s' u Z' hj => ?_, fun j k d s1 u Z1 d' s' u' Z2 hne hj hk' hd hd' => ?_, Nat.le_trans h.sz hX.size⟩
  · rw [List.getElem?_set] at hj
    by_cases hij : i = j
    · rw [if_pos hij, if_pos hlt] at hj
      simp only [Option.some.injEq, Prod.mk.injEq] at hj
      obtain ⟨rfl, rfl, rfl, rfl⟩ := hj
      exact ⟨fun _ => ⟨y, rfl, e2, Nat.lt_of_lt_of_le e3 hX.size, by simpa using hA⟩, fun _ => rfl⟩
    · rw [if_neg hij] at hj
      refine ⟨fun hd => ?_, (h.each j _ _ _ _ hj).ord⟩
      obtain ⟨y1, f1, f2, f3, f4⟩ := (h.each j _ _ _ _ hj).blk hd
      refine ⟨y1, f1, f2, Nat.lt_of_lt_of_le f3 hX.size, hX.at f4 ?_⟩
      intro hm
      have := h.far i j _ _ _ _ _ _ _ _ hij hi hj rfl hd
      rw [f1] at this
      simp at hm
      exact this (by rw [hm])
  · rw [List.getElem?_set] at hj hk'
    by_cases hij : i = j
    · rw [if_pos hij, if_pos hlt] at hj
      rw [if_neg (by omega)] at hk'
      simp only [Option.some.injEq, Prod.mk.injEq] at hj
      obtain ⟨rfl, rfl, rfl, rfl⟩ := hj
      exact h.far i k _ _ _ _ _ _ _ _ (by omega) hi hk' rfl hd'
    · rw [if_neg hij] at hj
      by_cases hik : i = k
      · rw [if_pos hik, if_pos hlt] at hk'
        simp only [Option.some.injEq, Prod.mk.injEq] at hk'
        obtain ⟨rfl, rfl, rfl, rfl⟩ := hk'
        exact h.far j i _ _ _ _ _ _ _ _ (by omega) hj hi hd rfl
      · rw [if_neg hik] at hk'
        exact h.far j k _ _ _ _ _ _ _ _ hne hj hk' hd hd'
end Go.Proofs.YtpfglmlpodjneaaGreat
