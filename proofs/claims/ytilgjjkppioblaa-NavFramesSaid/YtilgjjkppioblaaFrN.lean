/- Walk of the law NavFrames: a nav in a frame, in a stream, behind noise without a byte a5, is told as it was. -/
import Derived.Test.YtilgjjkppioblaaFrl
import Derived.Test.YtilgjjkppioblaaP06
import Derived.Test.YtilgjjkppioblaaNavK
import Derived.Deep.RegionWith
import Derived.LoopTactic
import Derived.Deep.LoopGhost
namespace Go.Proofs.Ytilgjjkppioblaa
open Go.RowKit

theorem FRow.out {w : World} {base : Nat} {e : TypeId} {v : Value} {f : FV} (h : FRow w base e v [f]) : ∃ g cap, v = .slice (some ⟨g, 0, none⟩) 1 cap ∧ base ≤ g ∧ g < w.heap.size ∧ w.cell? ⟨g, 0, none⟩ = some (.int .i64 f.k) ∧ w.cell? ⟨g, 1, none⟩ = some (.string f.p) := by
  obtain ⟨g, cap, rfl⟩ := Joins.ownsRow_form h Nat.zero_lt_one
  have hl := World.ownsRow.lt h g rfl
  exact ⟨g, cap, rfl, hl.1, hl.2, (World.ownsRow.cellAt h 0 (by show 0 < 1 * 2; omega)).trans rfl, (World.ownsRow.cellAt h 1 (by show 1 < 1 * 2; omega)).trans rfl⟩
theorem scan_noisy (a : ByteArray) (hk : ∀ k, k < a.size → by_ a k ≠ 165) (f : FV) (hr : f.right = true) : scan (ByteArray.empty ++ (a ++ f.print)) = ([f], ByteArray.empty, a.size) := by
  rw [empty_app, scan_noise a.size a f.print rfl hk]
  have := scan_print f hr ByteArray.empty
  rw [app_empty, scan_none (s := ByteArray.empty) rfl] at this
  rw [this]
  simp
theorem and_one (x : Int) : bits .and .i64 x 1 = 0 ∨ bits .and .i64 x 1 = 1 := by
  have h : bits .and .i64 x 1 = IntKind.i64.wrap ((BitVec.ofInt 64 x &&& BitVec.ofInt 64 1).toNat : Int) := rfl
  rw [h, BitVec.toNat_and, show (BitVec.ofInt 64 1).toNat = 1 from rfl, Nat.and_one_is_mod]
  have := Nat.mod_two_eq_zero_or_one (BitVec.ofInt 64 x).toNat
  rcases this with e | e <;> rw [e]
  · exact Or.inl (by decide)
  · exact Or.inr (by decide)

set_option maxRecDepth 100000 in
set_option maxHeartbeats 1000000 in
theorem nf_core (W : World) (n : NV) (src S K : Int) (a np fp : ByteArray) (hS : bits .and .i64 src 1 = S) (hKS : K - 16 = S) (hK : K = 16 ∨ K = 17) (ha : a.size ≤ 100) (hnp : np.size = 27) (hfp : fp.size ≤ 200)
    (HU : ∀ w, Calls Try.prog 10 #[.agg n.cells] w fun e w' => e = .returned (.bool true) ∧ Chg [] w w')
    (HK : ∀ w, Calls Try.prog 18 #[.int .i64 S] w fun e w' => e = .returned (.int .i64 K) ∧ w = w')
    (HP : ∀ w, Calls Try.prog 8 #[.agg n.cells] w fun e w' => e = .returned (.string np) ∧ Chg [] w w')
    (HF : ∀ w, Calls Try.prog 21 #[.agg #[.int .i64 K, .string np]] w fun e w' => e = .returned (.string fp) ∧ Chg [] w w')
    (HR : ∀ w, Calls Try.prog 9 #[.string np] w fun e w' => e = .returned (.tuple #[.agg n.cells, .int .i64 0]) ∧ Chg [] w w')
    (hsc : (∀ k, k < a.size → by_ a k ≠ 165) → scan (ByteArray.empty ++ (a ++ fp)) = ([⟨K, np⟩], ByteArray.empty, a.size)) :
    Calls Try.prog 7 #[.agg n.cells, .int .i64 src, .string a] W fun e w' => e = .returned (.bool true) ∧ Below W.heap.size W w' := by
  have HN : n.cells = #[.int .i64 n.cnt, .int .i64 n.flg, .int .i64 n.x, .int .i64 n.y, .int .i64 n.z, .int .i64 n.vx, .int .i64 n.vy, .int .i64 n.vz] := rfl
  rw [HN] at HU HP HR ⊢
  clear HN
  have hI := At.new W n.cells 23
  have hX : Chg [] W (W.alloc (.cells n.cells 23)) := (Chg.refl _ _).alloc _
  have hsaf : (a ++ fp).size ≤ 300 := by rw [ByteArray.size_append]; omega
  have Hsaf := Lib.hid hsaf
  clear hsaf
  go_enter Try.func7, Try.ntmps7
  go_wp2_with fail
  refine (awake06 _).mono ?_; rintro e w1 ⟨rfl, hX1⟩
  replace hI := hX1.at hI (by simp)
  replace hX := hX.trans hX1
  clear hX1
  generalize hz : W.heap.size = z at hI ⊢
  have c0 := hI.cell 0; have c1 := hI.cell 1; have c2 := hI.cell 2; have c3 := hI.cell 3; have c4 := hI.cell 4; have c5 := hI.cell 5; have c6 := hI.cell 6; have c7 := hI.cell 7
  simp only [NV.cells] at c0 c1 c2 c3 c4 c5 c6 c7
  go_wp2_with fail
  refine (HU _).mono ?_; rintro e w2 ⟨rfl, hX1⟩
  replace hI := hX1.at hI (by simp)
  replace hX := hX.trans hX1
  clear hX1 c0 c1 c2 c3 c4 c5 c6 c7 HU
  go_wp2_with fail
  go_loopg [31] a.size (fun g i wr => ∃ k : Nat, k + g = a.size ∧ i = .int .i64 k ∧ wr = w2 ∧ Hid (∀ j, j < k → by_ a j ≠ 165))
  case atStart => exact ⟨0, by omega, rfl, rfl, Lib.hid fun j hj => absurd hj (by omega)⟩
  case round =>
    obtain ⟨k, hk, rfl, rfl, Hn⟩ := hrel
    by_cases hlt : k < a.size
    · have hg := by_get a k hlt
      by_cases h5 : by_ a k = 165
      · go_wp2
        go_returns
        exact ⟨rfl, hz ▸ Chg.to_below hX⟩
      · have Hk := Lib.hid hk
        clear hk
        go_wp2_with fail
        go_roundg (gk - 1)
        case rel =>
          have hk := Hk.out
          exact ⟨k + 1, by omega, by go_num, rfl, Lib.hid fun j hj => if h : j < k then Hn.out j h else by rw [show j = k by omega]; exact h5⟩
        case measure => have hk := Hk.out; omega
    · obtain rfl : gk = 0 := by omega
      obtain rfl : k = a.size := by omega
      replace hsc := hsc Hn.out
      go_wp2_with fail
      refine (fnew_any _).mono ?_; rintro e w3 ⟨x, c, rfl, hx, hc, hSt, hX1⟩
      have hIl := hI.lt
      have hzx : z ≠ x := by omega
      have hzc : z ≠ c := by omega
      have hxW : W.heap.size ≤ x := by have := hX.size; omega
      have hcW : W.heap.size ≤ c := by have := hX.size; omega
      replace hI := hX1.at hI (by simp)
      replace hX := hX.trans hX1
      clear hX1 hx hc hIl hk hlt
      have hId := hI.drew
      have hXd := hX.drew
      have hSd := hSt.keep ((Chg.refl [] w3).drew) (by simp) (by simp)
      clear hI hX hSt
      have c0 := hId.cell 0; have c1 := hId.cell 1; have c2 := hId.cell 2; have c3 := hId.cell 3; have c4 := hId.cell 4; have c5 := hId.cell 5; have c6 := hId.cell 6; have c7 := hId.cell 7
      simp only [NV.cells] at c0 c1 c2 c3 c4 c5 c6 c7
      go_wp2_with fail
      go_region_with (first
        | (go_at_call 18; (with_reducible refine (HK _).mono ?_); rintro e w' ⟨rfl, rfl⟩)
        | (go_at_call 8; (with_reducible refine (HP _).mono ?_); rintro e wp ⟨rfl, hXp⟩; have hIp := hXp.at hId (by simp); have hSp := hSd.keep hXp (by simp) (by simp); have hXXp := hXd.trans hXp)
        | (go_at_call 21; (with_reducible refine (HF _).mono ?_); rintro e wf ⟨rfl, hXf⟩; have hIf := hXf.at hIp (by simp); have hSf := hSp.keep hXf (by simp) (by simp); have hXXf := hXXp.trans hXf)
        | (go_at_call 20; have HH := ffeed_any _ x c ByteArray.empty (a ++ fp) 0 hSf (by omega) (by omega) (by have h1 := Hsaf.out; have h2 : ByteArray.empty.size = 0 := rfl; omega); (with_reducible refine HH.mono ?_); clear HH; rintro e we ⟨v1, rfl, hF1, hS1, hXe⟩))
      all_goals
        rw [hsc] at hF1 hS1
        obtain ⟨g, cap, rfl, hgb, hgl, d0, d1⟩ := hF1.out
        have hIe := hXe.at hIf (by simp; omega)
        have hXXe : Chg [] W we := hXXf.then hXe (by simp; omega)
        clear hF1 hS1 hXe hIf hXXf hXf hSf hSp hXXp hXp hIp c0 c1 c2 c3 c4 c5 c6 c7 hId hXd hSd HK HP HF hsc
        go_wp2_with fail
        refine (source_yes _ K (.string np) hK).mono ?_; rintro e w9 ⟨rfl, hX9⟩
        rw [hKS]
        replace d0 := hX9.cell d0 (by simp)
        replace d1 := hX9.cell d1 (by simp)
        have hI9 := hX9.at hIe (by simp)
        have hXX9 := hXXe.trans hX9
        clear hX9 hIe hXXe
        go_wp2_with fail
        refine (HR _).mono ?_; rintro e w10 ⟨rfl, hX10⟩
        have hIa := (hX10.at hI9 (by simp)).alloc (.cells n.cells 23)
        have hB := At.new w10 n.cells 23
        have hXXa := (hXX9.trans hX10).alloc (.cells n.cells 23)
        clear hX10 hI9 hXX9 d0 d1
        have c0 := hIa.cell 0; have c1 := hIa.cell 1; have c2 := hIa.cell 2; have c3 := hIa.cell 3; have c4 := hIa.cell 4; have c5 := hIa.cell 5; have c6 := hIa.cell 6; have c7 := hIa.cell 7
        have d0 := hB.cell 0; have d1 := hB.cell 1; have d2 := hB.cell 2; have d3 := hB.cell 3; have d4 := hB.cell 4; have d5 := hB.cell 5; have d6 := hB.cell 6; have d7 := hB.cell 7
        simp only [NV.cells] at c0 c1 c2 c3 c4 c5 c6 c7 d0 d1 d2 d3 d4 d5 d6 d7
        go_wp2
        go_returns
        exact ⟨rfl, hz ▸ Chg.to_below hXXa⟩

set_option maxRecDepth 100000 in
theorem nf_wrong (W : World) (n : NV) (src : Int) (a : ByteArray) (b : Bool) (ha : a.size ≤ 9223372036854775807) (hb : b = false ∨ b = true ∧ 100 < a.size)
    (HU : ∀ w, Calls Try.prog 10 #[.agg n.cells] w fun e w' => e = .returned (.bool b) ∧ Chg [] w w') :
    Calls Try.prog 7 #[.agg n.cells, .int .i64 src, .string a] W fun e w' => e = .returned (.bool true) ∧ Below W.heap.size W w' := by
  have HN : n.cells = #[.int .i64 n.cnt, .int .i64 n.flg, .int .i64 n.x, .int .i64 n.y, .int .i64 n.z, .int .i64 n.vx, .int .i64 n.vy, .int .i64 n.vz] := rfl
  rw [HN] at HU ⊢
  clear HN
  have hI := At.new W n.cells 23
  have hX : Chg [] W (W.alloc (.cells n.cells 23)) := (Chg.refl _ _).alloc _
  go_enter Try.func7, Try.ntmps7
  go_wp2_with fail
  refine (awake06 _).mono ?_; rintro e w1 ⟨rfl, hX1⟩
  replace hI := hX1.at hI (by simp)
  replace hX := hX.trans hX1
  clear hX1
  have c0 := hI.cell 0; have c1 := hI.cell 1; have c2 := hI.cell 2; have c3 := hI.cell 3; have c4 := hI.cell 4; have c5 := hI.cell 5; have c6 := hI.cell 6; have c7 := hI.cell 7
  simp only [NV.cells] at c0 c1 c2 c3 c4 c5 c6 c7
  go_wp2_with fail
  refine (HU _).mono ?_; rintro e w2 ⟨rfl, hX1⟩
  replace hX := hX.trans hX1
  clear hX1 c0 c1 c2 c3 c4 c5 c6 c7 HU
  rcases hb with rfl | ⟨rfl, hb⟩
  · go_wp2_with fail
    refine (awake06 _).mono ?_; rintro e w3 ⟨rfl, hX3⟩
    go_wp2
    go_returns
    exact ⟨rfl, Chg.to_below (hX.trans hX3)⟩
  · go_wp2_with fail
    refine (awake06 _).mono ?_; rintro e w3 ⟨rfl, hX3⟩
    go_wp2
    go_returns
    exact ⟨rfl, Chg.to_below (hX.trans hX3)⟩

theorem NavFrames_walk (W : World) (c : Array Value) (x : shNV.T) (h : shNV.rep W x c.toList) (src : Int) (_ws : (Lit.int .i64 src).wf = true) (a : ByteArray) (ha : a.size ≤ maxLen) :
    Calls Try.prog 7 #[.agg c, .int .i64 src, .string a] W fun e w' => e = .returned (.bool true) ∧ Below W.heap.size W w' := by
  obtain ⟨rfl, hb⟩ := nv_of h
  clear h
  unfold maxLen at ha
  generalize toNV x = n at *
  cases hr : n.right
  · exact nf_wrong W n src a false (by omega) (Or.inl rfl) (fun w => by have := rright_any w n; rw [hr] at this; exact this)
  by_cases h1 : 100 < a.size
  · exact nf_wrong W n src a true (by omega) (Or.inr ⟨rfl, h1⟩) (fun w => by have := rright_any w n; rw [hr] at this; exact this)
  obtain ⟨hnp, hrd⟩ := rd_print n hr
  have key : ∀ S K : Int, bits .and .i64 src 1 = S → K - 16 = S → (K = 16 ∨ K = 17) → kindOf S = K → i64b S → Calls Try.prog 7 #[.agg n.cells, .int .i64 src, .string a] W fun e w' => e = .returned (.bool true) ∧ Below W.heap.size W w' := by
    intro S K hS hKS hK hkd hSb
    have hfr : (FV.mk K n.print).right = true := (FV.mk K n.print).right_iff.2 ⟨by show 0 ≤ K; omega, by show K ≤ 255; omega, by show n.print.size ≤ 64; omega⟩
    have hz := print_size (FV.mk K n.print) hfr
    rw [show (FV.mk K n.print).p.size = n.print.size from rfl, hnp] at hz
    refine nf_core W n src S K a n.print (FV.mk K n.print).print hS hKS hK (by omega) hnp (by omega) (fun w => ?_) (fun w => ?_) (fun w => print_any w n) (fun w => fprint_any w (FV.mk K n.print)) (fun w => ?_) (fun hk => scan_noisy a hk _ hfr)
    · have := rright_any w n; rw [hr] at this; exact this
    · have := kind_any w S hSb; rw [hkd] at this; exact this
    · have := read_any w n.print hnp; rw [hrd] at this; exact this
  rcases and_one src with e | e
  · exact key 0 16 e rfl (Or.inl rfl) rfl (by unfold i64b; omega)
  · exact key 1 17 e rfl (Or.inr rfl) rfl (by unfold i64b; omega)
end Go.Proofs.Ytilgjjkppioblaa
