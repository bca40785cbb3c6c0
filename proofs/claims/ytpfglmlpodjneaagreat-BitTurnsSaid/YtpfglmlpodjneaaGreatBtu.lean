/- Walk of the law BitTurns. -/
import Derived.Test.YtpfglmlpodjneaaGreatRug
import Derived.Test.YtpfglmlpodjneaaGreatTrq
import Derived.Laws.BitsAllLaws
set_option linter.unusedSimpArgs false
set_option linter.unusedVariables false
namespace Go.Proofs.YtpfglmlpodjneaaGreat
open Go.RowKit

/-- A row of bytes of its own, to be written. -/
structure BsL (w : World) (y : Nat) (L : List Int) : Prop where
  lt : y < w.heap.size
  c : ∀ j v, L[j]? = some v → w.cell? ⟨y, j, none⟩ = some (.int .u8 v)
  f : ∀ j, j < L.length → w.frozen? ⟨y, j, none⟩ = false
theorem BsL.keep {S : List Nat} {w w' : World} {y : Nat} {L : List Int} (h : BsL w y L) (hX : Chg S w w') (hn : y ∉ S) : BsL w' y L :=
  ⟨Nat.lt_of_lt_of_le h.lt hX.size, fun j v hj => hX.cell (h.c j v hj) hn, fun j hj => by
    have := h.f j hj
    unfold World.frozen? at this ⊢
    rw [hX.block y h.lt hn]; exact this⟩
theorem BsL.put {w : World} {y : Nat} {L : List Int} (h : BsL w y L) (k : Nat) (hk : k < L.length) (x : Int) : BsL (w.setCell ⟨y, k, none⟩ (.int .u8 x)) y (L.set k x) := by
  refine ⟨by simpa [World.setCell] using h.lt, fun j v hj => ?_, fun j hj => ?_⟩
  · rw [List.getElem?_set] at hj
    by_cases hjk : k = j
    · subst hjk
      rw [if_pos rfl, if_pos hk] at hj
      obtain rfl := Option.some.inj hj
      exact World.cell?_setCell_same _ _ _ (h.c k _ (List.getElem?_eq_getElem hk))
    · rw [if_neg hjk] at hj
      rw [World.cell?_setCell_other _ _ _ _ (by intro e; simp at e; try exact hjk e)]
      exact h.c j v hj
  · rw [World.frozen?_setCell]
    exact h.f j (by simpa using hj)
theorem BsL.back {w : World} {y n cap : Nat} {L : List Int} (h : BsL w y L) (hn : n = L.length) : (convert 37 9 (.slice (some ⟨y, 0, none⟩) n cap)).run Tryz.prog w = .ok (.string (strOfNums L)) w := by
  refine run_convert_bytes_arg w 37 5 und_bytes und_u8 y 0 n cap L hn.symm (fun i hi => ?_) 9 und_str
  rw [Nat.zero_add]
  have hx : L[i]? = some (L[i]'(by omega)) := List.getElem?_eq_getElem (by omega)
  rw [h.c i _ hx]
  simp
  rw [hx]
  rfl
theorem bytes_newL (w : World) (L : List Int) (hb : byteL L) : ∃ w' cap, (convert 9 37 (.string (strOfNums L))).run Tryz.prog w = .ok (.slice (some ⟨w.heap.size, 0, none⟩) (strOfNums L).size cap) w' ∧ BsL w' w.heap.size L ∧ Chg [] w w' := by
  have hX : Chg [] w (w.drew.alloc (.cells (bytesRow (strOfNums L) (grownCap w (strOfNums L).size 0 5)) 5 ((bytesRow (strOfNums L) (grownCap w (strOfNums L).size 0 5)).size, (bytesRow (strOfNums L) (grownCap w (strOfNums L).size 0 5)).size + 1))) := (Chg.refl _ _).drew.alloc _
  refine ⟨_, _, run_bytes_of_string w 9 37 5 (strOfNums L) und_str und_bytes und_u8, ⟨by show w.heap.size < (w.heap.push _).size; simp, fun j v hv => ?_, fun j h0 => ?_⟩, hX⟩
  · have h : j < (strOfNums L).size := by rw [strOfNums_size]; exact (List.getElem?_eq_some_iff.1 hv).1
    have h1 := World.cell?_alloc_mark w.drew (bytesRow (strOfNums L) (grownCap w (strOfNums L).size 0 5)) 5 ((bytesRow (strOfNums L) (grownCap w (strOfNums L).size 0 5)).size, (bytesRow (strOfNums L) (grownCap w (strOfNums L).size 0 5)).size + 1) j
    have h2 := bytesRow_at (strOfNums L) (grownCap w (strOfNums L).size 0 5) j h
    rw [show (((strOfNums L).data[j]'(by simpa using h)).toNat : Int) = by_ (strOfNums L) j from by_get (strOfNums L) j h, nums_by hb j v hv] at h2
    exact h1.trans h2
  · have h : j < (strOfNums L).size := by rw [strOfNums_size]; exact h0
    have h1 := World.frozen?_alloc_mark w.drew (bytesRow (strOfNums L) (grownCap w (strOfNums L).size 0 5)) 5 (bytesRow (strOfNums L) (grownCap w (strOfNums L).size 0 5)).size ((bytesRow (strOfNums L) (grownCap w (strOfNums L).size 0 5)).size + 1) j
    have h2 := bytesRow_at (strOfNums L) (grownCap w (strOfNums L).size 0 5) j h
    have h3 := (Array.getElem?_eq_some_iff.1 h2).1
    refine h1.trans ?_
    rw [decide_eq_false (by omega)]; rfl
theorem shl_u8 (w : World) (m : Nat) (h : m < 8) : (binOp .shl 5 (.int .u8 1) (.int .i64 (m : Int))).run Tryz.prog w = .ok (.int .u8 ((2 ^ m : Nat) : Int)) w := by
  match m, h with
  | 0, _ | 1, _ | 2, _ | 3, _ | 4, _ | 5, _ | 6, _ | 7, _ => rfl
theorem wrap_pow (m : Nat) (h : m < 8) : IntKind.u8.wrap (2 ^ m) = ((2 ^ m : Nat) : Int) := by
  match m, h with
  | 0, _ | 1, _ | 2, _ | 3, _ | 4, _ | 5, _ | 6, _ | 7, _ => rfl
theorem u64_bd (a : Int) : 0 ≤ IntKind.u64.wrap a ∧ IntKind.u64.wrap a ≤ 18446744073709551615 := Go.bounds_u64 (wf_wrap .u64 a)
theorem u32_of {a : Int} (h : (Lit.int .u32 a).wf = true) : 0 ≤ a ∧ a ≤ 4294967295 := Go.bounds_u32 h
theorem u32_lt {t : Nat} (h : (t : Int) ≤ 4294967295) : t < 2 ^ 32 := by
  have h2 : (2 : Nat) ^ 32 = 4294967296 := by decide
  omega
theorem q_of (a : Int) : ∃ (q : Nat) (u : Int), (IntKind.u64.wrap a).tmod 12 = u ∧ IntKind.i64.wrap u = u ∧ IntKind.i64.wrap (5 + u) = (q : Int) ∧ IntKind.i64.wrap (8 * (q : Int)) = 8 * (q : Int) ∧ 5 ≤ q ∧ q ≤ 16 := by
  obtain ⟨h2, h3⟩ := u64_bd a
  have e : (IntKind.u64.wrap a).tmod 12 = IntKind.u64.wrap a % 12 := Int.tmod_eq_emod_of_nonneg h2
  refine ⟨(5 + IntKind.u64.wrap a % 12).toNat, IntKind.u64.wrap a % 12, e, i64_in _ (by omega) (by omega), ?_, i64_in _ (by omega) (by omega), by omega, by omega⟩
  rw [i64_in _ (by omega) (by omega)]
  omega
theorem idx_of (q i : Nat) (hq : q ≤ 16) (hi : i < 32) : IntKind.i64.wrap (8 * (q : Int) + (i : Int)) = 8 * (q : Int) + (i : Int) ∧ (8 * (q : Int) + (i : Int)).tdiv 8 = ((q + i / 8 : Nat) : Int) ∧ IntKind.i64.wrap ((q + i / 8 : Nat) : Int) = ((q + i / 8 : Nat) : Int) ∧ (8 * (q : Int) + (i : Int)).tmod 8 = ((i % 8 : Nat) : Int) ∧ IntKind.i64.wrap ((i % 8 : Nat) : Int) = ((i % 8 : Nat) : Int) := by
  refine ⟨i64_in _ (by omega) (by omega), ?_, i64_in _ (by omega) (by omega), ?_, i64_in _ (by omega) (by omega)⟩
  · rw [Int.tdiv_eq_ediv_of_nonneg (by omega)]; omega
  · rw [Int.tmod_eq_emod_of_nonneg (by omega)]; omega
theorem and_u32 (t i : Nat) (h : t < 2 ^ 32) : bits .and .u32 ((t : Int) / 2 ^ i) 1 = if t / 2 ^ i % 2 = 1 then 1 else 0 := by
  have e : (t : Int) / 2 ^ i = ((t / 2 ^ i : Nat) : Int) := by simp
  have hlt : t / 2 ^ i < 2 ^ 32 := Nat.lt_of_le_of_lt (Nat.div_le_self _ _) h
  have := and1_u32 (BitVec.ofNat 32 (t / 2 ^ i))
  rw [BitVec.toNat_ofNat, Nat.mod_eq_of_lt hlt] at this
  rw [e, this]
  split <;> omega
theorem allL_byte (r : RuV) : byteL (allL r) := by unfold allL bodyL; exact ((headL_byte r).app (phs_byte _)).app (be4_byte _)
theorem allL_len (r : RuV) : 22 ≤ (allL r).length := by
  have := headL_len r
  unfold allL bodyL; rw [List.length_append, List.length_append]; omega
set_option maxRecDepth 100000 in
set_option maxHeartbeats 4000000 in
theorem BitTurns_walk (W : World) (c0 : Array Value) (x0 : shRu.T) (h0 : shRu.rep W x0 c0.toList) (a : Int) (_w1 : (Lit.int .i64 a).wf = true) (t : Int) (w2 : (Lit.int .u32 t).wf = true) :
    Calls Tryz.prog 5 #[.agg c0, .int .i64 a, .int .u32 t] W fun e w' => e = .returned (.bool true) ∧ Below W.heap.size W w' := by
  obtain ⟨ht0_, ht1_⟩ := u32_of w2
  obtain ⟨t, rfl⟩ := Int.eq_ofNat_of_zero_le ht0_
  have ht32 : t < 2 ^ 32 := u32_lt ht1_
  clear ht0_ ht1_ w2
  obtain ⟨va, rfl, hP⟩ := rules_of h0
  clear h0
  generalize toRu x0 = r at *
  have HF := Lib.hid (fun w (h : PhsR w va r.phs) => rfew_any w va r h)
  have HW := Lib.hid (fun w (h : PhsR w va r.phs) => rwrong_any (rpright_any rsimple_any) w va r h)
  have HFF := Lib.hid (fun h => few_fit (r := r) h)
  have HPS := Lib.hid (fun h => print_size (r := r) h)
  have HRT := Lib.hid (fun (h : wrongN r = 0) q t => read_turned r (wrong_fit h) q t)
  have HPR := Lib.hid (fun w (h : PhsR w va r.phs) h1 h2 => qprint_any w va r h h1 h2)
  generalize hfw : fewB r = fw at *
  clear hfw
  generalize hwn : wrongN r = wn at *
  clear hwn
  have hAB : byteL (allL r) := allL_byte r
  have hL22 : 22 ≤ (allL r).length := allL_len r
  rw [show printV r = strOfNums (allL r) from rfl] at *
  generalize allL r = AL at *
  obtain ⟨rph, rn, rd, rg, re, rs, ra, rl, rf⟩ := r
  unfold RuV.cells at *
  dsimp only at *
  have A0 := At.new W #[va, .int .i64 rn, .int .i64 rd, .int .i64 rg, .int .i64 re, .int .i64 rs, .int .i64 ra, .int .i64 rl, .int .i64 rf] 25
  have hX0 := (Chg.refl [] W).alloc (.cells #[va, .int .i64 rn, .int .i64 rd, .int .i64 rg, .int .i64 re, .int .i64 rs, .int .i64 ra, .int .i64 rl, .int .i64 rf] 25)
  have P0 := hP.keep hX0
  clear hP
  go_enter Tryz.func5, Tryz.ntmps5
  go_upto_region 1 with fail
  generalize hz : W.heap.size = z at *
  generalize W.alloc (.cells #[va, .int .i64 rn, .int .i64 rd, .int .i64 rg, .int .i64 re, .int .i64 rs, .int .i64 ra, .int .i64 rl, .int .i64 rf] 25) = w0 at *
  have hzW : W.heap.size ≤ z := by omega
  clear hz
  go_wp2_with fail
  refine (awake23 _).mono ?_; rintro e w1 ⟨rfl, hX⟩
  replace A0 := hX.at A0 (by simp)
  replace P0 := P0.keep hX
  replace hX0 := hX0.trans hX
  clear hX
  have c0 := A0.cell 0
  have c1 := A0.cell 1
  have c2 := A0.cell 2
  have c3 := A0.cell 3
  have c4 := A0.cell 4
  have c5 := A0.cell 5
  have c6 := A0.cell 6
  have c7 := A0.cell 7
  have c8 := A0.cell 8
  go_wp2_with fail
  refine (HF.out w1 P0).mono ?_; rintro e w2 ⟨rfl, hX⟩
  replace A0 := hX.at A0 (by simp)
  replace P0 := P0.keep hX
  replace hX0 := hX0.trans hX
  clear hX
  clear c0 c1 c2 c3 c4 c5 c6 c7 c8
  cases hf : fw with
  | false =>
    go_wp2_with fail
    refine (awake23 _).mono ?_; rintro e w9 ⟨rfl, hX⟩
    go_wp2
    go_returns
    exact ⟨rfl, (hX0.trans hX).to_below⟩
  | true =>
    have c0 := A0.cell 0
    have c1 := A0.cell 1
    have c2 := A0.cell 2
    have c3 := A0.cell 3
    have c4 := A0.cell 4
    have c5 := A0.cell 5
    have c6 := A0.cell 6
    have c7 := A0.cell 7
    have c8 := A0.cell 8
    go_wp2_with fail
    refine (HW.out w2 P0).mono ?_; rintro e w3 ⟨rfl, hX⟩
    replace A0 := hX.at A0 (by simp)
    replace P0 := P0.keep hX
    replace hX0 := hX0.trans hX
    clear hX
    clear c0 c1 c2 c3 c4 c5 c6 c7 c8
    by_cases hw : wn = 0
    · subst hw
      by_cases ht0 : (t : Int) = 0
      · have hg : ((t : Int) == 0) = true := by rw [ht0]; rfl
        skip
        go_wp2_with fail
        refine (awake23 _).mono ?_; rintro e w9 ⟨rfl, hX⟩
        go_wp2
        go_returns
        exact ⟨rfl, (hX0.trans hX).to_below⟩
      · have hg : ((t : Int) == 0) = false := by simpa using ht0
        have hrp := HRT.out
        have read_turned2 := fun {q : Nat} (h5 : 5 ≤ q) (h18 : q ≤ 18) => hrp rfl q t h5 h18 ht32 (by omega)
        clear hrp
        obtain ⟨hl1, hl2⟩ := HFF.out hf
        have hps := HPS.out hf
        have c0 := A0.cell 0
        have c1 := A0.cell 1
        have c2 := A0.cell 2
        have c3 := A0.cell 3
        have c4 := A0.cell 4
        have c5 := A0.cell 5
        have c6 := A0.cell 6
        have c7 := A0.cell 7
        have c8 := A0.cell 8
        go_wp2_with fail
        refine (HPR.out w3 P0 hl1 hl2).mono ?_; rintro e w4 ⟨rfl, hX⟩
        replace hX0 := hX0.trans hX
        clear hX A0 c0 c1 c2 c3 c4 c5 c6 c7 c8
        obtain ⟨w5, cap, hcv, hB, hX5⟩ := bytes_newL w4 AL hAB
        rw [strOfNums_size] at hcv
        have hX05 := hX0.trans hX5
        have hbW : w4.heap.size ≤ w4.heap.size := Nat.le_refl _
        generalize hbb : w4.heap.size = bb at *
        have hWb : W.heap.size ≤ bb := by rw [← hbb]; exact hX0.size
        clear hX5 hX0
        obtain ⟨q, u, hq1, hq2, hq3, hq4, hq5, hq6⟩ := q_of a
        have hLn := Lib.hid hL22
        go_wp2_with fail
        have hw0 : Chg [] w5 w5 := Chg.refl _ _
        skip
        go_loopg [39] 32 (fun gk ii wr => ∃ i : Nat, i + gk = 32 ∧ ii = .int .i64 i ∧ BsL wr bb (flipL AL q (t % 2 ^ i)) ∧ Chg [] W wr)
        case atStart => exact ⟨0, by omega, rfl, by rw [Nat.pow_zero, Nat.mod_one, flipL_zero hAB]; exact hB, hX05⟩
        case round =>
          clear hB hX05
          obtain ⟨i, hi, rfl, hB, hY⟩ := hrel
          by_cases hlt : i < 32
          · have i1 : (i : Int) < 32 := by omega
            have i0 : (0 : Int) ≤ (i : Int) := by omega
            have i3 : (i : Int) ≤ 32 := by omega
            have i2 : (i : Int).toNat = i := by omega
            have hms := mod_step t i
            have hbit := and_u32 t i ht32
            by_cases hb : t / 2 ^ i % 2 = 1
            · rw [if_pos hb] at hms hbit
              have hD : t % 2 ^ i < 2 ^ i := Nat.mod_lt _ (Nat.pow_pos (by omega))
              have hjl : q + i / 8 < (flipL AL q (t % 2 ^ i)).length := by rw [flipL_len]; have := hLn.out; omega
              obtain ⟨v, hv⟩ : ∃ v, (flipL AL q (t % 2 ^ i))[q + i / 8]? = some v := ⟨_, List.getElem?_eq_getElem hjl⟩
              have hst := flip_step q (t % 2 ^ i) i hlt hD v hv
              rw [← hms] at hst
              have Hst := Lib.hid hst
              have Hv := Lib.hid hv
              clear hst hv hD hms hb
              have hbd := flipL_byte hAB q (t % 2 ^ i) v (List.mem_of_getElem? Hv.out)
              have Hln := Lib.hid (flipL_len AL q (t % 2 ^ i))
              obtain ⟨k1, k2, k3, k4, k5⟩ := idx_of q i (by omega) hlt
              have hrr : i % 8 < 8 := Nat.mod_lt _ (by omega)
              have hns : (flipL AL q (t % 2 ^ i)).length = AL.length := flipL_len _ _ _
              have hj1 : ((q + i / 8 : Nat) : Int) < (AL.length : Int) := by rw [hns] at hjl; omega
              have hj0 : (0 : Int) ≤ ((q + i / 8 : Nat) : Int) := by omega
              have hj2 : (((q + i / 8 : Nat) : Int)).toNat = q + i / 8 := by omega
              generalize flipL AL q (t % 2 ^ i) = Lx at *
              generalize hjj : q + i / 8 = jj at *
              generalize hrr0 : i % 8 = rr at *
              clear hjj hrr0 Hln hns
              go_upto_region 10 with fail
              have hx8 : bits .xor .u8 v ((2 ^ rr : Nat) : Int) = x8 v ((2 ^ rr : Nat) : Int) := rfl
              skip
              refine wp_region_ex (fun k w => (k = 0 → BsL w bb Lx ∧ Chg [] W w) ∧ (k = 1 → BsL w bb (Lx.set jj (x8 v ((2 ^ rr : Nat) : Int))) ∧ Chg [] W w)) (fun _ _ _ => True) [10] [(0, 0, false), (0, 0, false), (0, 0, false), (0, 0, false), (0, 0, false), (0, 0, false), (0, 0, false), (0, 0, false), (0, 0, false), (0, 0, false), (0, 0, true)] [50, 51, 52, 53, 54, 55, 56, 57, 58, 59] (by kernel_rfl) rfl (by kernel_rfl) (by kernel_rfl) (⟨fun _ => ⟨hB.keep ((Chg.refl [] _).drew) (by simp), hY.drew⟩, fun h => absurd h (by decide)⟩) ?_
              simp only [List.zip_cons_cons, List.zip_nil_right]
              refine ex_det 50 [7] rfl rfl (fun _ _ _ _ _ _ _ _ => rfl) ?_
              apply Exists.intro
              refine ⟨?_, ?_⟩
              · intro wx bX kX hk1 hk2 hC hb hd K hK
                have e7 := hb 7 rfl
                simp only [exSlot, List.getD_cons_succ, List.getD_cons_zero] at e7
                simp only [execOp, e7]
                clear hb hd
                go_simp
                exact hK _ hC (trivial)
              refine ex_det 51 [10] rfl rfl (fun _ _ _ _ _ _ _ _ => rfl) ?_
              apply Exists.intro
              refine ⟨?_, ?_⟩
              · intro wx bX kX hk1 hk2 hC hb hd K hK
                have e10 := hb 10 rfl
                simp only [exSlot, List.getD_cons_succ, List.getD_cons_zero] at e10
                simp only [execOp, e10]
                clear hb hd
                go_simp
                exact hK _ hC (trivial)
              refine ex_det 52 [51] rfl rfl (fun _ _ _ _ _ _ _ _ => rfl) ?_
              apply Exists.intro
              refine ⟨?_, ?_⟩
              · intro wx bX kX hk1 hk2 hC hb hd K hK
                have e51 := hd 51 _ _ rfl rfl
                try dsimp only at e51
                simp only [execOp, e51]
                clear hb hd
                go_simp
                exact hK _ hC (trivial)
              refine ex_det 53 [50, 52] rfl rfl (fun _ _ _ _ _ _ _ _ => rfl) ?_
              apply Exists.intro
              refine ⟨?_, ?_⟩
              · intro wx bX kX hk1 hk2 hC hb hd K hK
                have e50 := hd 50 _ _ rfl rfl
                try dsimp only at e50
                have e52 := hd 52 _ _ rfl rfl
                try dsimp only at e52
                simp only [execOp, e50, e52]
                clear hb hd
                go_simp
                exact hK _ hC (trivial)
              refine ex_det 54 [53] rfl rfl (fun _ _ _ _ _ _ _ _ => rfl) ?_
              apply Exists.intro
              refine ⟨?_, ?_⟩
              · intro wx bX kX hk1 hk2 hC hb hd K hK
                have e53 := hd 53 _ _ rfl rfl
                try dsimp only at e53
                have hcK := ((hC.1 (by omega)).1.c jj v Hv.out)
                simp only [execOp, e53]
                clear hb hd
                go_simp
                exact hK _ hC (trivial)
              refine ex_det 55 [10] rfl rfl (fun _ _ _ _ _ _ _ _ => rfl) ?_
              apply Exists.intro
              refine ⟨?_, ?_⟩
              · intro wx bX kX hk1 hk2 hC hb hd K hK
                have e10 := hb 10 rfl
                simp only [exSlot, List.getD_cons_succ, List.getD_cons_zero] at e10
                simp only [execOp, e10]
                clear hb hd
                go_simp
                exact hK _ hC (trivial)
              refine ex_det 56 [55] rfl rfl (fun _ _ _ _ _ _ _ _ => rfl) ?_
              apply Exists.intro
              refine ⟨?_, ?_⟩
              · intro wx bX kX hk1 hk2 hC hb hd K hK
                have e55 := hd 55 _ _ rfl rfl
                try dsimp only at e55
                simp only [execOp, e55]
                clear hb hd
                go_simp
                exact hK _ hC (trivial)
              refine ex_det 57 [56] rfl rfl (fun _ _ _ _ _ _ _ _ => rfl) ?_
              apply Exists.intro
              refine ⟨?_, ?_⟩
              · intro wx bX kX hk1 hk2 hC hb hd K hK
                have e56 := hd 56 _ _ rfl rfl
                try dsimp only at e56
                have hsh := shl_u8 wx rr hrr
                simp only [execOp, e56]
                clear hb hd
                go_simp
                exact hK _ hC (trivial)
              refine ex_det 58 [54, 57] rfl rfl (fun _ _ _ _ _ _ _ _ => rfl) ?_
              apply Exists.intro
              refine ⟨?_, ?_⟩
              · intro wx bX kX hk1 hk2 hC hb hd K hK
                have e54 := hd 54 _ _ rfl rfl
                try dsimp only at e54
                have e57 := hd 57 _ _ rfl rfl
                try dsimp only at e57
                simp only [execOp, e54, e57]
                clear hb hd
                go_simp
                exact hK _ hC (trivial)
              refine ex_det 59 [50, 52] rfl rfl (fun _ _ _ _ _ _ _ _ => rfl) ?_
              apply Exists.intro
              refine ⟨?_, ?_⟩
              · intro wx bX kX hk1 hk2 hC hb hd K hK
                have e50 := hd 50 _ _ rfl rfl
                try dsimp only at e50
                have e52 := hd 52 _ _ rfl rfl
                try dsimp only at e52
                simp only [execOp, e50, e52]
                clear hb hd
                go_simp
                exact hK _ hC (trivial)
              refine ex_unit (fun _ _ => True) [59, 58] rfl rfl (fun _ _ _ _ _ _ _ _ => rfl) (fun _ _ => (fun _ _ _ _ _ => trivial)) ?_ ?_
              · intro wx bX kX hk1 hk2 hC hb hd K hK
                have e59 := hd 59 _ _ rfl rfl
                try dsimp only at e59
                have e58 := hd 58 _ _ rfl rfl
                try dsimp only at e58
                simp only [execOp, e59, e58]
                clear hb hd
                have hA0 := (hC.1 (by omega)).1
                have hcK := hA0.c jj v Hv.out
                have hfK := hA0.f jj hjl
                go_simp
                exact hK _ trivial ⟨fun h => absurd h (by simp), fun _ => ⟨by rw [wrap_pow rr hrr]; exact hA0.put jj hjl _, (hC.1 (by omega)).2.setCell (.inr hWb) _⟩⟩ trivial
              refine ex_end ?_
              intro us w2 hus hC hall
              obtain ⟨v0, us, rfl⟩ := List.exists_cons_of_length_eq_add_one hus
              replace hus := Nat.succ.inj hus
              obtain ⟨v1, us, rfl⟩ := List.exists_cons_of_length_eq_add_one hus
              replace hus := Nat.succ.inj hus
              obtain ⟨v2, us, rfl⟩ := List.exists_cons_of_length_eq_add_one hus
              replace hus := Nat.succ.inj hus
              obtain ⟨v3, us, rfl⟩ := List.exists_cons_of_length_eq_add_one hus
              replace hus := Nat.succ.inj hus
              obtain ⟨v4, us, rfl⟩ := List.exists_cons_of_length_eq_add_one hus
              replace hus := Nat.succ.inj hus
              obtain ⟨v5, us, rfl⟩ := List.exists_cons_of_length_eq_add_one hus
              replace hus := Nat.succ.inj hus
              obtain ⟨v6, us, rfl⟩ := List.exists_cons_of_length_eq_add_one hus
              replace hus := Nat.succ.inj hus
              obtain ⟨v7, us, rfl⟩ := List.exists_cons_of_length_eq_add_one hus
              replace hus := Nat.succ.inj hus
              obtain ⟨v8, us, rfl⟩ := List.exists_cons_of_length_eq_add_one hus
              replace hus := Nat.succ.inj hus
              obtain ⟨v9, us, rfl⟩ := List.exists_cons_of_length_eq_add_one hus
              replace hus := Nat.succ.inj hus
              obtain ⟨v10, us, rfl⟩ := List.exists_cons_of_length_eq_add_one hus
              replace hus := Nat.succ.inj hus
              obtain rfl := List.length_eq_zero_iff.1 hus
              clear hus
              generalize hbb : exPuts _ _ _ = bb at hall ⊢
              simp only [exPuts, Act.put, List.setIfInBounds_toArray, List.set_cons_succ, List.set_cons_zero] at hbb
              subst hbb
              obtain ⟨h10, h9, h8, h7, h6, h5, h4, h3, h2, h1, h0, -⟩ := hall
              obtain rfl : v0 = _ := h0
              obtain rfl : v1 = _ := h1
              obtain rfl : v2 = _ := h2
              obtain rfl : v3 = _ := h3
              obtain rfl : v4 = _ := h4
              obtain rfl : v5 = _ := h5
              obtain rfl : v6 = _ := h6
              obtain rfl : v7 = _ := h7
              obtain rfl : v8 = _ := h8
              obtain rfl : v9 = _ := h9
              clear v10
              obtain ⟨hB2, hY2⟩ := hC.2 rfl
              clear hC
              rw [Hst.out] at hB2
              go_wp2_with fail
              go_roundg (gk - 1)
              case rel => exact ⟨i + 1, by omega, by go_num, hB2, hY2⟩
              case measure => omega
            · rw [if_neg hb] at hms hbit
              rw [Nat.add_zero] at hms
              clear hb
              go_wp2_with fail
              go_roundg (gk - 1)
              case rel => exact ⟨i + 1, by omega, by go_num, by rw [hms]; exact hB, hY⟩
              case measure => omega
          · obtain rfl : gk = 0 := by omega
            have hi32 : i = 32 := by omega
            subst hi32
            rw [Nat.mod_eq_of_lt ht32] at hB
            have hFL := flipL_len AL q t
            have hFb := flipL_byte hAB q t
            have hrd := read_turned2 (by omega) (by omega)
            generalize flipL AL q t = FL at *
            have hcv2 : ∀ (w : World), BsL w bb FL → (convert 37 9 (.slice (some ⟨bb, 0, none⟩) AL.length cap)).run Tryz.prog w = .ok (.string (strOfNums FL)) w := fun w h => h.back hFL.symm
            have hcvw := hcv2 _ hB
            clear hcv2
            have hfs : (strOfNums FL).size ≤ 1000000 := by rw [strOfNums_size, hFL]; rw [strOfNums_size] at hps; exact hps
            have HT := fun w => btest_any w (strOfNums FL) 0 hfs
            rw [show testV (strOfNums FL) 0 = (zRu, 1) from by unfold testV; rw [hrd]; rfl] at HT
            generalize strOfNums FL = fs at *
            clear hB hFL hFb hrd hfs
            replace HT : Hid (∀ w, Calls Tryz.prog 8 #[.string fs, .int .i64 0] w fun e w' => ∃ va, e = .returned (.tuple #[.agg #[va, .int .i64 0, .int .i64 0, .int .i64 0, .int .i64 0, .int .i64 0, .int .i64 0, .int .i64 0, .int .i64 0], .int .i64 1]) ∧ (∀ (S : List Nat) (w2 : World), (∀ b ∈ S, b < w.heap.size) → Chg S w' w2 → PhsR w2 va []) ∧ Chg [] w w') := Lib.hid HT
            have hX0 := hY
            clear hY
            skip
            generalize hwr : wr = w8 at *
            clear hwr
            go_wp2_with fail
            refine (HT.out w8).mono ?_; rintro e w9 ⟨vc, rfl, hD, hX⟩
            replace hX0 := hX0.trans hX
            clear hX
            have P3 := hD [] w9 (by simp) (Chg.refl _ _)
            clear hD
            have hone : vc.oneCell' = true := by obtain ⟨_, ad, cap, rfl⟩ := P3.len; rfl
            have hN := At.new w9 #[.slice none 0 0, .int .i64 0, .int .i64 0, .int .i64 0, .int .i64 0, .int .i64 0, .int .i64 0, .int .i64 0, .int .i64 0] 25
            have hXn := (Chg.refl [] w9).alloc (.cells #[.slice none 0 0, .int .i64 0, .int .i64 0, .int .i64 0, .int .i64 0, .int .i64 0, .int .i64 0, .int .i64 0, .int .i64 0] 25)
            go_wp2_with (refine wpList_put rfl rfl rfl rfl hN rfl (by kernel_rfl) (by simp [hone, one_int]) ?_; intro w10 A3 hX3; refine Hid.out ?_)
            refine Lib.hid ?_
            have hXr : Chg [] w9 w10 := hXn.then hX3 (fun x hx hl => by simp at hx; omega)
            replace P3 := P3.keep hXr
            replace hX0 := hX0.trans hXr
            generalize w9.heap.size = y3 at *
            clear hN hXn hX3 hXr hone
            have g0 := A3.cell 0
            have g1 := A3.cell 1
            have g2 := A3.cell 2
            have g3 := A3.cell 3
            have g4 := A3.cell 4
            have g5 := A3.cell 5
            have g6 := A3.cell 6
            have g7 := A3.cell 7
            have g8 := A3.cell 8
            have HZ := same_self w10 vc (.slice none 0 0) zRu P3 (nil_phs _)
            replace HZ : Calls Tryz.prog 11 #[.agg #[vc, .int .i64 0, .int .i64 0, .int .i64 0, .int .i64 0, .int .i64 0, .int .i64 0, .int .i64 0, .int .i64 0], .agg #[.slice none 0 0, .int .i64 0, .int .i64 0, .int .i64 0, .int .i64 0, .int .i64 0, .int .i64 0, .int .i64 0, .int .i64 0]] w10 fun e w' => e = .returned (.bool true) ∧ Chg [] w10 w' := HZ
            go_wp2_with fail
            refine HZ.mono ?_; rintro e w11 ⟨rfl, hX⟩
            go_wp2
            go_returns
            exact ⟨rfl, (hX0.trans hX).to_below⟩
    · have hw2 : (wn != 0) = true := by simpa using hw
      go_wp2_with fail
      refine (awake23 _).mono ?_; rintro e w9 ⟨rfl, hX⟩
      go_wp2
      go_returns
      exact ⟨rfl, (hX0.trans hX).to_below⟩
end Go.Proofs.YtpfglmlpodjneaaGreat
