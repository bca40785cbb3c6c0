/- Rpv, Rdl, Rrl, Rri, Prl, Rwr. -/
import Derived.Test.YtpfglmlpodjneaaGreatZ13
import Derived.LoopTactic
import Derived.Handy
import Derived.Deep.LoopGhost
set_option linter.unusedSimpArgs false
set_option linter.unusedVariables false
namespace Go.Proofs.YtpfglmlpodjneaaGreat
open Go.RowKit

theorem nums_app (A B : List Int) : strOfNums (A ++ B) = strOfNums A ++ strOfNums B := by
  unfold strOfNums
  apply ByteArray.ext
  simp
def ptL (q : PtV) : List Int := b4 q.x ++ b4 q.y
def phHead (p : PhV) : List Int := [(p.area.length : Int) % 256, p.g % 256] ++ b4 p.mv ++ b4 p.mn ++ b4 p.up
def phL (p : PhV) : List Int := phHead p ++ p.area.flatMap ptL
def headL (r : RuV) : List Int := [65, 70, 84, 85] ++ [(r.phs.length : Int) % 256, r.n % 256, r.d % 256, r.green % 256, r.age % 256, r.saf % 256] ++ b4 r.eps ++ b4 r.step ++ b4 r.lift
def bodyL (r : RuV) : List Int := headL r ++ r.phs.flatMap phL
def allL (r : RuV) : List Int := bodyL r ++ be4 (sum32 (strOfNums (bodyL r))).toNat
def printV (r : RuV) : ByteArray := strOfNums (allL r)
theorem b4_len (n : Int) : (b4 n).length = 4 := rfl
theorem ptL_len (q : PtV) : (ptL q).length = 8 := rfl
theorem area_len (L : List PtV) : (L.flatMap ptL).length = 8 * L.length := by
  induction L with
  | nil => rfl
  | cons p L ih => simp only [List.flatMap_cons, List.length_append, ih, ptL_len, List.length_cons]; omega
theorem phL_len (p : PhV) : (phL p).length = 14 + 8 * p.area.length := by
  unfold phL; rw [List.length_append, area_len]; rfl
theorem headL_len (r : RuV) : (headL r).length = 22 := rfl
theorem phs_len (L : List PhV) (h : ∀ p ∈ L, p.area.length ≤ 255) : (L.flatMap phL).length ≤ 2054 * L.length := by
  induction L with
  | nil => simp
  | cons p L ih =>
    have h1 := h p (by simp)
    have h2 := ih (fun q hq => h q (by simp [hq]))
    simp only [List.flatMap_cons, List.length_append, phL_len, List.length_cons]; omega
theorem bodyL_len (r : RuV) (h1 : r.phs.length ≤ 255) (h2 : ∀ p ∈ r.phs, p.area.length ≤ 255) : (bodyL r).length ≤ 600000 := by
  have := phs_len r.phs h2
  unfold bodyL; rw [List.length_append, headL_len]; omega
theorem flat_take {α β : Type} (f : α → List β) (L : List α) (k : Nat) (p : α) (h : L[k]? = some p) : (L.take (k + 1)).flatMap f = (L.take k).flatMap f ++ f p := by
  rw [List.take_add_one, h]; simp
theorem take_flat_le {α β : Type} (f : α → List β) (L : List α) (k : Nat) : ((L.take k).flatMap f).length ≤ (L.flatMap f).length := by
  have h : (L.flatMap f).length = ((L.take k).flatMap f).length + ((L.drop k).flatMap f).length := by
    rw [← List.length_append, ← List.flatMap_append, List.take_append_drop]
  omega
end Go.Proofs.YtpfglmlpodjneaaGreat
namespace Go.Proofs.YtpfglmlpodjneaaGreat
open Go.RowKit

theorem aftu_ext (s : ByteArray) : (aftu.extract 0 (min s.size 4)).size = min s.size 4 := by
  have : aftu.size = 4 := rfl
  simp; omega
theorem magic_iff (s : ByteArray) : magicB s = true ↔ ∀ j, j < min s.size 4 → by_ s j = by_ aftu j := by
  have h4 : aftu.size = 4 := rfl
  have hz := aftu_ext s
  have hb : magicB s = ((s.extract 0 (min s.size 4)).toList == (aftu.extract 0 (min s.size 4)).toList) := by
    unfold magicB beginsB
    rw [hz, decide_eq_true (by omega), Bool.true_and]
  rw [hb, str_beq]
  constructor
  · intro h j hj
    have h1 := by_extract s 0 (min s.size 4) j (by omega) (by omega)
    have h2 := by_extract aftu 0 (min s.size 4) j (by omega) (by omega)
    rw [Nat.zero_add] at h1 h2
    rw [← h1, ← h2, h]
  · intro h
    refine by_ext (by rw [hz]; simp) (fun j hj => ?_)
    have hj2 : j < min s.size 4 := by simp at hj; omega
    rw [by_extract s 0 (min s.size 4) j (by omega) (by omega), by_extract aftu 0 (min s.size 4) j (by omega) (by omega), Nat.zero_add]
    exact h j hj2
theorem by_tail (s : ByteArray) (a j : Nat) (h : a + j < s.size) : by_ (s.extract a s.size) j = by_ s (a + j) := by_extract s a s.size j h (by omega)
theorem ptsAt_tail (s : ByteArray) (a b : Nat) : ∀ n : Nat, a + b + 8 * n ≤ s.size → ptsAt (s.extract a s.size) b n = ptsAt s (a + b) n
  | 0, _ => rfl
  | n + 1, h => by
    unfold ptsAt
    rw [ptsAt_tail s a b n (by omega), num4_tail2 s a (b + 8 * n) (by omega), num4_tail2 s a (b + 8 * n + 4) (by omega)]
    simp only [Nat.add_assoc]
def onePhAt (s : ByteArray) (a : Nat) : PhV := ⟨ptsAt s (a + 14) (by_ s a).toNat, by_ s (a + 1), num4 s (a + 2), num4 s (a + 6), num4 s (a + 10)⟩
theorem onePh_at (s : ByteArray) (a : Nat) (h : a + 14 ≤ s.size) (h8 : a + 14 + 8 * (by_ s a).toNat ≤ s.size) : onePh (s.extract a s.size) = onePhAt s a := by
  unfold onePh onePhAt
  have h0 := by_tail s a 0 (by omega)
  rw [Nat.add_zero] at h0
  rw [h0, by_tail s a 1 (by omega), num4_tail2 s a 2 (by omega), num4_tail2 s a 6 (by omega), num4_tail2 s a 10 (by omega), ptsAt_tail s a 14 _ (by omega)]
theorem okPh_no1 (s : ByteArray) (a : Nat) (h : s.size < a + 14) : okPh (s.extract a s.size) = false := by
  unfold okPh
  rw [decide_eq_false (by simp; omega), Bool.false_and]
theorem okPh_at (s : ByteArray) (a : Nat) (h : a + 14 ≤ s.size) : okPh (s.extract a s.size) = decide (a + 14 + 8 * (by_ s a).toNat ≤ s.size) := by
  have h0 := by_tail s a 0 (by omega)
  rw [Nat.add_zero] at h0
  have hb := by_bd s a
  unfold okPh
  rw [decide_eq_true (show 14 ≤ (s.extract a s.size).size by simp; omega), Bool.true_and, h0, decide_eq_decide]
  simp only [ByteArray.size_extract]
  omega
theorem phsL_no {n : Nat} {t : ByteArray} {L : List PhV} (h : okPh t = false) : phsL (n + 1) t L = none := by
  unfold phsL; rw [if_neg (by rw [h]; simp)]
theorem phsL_yes {n : Nat} (s : ByteArray) (a : Nat) {L : List PhV} (h : a + 14 ≤ s.size) (h8 : a + 14 + 8 * (by_ s a).toNat ≤ s.size) :
    phsL (n + 1) (s.extract a s.size) L = phsL n (s.extract (a + 14 + 8 * (by_ s a).toNat) s.size) (L ++ [onePhAt s a]) := by
  have h0 := by_tail s a 0 (by omega)
  rw [Nat.add_zero] at h0
  have hr : restPh (s.extract a s.size) = s.extract (a + 14 + 8 * (by_ s a).toNat) s.size := by
    unfold restPh
    rw [h0, show (s.extract a s.size).size = s.size - a by simp, ext_ext s a _ (by omega), Nat.add_assoc]
  conv => lhs; unfold phsL
  rw [if_pos (by rw [okPh_at s a h, decide_eq_true h8]), hr, onePh_at s a h h8]
theorem ptsAt_succ (s : ByteArray) (a n : Nat) : ptCells (ptsAt s a (n + 1)) = ptCells (ptsAt s a n) ++ [.int .i64 (sg32 (num4 s (a + 8 * n))), .int .i64 (sg32 (num4 s (a + 8 * n + 4)))] := by
  rw [show ptsAt s a (n + 1) = ptsAt s a n ++ [⟨sg32 (num4 s (a + 8 * n)), sg32 (num4 s (a + 8 * n + 4))⟩] from rfl, ptCells_app]; rfl
/-- The phases in s, read from place 22 on: what is told behind them. -/
def endV (s : ByteArray) (a : Nat) (L : List PhV) : RuV × Int :=
  if s.size < a + 4 then (zRu, 5) else if a + 4 < s.size then (zRu, 3) else if ((sum32 (s.extract 0 a)).toNat : Int) ≠ num4 s a then (zRu, 4) else if wrongN (headRu s L) = 0 then (headRu s L, 0) else (zRu, 3)
theorem read_none {s : ByteArray} (hm : magicB s = true) (h : 22 ≤ s.size) (hp : phsL (by_ s 4).toNat (s.extract 22 s.size) [] = none) : readV s = (zRu, 5) := by
  unfold readV
  rw [if_neg (by rw [hm]; simp), if_neg (by omega), hp]
theorem read_some {s : ByteArray} (hm : magicB s = true) (h : 22 ≤ s.size) {L : List PhV} {a : Nat} (ha : a ≤ s.size) (hp : phsL (by_ s 4).toNat (s.extract 22 s.size) [] = some (L, s.extract a s.size)) : readV s = endV s a L := by
  unfold readV
  rw [if_neg (by rw [hm]; simp), if_neg (by omega), hp]
  dsimp only
  have hz : (s.extract a s.size).size = s.size - a := by simp
  rw [hz]
  unfold endV
  by_cases h1 : s.size < a + 4
  · rw [if_pos (by omega), if_pos h1]
  · rw [if_neg (by omega), if_neg h1]
    by_cases h2 : a + 4 < s.size
    · rw [if_pos (by omega), if_pos h2]
    · rw [if_neg (by omega), if_neg h2, num4_tail s a (by omega), show s.size - 4 = a by omega]
end Go.Proofs.YtpfglmlpodjneaaGreat
namespace Go.Proofs.YtpfglmlpodjneaaGreat
open Go.RowKit

/-- What apogeeref11.Right is to tell. -/
def RPolyOk : Prop := ∀ (W : World) (v : Value) (L : List PtV), PtsR W v L → Calls Tryz.prog 43 #[v] W fun e w' => e = .returned (.bool (polyB L)) ∧ Chg [] W w'
theorem rwithin_any (w : World) (n lo hi : Int) : Calls Tryz.prog 27 #[.int .i64 n, .int .i64 lo, .int .i64 hi] w fun e w' => e = .returned (.bool (inB n lo hi)) ∧ w = w' := by
  by_cases h1 : lo ≤ n
  · by_cases h2 : n ≤ hi
    · go_enter Tryz.func27, Tryz.ntmps27
      go_wp2
      go_returns
      exact ⟨ret_bool (by simp [inB, h1, h2]), rfl⟩
    · go_enter Tryz.func27, Tryz.ntmps27
      go_wp2
      go_returns
      exact ⟨ret_bool (by simp [inB, h1, h2]), rfl⟩
  · go_enter Tryz.func27, Tryz.ntmps27
    go_wp2
    go_returns
    exact ⟨ret_bool (by simp [inB]; omega), rfl⟩
set_option maxHeartbeats 1000000 in
theorem rrightphase_any (HPR : RPolyOk) (w : World) (a : Value) (L : List PtV) (h : PtsR w a L) (g v m u : Int) : Calls Tryz.prog 26 #[.agg #[a, .int .i64 g, .int .i64 v, .int .i64 m, .int .i64 u]] w fun e w' => e = .returned (.bool (phaseB L g v m u)) ∧ Chg [] w w' := by
  have hX := (Chg.refl [] w).alloc (.cells #[a, .int .i64 g, .int .i64 v, .int .i64 m, .int .i64 u] 51)
  have hA := At.new w #[a, .int .i64 g, .int .i64 v, .int .i64 m, .int .i64 u] 51
  have HP := fun w' (hw : Chg [] w w') => HPR w' a L (h.keep hw)
  have H1 := fun w => rwithin_any w g 1 100
  have H2 := fun w => rwithin_any w v 1 65536
  have H3 := fun w => rwithin_any w m 1 1000000
  have H4 := fun w => rwithin_any w u 0 1073741824
  have Ho := Lib.hid (show phaseB L g v m u = (polyB L && (inB g 1 100 && (inB v 1 65536 && (inB m 1 1000000 && inB u 0 1073741824)))) from rfl)
  clear h
  generalize phaseB L g v m u = R at *
  generalize polyB L = b0 at *
  generalize inB g 1 100 = b1 at *
  generalize inB v 1 65536 = b2 at *
  generalize inB m 1 1000000 = b3 at *
  generalize inB u 0 1073741824 = b4 at *
  go_enter Tryz.func26, Tryz.ntmps26
  go_wp2_with fail
  refine (HP _ hX).mono ?_; rintro e w1 ⟨rfl, hY⟩
  replace hA := hY.at hA (by simp)
  replace hX := hX.trans hY
  have c1 := hA.cell 1
  have c2 := hA.cell 2
  have c3 := hA.cell 3
  have c4 := hA.cell 4
  clear hY
  cases b0 with
  | false =>
    go_wp2
    go_returns
    exact ⟨ret_bool (by rw [Ho.out]; rfl), hX⟩
  | true =>
    go_wp2_with fail
    refine (H1 _).mono ?_; rintro e w' ⟨rfl, rfl⟩
    cases b1 with
    | false =>
      go_wp2
      go_returns
      exact ⟨ret_bool (by rw [Ho.out]; rfl), hX⟩
    | true =>
      go_wp2_with fail
      refine (H2 _).mono ?_; rintro e w' ⟨rfl, rfl⟩
      cases b2 with
      | false =>
        go_wp2
        go_returns
        exact ⟨ret_bool (by rw [Ho.out]; rfl), hX⟩
      | true =>
        go_wp2_with fail
        refine (H3 _).mono ?_; rintro e w' ⟨rfl, rfl⟩
        cases b3 with
        | false =>
          go_wp2
          go_returns
          exact ⟨ret_bool (by rw [Ho.out]; rfl), hX⟩
        | true =>
          go_wp2_with fail
          refine (H4 _).mono ?_; rintro e w' ⟨rfl, rfl⟩
          go_wp2
          go_returns
          exact ⟨ret_bool (by rw [Ho.out]; rfl), hX⟩
end Go.Proofs.YtpfglmlpodjneaaGreat
namespace Go.Proofs.YtpfglmlpodjneaaGreat
open Go.RowKit

def RSimpleOk : Prop := ∀ (W : World) (v : Value) (L : List PtV), PtsR W v L → Calls Tryz.prog 59 #[v] W fun e w' => e = .returned (.bool (simpleB L)) ∧ Chg [] W w'
def farR (p : PtV) : Bool := decide (p.x < -1073741824) || (decide (1073741824 < p.x) || (decide (p.y < -1073741824) || decide (1073741824 < p.y)))
theorem far_small {p : PtV} (h : farR p = false) : p.far = false := by
  unfold farR at h
  simp at h
  unfold PtV.far
  rw [IntWalk.wrap64_in _ ⟨by omega, by omega⟩, IntWalk.wrap64_in _ ⟨by omega, by omega⟩]
  simp; omega
theorem far_big {p : PtV} (h : farR p = true) (ho : p.ok = true) : p.far = true := by
  have B := PtV.ok_bd ho
  unfold farR at h
  simp at h
  unfold PtV.far
  rw [IntWalk.wrap64_in _ ⟨by omega, by omega⟩, IntWalk.wrap64_in _ ⟨by omega, by omega⟩]
  simp; omega
theorem poly_no (L : List PtV) (i : Nat) (p : PtV) (hp : L[i]? = some p) (h : farR p = true) : polyB L = false := by
  have hm : p ∈ L := List.mem_of_getElem? hp
  cases hs : simpleB L with
  | false => unfold polyB; rw [hs]; rfl
  | true =>
    rw [simple_iff] at hs
    have ho := List.all_eq_true.1 hs.2.2.1 p hm
    have : L.any PtV.far = true := List.any_eq_true.2 ⟨p, hm, far_big h ho⟩
    unfold polyB; rw [this]; simp
theorem poly_yes (L : List PtV) (h : ∀ j q, j < L.length → L[j]? = some q → farR q = false) : polyB L = simpleB L := by
  have : L.any PtV.far = false := by
    rw [List.any_eq_false]
    intro q hq
    obtain ⟨j, hj, e⟩ := List.getElem_of_mem hq
    rw [far_small (h j q hj (by rw [List.getElem?_eq_getElem hj, e]))]
    simp
  unfold polyB; rw [this]; simp
set_option maxHeartbeats 2000000 in
set_option maxRecDepth 10000 in
theorem rpright_any (HS0 : RSimpleOk) (W : World) (v : Value) (L : List PtV) (h : PtsR W v L) : Calls Tryz.prog 43 #[v] W fun e w' => e = .returned (.bool (polyB L)) ∧ Chg [] W w' := by
  have HS := Lib.hid (fun w (hw : Chg [] W w) => HS0 w v L (h.keep hw))
  have HN := Lib.hid (poly_no L)
  have HY := Lib.hid (poly_yes L)
  have h8 := simple_iff L
  obtain ⟨hm, h⟩ := h
  by_cases hlen : 8 < L.length
  · have HF : Hid (polyB L = false) := Lib.hid (by
      unfold polyB
      cases hs : simpleB L
      · rfl
      · rw [hs] at h8; exact absurd (h8.1 rfl).2.1 (by omega))
    have HSf : Hid (simpleB L = false) := Lib.hid (by
      cases hs : simpleB L
      · rfl
      · rw [hs] at h8; exact absurd (h8.1 rfl).2.1 (by omega))
    obtain ⟨_, ad, cap, rfl⟩ := PtsR.len ⟨hm, h⟩
    rw [HSf.out] at HS
    clear h h8 HN HY
    have HS2 := HS.out W (Chg.refl _ _)
    have hX := Chg.refl [] W
    generalize polyB L = R at *
    generalize L.length = n at *
    go_enter Tryz.func43, Tryz.ntmps43
    go_wp2_with fail
    go_loopg [3] 0 (fun gk ii wr => ii = .int .i64 0 ∧ wr = W)
    case atStart => exact ⟨rfl, rfl⟩
    case round =>
      obtain ⟨rfl, rfl⟩ := hrel
      go_wp2_with fail
      refine HS2.mono ?_; rintro e w' ⟨rfl, hX⟩
      go_wp2
      all_goals go_returns
      all_goals exact ⟨ret_bool (by rw [HF.out]), hX⟩
  · clear h8
    rcases h with ⟨rfl, ad, cap, rfl⟩ | ⟨b, off, cap, rfl, h0, hc⟩
    · have HF : Hid (polyB ([] : List PtV) = false) := Lib.hid rfl
      rw [show simpleB ([] : List PtV) = false from rfl] at HS
      have HS2 := HS.out W (Chg.refl _ _)
      clear HN HY
      generalize polyB ([] : List PtV) = R at *
      go_enter Tryz.func43, Tryz.ntmps43
      go_wp2_with fail
      go_loopg [3] 0 (fun gk ii wr => ii = .int .i64 0 ∧ wr = W)
      case atStart => exact ⟨rfl, rfl⟩
      case round =>
        obtain ⟨rfl, rfl⟩ := hrel
        go_wp2_with fail
        refine HS2.mono ?_; rintro e w' ⟨rfl, hX⟩
        go_wp2
        all_goals go_returns
        all_goals exact ⟨ret_bool (by rw [HF.out]), hX⟩
    · have Hc := Lib.hid hc
      clear hc
      generalize polyB L = R at *
      generalize hn : L.length = n at *
      have Hn := Lib.hid hn
      clear hn
      go_enter Tryz.func43, Tryz.ntmps43
      go_wp2_with fail
      go_loopg [3] n (fun gk ii wr => ∃ i : Nat, i + gk = n ∧ ii = .int .i64 i ∧ Chg [] W wr ∧ Hid (∀ j q, j < i → L[j]? = some q → farR q = false))
      case atStart => exact ⟨0, by omega, rfl, Chg.refl _ _, Lib.hid (fun j q h => by omega)⟩
      case round =>
        obtain ⟨i, hi, rfl, hX, HP⟩ := hrel
        by_cases hlt : i < n
        · obtain ⟨p, hp⟩ : ∃ p, L[i]? = some p := ⟨L[i]'(by rw [Hn.out]; exact hlt), List.getElem?_eq_getElem _⟩
          have d0 := hX.cell (Hc.out i p hp).1 (by simp)
          have d1 := hX.cell (Hc.out i p hp).2 (by simp)
          have Hp := Lib.hid hp
          clear hp
          have g0 : (0 : Int) ≤ (i : Int) := by omega
          have g1 : (i : Int) < (n : Int) := by omega
          have g2 : (i : Int).toNat = i := by omega
          by_cases c0 : p.x < -1073741824
          · have HF : Hid (R = false) := Lib.hid (HN.out i p Hp.out (by unfold farR; simp; omega))
            go_wp2
            all_goals go_returns
            all_goals exact ⟨ret_bool (by rw [HF.out]), hX⟩
          · by_cases c1 : 1073741824 < p.x
            · have HF : Hid (R = false) := Lib.hid (HN.out i p Hp.out (by unfold farR; simp; omega))
              go_wp2
              all_goals go_returns
              all_goals exact ⟨ret_bool (by rw [HF.out]), hX⟩
            · by_cases c2 : p.y < -1073741824
              · have HF : Hid (R = false) := Lib.hid (HN.out i p Hp.out (by unfold farR; simp; omega))
                go_wp2
                all_goals go_returns
                all_goals exact ⟨ret_bool (by rw [HF.out]), hX⟩
              · by_cases c3 : 1073741824 < p.y
                · have HF : Hid (R = false) := Lib.hid (HN.out i p Hp.out (by unfold farR; simp; omega))
                  go_wp2
                  all_goals go_returns
                  all_goals exact ⟨ret_bool (by rw [HF.out]), hX⟩
                · have HP2 : Hid (∀ j q, j < i + 1 → L[j]? = some q → farR q = false) := Lib.hid (fun j q hj hq => by
                    by_cases e : j = i
                    · subst e; rw [Hp.out] at hq; obtain rfl := Option.some.inj hq; unfold farR; simp; omega
                    · exact HP.out j q (by omega) hq)
                  go_wp2_with fail
                  go_roundg (gk - 1)
                  case rel => exact ⟨i + 1, by omega, by go_num, hX, HP2⟩
                  case measure => omega
        · obtain rfl : gk = 0 := by omega
          obtain rfl : i = n := by omega
          have HE : Hid (R = simpleB L) := Lib.hid (HY.out (by first | (rw [Hn.out]; exact HP.out) | exact HP.out))
          have HS2 := HS.out _ hX
          rw [← HE.out] at HS2
          go_wp2_with fail
          refine HS2.mono ?_; rintro e w' ⟨rfl, hY⟩
          go_wp2
          all_goals go_returns
          all_goals exact ⟨rfl, hX.trans hY⟩
end Go.Proofs.YtpfglmlpodjneaaGreat
namespace Go.Proofs.YtpfglmlpodjneaaGreat
open Go.RowKit

def byteL (L : List Int) : Prop := ∀ x ∈ L, 0 ≤ x ∧ x ≤ 255
theorem byteL.app {A B : List Int} (h : byteL A) (k : byteL B) : byteL (A ++ B) := by
  intro x hx
  rcases List.mem_append.1 hx with hx | hx
  · exact h x hx
  · exact k x hx
theorem nums_by {L : List Int} (h : byteL L) (k : Nat) (v : Int) (hk : L[k]? = some v) : by_ (strOfNums L) k = v := by
  have := h v (List.mem_of_getElem? hk)
  exact by_nums L k v hk this.1 this.2
theorem nums_drop (A B : List Int) : (strOfNums (A ++ B)).extract A.length (strOfNums (A ++ B)).size = strOfNums B := by
  have hz : (strOfNums (A ++ B)).size = A.length + B.length := by rw [strOfNums_size, List.length_append]
  refine by_ext (by simp only [ByteArray.size_extract, strOfNums_size, List.length_append]; omega) (fun k hk => ?_)
  simp only [ByteArray.size_extract] at hk
  rw [by_extract _ _ _ _ (by omega) (by omega), nums_app, by_app_r _ _ _ (by rw [strOfNums_size]; omega), strOfNums_size]
  congr 1; omega
theorem nums_take (A B : List Int) : (strOfNums (A ++ B)).extract 0 A.length = strOfNums A := by
  have hz : (strOfNums (A ++ B)).size = A.length + B.length := by rw [strOfNums_size, List.length_append]
  refine by_ext (by simp only [ByteArray.size_extract, strOfNums_size, List.length_append]; omega) (fun k hk => ?_)
  simp only [ByteArray.size_extract] at hk
  rw [by_extract _ _ _ _ (by omega) (by omega), nums_app, by_app_l _ _ _ (by rw [strOfNums_size]; omega), Nat.zero_add]
/-- A number of four bytes at a place. -/
theorem num4_b4 (s : ByteArray) (k : Nat) (n : Int) (h0 : by_ s k = n / 16777216 % 256) (h1 : by_ s (k + 1) = n / 65536 % 256) (h2 : by_ s (k + 2) = n / 256 % 256) (h3 : by_ s (k + 3) = n % 256) : num4 s k = n % 4294967296 := by
  unfold num4; rw [h0, h1, h2, h3]; omega
theorem sg32_mod (n : Int) (h0 : -2147483648 ≤ n) (h1 : n ≤ 2147483647) : sg32 (n % 4294967296) = n := by
  unfold sg32; split <;> omega
def PtV.fit (q : PtV) : Prop := (-2147483648 ≤ q.x ∧ q.x ≤ 2147483647) ∧ (-2147483648 ≤ q.y ∧ q.y ≤ 2147483647)
theorem ptL_byte (q : PtV) : byteL (ptL q) := (show byteL (b4 q.x) from b4_bd _).app (b4_bd _)
theorem area_byte : ∀ L : List PtV, byteL (L.flatMap ptL)
  | [] => fun x h => by simp at h
  | p :: L => by rw [List.flatMap_cons]; exact (ptL_byte p).app (area_byte L)
/-- The bytes of points, read. -/
theorem ptsAt_nums (H R : List Int) (hH : byteL H) (hR : byteL R) : ∀ (L : List PtV), (∀ q ∈ L, q.fit) → ptsAt (strOfNums (H ++ (L.flatMap ptL ++ R))) H.length L.length = L := by
  intro L
  have key : ∀ (n : Nat), n ≤ L.length → (∀ q ∈ L, q.fit) → ptsAt (strOfNums (H ++ (L.flatMap ptL ++ R))) H.length n = L.take n := by
    intro n
    induction n with
    | zero => intro _ _; rfl
    | succ n ih =>
      intro hn hf
      have hlt : n < L.length := by omega
      have hall : byteL (H ++ (L.flatMap ptL ++ R)) := hH.app ((area_byte L).app hR)
      obtain ⟨q, hq⟩ : ∃ q, L[n]? = some q := ⟨L[n], List.getElem?_eq_getElem hlt⟩
      have hfq := hf q (List.mem_of_getElem? hq)
      have hget : ∀ j, j < 8 → ∀ v, (ptL q)[j]? = some v → (H ++ (L.flatMap ptL ++ R))[H.length + 8 * n + j]? = some v := by
        intro j hj v hv
        have hsp : L.flatMap ptL = (L.take n).flatMap ptL ++ (ptL q ++ (L.drop (n + 1)).flatMap ptL) := by
          have hd : L.drop n = q :: L.drop (n + 1) := by
            rw [List.drop_eq_getElem_cons hlt]
            rw [List.getElem?_eq_getElem hlt] at hq
            rw [Option.some.inj hq]
          conv => lhs; rw [← List.take_append_drop n L, List.flatMap_append, hd, List.flatMap_cons]
        have hl1 : ((L.take n).flatMap ptL).length = 8 * n := by rw [area_len, List.length_take]; omega
        rw [hsp, List.getElem?_append_right (by omega), show H.length + 8 * n + j - H.length = 8 * n + j by omega, List.append_assoc, List.getElem?_append_right (by omega), hl1, show 8 * n + j - 8 * n = j by omega, List.append_assoc, List.getElem?_append_left (by rw [ptL_len]; omega)]
        exact hv
      have hx := num4_b4 (strOfNums (H ++ (L.flatMap ptL ++ R))) (H.length + 8 * n) q.x (nums_by hall _ _ (hget 0 (by omega) _ rfl)) (nums_by hall _ _ (hget 1 (by omega) _ rfl)) (nums_by hall _ _ (hget 2 (by omega) _ rfl)) (nums_by hall _ _ (hget 3 (by omega) _ rfl))
      have hy := num4_b4 (strOfNums (H ++ (L.flatMap ptL ++ R))) (H.length + 8 * n + 4) q.y (nums_by hall _ _ (hget 4 (by omega) _ rfl)) (nums_by hall _ _ (hget 5 (by omega) _ rfl)) (nums_by hall _ _ (hget 6 (by omega) _ rfl)) (nums_by hall _ _ (hget 7 (by omega) _ rfl))
      rw [show ptsAt (strOfNums (H ++ (L.flatMap ptL ++ R))) H.length (n + 1) = ptsAt (strOfNums (H ++ (L.flatMap ptL ++ R))) H.length n ++ [⟨sg32 (num4 (strOfNums (H ++ (L.flatMap ptL ++ R))) (H.length + 8 * n)), sg32 (num4 (strOfNums (H ++ (L.flatMap ptL ++ R))) (H.length + 8 * n + 4))⟩] from rfl, ih (by omega) hf, hx, hy, sg32_mod _ hfq.1.1 hfq.1.2, sg32_mod _ hfq.2.1 hfq.2.2, List.take_add_one, hq]
      rfl
  intro hf
  rw [key L.length (Nat.le_refl _) hf, List.take_length]
def PhV.fit (p : PhV) : Prop := p.area.length ≤ 255 ∧ (∀ q ∈ p.area, q.fit) ∧ (0 ≤ p.g ∧ p.g ≤ 255) ∧ (0 ≤ p.mv ∧ p.mv ≤ 4294967295) ∧ (0 ≤ p.mn ∧ p.mn ≤ 4294967295) ∧ (0 ≤ p.up ∧ p.up ≤ 4294967295)
theorem phHead_byte (p : PhV) : byteL (phHead p) := by
  unfold phHead
  refine ((byteL.app (fun x hx => ?_) (b4_bd _)).app (b4_bd _)).app (b4_bd _)
  simp only [List.mem_cons, List.not_mem_nil, or_false] at hx
  rcases hx with rfl | rfl <;> omega
theorem phL_byte (p : PhV) : byteL (phL p) := (phHead_byte p).app (area_byte _)
theorem phs_byte : ∀ L : List PhV, byteL (L.flatMap phL)
  | [] => fun x h => by simp at h
  | p :: L => by rw [List.flatMap_cons]; exact (phL_byte p).app (phs_byte L)
theorem one_nums (p : PhV) (R : List Int) (hf : p.fit) (hR : byteL R) : okPh (strOfNums (phL p ++ R)) = true ∧ onePh (strOfNums (phL p ++ R)) = p ∧ restPh (strOfNums (phL p ++ R)) = strOfNums R := by
  obtain ⟨h1, h2, h3, h4, h5, h6⟩ := hf
  have hall : byteL (phL p ++ R) := (phL_byte p).app hR
  have hz : (strOfNums (phL p ++ R)).size = 14 + 8 * p.area.length + R.length := by rw [strOfNums_size, List.length_append, phL_len]
  have g : ∀ j, j < 14 → ∀ v, (phHead p)[j]? = some v → by_ (strOfNums (phL p ++ R)) j = v := by
    intro j hj v hv
    refine nums_by hall j v ?_
    unfold phL
    rw [List.append_assoc, List.getElem?_append_left (by show j < 14; omega)]
    exact hv
  have b0 := g 0 (by omega) _ rfl
  have b1 := g 1 (by omega) _ rfl
  have n2 := num4_b4 _ 2 p.mv (g 2 (by omega) _ rfl) (g 3 (by omega) _ rfl) (g 4 (by omega) _ rfl) (g 5 (by omega) _ rfl)
  have n6 := num4_b4 _ 6 p.mn (g 6 (by omega) _ rfl) (g 7 (by omega) _ rfl) (g 8 (by omega) _ rfl) (g 9 (by omega) _ rfl)
  have n10 := num4_b4 _ 10 p.up (g 10 (by omega) _ rfl) (g 11 (by omega) _ rfl) (g 12 (by omega) _ rfl) (g 13 (by omega) _ rfl)
  have hl : (by_ (strOfNums (phL p ++ R)) 0).toNat = p.area.length := by rw [b0]; omega
  refine ⟨?_, ?_, ?_⟩
  · unfold okPh; rw [b0, hz]; simp; omega
  · unfold onePh
    rw [hl, b1, n2, n6, n10]
    have hp := ptsAt_nums (phHead p) R (phHead_byte p) hR p.area h2
    rw [show (phHead p).length = 14 from rfl] at hp
    rw [show phL p ++ R = phHead p ++ (p.area.flatMap ptL ++ R) by unfold phL; rw [List.append_assoc], hp]
    rw [Int.emod_eq_of_lt h4.1 (by omega), Int.emod_eq_of_lt h5.1 (by omega), Int.emod_eq_of_lt h6.1 (by omega), Int.emod_eq_of_lt h3.1 (by omega)]
  · unfold restPh
    rw [hl]
    have := nums_drop (phL p) R
    rw [phL_len] at this
    exact this
theorem phsL_nums (R : List Int) (hR : byteL R) : ∀ (phs L : List PhV), (∀ p ∈ phs, p.fit) → phsL phs.length (strOfNums (phs.flatMap phL ++ R)) L = some (L ++ phs, strOfNums R)
  | [], L, _ => by simp [phsL]
  | p :: phs, L, h => by
    obtain ⟨a1, a2, a3⟩ := one_nums p (phs.flatMap phL ++ R) (h p (by simp)) ((phs_byte phs).app hR)
    rw [List.flatMap_cons, List.append_assoc, List.length_cons]
    unfold phsL
    rw [if_pos a1, a2, a3, phsL_nums R hR phs (L ++ [p]) (fun q hq => h q (by simp [hq]))]
    simp
structure RuV.fit (r : RuV) : Prop where
  len : r.phs.length ≤ 255
  phs : ∀ p ∈ r.phs, p.fit
  n : 0 ≤ r.n ∧ r.n ≤ 255
  d : 0 ≤ r.d ∧ r.d ≤ 255
  green : 0 ≤ r.green ∧ r.green ≤ 255
  age : 0 ≤ r.age ∧ r.age ≤ 255
  saf : 0 ≤ r.saf ∧ r.saf ≤ 255
  eps : 0 ≤ r.eps ∧ r.eps ≤ 4294967295
  step : 0 ≤ r.step ∧ r.step ≤ 4294967295
  lift : 0 ≤ r.lift ∧ r.lift ≤ 4294967295
theorem headL_byte (r : RuV) : byteL (headL r) := by
  unfold headL
  refine (((byteL.app (fun x hx => ?_) (fun x hx => ?_)).app (b4_bd _)).app (b4_bd _)).app (b4_bd _)
  · simp only [List.mem_cons, List.not_mem_nil, or_false] at hx
    omega
  · simp only [List.mem_cons, List.not_mem_nil, or_false] at hx
    rcases hx with rfl | rfl | rfl | rfl | rfl | rfl <;> omega
/-- Bytes that begin with any head that tells as many phases, and go on with them and any four. -/
theorem read_nums (H : List Int) (phs : List PhV) (Q : List Int) (hH : byteL H) (hQ : byteL Q) (hl : H.length = 22) (h0 : H[0]? = some 65) (h1 : H[1]? = some 70) (h2 : H[2]? = some 84) (h3 : H[3]? = some 85) (h4 : H[4]? = some (phs.length : Int)) (hq : Q.length = 4) (hf : ∀ p ∈ phs, p.fit) :
    readV (strOfNums (H ++ (phs.flatMap phL ++ Q))) = (if ((sum32 (strOfNums (H ++ phs.flatMap phL))).toNat : Int) ≠ num4 (strOfNums Q) 0 then (zRu, 4) else if wrongN (headRu (strOfNums (H ++ (phs.flatMap phL ++ Q))) phs) = 0 then (headRu (strOfNums (H ++ (phs.flatMap phL ++ Q))) phs, 0) else (zRu, 3)) := by
  have hall : byteL (H ++ (phs.flatMap phL ++ Q)) := hH.app ((phs_byte _).app hQ)
  have g : ∀ j v, H[j]? = some v → by_ (strOfNums (H ++ (phs.flatMap phL ++ Q))) j = v := by
    intro j v hv
    refine nums_by hall j v ?_
    rw [List.getElem?_append_left (List.getElem?_eq_some_iff.1 hv).1]
    exact hv
  have hz : (strOfNums (H ++ (phs.flatMap phL ++ Q))).size = 22 + (phs.flatMap phL).length + 4 := by rw [strOfNums_size, List.length_append, List.length_append, hl, hq]; omega
  have hm : magicB (strOfNums (H ++ (phs.flatMap phL ++ Q))) = true := by
    rw [magic_iff]
    intro j hj
    have hj4 : j = 0 ∨ j = 1 ∨ j = 2 ∨ j = 3 := by omega
    rcases hj4 with rfl | rfl | rfl | rfl
    · rw [g 0 _ h0]; rfl
    · rw [g 1 _ h1]; rfl
    · rw [g 2 _ h2]; rfl
    · rw [g 3 _ h3]; rfl
  have hp : phsL (by_ (strOfNums (H ++ (phs.flatMap phL ++ Q))) 4).toNat ((strOfNums (H ++ (phs.flatMap phL ++ Q))).extract 22 (strOfNums (H ++ (phs.flatMap phL ++ Q))).size) [] = some (phs, strOfNums Q) := by
    rw [g 4 _ h4]
    have hd := nums_drop H (phs.flatMap phL ++ Q)
    rw [hl] at hd
    rw [hd, Int.toNat_natCast, phsL_nums Q hQ phs [] hf]
    simp
  have ht : (strOfNums (H ++ (phs.flatMap phL ++ Q))).extract 0 ((strOfNums (H ++ (phs.flatMap phL ++ Q))).size - 4) = strOfNums (H ++ phs.flatMap phL) := by
    have := nums_take (H ++ phs.flatMap phL) Q
    rw [List.append_assoc] at this
    rw [hz, show 22 + (phs.flatMap phL).length + 4 - 4 = (H ++ phs.flatMap phL).length by rw [List.length_append, hl]; omega]
    exact this
  unfold readV
  rw [if_neg (by rw [hm]; simp), if_neg (by omega), hp]
  dsimp only
  rw [strOfNums_size, hq, if_neg (by omega), if_neg (by omega), ht]
theorem print_app (r : RuV) : printV r = strOfNums (headL r ++ (r.phs.flatMap phL ++ be4 (sum32 (strOfNums (headL r ++ r.phs.flatMap phL))).toNat)) := by
  unfold printV allL bodyL; rw [List.append_assoc]
theorem be4_byte (x : BitVec 32) : byteL (be4 (x.toNat : Int)) := be4_bd (by omega) (by have := x.isLt; omega)
theorem num4_be4 (x : BitVec 32) : num4 (strOfNums (be4 (x.toNat : Int))) 0 = (x.toNat : Int) := by
  have hb := be4_byte x
  have hx := x.isLt
  have := num4_b4 (strOfNums (be4 (x.toNat : Int))) 0 (x.toNat : Int) ((nums_by hb 0 _ rfl).trans (by omega)) ((nums_by hb 1 _ rfl).trans (by omega)) ((nums_by hb 2 _ rfl).trans (by omega)) ((nums_by hb 3 _ rfl).trans (by omega))
  rw [this]; omega
theorem head_nums (r : RuV) (Q : List Int) (hQ : byteL Q) (h : r.fit) : headRu (strOfNums (headL r ++ (r.phs.flatMap phL ++ Q))) r.phs = r := by
  have hall : byteL (headL r ++ (r.phs.flatMap phL ++ Q)) := (headL_byte r).app ((phs_byte _).app hQ)
  have g : ∀ j v, (headL r)[j]? = some v → by_ (strOfNums (headL r ++ (r.phs.flatMap phL ++ Q))) j = v := by
    intro j v hv
    refine nums_by hall j v ?_
    rw [List.getElem?_append_left (List.getElem?_eq_some_iff.1 hv).1]
    exact hv
  unfold headRu
  have m0 := num4_b4 _ 10 r.eps (g 10 _ rfl) (g 11 _ rfl) (g 12 _ rfl) (g 13 _ rfl)
  have m1 := num4_b4 _ 14 r.step (g 14 _ rfl) (g 15 _ rfl) (g 16 _ rfl) (g 17 _ rfl)
  have m2 := num4_b4 _ 18 r.lift (g 18 _ rfl) (g 19 _ rfl) (g 20 _ rfl) (g 21 _ rfl)
  rw [g 5 _ rfl, g 6 _ rfl, g 7 _ rfl, g 8 _ rfl, g 9 _ rfl, m0, m1, m2]
  rw [Int.emod_eq_of_lt h.n.1 (by have := h.n; omega), Int.emod_eq_of_lt h.d.1 (by have := h.d; omega), Int.emod_eq_of_lt h.green.1 (by have := h.green; omega), Int.emod_eq_of_lt h.age.1 (by have := h.age; omega), Int.emod_eq_of_lt h.saf.1 (by have := h.saf; omega),
    Int.emod_eq_of_lt h.eps.1 (by have := h.eps; omega), Int.emod_eq_of_lt h.step.1 (by have := h.step; omega), Int.emod_eq_of_lt h.lift.1 (by have := h.lift; omega)]
/-- What is printed is read as it was. -/
theorem read_print (r : RuV) (h : r.fit) (hw : wrongN r = 0) : readV (printV r) = (r, 0) := by
  rw [print_app]
  have hl4 : (headL r)[4]? = some ((r.phs.length : Int)) := by
    rw [show (headL r)[4]? = some ((r.phs.length : Int) % 256) from rfl, Int.emod_eq_of_lt (by omega) (by have := h.len; omega)]
  rw [read_nums (headL r) r.phs _ (headL_byte r) (be4_byte _) rfl rfl rfl rfl rfl hl4 rfl h.phs, num4_be4, if_neg (by simp), head_nums r _ (be4_byte _) h, if_pos hw]
end Go.Proofs.YtpfglmlpodjneaaGreat
namespace Go.Proofs.YtpfglmlpodjneaaGreat
open Go.RowKit

theorem limB_eq (r : RuV) : limB r = (inB r.n 1 50 && (inB r.d 1 50 && inB r.green 1 50)) := by
  unfold limB inB
  rw [Bool.eq_iff_iff]
  simp
  omega
set_option maxHeartbeats 4000000 in
set_option maxRecDepth 10000 in
theorem rwrong_any (HPR : RPolyOk) (W : World) (va : Value) (r : RuV) (h : PhsR W va r.phs) : Calls Tryz.prog 16 #[.agg #[va, .int .i64 r.n, .int .i64 r.d, .int .i64 r.green, .int .i64 r.eps, .int .i64 r.step, .int .i64 r.age, .int .i64 r.lift, .int .i64 r.saf]] W fun e w' => e = .returned (.int .i64 (wrongN r)) ∧ Chg [] W w' := by
  have hX := (Chg.refl [] W).alloc (.cells #[va, .int .i64 r.n, .int .i64 r.d, .int .i64 r.green, .int .i64 r.eps, .int .i64 r.step, .int .i64 r.age, .int .i64 r.lift, .int .i64 r.saf] 25)
  have hA := At.new W #[va, .int .i64 r.n, .int .i64 r.d, .int .i64 r.green, .int .i64 r.eps, .int .i64 r.step, .int .i64 r.age, .int .i64 r.lift, .int .i64 r.saf] 25
  have HRP := Lib.hid (fun w a p (h : PtsR w a (PhV.area p)) => rrightphase_any HPR w a p.area h p.g p.mv p.mn p.up)
  have L1 := fun w => rwithin_any w r.n 1 50
  have L2 := fun w => rwithin_any w r.d 1 50
  have L3 := fun w => rwithin_any w r.green 1 50
  have H4 := fun w => rwithin_any w r.eps 0 1024
  have H5 := fun w => rwithin_any w r.step 1 65536
  have H6 := fun w => rwithin_any w r.age 1 50
  have H7 := fun w => rwithin_any w r.lift 1 1073741824
  have H8 := fun w => rwithin_any w r.saf 0 r.phs.length
  have Hw := Lib.hid (show wrongN r = if inB r.phs.length 1 4 = false then 1 else if (r.phs.any fun p => !p.ok) = true then 2 else if limB r = false then 3 else if inB r.eps 0 1024 = false then 4 else if inB r.step 1 65536 = false then 5
    else if inB r.age 1 50 = false then 6 else if inB r.lift 1 1073741824 = false then 7 else if inB r.saf 0 r.phs.length = false then 8 else 0 from rfl)
  rw [limB_eq] at Hw
  obtain ⟨hm, h⟩ := h
  have hLen := (PhsR.len ⟨hm, h⟩).2
  by_cases hl : 1 ≤ r.phs.length ∧ r.phs.length ≤ 4
  · rw [show inB r.phs.length 1 4 = true by unfold inB; simp; omega] at Hw
    obtain ⟨hl1, hl4⟩ := hl
    rcases h with ⟨e, _⟩ | ⟨b, off, cap, rfl, h0, hc⟩
    · rw [e] at hl1; simp at hl1
    · have Hc := Lib.hid hc
      clear hc hLen
      generalize wrongN r = R at *
      generalize inB r.n 1 50 = l1 at *
      generalize inB r.d 1 50 = l2 at *
      generalize inB r.green 1 50 = l3 at *
      generalize inB r.eps 0 1024 = b4 at *
      generalize inB r.step 1 65536 = b5 at *
      generalize inB r.age 1 50 = b6 at *
      generalize inB r.lift 1 1073741824 = b7 at *
      generalize inB r.saf 0 r.phs.length = b8 at *
      generalize hn : r.phs.length = n at *
      have Hn := Lib.hid hn
      clear hn
      have f0 := hA.cell 0
      have f1 := hA.cell 1
      have f2 := hA.cell 2
      have f3 := hA.cell 3
      have f4 := hA.cell 4
      have f5 := hA.cell 5
      have f6 := hA.cell 6
      have f7 := hA.cell 7
      have f8 := hA.cell 8
      go_enter Tryz.func16, Tryz.ntmps16
      go_wp2_with fail
      go_loopg [3] n (fun gk ii wr => ∃ i : Nat, i + gk = n ∧ ii = .int .i64 i ∧ At wr W.heap.size #[.slice (some ⟨b, off, none⟩) n cap, .int .i64 r.n, .int .i64 r.d, .int .i64 r.green, .int .i64 r.eps, .int .i64 r.step, .int .i64 r.age, .int .i64 r.lift, .int .i64 r.saf] ∧ Chg [] W wr ∧ Hid (∀ j q, j < i → r.phs[j]? = some q → q.ok = true))
      case atStart => exact ⟨0, by omega, rfl, hA, hX, Lib.hid (fun j q h => by omega)⟩
      case round =>
        clear hA hX f0 f1 f2 f3 f4 f5 f6 f7 f8
        obtain ⟨i, hi, rfl, hA, hX, HP⟩ := hrel
        have f0 := hA.cell 0
        have f1 := hA.cell 1
        have f2 := hA.cell 2
        have f3 := hA.cell 3
        have f4 := hA.cell 4
        have f5 := hA.cell 5
        have f6 := hA.cell 6
        have f7 := hA.cell 7
        have f8 := hA.cell 8
        by_cases hlt : i < n
        · obtain ⟨p, hp⟩ : ∃ p, r.phs[i]? = some p := ⟨r.phs[i]'(by rw [Hn.out]; exact hlt), List.getElem?_eq_getElem _⟩
          obtain ⟨ua, hua, c0, c1, c2, c3, c4⟩ := Hc.out i p hp
          have d0 := hX.cell c0 (by simp)
          have d1 := hX.cell c1 (by simp)
          have d2 := hX.cell c2 (by simp)
          have d3 := hX.cell c3 (by simp)
          have d4 := hX.cell c4 (by simp)
          have HQ := HRP.out _ ua p (hua.keep hX)
          rw [show phaseB p.area p.g p.mv p.mn p.up = p.ok from rfl] at HQ
          clear hua c0 c1 c2 c3 c4
          have Hp := Lib.hid hp
          clear hp
          have g0 : (0 : Int) ≤ (i : Int) := by omega
          have g1 : (i : Int) < (n : Int) := by omega
          have g2 : (i : Int).toNat = i := by omega
          cases hok : p.ok with
          | false =>
            rw [hok] at HQ
            have hbad : (r.phs.any fun p => !p.ok) = true := List.any_eq_true.2 ⟨p, List.mem_of_getElem? Hp.out, by rw [hok]; rfl⟩
            have Hw2 : Hid (R = 2) := Lib.hid (by rw [Hw.out, hbad]; rfl)
            clear hok hbad Hw
            go_wp2_with fail
            refine HQ.mono ?_; rintro e w' ⟨rfl, hY⟩
            go_wp2
            all_goals go_returns
            all_goals exact ⟨by rw [Hw2.out]; rfl, hX.trans hY⟩
          | true =>
            rw [hok] at HQ
            have HP2 : Hid (∀ j q, j < i + 1 → r.phs[j]? = some q → q.ok = true) := Lib.hid (fun j q hj hq => by
              by_cases e : j = i
              · subst e; rw [Hp.out] at hq; obtain rfl := Option.some.inj hq; exact hok
              · exact HP.out j q (by omega) hq)
            clear hok
            go_wp2_with fail
            refine HQ.mono ?_; rintro e w' ⟨rfl, hY⟩
            replace hA := hY.at hA (by simp)
            replace hX := hX.trans hY
            clear hY d0 d1 d2 d3 d4 f0 f1 f2 f3 f4 f5 f6 f7 f8
            go_wp2_with fail
            go_roundg (gk - 1)
            case rel => exact ⟨i + 1, by omega, by go_num, hA, hX, HP2⟩
            case measure => omega
        · obtain rfl : gk = 0 := by omega
          obtain rfl : i = n := by omega
          have hall : (r.phs.any fun p => !p.ok) = false := by
            rw [List.any_eq_false]
            intro q hq
            obtain ⟨j, hj, e⟩ := List.getElem_of_mem hq
            rw [HP.out j q (by first | exact hj | (rw [← Hn.out]; exact hj) | omega) (by rw [List.getElem?_eq_getElem hj, e])]
            simp
          rw [hall] at Hw
          clear hall
          go_wp2_with fail
          refine (L1 _).mono ?_; rintro e w' ⟨rfl, rfl⟩
          cases l1 with
          | false =>
            go_wp2
            all_goals go_returns
            all_goals exact ⟨by rw [Hw.out]; rfl, hX⟩
          | true =>
            go_wp2_with fail
            refine (L2 _).mono ?_; rintro e w' ⟨rfl, rfl⟩
            cases l2 with
            | false =>
              go_wp2
              all_goals go_returns
              all_goals exact ⟨by rw [Hw.out]; rfl, hX⟩
            | true =>
              go_wp2_with fail
              refine (L3 _).mono ?_; rintro e w' ⟨rfl, rfl⟩
              cases l3 with
              | false =>
                go_wp2
                all_goals go_returns
                all_goals exact ⟨by rw [Hw.out]; rfl, hX⟩
              | true =>
                go_wp2_with fail
                refine (H4 _).mono ?_; rintro e w' ⟨rfl, rfl⟩
                cases b4 with
                | false =>
                  go_wp2
                  all_goals go_returns
                  all_goals exact ⟨by rw [Hw.out]; rfl, hX⟩
                | true =>
                  go_wp2_with fail
                  refine (H5 _).mono ?_; rintro e w' ⟨rfl, rfl⟩
                  cases b5 with
                  | false =>
                    go_wp2
                    all_goals go_returns
                    all_goals exact ⟨by rw [Hw.out]; rfl, hX⟩
                  | true =>
                    go_wp2_with fail
                    refine (H6 _).mono ?_; rintro e w' ⟨rfl, rfl⟩
                    cases b6 with
                    | false =>
                      go_wp2
                      all_goals go_returns
                      all_goals exact ⟨by rw [Hw.out]; rfl, hX⟩
                    | true =>
                      go_wp2_with fail
                      refine (H7 _).mono ?_; rintro e w' ⟨rfl, rfl⟩
                      cases b7 with
                      | false =>
                        go_wp2
                        all_goals go_returns
                        all_goals exact ⟨by rw [Hw.out]; rfl, hX⟩
                      | true =>
                        go_wp2_with fail
                        refine (H8 _).mono ?_; rintro e w' ⟨rfl, rfl⟩
                        cases b8 with
                        | false =>
                          go_wp2
                          all_goals go_returns
                          all_goals exact ⟨by rw [Hw.out]; rfl, hX⟩
                        | true =>
                          go_wp2
                          all_goals go_returns
                          all_goals exact ⟨by rw [Hw.out]; rfl, hX⟩
  · rw [show inB r.phs.length 1 4 = false by unfold inB; simp; omega] at Hw
    obtain ⟨ad, cap, rfl⟩ := hLen
    generalize wrongN r = R at *
    have Hw2 : Hid (R = 1) := Lib.hid (by rw [Hw.out]; rfl)
    clear h Hw H8
    generalize r.phs.length = n at *
    have f0 := hA.cell 0
    have f1 := hA.cell 1
    have f2 := hA.cell 2
    have f3 := hA.cell 3
    have f4 := hA.cell 4
    have f5 := hA.cell 5
    have f6 := hA.cell 6
    have f7 := hA.cell 7
    have f8 := hA.cell 8
    go_enter Tryz.func16, Tryz.ntmps16
    by_cases h1 : (n : Int) < 1
    · go_wp2
      all_goals go_returns
      all_goals exact ⟨by rw [Hw2.out]; rfl, hX⟩
    · have h2 : (4 : Int) < (n : Int) := by omega
      go_wp2
      all_goals go_returns
      all_goals exact ⟨by rw [Hw2.out]; rfl, hX⟩
end Go.Proofs.YtpfglmlpodjneaaGreat
