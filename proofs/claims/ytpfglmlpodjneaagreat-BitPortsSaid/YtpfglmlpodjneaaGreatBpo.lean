/- Walk of the law BitPorts. -/
import Derived.Test.YtpfglmlpodjneaaGreatRug
set_option linter.unusedSimpArgs false
set_option linter.unusedVariables false
namespace Go.Proofs.YtpfglmlpodjneaaGreat
open Go.RowKit

theorem fault_ports (e port : Int) : faultN 0 port = 2 * (port % 4) ∧ (0 ≤ port % 4 ∧ port % 4 ≤ 3) ∧ bits .or .i64 (faultN e port) 1 = faultN 0 port + 1 ∧ bits .or .i64 (2 * (port % 4)) 1 = faultN 0 port + 1 ∧ (e = 0 → bits .and .i64 (faultN e port) 1 = 0) ∧ (e ≠ 0 → bits .and .i64 (faultN e port) 1 = 1) := by
  have hc : port % 4 = 0 ∨ port % 4 = 1 ∨ port % 4 = 2 ∨ port % 4 = 3 := by omega
  have hq : ∀ (x : Int), (bitN port 1 = decide (port % 2 = 1)) ∧ bitN port 2 = decide (port / 2 % 2 = 1) := by intro x; unfold bitN; simp
  obtain ⟨q1, q2⟩ := hq 0
  have hv : ∀ e : Int, faultN e port = (if e = 0 then 0 else 1) + 2 * (port % 4) := by
    intro e
    unfold faultN
    rw [q1, q2]
    by_cases a : port % 2 = 1
    · by_cases b : port / 2 % 2 = 1
      · simp only [a, b, decide_true, if_true]; split <;> omega
      · simp only [a, b, decide_true, decide_false, if_true, Bool.false_eq_true, if_false]; split <;> omega
    · by_cases b : port / 2 % 2 = 1
      · simp only [a, b, decide_true, decide_false, if_true, Bool.false_eq_true, if_false]; split <;> omega
      · simp only [a, b, decide_false, Bool.false_eq_true, if_false]; split <;> omega
  have h0 := hv 0
  rw [if_pos rfl] at h0
  refine ⟨by omega, by omega, ?_, ?_, fun h => ?_, fun h => ?_⟩
  · rw [hv e, h0]
    by_cases h : e = 0
    · rw [if_pos h]
      rcases hc with h | h | h | h <;> rw [h] <;> decide
    · rw [if_neg h]
      rcases hc with h | h | h | h <;> rw [h] <;> decide
  · rw [h0]
    rcases hc with h | h | h | h <;> rw [h] <;> decide
  · rw [hv e, if_pos h]
    rcases hc with h | h | h | h <;> rw [h] <;> decide
  · rw [hv e, if_neg h]
    rcases hc with h | h | h | h <;> rw [h] <;> decide
set_option maxRecDepth 100000 in
set_option maxHeartbeats 4000000 in
theorem BitPorts_walk (W : World) (c0 : Array Value) (x0 : shRu.T) (h0 : shRu.rep W x0 c0.toList) (port : Int) (_w : (Lit.int .i64 port).wf = true) (s : ByteArray) (_hs : s.size ≤ maxLen) :
    Calls Tryz.prog 6 #[.agg c0, .int .i64 port, .string s] W fun e w' => e = .returned (.bool true) ∧ Below W.heap.size W w' := by
  obtain ⟨va, rfl, hP⟩ := rules_of h0
  clear h0
  generalize toRu x0 = r at *
  have HF := Lib.hid (fun w (h : PhsR w va r.phs) => rfew_any w va r h)
  have HW := Lib.hid (fun w (h : PhsR w va r.phs) => rwrong_any (rpright_any rsimple_any) w va r h)
  have HFF := Lib.hid (fun h => few_fit (r := r) h)
  have HPS := Lib.hid (fun h => print_size (r := r) h)
  have HRP := Lib.hid (fun h => read_print r (wrong_fit h) h)
  have HPR := Lib.hid (fun w (h : PhsR w va r.phs) h1 h2 => qprint_any w va r h h1 h2)
  have HSE := Lib.hid (fun w vb (h : PhsR w vb r.phs) (h2 : PhsR w va r.phs) => same_self w vb va r h h2)
  generalize hfw : fewB r = fw at *
  clear hfw
  generalize hwn : wrongN r = wn at *
  clear hwn
  have hTV := fun s port => (show testV s port = ((readV s).1, faultN (readV s).2 port) from rfl)
  generalize printV r = ps at *
  obtain ⟨rph, rn, rd, rg, re, rs, ra, rl, rf⟩ := r
  unfold RuV.cells at *
  dsimp only at *
  have A0 := At.new W #[va, .int .i64 rn, .int .i64 rd, .int .i64 rg, .int .i64 re, .int .i64 rs, .int .i64 ra, .int .i64 rl, .int .i64 rf] 25
  have hX0 := (Chg.refl [] W).alloc (.cells #[va, .int .i64 rn, .int .i64 rd, .int .i64 rg, .int .i64 re, .int .i64 rs, .int .i64 ra, .int .i64 rl, .int .i64 rf] 25)
  have P0 := hP.keep hX0
  clear hP
  go_enter Tryz.func6, Tryz.ntmps6
  go_upto_region 1 with fail
  generalize hz : W.heap.size = z at *
  generalize W.alloc (.cells #[va, .int .i64 rn, .int .i64 rd, .int .i64 rg, .int .i64 re, .int .i64 rs, .int .i64 ra, .int .i64 rl, .int .i64 rf] 25) = w0 at *
  have hzW : W.heap.size ≤ z := by omega
  clear hz
  go_wp2_with fail
  refine (awake23 _).mono ?_; rintro e w1 ⟨rfl, hX⟩
  replace A0 := hX.at A0 (by simp)
  replace P0 := P0.keep hX
  replace hX0 := hX0.trans hX
  clear hX
  have c0 := A0.cell 0
  have c1 := A0.cell 1
  have c2 := A0.cell 2
  have c3 := A0.cell 3
  have c4 := A0.cell 4
  have c5 := A0.cell 5
  have c6 := A0.cell 6
  have c7 := A0.cell 7
  have c8 := A0.cell 8
  go_wp2_with fail
  refine (HF.out w1 P0).mono ?_; rintro e w2 ⟨rfl, hX⟩
  replace A0 := hX.at A0 (by simp)
  replace P0 := P0.keep hX
  replace hX0 := hX0.trans hX
  clear hX
  clear c0 c1 c2 c3 c4 c5 c6 c7 c8
  cases hf : fw with
  | false =>
    go_wp2_with fail
    refine (awake23 _).mono ?_; rintro e w9 ⟨rfl, hX⟩
    go_wp2
    go_returns
    exact ⟨rfl, (hX0.trans hX).to_below⟩
  | true =>
    have c0 := A0.cell 0
    have c1 := A0.cell 1
    have c2 := A0.cell 2
    have c3 := A0.cell 3
    have c4 := A0.cell 4
    have c5 := A0.cell 5
    have c6 := A0.cell 6
    have c7 := A0.cell 7
    have c8 := A0.cell 8
    go_wp2_with fail
    refine (HW.out w2 P0).mono ?_; rintro e w3 ⟨rfl, hX⟩
    replace A0 := hX.at A0 (by simp)
    replace P0 := P0.keep hX
    replace hX0 := hX0.trans hX
    clear hX
    clear c0 c1 c2 c3 c4 c5 c6 c7 c8
    by_cases hw : wn = 0
    · subst hw
      by_cases hi : 1000 < s.size
      · have hg : (1000 : Int) < (s.size : Int) := by omega
        clear hi
        go_wp2_with fail
        refine (awake23 _).mono ?_; rintro e w9 ⟨rfl, hX⟩
        go_wp2
        go_returns
        exact ⟨rfl, (hX0.trans hX).to_below⟩
      · have hg : ¬((1000 : Int) < (s.size : Int)) := by omega
        obtain ⟨hl1, hl2⟩ := HFF.out hf
        have hps := HPS.out hf
        have hrp := HRP.out rfl
        have HT1 := fun w => btest_any w ps port hps
        have HT2 := fun w => btest_any w s port (by omega)
        rw [hTV, hrp] at HT1
        rw [hTV] at HT2
        clear hTV hrp
        obtain ⟨f0, f1, f2, f3, f4, f5⟩ := fault_ports (readV s).2 port
        have hre := read_err s
        have h3 := mask2 port
        dsimp only at HT1
        generalize hn : faultN 0 port = n at *
        generalize hm : faultN (readV s).2 port = m at *
        clear hn hm
        generalize readV s = rv at *
        obtain ⟨⟨ph, bn, bd, bg, be, bs, ba, bl, bf⟩, er⟩ := rv
        dsimp only at hre f4 f5
        replace HT1 : Hid (∀ w, Calls Tryz.prog 8 #[.string ps, .int .i64 port] w fun e w' => ∃ va, e = .returned (.tuple #[.agg #[va, .int .i64 rn, .int .i64 rd, .int .i64 rg, .int .i64 re, .int .i64 rs, .int .i64 ra, .int .i64 rl, .int .i64 rf], .int .i64 n]) ∧ (∀ (S : List Nat) (w2 : World), (∀ b ∈ S, b < w.heap.size) → Chg S w' w2 → PhsR w2 va rph) ∧ Chg [] w w') := Lib.hid HT1
        replace HT2 : Hid (∀ w, Calls Tryz.prog 8 #[.string s, .int .i64 port] w fun e w' => ∃ va, e = .returned (.tuple #[.agg #[va, .int .i64 bn, .int .i64 bd, .int .i64 bg, .int .i64 be, .int .i64 bs, .int .i64 ba, .int .i64 bl, .int .i64 bf], .int .i64 m]) ∧ (∀ (S : List Nat) (w2 : World), (∀ b ∈ S, b < w.heap.size) → Chg S w' w2 → PhsR w2 va ph) ∧ Chg [] w w') := Lib.hid HT2
        clear hi
        have c0 := A0.cell 0
        have c1 := A0.cell 1
        have c2 := A0.cell 2
        have c3 := A0.cell 3
        have c4 := A0.cell 4
        have c5 := A0.cell 5
        have c6 := A0.cell 6
        have c7 := A0.cell 7
        have c8 := A0.cell 8
        go_wp2_with fail
        refine (HPR.out w3 P0 hl1 hl2).mono ?_; rintro e w4 ⟨rfl, hX⟩
        replace A0 := hX.at A0 (by simp)
        replace P0 := P0.keep hX
        replace hX0 := hX0.trans hX
        clear hX c0 c1 c2 c3 c4 c5 c6 c7 c8
        go_wp2_with fail
        refine (HT1.out w4).mono ?_; rintro e w5 ⟨vb, rfl, hD, hX⟩
        replace P0 := P0.keep hX
        replace A0 := hX.at A0 (by simp)
        replace hX0 := hX0.trans hX
        clear hX
        have P2 := hD [] w5 (by simp) (Chg.refl _ _)
        clear hD
        have hone : vb.oneCell' = true := by obtain ⟨_, ad, cap, rfl⟩ := P2.len; rfl
        have hN := At.new w5 #[.slice none 0 0, .int .i64 0, .int .i64 0, .int .i64 0, .int .i64 0, .int .i64 0, .int .i64 0, .int .i64 0, .int .i64 0] 25
        have hXn := (Chg.refl [] w5).alloc (.cells #[.slice none 0 0, .int .i64 0, .int .i64 0, .int .i64 0, .int .i64 0, .int .i64 0, .int .i64 0, .int .i64 0, .int .i64 0] 25)
        go_wp2_with (refine wpList_put rfl rfl rfl rfl hN rfl (by kernel_rfl) (by simp [hone, one_int]) ?_; intro w6 A2 hX3; refine Hid.out ?_)
        refine Lib.hid ?_
        have hXr : Chg [] w5 w6 := hXn.then hX3 (fun x hx hl => by simp at hx; omega)
        replace P2 := P2.keep hXr
        replace P0 := P0.keep hXr
        replace A0 := hXr.at A0 (by simp)
        replace hX0 := hX0.trans hXr
        generalize w5.heap.size = y2 at *
        clear hN hXn hX3 hXr hone
        go_wp2_with fail
        refine (HT2.out w6).mono ?_; rintro e w7 ⟨vc, rfl, hD, hX⟩
        replace P0 := P0.keep hX
        replace A0 := hX.at A0 (by simp)
        replace P2 := P2.keep hX
        replace A2 := hX.at A2 (by simp)
        replace hX0 := hX0.trans hX
        clear hX
        have P3 := hD [] w7 (by simp) (Chg.refl _ _)
        clear hD
        have hone : vc.oneCell' = true := by obtain ⟨_, ad, cap, rfl⟩ := P3.len; rfl
        have hN := At.new w7 #[.slice none 0 0, .int .i64 0, .int .i64 0, .int .i64 0, .int .i64 0, .int .i64 0, .int .i64 0, .int .i64 0, .int .i64 0] 25
        have hXn := (Chg.refl [] w7).alloc (.cells #[.slice none 0 0, .int .i64 0, .int .i64 0, .int .i64 0, .int .i64 0, .int .i64 0, .int .i64 0, .int .i64 0, .int .i64 0] 25)
        go_wp2_with (refine wpList_put rfl rfl rfl rfl hN rfl (by kernel_rfl) (by simp [hone, one_int]) ?_; intro w8 A3 hX3; refine Hid.out ?_)
        refine Lib.hid ?_
        have hXr : Chg [] w7 w8 := hXn.then hX3 (fun x hx hl => by simp at hx; omega)
        replace P3 := P3.keep hXr
        replace P0 := P0.keep hXr
        replace A0 := hXr.at A0 (by simp)
        replace P2 := P2.keep hXr
        replace A2 := hXr.at A2 (by simp)
        replace hX0 := hX0.trans hXr
        generalize w7.heap.size = y3 at *
        clear hN hXn hX3 hXr hone
        have HS := Lib.hid (HSE.out w8 vb P2 P0)
        subst f0
        have hwm : IntKind.i64.wrap (2 * (port % 4)) = 2 * (port % 4) := i64_in _ (by omega) (by omega)
        have c0 := A0.cell 0
        have c1 := A0.cell 1
        have c2 := A0.cell 2
        have c3 := A0.cell 3
        have c4 := A0.cell 4
        have c5 := A0.cell 5
        have c6 := A0.cell 6
        have c7 := A0.cell 7
        have c8 := A0.cell 8
        have d0 := A2.cell 0
        have d1 := A2.cell 1
        have d2 := A2.cell 2
        have d3 := A2.cell 3
        have d4 := A2.cell 4
        have d5 := A2.cell 5
        have d6 := A2.cell 6
        have d7 := A2.cell 7
        have d8 := A2.cell 8
        go_wp2_with fail
        refine (HS.out).mono ?_; rintro e w9 ⟨rfl, hX⟩
        replace hX0 := hX0.trans hX
        replace A3 := hX.at A3 (by simp)
        replace P3 := P3.keep hX
        clear hX
        have g0 := A3.cell 0
        have g1 := A3.cell 1
        have g2 := A3.cell 2
        have g3 := A3.cell 3
        have g4 := A3.cell 4
        have g5 := A3.cell 5
        have g6 := A3.cell 6
        have g7 := A3.cell 7
        have g8 := A3.cell 8
        by_cases he : er = 0
        · have hand := f4 he
          have horm := f2
          clear f4 f5 hre
          go_wp2
          go_returns
          exact ⟨rfl, hX0.to_below⟩
        · have hand := f5 he
          have hz0 := hre he
          obtain ⟨rfl, rfl, rfl, rfl, rfl, rfl, rfl, rfl, rfl⟩ : ph = [] ∧ bn = 0 ∧ bd = 0 ∧ bg = 0 ∧ be = 0 ∧ bs = 0 ∧ ba = 0 ∧ bl = 0 ∧ bf = 0 := by unfold zRu at hz0; simpa using hz0
          clear f4 f5 hre
          have HZ := same_self w9 vc (.slice none 0 0) zRu P3 (nil_phs _)
          replace HZ : Calls Tryz.prog 11 #[.agg #[vc, .int .i64 0, .int .i64 0, .int .i64 0, .int .i64 0, .int .i64 0, .int .i64 0, .int .i64 0, .int .i64 0], .agg #[.slice none 0 0, .int .i64 0, .int .i64 0, .int .i64 0, .int .i64 0, .int .i64 0, .int .i64 0, .int .i64 0, .int .i64 0]] w9 fun e w' => e = .returned (.bool true) ∧ Chg [] w9 w' := HZ
          go_wp2_with fail
          refine HZ.mono ?_; rintro e w10 ⟨rfl, hX⟩
          go_wp2
          go_returns
          exact ⟨rfl, (hX0.trans hX).to_below⟩
    · have hw2 : (wn != 0) = true := by simpa using hw
      go_wp2_with fail
      refine (awake23 _).mono ?_; rintro e w9 ⟨rfl, hX⟩
      go_wp2
      go_returns
      exact ⟨rfl, (hX0.trans hX).to_below⟩
end Go.Proofs.YtpfglmlpodjneaaGreat
