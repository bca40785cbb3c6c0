/- Rsi. -/
import Derived.Test.YtpfglmlpodjneaaGreatZ12
import Derived.Test.YtpfglmlpodjneaaGreatZ10
import Derived.Test.YtpfglmlpodjneaaGreatZ17
set_option linter.unusedSimpArgs false
set_option linter.unusedVariables false
namespace Go.Proofs.YtpfglmlpodjneaaGreat
open Go.RowKit

theorem eqB_symm (p q : PtV) : eqB p q = eqB q p := by
  rw [Bool.eq_iff_iff]
  simp only [eqB, Bool.and_eq_true, beq_iff_eq]
  exact ⟨fun h => ⟨h.1.symm, h.2.symm⟩, fun h => ⟨h.1.symm, h.2.symm⟩⟩
theorem pair_eq (L : List PtV) (i k : Nat) : pairB L i k = (!(eqB (ptg L i) (ptg L k)) && apartV L.length i k (ptg L i) (ptg L ((i + 1) % L.length)) (ptg L k) (ptg L ((k + 1) % L.length))) := by
  unfold pairB; rw [eqB_symm]
theorem not_back {i k n : Nat} (h : i < k) (hk : k < n) (h2 : ¬(i = 0 ∧ k + 1 = n)) : ¬((k + 1) % n = i) := by
  by_cases e : k + 1 = n
  · rw [e, Nat.mod_self]; omega
  · rw [Nat.mod_eq_of_lt (by omega)]; omega
/-- What has come up of a region. -/
structure RsI (W : World) (zb bb off n cap i k : Nat) (a b c d : PtV) (u2 u22 u23 u24 u25 u26 u27 u28 u29 u33 u34 u40 u41 u56 u57 u58 u59 u60 u61 u62 u63 u64 u65 u66 u67 u68 u69 u70 u71 u72 u73 u74 u75 u76 u77 u78 u79 u80 u81 u82 u83 u84 u85 u86 u87 u88 u89 u90 u91 u92 u93 u94 u95 u96 u97 u98 u99 : Value) (L : Array Bool) (ac : Act) (wx : World) : Prop where
  ex : ∃ v7 v8 v9 v10 v42 v43 v44 v45 v46 v47 v48 v49 v50 v51 v52 v53 v54 v55, ac = { tmps := #[Value.slice (some { block := bb, off := off }) n cap, undef, u2, Value.int IntKind.i64 (n : Int), Value.int IntKind.i64 (n : Int), Value.int IntKind.i64 (i : Int), Value.int IntKind.i64 (k : Int), v7, v8, v9, v10, Value.slice (some { block := bb, off := off }) n cap, Value.int IntKind.i64 (n : Int), Value.int IntKind.i64 (n : Int), Value.bool (decide ((n : Int) < 3)), Value.bool (decide ((n : Int) < 3)), Value.int IntKind.i64 (n : Int), Value.bool (decide (8 < (n : Int))), Value.bool (decide ((n : Int) < 3) || decide (8 < (n : Int))), Value.int IntKind.i64 (n : Int), Value.int IntKind.i64 (n : Int), Value.bool false, u22, u23, u24, u25, u26, u27, u28, u29, Value.int IntKind.i64 (i : Int), Value.int IntKind.i64 (n : Int), Value.bool true, u33, u34, Value.int IntKind.i64 (i : Int), Value.int IntKind.i64 ((i : Int) + 1), Value.int IntKind.i64 (k : Int), Value.int IntKind.i64 (n : Int), Value.bool true, u40, u41, v42, v43, v44, v45, v46, v47, v48, v49, v50, v51, v52, v53, v54, v55, u56, u57, u58, u59, u60, u61, u62, u63, u64, u65, u66, u67, u68, u69, u70, u71, u72, u73, u74, u75, u76, u77, u78, u79, u80, u81, u82, u83, u84, u85, u86, u87, u88, u89, u90, u91, u92, u93, u94, u95, u96, u97, u98, u99], defers := [] } ∧ (L.getD 0 false = true → v42 = .slice (some ⟨bb, off, none⟩) n cap) ∧ (L.getD 1 false = true → v43 = .int .i64 i) ∧ (L.getD 2 false = true → v44 = .pointer (some ⟨bb, off + i * 2, none⟩)) ∧ (L.getD 3 false = true → v45 = .agg #[.int .i64 a.x, .int .i64 a.y]) ∧ (L.getD 4 false = true → v46 = .slice (some ⟨bb, off, none⟩) n cap) ∧ (L.getD 5 false = true → v47 = .int .i64 i) ∧ (L.getD 6 false = true → v48 = .agg #[.int .i64 b.x, .int .i64 b.y]) ∧ (L.getD 7 false = true → v49 = .slice (some ⟨bb, off, none⟩) n cap) ∧ (L.getD 8 false = true → v50 = .int .i64 k) ∧ (L.getD 9 false = true → v51 = .pointer (some ⟨bb, off + k * 2, none⟩)) ∧ (L.getD 10 false = true → v52 = .agg #[.int .i64 c.x, .int .i64 c.y]) ∧ (L.getD 11 false = true → v53 = .slice (some ⟨bb, off, none⟩) n cap) ∧ (L.getD 12 false = true → v54 = .int .i64 k) ∧ (L.getD 13 false = true → v55 = .agg #[.int .i64 d.x, .int .i64 d.y]) ∧ PL #[.int .i64 0, .int .i64 0] zb wx [(L.getD 14 false, L.getD 18 false, v7, #[.int .i64 a.x, .int .i64 a.y]), (L.getD 15 false, L.getD 19 false, v8, #[.int .i64 b.x, .int .i64 b.y]), (L.getD 16 false, L.getD 20 false, v9, #[.int .i64 c.x, .int .i64 c.y]), (L.getD 17 false, L.getD 21 false, v10, #[.int .i64 d.x, .int .i64 d.y])] ∧ Chg [] W wx
set_option maxHeartbeats 2000000 in
set_option maxRecDepth 10000 in
theorem rsimple_any (W : World) (v : Value) (L : List PtV) (h : PtsR W v L) : Calls Tryz.prog 59 #[v] W fun e w' => e = .returned (.bool (simpleB L)) ∧ Chg [] W w' := by
  have HNX := Lib.hid (fun w (hw : Chg [] W w) i j q => rnext_any w v L (h.keep hw) i j q)
  have HI := Lib.hid (simple_iff L)
  have HN : Hid (∀ i k : Nat, i < L.length → k < L.length → i < k → pairB L i k = false → simpleB L = false) := Lib.hid (fun i k hi hk hik h => simple_no hk hik h)
  have HO : Hid (∀ (i : Nat) (q : PtV), L[i]? = some q → q.ok = false → simpleB L = false) := Lib.hid (fun i q hq ho => by
    cases hs : simpleB L
    · rfl
    · rw [simple_iff] at hs
      have := List.all_eq_true.1 hs.2.2.1 q (List.mem_of_getElem? hq)
      rw [ho] at this; cases this)
  have RR := rright_any
  have RO := ron_any
  have RM := rmeet_any
  have hX := Chg.refl [] W
  by_cases h3 : 3 ≤ L.length ∧ L.length ≤ 8
  · obtain ⟨h3, h8⟩ := h3
    obtain ⟨hm, h⟩ := h
    rcases h with ⟨rfl, _⟩ | ⟨bb, off, cap, rfl, h0, hc⟩
    · simp at h3
    · have Hc := Lib.hid hc
      clear hc
      generalize hR : simpleB L = R at *
      have HRR := Lib.hid hR
      clear hR
      generalize hn : L.length = n at *
      have Hn := Lib.hid hn
      clear hn
      go_enter Tryz.func59, Tryz.ntmps59
      go_wp2_with fail
      go_loopg [4] n (fun gk ii wr => ∃ i : Nat, i + gk = n ∧ ii = .int .i64 i ∧ Chg [] W wr ∧ Hid (∀ j q, j < i → L[j]? = some q → q.ok = true))
      case atStart => exact ⟨0, by omega, rfl, hX, Lib.hid (fun j q h => by omega)⟩
      case round =>
        clear hX
        obtain ⟨i, hi, rfl, hX, HP⟩ := hrel
        by_cases hlt : i < n
        · obtain ⟨p, hp⟩ : ∃ p, L[i]? = some p := ⟨L[i]'(by rw [Hn.out]; exact hlt), List.getElem?_eq_getElem _⟩
          have d0 := hX.cell (Hc.out i p hp).1 (by simp)
          have d1 := hX.cell (Hc.out i p hp).2 (by simp)
          have Hp := Lib.hid hp
          clear hp
          have g0 : (0 : Int) ≤ (i : Int) := by omega
          have g1 : (i : Int) < (n : Int) := by omega
          have g2 : (i : Int).toNat = i := by omega
          go_wp2_with fail
          refine (RR _ p).mono ?_; rintro e w4 ⟨rfl, hX4⟩
          replace hX := hX.trans hX4
          clear d0 d1
          cases hok : p.ok with
          | false =>
            have HF : Hid (R = false) := Lib.hid (HO.out i p Hp.out hok)
            clear hok
            go_wp2
            all_goals go_returns
            all_goals exact ⟨ret_bool (by rw [HF.out]), hX⟩
          | true =>
            have HP2 : Hid (∀ j q, j < i + 1 → L[j]? = some q → q.ok = true) := Lib.hid (fun j q hj hq => by
              by_cases e : j = i
              · subst e; rw [Hp.out] at hq; obtain rfl := Option.some.inj hq; exact hok
              · exact HP.out j q (by omega) hq)
            clear hok
            go_wp2_with fail
            go_roundg (gk - 1)
            case measure => omega
            case rel => exact ⟨i + 1, by omega, by simp, hX, HP2⟩
        · obtain rfl : gk = 0 := by omega
          have hin : n = i := by omega
          subst hin
          have Hok : Hid (L.all PtV.ok = true) := Lib.hid (List.all_eq_true.2 fun q hq => by
            obtain ⟨j, hj⟩ := List.getElem?_of_mem hq
            exact HP.out j q (by have := (List.getElem?_eq_some_iff.1 hj).1; have h2 := Hn.out; omega) hj)
          clear HP hi hlt
          go_wp2_with fail
          go_loopg [5] n (fun gk ii wr => ∃ i : Nat, i + gk = n ∧ ii = .int .i64 i ∧ Chg [] W wr ∧ Hid (∀ i', i' < i → ∀ k, i' < k → k < n → pairB L i' k = true))
          case atStart => exact ⟨0, by omega, rfl, hX, Lib.hid (fun i' h => by omega)⟩
          case round =>
            clear hX
            obtain ⟨i, hi, rfl, hX, HP⟩ := hrel
            by_cases hlt : i < n
            · have g0 : (0 : Int) ≤ (i : Int) := by omega
              have g1 : (i : Int) < (n : Int) := by omega
              have g2 : (i : Int).toNat = i := by omega
              go_wp2_with fail
              go_loopg [6] (n - i - 1) (fun gk kk wr => ∃ k : Nat, k + gk = n ∧ i < k ∧ kk = .int .i64 k ∧ Chg [] W wr ∧ Hid (∀ k', i < k' → k' < k → pairB L i k' = true))
              case atStart => exact ⟨i + 1, by omega, by omega, by simp, hX, Lib.hid (fun k' h h' => by omega)⟩
              case round =>
                clear hX
                obtain ⟨k, hk, hik, rfl, hX, HQ⟩ := hrel
                by_cases hlt2 : k < n
                · have k0 : (0 : Int) ≤ (k : Int) := by omega
                  have k1 : (k : Int) < (n : Int) := by omega
                  have k2 : (k : Int).toNat = k := by omega
                  have Hb := Lib.hid (pair_eq L i k)
                  rw [Hn.out] at Hb
                  have Ha := Lib.hid (ptg_get L i (by rw [Hn.out]; exact hlt))
                  have Hbb := Lib.hid (ptg_get L ((i + 1) % n) (by rw [Hn.out]; exact Nat.mod_lt _ (by omega)))
                  have Hcc := Lib.hid (ptg_get L k (by rw [Hn.out]; exact hlt2))
                  have Hd := Lib.hid (ptg_get L ((k + 1) % n) (by rw [Hn.out]; exact Nat.mod_lt _ (by omega)))
                  generalize ptg L i = a at *
                  generalize ptg L ((i + 1) % n) = b at *
                  generalize ptg L k = c at *
                  generalize ptg L ((k + 1) % n) = d at *
                  go_upto_region 15 with fail
                  have hX0 := hX
                  obtain ⟨zb, hzb⟩ : ∃ zb, zb = wr.heap.size := ⟨_, rfl⟩
                  have hWz : W.heap.size ≤ zb := hzb ▸ hX.size
                  have hz0 : zb ≤ wr.drew.heap.size := Nat.le_of_eq hzb
                  clear hzb
                  have hXd := hX.drew
                  clear hX
                  refine wp_region_inv (RsI W zb bb off n cap i k a b c d u2 u22 u23 u24 u25 u26 u27 u28 u29 u33 u34 u40 u41 u56 u57 u58 u59 u60 u61 u62 u63 u64 u65 u66 u67 u68 u69 u70 u71 u72 u73 u74 u75 u76 u77 u78 u79 u80 u81 u82 u83 u84 u85 u86 u87 u88 u89 u90 u91 u92 u93 u94 u95 u96 u97 u98 u99) (by kernel_rfl) (by kernel_rfl)
                    ⟨_, _, _, _, _, _, _, _, _, _, _, _, _, _, _, _, _, _, rfl, by simp, by simp, by simp, by simp, by simp, by simp, by simp, by simp, by simp, by simp, by simp, by simp, by simp, by simp, PL.none_ (fun q d s v Z hq => by rcases q with _ | _ | _ | _ | q <;> simp at hq <;> exact ⟨hq.1, hq.2.1⟩) hz0, hXd⟩ ?_ ?_
                  · clear hXd hz0 hX0
                    intro q o ho L ac wx hs hl hall hI
                    obtain ⟨v7, v8, v9, v10, v42, v43, v44, v45, v46, v47, v48, v49, v50, v51, v52, v53, v54, v55, rfl, i0, i1, i2, i3, i4, i5, i6, i7, i8, i9, i10, i11, i12, i13, hP, hX⟩ := hI
                    replace hs : L.size = 22 := hs
                    rcases q with _ | _ | _ | _ | _ | _ | _ | _ | _ | _ | _ | _ | _ | _ | _ | _ | _ | _ | _ | _ | _ | _ | q
                    · obtain rfl := Option.some.inj ho
                      clear ho
                      clear hall
                      refine wpOp_inv (o := _) rfl rfl ?_
                      have e1 : (L.setIfInBounds 0 true).getD 1 false = L.getD 1 false := getD_set_ne false (by decide)
                      have e2 : (L.setIfInBounds 0 true).getD 2 false = L.getD 2 false := getD_set_ne false (by decide)
                      have e3 : (L.setIfInBounds 0 true).getD 3 false = L.getD 3 false := getD_set_ne false (by decide)
                      have e4 : (L.setIfInBounds 0 true).getD 4 false = L.getD 4 false := getD_set_ne false (by decide)
                      have e5 : (L.setIfInBounds 0 true).getD 5 false = L.getD 5 false := getD_set_ne false (by decide)
                      have e6 : (L.setIfInBounds 0 true).getD 6 false = L.getD 6 false := getD_set_ne false (by decide)
                      have e7 : (L.setIfInBounds 0 true).getD 7 false = L.getD 7 false := getD_set_ne false (by decide)
                      have e8 : (L.setIfInBounds 0 true).getD 8 false = L.getD 8 false := getD_set_ne false (by decide)
                      have e9 : (L.setIfInBounds 0 true).getD 9 false = L.getD 9 false := getD_set_ne false (by decide)
                      have e10 : (L.setIfInBounds 0 true).getD 10 false = L.getD 10 false := getD_set_ne false (by decide)
                      have e11 : (L.setIfInBounds 0 true).getD 11 false = L.getD 11 false := getD_set_ne false (by decide)
                      have e12 : (L.setIfInBounds 0 true).getD 12 false = L.getD 12 false := getD_set_ne false (by decide)
                      have e13 : (L.setIfInBounds 0 true).getD 13 false = L.getD 13 false := getD_set_ne false (by decide)
                      have e14 : (L.setIfInBounds 0 true).getD 14 false = L.getD 14 false := getD_set_ne false (by decide)
                      have e15 : (L.setIfInBounds 0 true).getD 15 false = L.getD 15 false := getD_set_ne false (by decide)
                      have e16 : (L.setIfInBounds 0 true).getD 16 false = L.getD 16 false := getD_set_ne false (by decide)
                      have e17 : (L.setIfInBounds 0 true).getD 17 false = L.getD 17 false := getD_set_ne false (by decide)
                      have e18 : (L.setIfInBounds 0 true).getD 18 false = L.getD 18 false := getD_set_ne false (by decide)
                      have e19 : (L.setIfInBounds 0 true).getD 19 false = L.getD 19 false := getD_set_ne false (by decide)
                      have e20 : (L.setIfInBounds 0 true).getD 20 false = L.getD 20 false := getD_set_ne false (by decide)
                      have e21 : (L.setIfInBounds 0 true).getD 21 false = L.getD 21 false := getD_set_ne false (by decide)
                      have e0 : (L.setIfInBounds 0 true).getD 0 false = true := by rw [getD_set_if L 0 0 (by omega), if_pos rfl]
                      go_simp
                      exact ⟨v7, v8, v9, v10, _, v43, v44, v45, v46, v47, v48, v49, v50, v51, v52, v53, v54, v55, rfl, fun _ => rfl, by rw [e1]; exact i1, by rw [e2]; exact i2, by rw [e3]; exact i3, by rw [e4]; exact i4, by rw [e5]; exact i5, by rw [e6]; exact i6, by rw [e7]; exact i7, by rw [e8]; exact i8, by rw [e9]; exact i9, by rw [e10]; exact i10, by rw [e11]; exact i11, by rw [e12]; exact i12, by rw [e13]; exact i13, by rw [e14, e15, e16, e17, e18, e19, e20, e21]; exact hP, hX⟩
                    · obtain rfl := Option.some.inj ho
                      clear ho
                      clear hall
                      refine wpOp_inv (o := _) rfl rfl ?_
                      have e0 : (L.setIfInBounds 1 true).getD 0 false = L.getD 0 false := getD_set_ne false (by decide)
                      have e2 : (L.setIfInBounds 1 true).getD 2 false = L.getD 2 false := getD_set_ne false (by decide)
                      have e3 : (L.setIfInBounds 1 true).getD 3 false = L.getD 3 false := getD_set_ne false (by decide)
                      have e4 : (L.setIfInBounds 1 true).getD 4 false = L.getD 4 false := getD_set_ne false (by decide)
                      have e5 : (L.setIfInBounds 1 true).getD 5 false = L.getD 5 false := getD_set_ne false (by decide)
                      have e6 : (L.setIfInBounds 1 true).getD 6 false = L.getD 6 false := getD_set_ne false (by decide)
                      have e7 : (L.setIfInBounds 1 true).getD 7 false = L.getD 7 false := getD_set_ne false (by decide)
                      have e8 : (L.setIfInBounds 1 true).getD 8 false = L.getD 8 false := getD_set_ne false (by decide)
                      have e9 : (L.setIfInBounds 1 true).getD 9 false = L.getD 9 false := getD_set_ne false (by decide)
                      have e10 : (L.setIfInBounds 1 true).getD 10 false = L.getD 10 false := getD_set_ne false (by decide)
                      have e11 : (L.setIfInBounds 1 true).getD 11 false = L.getD 11 false := getD_set_ne false (by decide)
                      have e12 : (L.setIfInBounds 1 true).getD 12 false = L.getD 12 false := getD_set_ne false (by decide)
                      have e13 : (L.setIfInBounds 1 true).getD 13 false = L.getD 13 false := getD_set_ne false (by decide)
                      have e14 : (L.setIfInBounds 1 true).getD 14 false = L.getD 14 false := getD_set_ne false (by decide)
                      have e15 : (L.setIfInBounds 1 true).getD 15 false = L.getD 15 false := getD_set_ne false (by decide)
                      have e16 : (L.setIfInBounds 1 true).getD 16 false = L.getD 16 false := getD_set_ne false (by decide)
                      have e17 : (L.setIfInBounds 1 true).getD 17 false = L.getD 17 false := getD_set_ne false (by decide)
                      have e18 : (L.setIfInBounds 1 true).getD 18 false = L.getD 18 false := getD_set_ne false (by decide)
                      have e19 : (L.setIfInBounds 1 true).getD 19 false = L.getD 19 false := getD_set_ne false (by decide)
                      have e20 : (L.setIfInBounds 1 true).getD 20 false = L.getD 20 false := getD_set_ne false (by decide)
                      have e21 : (L.setIfInBounds 1 true).getD 21 false = L.getD 21 false := getD_set_ne false (by decide)
                      have e1 : (L.setIfInBounds 1 true).getD 1 false = true := by rw [getD_set_if L 1 1 (by omega), if_pos rfl]
                      go_simp
                      exact ⟨v7, v8, v9, v10, v42, _, v44, v45, v46, v47, v48, v49, v50, v51, v52, v53, v54, v55, rfl, by rw [e0]; exact i0, fun _ => rfl, by rw [e2]; exact i2, by rw [e3]; exact i3, by rw [e4]; exact i4, by rw [e5]; exact i5, by rw [e6]; exact i6, by rw [e7]; exact i7, by rw [e8]; exact i8, by rw [e9]; exact i9, by rw [e10]; exact i10, by rw [e11]; exact i11, by rw [e12]; exact i12, by rw [e13]; exact i13, by rw [e14, e15, e16, e17, e18, e19, e20, e21]; exact hP, hX⟩
                    · obtain rfl := Option.some.inj ho
                      clear ho
                      have l0 := hall ⟨0, .data⟩ (by simp) rfl
                      have l1 := hall ⟨1, .data⟩ (by simp) rfl
                      clear hall
                      refine wpOp_inv (o := _) rfl rfl ?_
                      have e0 : (L.setIfInBounds 2 true).getD 0 false = L.getD 0 false := getD_set_ne false (by decide)
                      have e1 : (L.setIfInBounds 2 true).getD 1 false = L.getD 1 false := getD_set_ne false (by decide)
                      have e3 : (L.setIfInBounds 2 true).getD 3 false = L.getD 3 false := getD_set_ne false (by decide)
                      have e4 : (L.setIfInBounds 2 true).getD 4 false = L.getD 4 false := getD_set_ne false (by decide)
                      have e5 : (L.setIfInBounds 2 true).getD 5 false = L.getD 5 false := getD_set_ne false (by decide)
                      have e6 : (L.setIfInBounds 2 true).getD 6 false = L.getD 6 false := getD_set_ne false (by decide)
                      have e7 : (L.setIfInBounds 2 true).getD 7 false = L.getD 7 false := getD_set_ne false (by decide)
                      have e8 : (L.setIfInBounds 2 true).getD 8 false = L.getD 8 false := getD_set_ne false (by decide)
                      have e9 : (L.setIfInBounds 2 true).getD 9 false = L.getD 9 false := getD_set_ne false (by decide)
                      have e10 : (L.setIfInBounds 2 true).getD 10 false = L.getD 10 false := getD_set_ne false (by decide)
                      have e11 : (L.setIfInBounds 2 true).getD 11 false = L.getD 11 false := getD_set_ne false (by decide)
                      have e12 : (L.setIfInBounds 2 true).getD 12 false = L.getD 12 false := getD_set_ne false (by decide)
                      have e13 : (L.setIfInBounds 2 true).getD 13 false = L.getD 13 false := getD_set_ne false (by decide)
                      have e14 : (L.setIfInBounds 2 true).getD 14 false = L.getD 14 false := getD_set_ne false (by decide)
                      have e15 : (L.setIfInBounds 2 true).getD 15 false = L.getD 15 false := getD_set_ne false (by decide)
                      have e16 : (L.setIfInBounds 2 true).getD 16 false = L.getD 16 false := getD_set_ne false (by decide)
                      have e17 : (L.setIfInBounds 2 true).getD 17 false = L.getD 17 false := getD_set_ne false (by decide)
                      have e18 : (L.setIfInBounds 2 true).getD 18 false = L.getD 18 false := getD_set_ne false (by decide)
                      have e19 : (L.setIfInBounds 2 true).getD 19 false = L.getD 19 false := getD_set_ne false (by decide)
                      have e20 : (L.setIfInBounds 2 true).getD 20 false = L.getD 20 false := getD_set_ne false (by decide)
                      have e21 : (L.setIfInBounds 2 true).getD 21 false = L.getD 21 false := getD_set_ne false (by decide)
                      have e2 : (L.setIfInBounds 2 true).getD 2 false = true := by rw [getD_set_if L 2 2 (by omega), if_pos rfl]
                      obtain rfl := i0 l0
                      obtain rfl := i1 l1
                      go_simp
                      exact ⟨v7, v8, v9, v10, _, _, _, v45, v46, v47, v48, v49, v50, v51, v52, v53, v54, v55, rfl, fun _ => rfl, fun _ => rfl, fun _ => rfl, by rw [e3]; exact i3, by rw [e4]; exact i4, by rw [e5]; exact i5, by rw [e6]; exact i6, by rw [e7]; exact i7, by rw [e8]; exact i8, by rw [e9]; exact i9, by rw [e10]; exact i10, by rw [e11]; exact i11, by rw [e12]; exact i12, by rw [e13]; exact i13, by rw [e14, e15, e16, e17, e18, e19, e20, e21]; exact hP, hX⟩
                    · obtain rfl := Option.some.inj ho
                      clear ho
                      have l2 := hall ⟨2, .data⟩ (by simp) rfl
                      clear hall
                      refine wpOp_inv (o := _) rfl rfl ?_
                      have e0 : (L.setIfInBounds 3 true).getD 0 false = L.getD 0 false := getD_set_ne false (by decide)
                      have e1 : (L.setIfInBounds 3 true).getD 1 false = L.getD 1 false := getD_set_ne false (by decide)
                      have e2 : (L.setIfInBounds 3 true).getD 2 false = L.getD 2 false := getD_set_ne false (by decide)
                      have e4 : (L.setIfInBounds 3 true).getD 4 false = L.getD 4 false := getD_set_ne false (by decide)
                      have e5 : (L.setIfInBounds 3 true).getD 5 false = L.getD 5 false := getD_set_ne false (by decide)
                      have e6 : (L.setIfInBounds 3 true).getD 6 false = L.getD 6 false := getD_set_ne false (by decide)
                      have e7 : (L.setIfInBounds 3 true).getD 7 false = L.getD 7 false := getD_set_ne false (by decide)
                      have e8 : (L.setIfInBounds 3 true).getD 8 false = L.getD 8 false := getD_set_ne false (by decide)
                      have e9 : (L.setIfInBounds 3 true).getD 9 false = L.getD 9 false := getD_set_ne false (by decide)
                      have e10 : (L.setIfInBounds 3 true).getD 10 false = L.getD 10 false := getD_set_ne false (by decide)
                      have e11 : (L.setIfInBounds 3 true).getD 11 false = L.getD 11 false := getD_set_ne false (by decide)
                      have e12 : (L.setIfInBounds 3 true).getD 12 false = L.getD 12 false := getD_set_ne false (by decide)
                      have e13 : (L.setIfInBounds 3 true).getD 13 false = L.getD 13 false := getD_set_ne false (by decide)
                      have e14 : (L.setIfInBounds 3 true).getD 14 false = L.getD 14 false := getD_set_ne false (by decide)
                      have e15 : (L.setIfInBounds 3 true).getD 15 false = L.getD 15 false := getD_set_ne false (by decide)
                      have e16 : (L.setIfInBounds 3 true).getD 16 false = L.getD 16 false := getD_set_ne false (by decide)
                      have e17 : (L.setIfInBounds 3 true).getD 17 false = L.getD 17 false := getD_set_ne false (by decide)
                      have e18 : (L.setIfInBounds 3 true).getD 18 false = L.getD 18 false := getD_set_ne false (by decide)
                      have e19 : (L.setIfInBounds 3 true).getD 19 false = L.getD 19 false := getD_set_ne false (by decide)
                      have e20 : (L.setIfInBounds 3 true).getD 20 false = L.getD 20 false := getD_set_ne false (by decide)
                      have e21 : (L.setIfInBounds 3 true).getD 21 false = L.getD 21 false := getD_set_ne false (by decide)
                      have e3 : (L.setIfInBounds 3 true).getD 3 false = true := by rw [getD_set_if L 3 3 (by omega), if_pos rfl]
                      obtain rfl := i2 l2
                      have d0 := hX.cell (Hc.out i a Ha.out).1 (by simp)
                      have d1 := hX.cell (Hc.out i a Ha.out).2 (by simp)
                      go_simp
                      exact ⟨v7, v8, v9, v10, v42, v43, _, _, v46, v47, v48, v49, v50, v51, v52, v53, v54, v55, rfl, by rw [e0]; exact i0, by rw [e1]; exact i1, fun _ => rfl, fun _ => rfl, by rw [e4]; exact i4, by rw [e5]; exact i5, by rw [e6]; exact i6, by rw [e7]; exact i7, by rw [e8]; exact i8, by rw [e9]; exact i9, by rw [e10]; exact i10, by rw [e11]; exact i11, by rw [e12]; exact i12, by rw [e13]; exact i13, by rw [e14, e15, e16, e17, e18, e19, e20, e21]; exact hP, hX⟩
                    · obtain rfl := Option.some.inj ho
                      clear ho
                      clear hall
                      refine wpOp_inv (o := _) rfl rfl ?_
                      have e0 : (L.setIfInBounds 4 true).getD 0 false = L.getD 0 false := getD_set_ne false (by decide)
                      have e1 : (L.setIfInBounds 4 true).getD 1 false = L.getD 1 false := getD_set_ne false (by decide)
                      have e2 : (L.setIfInBounds 4 true).getD 2 false = L.getD 2 false := getD_set_ne false (by decide)
                      have e3 : (L.setIfInBounds 4 true).getD 3 false = L.getD 3 false := getD_set_ne false (by decide)
                      have e5 : (L.setIfInBounds 4 true).getD 5 false = L.getD 5 false := getD_set_ne false (by decide)
                      have e6 : (L.setIfInBounds 4 true).getD 6 false = L.getD 6 false := getD_set_ne false (by decide)
                      have e7 : (L.setIfInBounds 4 true).getD 7 false = L.getD 7 false := getD_set_ne false (by decide)
                      have e8 : (L.setIfInBounds 4 true).getD 8 false = L.getD 8 false := getD_set_ne false (by decide)
                      have e9 : (L.setIfInBounds 4 true).getD 9 false = L.getD 9 false := getD_set_ne false (by decide)
                      have e10 : (L.setIfInBounds 4 true).getD 10 false = L.getD 10 false := getD_set_ne false (by decide)
                      have e11 : (L.setIfInBounds 4 true).getD 11 false = L.getD 11 false := getD_set_ne false (by decide)
                      have e12 : (L.setIfInBounds 4 true).getD 12 false = L.getD 12 false := getD_set_ne false (by decide)
                      have e13 : (L.setIfInBounds 4 true).getD 13 false = L.getD 13 false := getD_set_ne false (by decide)
                      have e14 : (L.setIfInBounds 4 true).getD 14 false = L.getD 14 false := getD_set_ne false (by decide)
                      have e15 : (L.setIfInBounds 4 true).getD 15 false = L.getD 15 false := getD_set_ne false (by decide)
                      have e16 : (L.setIfInBounds 4 true).getD 16 false = L.getD 16 false := getD_set_ne false (by decide)
                      have e17 : (L.setIfInBounds 4 true).getD 17 false = L.getD 17 false := getD_set_ne false (by decide)
                      have e18 : (L.setIfInBounds 4 true).getD 18 false = L.getD 18 false := getD_set_ne false (by decide)
                      have e19 : (L.setIfInBounds 4 true).getD 19 false = L.getD 19 false := getD_set_ne false (by decide)
                      have e20 : (L.setIfInBounds 4 true).getD 20 false = L.getD 20 false := getD_set_ne false (by decide)
                      have e21 : (L.setIfInBounds 4 true).getD 21 false = L.getD 21 false := getD_set_ne false (by decide)
                      have e4 : (L.setIfInBounds 4 true).getD 4 false = true := by rw [getD_set_if L 4 4 (by omega), if_pos rfl]
                      go_simp
                      exact ⟨v7, v8, v9, v10, v42, v43, v44, v45, _, v47, v48, v49, v50, v51, v52, v53, v54, v55, rfl, by rw [e0]; exact i0, by rw [e1]; exact i1, by rw [e2]; exact i2, by rw [e3]; exact i3, fun _ => rfl, by rw [e5]; exact i5, by rw [e6]; exact i6, by rw [e7]; exact i7, by rw [e8]; exact i8, by rw [e9]; exact i9, by rw [e10]; exact i10, by rw [e11]; exact i11, by rw [e12]; exact i12, by rw [e13]; exact i13, by rw [e14, e15, e16, e17, e18, e19, e20, e21]; exact hP, hX⟩
                    · obtain rfl := Option.some.inj ho
                      clear ho
                      clear hall
                      refine wpOp_inv (o := _) rfl rfl ?_
                      have e0 : (L.setIfInBounds 5 true).getD 0 false = L.getD 0 false := getD_set_ne false (by decide)
                      have e1 : (L.setIfInBounds 5 true).getD 1 false = L.getD 1 false := getD_set_ne false (by decide)
                      have e2 : (L.setIfInBounds 5 true).getD 2 false = L.getD 2 false := getD_set_ne false (by decide)
                      have e3 : (L.setIfInBounds 5 true).getD 3 false = L.getD 3 false := getD_set_ne false (by decide)
                      have e4 : (L.setIfInBounds 5 true).getD 4 false = L.getD 4 false := getD_set_ne false (by decide)
                      have e6 : (L.setIfInBounds 5 true).getD 6 false = L.getD 6 false := getD_set_ne false (by decide)
                      have e7 : (L.setIfInBounds 5 true).getD 7 false = L.getD 7 false := getD_set_ne false (by decide)
                      have e8 : (L.setIfInBounds 5 true).getD 8 false = L.getD 8 false := getD_set_ne false (by decide)
                      have e9 : (L.setIfInBounds 5 true).getD 9 false = L.getD 9 false := getD_set_ne false (by decide)
                      have e10 : (L.setIfInBounds 5 true).getD 10 false = L.getD 10 false := getD_set_ne false (by decide)
                      have e11 : (L.setIfInBounds 5 true).getD 11 false = L.getD 11 false := getD_set_ne false (by decide)
                      have e12 : (L.setIfInBounds 5 true).getD 12 false = L.getD 12 false := getD_set_ne false (by decide)
                      have e13 : (L.setIfInBounds 5 true).getD 13 false = L.getD 13 false := getD_set_ne false (by decide)
                      have e14 : (L.setIfInBounds 5 true).getD 14 false = L.getD 14 false := getD_set_ne false (by decide)
                      have e15 : (L.setIfInBounds 5 true).getD 15 false = L.getD 15 false := getD_set_ne false (by decide)
                      have e16 : (L.setIfInBounds 5 true).getD 16 false = L.getD 16 false := getD_set_ne false (by decide)
                      have e17 : (L.setIfInBounds 5 true).getD 17 false = L.getD 17 false := getD_set_ne false (by decide)
                      have e18 : (L.setIfInBounds 5 true).getD 18 false = L.getD 18 false := getD_set_ne false (by decide)
                      have e19 : (L.setIfInBounds 5 true).getD 19 false = L.getD 19 false := getD_set_ne false (by decide)
                      have e20 : (L.setIfInBounds 5 true).getD 20 false = L.getD 20 false := getD_set_ne false (by decide)
                      have e21 : (L.setIfInBounds 5 true).getD 21 false = L.getD 21 false := getD_set_ne false (by decide)
                      have e5 : (L.setIfInBounds 5 true).getD 5 false = true := by rw [getD_set_if L 5 5 (by omega), if_pos rfl]
                      go_simp
                      exact ⟨v7, v8, v9, v10, v42, v43, v44, v45, v46, _, v48, v49, v50, v51, v52, v53, v54, v55, rfl, by rw [e0]; exact i0, by rw [e1]; exact i1, by rw [e2]; exact i2, by rw [e3]; exact i3, by rw [e4]; exact i4, fun _ => rfl, by rw [e6]; exact i6, by rw [e7]; exact i7, by rw [e8]; exact i8, by rw [e9]; exact i9, by rw [e10]; exact i10, by rw [e11]; exact i11, by rw [e12]; exact i12, by rw [e13]; exact i13, by rw [e14, e15, e16, e17, e18, e19, e20, e21]; exact hP, hX⟩
                    · obtain rfl := Option.some.inj ho
                      clear ho
                      have l4 := hall ⟨4, .data⟩ (by simp) rfl
                      have l5 := hall ⟨5, .data⟩ (by simp) rfl
                      clear hall
                      refine wpOp_inv (o := _) rfl rfl ?_
                      have e0 : (L.setIfInBounds 6 true).getD 0 false = L.getD 0 false := getD_set_ne false (by decide)
                      have e1 : (L.setIfInBounds 6 true).getD 1 false = L.getD 1 false := getD_set_ne false (by decide)
                      have e2 : (L.setIfInBounds 6 true).getD 2 false = L.getD 2 false := getD_set_ne false (by decide)
                      have e3 : (L.setIfInBounds 6 true).getD 3 false = L.getD 3 false := getD_set_ne false (by decide)
                      have e4 : (L.setIfInBounds 6 true).getD 4 false = L.getD 4 false := getD_set_ne false (by decide)
                      have e5 : (L.setIfInBounds 6 true).getD 5 false = L.getD 5 false := getD_set_ne false (by decide)
                      have e7 : (L.setIfInBounds 6 true).getD 7 false = L.getD 7 false := getD_set_ne false (by decide)
                      have e8 : (L.setIfInBounds 6 true).getD 8 false = L.getD 8 false := getD_set_ne false (by decide)
                      have e9 : (L.setIfInBounds 6 true).getD 9 false = L.getD 9 false := getD_set_ne false (by decide)
                      have e10 : (L.setIfInBounds 6 true).getD 10 false = L.getD 10 false := getD_set_ne false (by decide)
                      have e11 : (L.setIfInBounds 6 true).getD 11 false = L.getD 11 false := getD_set_ne false (by decide)
                      have e12 : (L.setIfInBounds 6 true).getD 12 false = L.getD 12 false := getD_set_ne false (by decide)
                      have e13 : (L.setIfInBounds 6 true).getD 13 false = L.getD 13 false := getD_set_ne false (by decide)
                      have e14 : (L.setIfInBounds 6 true).getD 14 false = L.getD 14 false := getD_set_ne false (by decide)
                      have e15 : (L.setIfInBounds 6 true).getD 15 false = L.getD 15 false := getD_set_ne false (by decide)
                      have e16 : (L.setIfInBounds 6 true).getD 16 false = L.getD 16 false := getD_set_ne false (by decide)
                      have e17 : (L.setIfInBounds 6 true).getD 17 false = L.getD 17 false := getD_set_ne false (by decide)
                      have e18 : (L.setIfInBounds 6 true).getD 18 false = L.getD 18 false := getD_set_ne false (by decide)
                      have e19 : (L.setIfInBounds 6 true).getD 19 false = L.getD 19 false := getD_set_ne false (by decide)
                      have e20 : (L.setIfInBounds 6 true).getD 20 false = L.getD 20 false := getD_set_ne false (by decide)
                      have e21 : (L.setIfInBounds 6 true).getD 21 false = L.getD 21 false := getD_set_ne false (by decide)
                      have e6 : (L.setIfInBounds 6 true).getD 6 false = true := by rw [getD_set_if L 6 6 (by omega), if_pos rfl]
                      obtain rfl := i4 l4
                      obtain rfl := i5 l5
                      go_simp
                      refine (HNX.out _ hX i _ b hlt Hbb.out rfl).mono ?_; rintro e w' ⟨rfl, hX1⟩
                      exact ⟨_, rfl, v7, v8, v9, v10, v42, v43, v44, v45, _, _, _, v49, v50, v51, v52, v53, v54, v55, rfl, by rw [e0]; exact i0, by rw [e1]; exact i1, by rw [e2]; exact i2, by rw [e3]; exact i3, fun _ => rfl, fun _ => rfl, fun _ => rfl, by rw [e7]; exact i7, by rw [e8]; exact i8, by rw [e9]; exact i9, by rw [e10]; exact i10, by rw [e11]; exact i11, by rw [e12]; exact i12, by rw [e13]; exact i13, by rw [e14, e15, e16, e17, e18, e19, e20, e21]; exact hP.keep hX1, hX.trans hX1⟩
                    · obtain rfl := Option.some.inj ho
                      clear ho
                      clear hall
                      refine wpOp_inv (o := _) rfl rfl ?_
                      have e0 : (L.setIfInBounds 7 true).getD 0 false = L.getD 0 false := getD_set_ne false (by decide)
                      have e1 : (L.setIfInBounds 7 true).getD 1 false = L.getD 1 false := getD_set_ne false (by decide)
                      have e2 : (L.setIfInBounds 7 true).getD 2 false = L.getD 2 false := getD_set_ne false (by decide)
                      have e3 : (L.setIfInBounds 7 true).getD 3 false = L.getD 3 false := getD_set_ne false (by decide)
                      have e4 : (L.setIfInBounds 7 true).getD 4 false = L.getD 4 false := getD_set_ne false (by decide)
                      have e5 : (L.setIfInBounds 7 true).getD 5 false = L.getD 5 false := getD_set_ne false (by decide)
                      have e6 : (L.setIfInBounds 7 true).getD 6 false = L.getD 6 false := getD_set_ne false (by decide)
                      have e8 : (L.setIfInBounds 7 true).getD 8 false = L.getD 8 false := getD_set_ne false (by decide)
                      have e9 : (L.setIfInBounds 7 true).getD 9 false = L.getD 9 false := getD_set_ne false (by decide)
                      have e10 : (L.setIfInBounds 7 true).getD 10 false = L.getD 10 false := getD_set_ne false (by decide)
                      have e11 : (L.setIfInBounds 7 true).getD 11 false = L.getD 11 false := getD_set_ne false (by decide)
                      have e12 : (L.setIfInBounds 7 true).getD 12 false = L.getD 12 false := getD_set_ne false (by decide)
                      have e13 : (L.setIfInBounds 7 true).getD 13 false = L.getD 13 false := getD_set_ne false (by decide)
                      have e14 : (L.setIfInBounds 7 true).getD 14 false = L.getD 14 false := getD_set_ne false (by decide)
                      have e15 : (L.setIfInBounds 7 true).getD 15 false = L.getD 15 false := getD_set_ne false (by decide)
                      have e16 : (L.setIfInBounds 7 true).getD 16 false = L.getD 16 false := getD_set_ne false (by decide)
                      have e17 : (L.setIfInBounds 7 true).getD 17 false = L.getD 17 false := getD_set_ne false (by decide)
                      have e18 : (L.setIfInBounds 7 true).getD 18 false = L.getD 18 false := getD_set_ne false (by decide)
                      have e19 : (L.setIfInBounds 7 true).getD 19 false = L.getD 19 false := getD_set_ne false (by decide)
                      have e20 : (L.setIfInBounds 7 true).getD 20 false = L.getD 20 false := getD_set_ne false (by decide)
                      have e21 : (L.setIfInBounds 7 true).getD 21 false = L.getD 21 false := getD_set_ne false (by decide)
                      have e7 : (L.setIfInBounds 7 true).getD 7 false = true := by rw [getD_set_if L 7 7 (by omega), if_pos rfl]
                      go_simp
                      exact ⟨v7, v8, v9, v10, v42, v43, v44, v45, v46, v47, v48, _, v50, v51, v52, v53, v54, v55, rfl, by rw [e0]; exact i0, by rw [e1]; exact i1, by rw [e2]; exact i2, by rw [e3]; exact i3, by rw [e4]; exact i4, by rw [e5]; exact i5, by rw [e6]; exact i6, fun _ => rfl, by rw [e8]; exact i8, by rw [e9]; exact i9, by rw [e10]; exact i10, by rw [e11]; exact i11, by rw [e12]; exact i12, by rw [e13]; exact i13, by rw [e14, e15, e16, e17, e18, e19, e20, e21]; exact hP, hX⟩
                    · obtain rfl := Option.some.inj ho
                      clear ho
                      clear hall
                      refine wpOp_inv (o := _) rfl rfl ?_
                      have e0 : (L.setIfInBounds 8 true).getD 0 false = L.getD 0 false := getD_set_ne false (by decide)
                      have e1 : (L.setIfInBounds 8 true).getD 1 false = L.getD 1 false := getD_set_ne false (by decide)
                      have e2 : (L.setIfInBounds 8 true).getD 2 false = L.getD 2 false := getD_set_ne false (by decide)
                      have e3 : (L.setIfInBounds 8 true).getD 3 false = L.getD 3 false := getD_set_ne false (by decide)
                      have e4 : (L.setIfInBounds 8 true).getD 4 false = L.getD 4 false := getD_set_ne false (by decide)
                      have e5 : (L.setIfInBounds 8 true).getD 5 false = L.getD 5 false := getD_set_ne false (by decide)
                      have e6 : (L.setIfInBounds 8 true).getD 6 false = L.getD 6 false := getD_set_ne false (by decide)
                      have e7 : (L.setIfInBounds 8 true).getD 7 false = L.getD 7 false := getD_set_ne false (by decide)
                      have e9 : (L.setIfInBounds 8 true).getD 9 false = L.getD 9 false := getD_set_ne false (by decide)
                      have e10 : (L.setIfInBounds 8 true).getD 10 false = L.getD 10 false := getD_set_ne false (by decide)
                      have e11 : (L.setIfInBounds 8 true).getD 11 false = L.getD 11 false := getD_set_ne false (by decide)
                      have e12 : (L.setIfInBounds 8 true).getD 12 false = L.getD 12 false := getD_set_ne false (by decide)
                      have e13 : (L.setIfInBounds 8 true).getD 13 false = L.getD 13 false := getD_set_ne false (by decide)
                      have e14 : (L.setIfInBounds 8 true).getD 14 false = L.getD 14 false := getD_set_ne false (by decide)
                      have e15 : (L.setIfInBounds 8 true).getD 15 false = L.getD 15 false := getD_set_ne false (by decide)
                      have e16 : (L.setIfInBounds 8 true).getD 16 false = L.getD 16 false := getD_set_ne false (by decide)
                      have e17 : (L.setIfInBounds 8 true).getD 17 false = L.getD 17 false := getD_set_ne false (by decide)
                      have e18 : (L.setIfInBounds 8 true).getD 18 false = L.getD 18 false := getD_set_ne false (by decide)
                      have e19 : (L.setIfInBounds 8 true).getD 19 false = L.getD 19 false := getD_set_ne false (by decide)
                      have e20 : (L.setIfInBounds 8 true).getD 20 false = L.getD 20 false := getD_set_ne false (by decide)
                      have e21 : (L.setIfInBounds 8 true).getD 21 false = L.getD 21 false := getD_set_ne false (by decide)
                      have e8 : (L.setIfInBounds 8 true).getD 8 false = true := by rw [getD_set_if L 8 8 (by omega), if_pos rfl]
                      go_simp
                      exact ⟨v7, v8, v9, v10, v42, v43, v44, v45, v46, v47, v48, v49, _, v51, v52, v53, v54, v55, rfl, by rw [e0]; exact i0, by rw [e1]; exact i1, by rw [e2]; exact i2, by rw [e3]; exact i3, by rw [e4]; exact i4, by rw [e5]; exact i5, by rw [e6]; exact i6, by rw [e7]; exact i7, fun _ => rfl, by rw [e9]; exact i9, by rw [e10]; exact i10, by rw [e11]; exact i11, by rw [e12]; exact i12, by rw [e13]; exact i13, by rw [e14, e15, e16, e17, e18, e19, e20, e21]; exact hP, hX⟩
                    · obtain rfl := Option.some.inj ho
                      clear ho
                      have l7 := hall ⟨7, .data⟩ (by simp) rfl
                      have l8 := hall ⟨8, .data⟩ (by simp) rfl
                      clear hall
                      refine wpOp_inv (o := _) rfl rfl ?_
                      have e0 : (L.setIfInBounds 9 true).getD 0 false = L.getD 0 false := getD_set_ne false (by decide)
                      have e1 : (L.setIfInBounds 9 true).getD 1 false = L.getD 1 false := getD_set_ne false (by decide)
                      have e2 : (L.setIfInBounds 9 true).getD 2 false = L.getD 2 false := getD_set_ne false (by decide)
                      have e3 : (L.setIfInBounds 9 true).getD 3 false = L.getD 3 false := getD_set_ne false (by decide)
                      have e4 : (L.setIfInBounds 9 true).getD 4 false = L.getD 4 false := getD_set_ne false (by decide)
                      have e5 : (L.setIfInBounds 9 true).getD 5 false = L.getD 5 false := getD_set_ne false (by decide)
                      have e6 : (L.setIfInBounds 9 true).getD 6 false = L.getD 6 false := getD_set_ne false (by decide)
                      have e7 : (L.setIfInBounds 9 true).getD 7 false = L.getD 7 false := getD_set_ne false (by decide)
                      have e8 : (L.setIfInBounds 9 true).getD 8 false = L.getD 8 false := getD_set_ne false (by decide)
                      have e10 : (L.setIfInBounds 9 true).getD 10 false = L.getD 10 false := getD_set_ne false (by decide)
                      have e11 : (L.setIfInBounds 9 true).getD 11 false = L.getD 11 false := getD_set_ne false (by decide)
                      have e12 : (L.setIfInBounds 9 true).getD 12 false = L.getD 12 false := getD_set_ne false (by decide)
                      have e13 : (L.setIfInBounds 9 true).getD 13 false = L.getD 13 false := getD_set_ne false (by decide)
                      have e14 : (L.setIfInBounds 9 true).getD 14 false = L.getD 14 false := getD_set_ne false (by decide)
                      have e15 : (L.setIfInBounds 9 true).getD 15 false = L.getD 15 false := getD_set_ne false (by decide)
                      have e16 : (L.setIfInBounds 9 true).getD 16 false = L.getD 16 false := getD_set_ne false (by decide)
                      have e17 : (L.setIfInBounds 9 true).getD 17 false = L.getD 17 false := getD_set_ne false (by decide)
                      have e18 : (L.setIfInBounds 9 true).getD 18 false = L.getD 18 false := getD_set_ne false (by decide)
                      have e19 : (L.setIfInBounds 9 true).getD 19 false = L.getD 19 false := getD_set_ne false (by decide)
                      have e20 : (L.setIfInBounds 9 true).getD 20 false = L.getD 20 false := getD_set_ne false (by decide)
                      have e21 : (L.setIfInBounds 9 true).getD 21 false = L.getD 21 false := getD_set_ne false (by decide)
                      have e9 : (L.setIfInBounds 9 true).getD 9 false = true := by rw [getD_set_if L 9 9 (by omega), if_pos rfl]
                      obtain rfl := i7 l7
                      obtain rfl := i8 l8
                      go_simp
                      exact ⟨v7, v8, v9, v10, v42, v43, v44, v45, v46, v47, v48, _, _, _, v52, v53, v54, v55, rfl, by rw [e0]; exact i0, by rw [e1]; exact i1, by rw [e2]; exact i2, by rw [e3]; exact i3, by rw [e4]; exact i4, by rw [e5]; exact i5, by rw [e6]; exact i6, fun _ => rfl, fun _ => rfl, fun _ => rfl, by rw [e10]; exact i10, by rw [e11]; exact i11, by rw [e12]; exact i12, by rw [e13]; exact i13, by rw [e14, e15, e16, e17, e18, e19, e20, e21]; exact hP, hX⟩
                    · obtain rfl := Option.some.inj ho
                      clear ho
                      have l9 := hall ⟨9, .data⟩ (by simp) rfl
                      clear hall
                      refine wpOp_inv (o := _) rfl rfl ?_
                      have e0 : (L.setIfInBounds 10 true).getD 0 false = L.getD 0 false := getD_set_ne false (by decide)
                      have e1 : (L.setIfInBounds 10 true).getD 1 false = L.getD 1 false := getD_set_ne false (by decide)
                      have e2 : (L.setIfInBounds 10 true).getD 2 false = L.getD 2 false := getD_set_ne false (by decide)
                      have e3 : (L.setIfInBounds 10 true).getD 3 false = L.getD 3 false := getD_set_ne false (by decide)
                      have e4 : (L.setIfInBounds 10 true).getD 4 false = L.getD 4 false := getD_set_ne false (by decide)
                      have e5 : (L.setIfInBounds 10 true).getD 5 false = L.getD 5 false := getD_set_ne false (by decide)
                      have e6 : (L.setIfInBounds 10 true).getD 6 false = L.getD 6 false := getD_set_ne false (by decide)
                      have e7 : (L.setIfInBounds 10 true).getD 7 false = L.getD 7 false := getD_set_ne false (by decide)
                      have e8 : (L.setIfInBounds 10 true).getD 8 false = L.getD 8 false := getD_set_ne false (by decide)
                      have e9 : (L.setIfInBounds 10 true).getD 9 false = L.getD 9 false := getD_set_ne false (by decide)
                      have e11 : (L.setIfInBounds 10 true).getD 11 false = L.getD 11 false := getD_set_ne false (by decide)
                      have e12 : (L.setIfInBounds 10 true).getD 12 false = L.getD 12 false := getD_set_ne false (by decide)
                      have e13 : (L.setIfInBounds 10 true).getD 13 false = L.getD 13 false := getD_set_ne false (by decide)
                      have e14 : (L.setIfInBounds 10 true).getD 14 false = L.getD 14 false := getD_set_ne false (by decide)
                      have e15 : (L.setIfInBounds 10 true).getD 15 false = L.getD 15 false := getD_set_ne false (by decide)
                      have e16 : (L.setIfInBounds 10 true).getD 16 false = L.getD 16 false := getD_set_ne false (by decide)
                      have e17 : (L.setIfInBounds 10 true).getD 17 false = L.getD 17 false := getD_set_ne false (by decide)
                      have e18 : (L.setIfInBounds 10 true).getD 18 false = L.getD 18 false := getD_set_ne false (by decide)
                      have e19 : (L.setIfInBounds 10 true).getD 19 false = L.getD 19 false := getD_set_ne false (by decide)
                      have e20 : (L.setIfInBounds 10 true).getD 20 false = L.getD 20 false := getD_set_ne false (by decide)
                      have e21 : (L.setIfInBounds 10 true).getD 21 false = L.getD 21 false := getD_set_ne false (by decide)
                      have e10 : (L.setIfInBounds 10 true).getD 10 false = true := by rw [getD_set_if L 10 10 (by omega), if_pos rfl]
                      obtain rfl := i9 l9
                      have d0 := hX.cell (Hc.out k c Hcc.out).1 (by simp)
                      have d1 := hX.cell (Hc.out k c Hcc.out).2 (by simp)
                      go_simp
                      exact ⟨v7, v8, v9, v10, v42, v43, v44, v45, v46, v47, v48, v49, v50, _, _, v53, v54, v55, rfl, by rw [e0]; exact i0, by rw [e1]; exact i1, by rw [e2]; exact i2, by rw [e3]; exact i3, by rw [e4]; exact i4, by rw [e5]; exact i5, by rw [e6]; exact i6, by rw [e7]; exact i7, by rw [e8]; exact i8, fun _ => rfl, fun _ => rfl, by rw [e11]; exact i11, by rw [e12]; exact i12, by rw [e13]; exact i13, by rw [e14, e15, e16, e17, e18, e19, e20, e21]; exact hP, hX⟩
                    · obtain rfl := Option.some.inj ho
                      clear ho
                      clear hall
                      refine wpOp_inv (o := _) rfl rfl ?_
                      have e0 : (L.setIfInBounds 11 true).getD 0 false = L.getD 0 false := getD_set_ne false (by decide)
                      have e1 : (L.setIfInBounds 11 true).getD 1 false = L.getD 1 false := getD_set_ne false (by decide)
                      have e2 : (L.setIfInBounds 11 true).getD 2 false = L.getD 2 false := getD_set_ne false (by decide)
                      have e3 : (L.setIfInBounds 11 true).getD 3 false = L.getD 3 false := getD_set_ne false (by decide)
                      have e4 : (L.setIfInBounds 11 true).getD 4 false = L.getD 4 false := getD_set_ne false (by decide)
                      have e5 : (L.setIfInBounds 11 true).getD 5 false = L.getD 5 false := getD_set_ne false (by decide)
                      have e6 : (L.setIfInBounds 11 true).getD 6 false = L.getD 6 false := getD_set_ne false (by decide)
                      have e7 : (L.setIfInBounds 11 true).getD 7 false = L.getD 7 false := getD_set_ne false (by decide)
                      have e8 : (L.setIfInBounds 11 true).getD 8 false = L.getD 8 false := getD_set_ne false (by decide)
                      have e9 : (L.setIfInBounds 11 true).getD 9 false = L.getD 9 false := getD_set_ne false (by decide)
                      have e10 : (L.setIfInBounds 11 true).getD 10 false = L.getD 10 false := getD_set_ne false (by decide)
                      have e12 : (L.setIfInBounds 11 true).getD 12 false = L.getD 12 false := getD_set_ne false (by decide)
                      have e13 : (L.setIfInBounds 11 true).getD 13 false = L.getD 13 false := getD_set_ne false (by decide)
                      have e14 : (L.setIfInBounds 11 true).getD 14 false = L.getD 14 false := getD_set_ne false (by decide)
                      have e15 : (L.setIfInBounds 11 true).getD 15 false = L.getD 15 false := getD_set_ne false (by decide)
                      have e16 : (L.setIfInBounds 11 true).getD 16 false = L.getD 16 false := getD_set_ne false (by decide)
                      have e17 : (L.setIfInBounds 11 true).getD 17 false = L.getD 17 false := getD_set_ne false (by decide)
                      have e18 : (L.setIfInBounds 11 true).getD 18 false = L.getD 18 false := getD_set_ne false (by decide)
                      have e19 : (L.setIfInBounds 11 true).getD 19 false = L.getD 19 false := getD_set_ne false (by decide)
                      have e20 : (L.setIfInBounds 11 true).getD 20 false = L.getD 20 false := getD_set_ne false (by decide)
                      have e21 : (L.setIfInBounds 11 true).getD 21 false = L.getD 21 false := getD_set_ne false (by decide)
                      have e11 : (L.setIfInBounds 11 true).getD 11 false = true := by rw [getD_set_if L 11 11 (by omega), if_pos rfl]
                      go_simp
                      exact ⟨v7, v8, v9, v10, v42, v43, v44, v45, v46, v47, v48, v49, v50, v51, v52, _, v54, v55, rfl, by rw [e0]; exact i0, by rw [e1]; exact i1, by rw [e2]; exact i2, by rw [e3]; exact i3, by rw [e4]; exact i4, by rw [e5]; exact i5, by rw [e6]; exact i6, by rw [e7]; exact i7, by rw [e8]; exact i8, by rw [e9]; exact i9, by rw [e10]; exact i10, fun _ => rfl, by rw [e12]; exact i12, by rw [e13]; exact i13, by rw [e14, e15, e16, e17, e18, e19, e20, e21]; exact hP, hX⟩
                    · obtain rfl := Option.some.inj ho
                      clear ho
                      clear hall
                      refine wpOp_inv (o := _) rfl rfl ?_
                      have e0 : (L.setIfInBounds 12 true).getD 0 false = L.getD 0 false := getD_set_ne false (by decide)
                      have e1 : (L.setIfInBounds 12 true).getD 1 false = L.getD 1 false := getD_set_ne false (by decide)
                      have e2 : (L.setIfInBounds 12 true).getD 2 false = L.getD 2 false := getD_set_ne false (by decide)
                      have e3 : (L.setIfInBounds 12 true).getD 3 false = L.getD 3 false := getD_set_ne false (by decide)
                      have e4 : (L.setIfInBounds 12 true).getD 4 false = L.getD 4 false := getD_set_ne false (by decide)
                      have e5 : (L.setIfInBounds 12 true).getD 5 false = L.getD 5 false := getD_set_ne false (by decide)
                      have e6 : (L.setIfInBounds 12 true).getD 6 false = L.getD 6 false := getD_set_ne false (by decide)
                      have e7 : (L.setIfInBounds 12 true).getD 7 false = L.getD 7 false := getD_set_ne false (by decide)
                      have e8 : (L.setIfInBounds 12 true).getD 8 false = L.getD 8 false := getD_set_ne false (by decide)
                      have e9 : (L.setIfInBounds 12 true).getD 9 false = L.getD 9 false := getD_set_ne false (by decide)
                      have e10 : (L.setIfInBounds 12 true).getD 10 false = L.getD 10 false := getD_set_ne false (by decide)
                      have e11 : (L.setIfInBounds 12 true).getD 11 false = L.getD 11 false := getD_set_ne false (by decide)
                      have e13 : (L.setIfInBounds 12 true).getD 13 false = L.getD 13 false := getD_set_ne false (by decide)
                      have e14 : (L.setIfInBounds 12 true).getD 14 false = L.getD 14 false := getD_set_ne false (by decide)
                      have e15 : (L.setIfInBounds 12 true).getD 15 false = L.getD 15 false := getD_set_ne false (by decide)
                      have e16 : (L.setIfInBounds 12 true).getD 16 false = L.getD 16 false := getD_set_ne false (by decide)
                      have e17 : (L.setIfInBounds 12 true).getD 17 false = L.getD 17 false := getD_set_ne false (by decide)
                      have e18 : (L.setIfInBounds 12 true).getD 18 false = L.getD 18 false := getD_set_ne false (by decide)
                      have e19 : (L.setIfInBounds 12 true).getD 19 false = L.getD 19 false := getD_set_ne false (by decide)
                      have e20 : (L.setIfInBounds 12 true).getD 20 false = L.getD 20 false := getD_set_ne false (by decide)
                      have e21 : (L.setIfInBounds 12 true).getD 21 false = L.getD 21 false := getD_set_ne false (by decide)
                      have e12 : (L.setIfInBounds 12 true).getD 12 false = true := by rw [getD_set_if L 12 12 (by omega), if_pos rfl]
                      go_simp
                      exact ⟨v7, v8, v9, v10, v42, v43, v44, v45, v46, v47, v48, v49, v50, v51, v52, v53, _, v55, rfl, by rw [e0]; exact i0, by rw [e1]; exact i1, by rw [e2]; exact i2, by rw [e3]; exact i3, by rw [e4]; exact i4, by rw [e5]; exact i5, by rw [e6]; exact i6, by rw [e7]; exact i7, by rw [e8]; exact i8, by rw [e9]; exact i9, by rw [e10]; exact i10, by rw [e11]; exact i11, fun _ => rfl, by rw [e13]; exact i13, by rw [e14, e15, e16, e17, e18, e19, e20, e21]; exact hP, hX⟩
                    · obtain rfl := Option.some.inj ho
                      clear ho
                      have l11 := hall ⟨11, .data⟩ (by simp) rfl
                      have l12 := hall ⟨12, .data⟩ (by simp) rfl
                      clear hall
                      refine wpOp_inv (o := _) rfl rfl ?_
                      have e0 : (L.setIfInBounds 13 true).getD 0 false = L.getD 0 false := getD_set_ne false (by decide)
                      have e1 : (L.setIfInBounds 13 true).getD 1 false = L.getD 1 false := getD_set_ne false (by decide)
                      have e2 : (L.setIfInBounds 13 true).getD 2 false = L.getD 2 false := getD_set_ne false (by decide)
                      have e3 : (L.setIfInBounds 13 true).getD 3 false = L.getD 3 false := getD_set_ne false (by decide)
                      have e4 : (L.setIfInBounds 13 true).getD 4 false = L.getD 4 false := getD_set_ne false (by decide)
                      have e5 : (L.setIfInBounds 13 true).getD 5 false = L.getD 5 false := getD_set_ne false (by decide)
                      have e6 : (L.setIfInBounds 13 true).getD 6 false = L.getD 6 false := getD_set_ne false (by decide)
                      have e7 : (L.setIfInBounds 13 true).getD 7 false = L.getD 7 false := getD_set_ne false (by decide)
                      have e8 : (L.setIfInBounds 13 true).getD 8 false = L.getD 8 false := getD_set_ne false (by decide)
                      have e9 : (L.setIfInBounds 13 true).getD 9 false = L.getD 9 false := getD_set_ne false (by decide)
                      have e10 : (L.setIfInBounds 13 true).getD 10 false = L.getD 10 false := getD_set_ne false (by decide)
                      have e11 : (L.setIfInBounds 13 true).getD 11 false = L.getD 11 false := getD_set_ne false (by decide)
                      have e12 : (L.setIfInBounds 13 true).getD 12 false = L.getD 12 false := getD_set_ne false (by decide)
                      have e14 : (L.setIfInBounds 13 true).getD 14 false = L.getD 14 false := getD_set_ne false (by decide)
                      have e15 : (L.setIfInBounds 13 true).getD 15 false = L.getD 15 false := getD_set_ne false (by decide)
                      have e16 : (L.setIfInBounds 13 true).getD 16 false = L.getD 16 false := getD_set_ne false (by decide)
                      have e17 : (L.setIfInBounds 13 true).getD 17 false = L.getD 17 false := getD_set_ne false (by decide)
                      have e18 : (L.setIfInBounds 13 true).getD 18 false = L.getD 18 false := getD_set_ne false (by decide)
                      have e19 : (L.setIfInBounds 13 true).getD 19 false = L.getD 19 false := getD_set_ne false (by decide)
                      have e20 : (L.setIfInBounds 13 true).getD 20 false = L.getD 20 false := getD_set_ne false (by decide)
                      have e21 : (L.setIfInBounds 13 true).getD 21 false = L.getD 21 false := getD_set_ne false (by decide)
                      have e13 : (L.setIfInBounds 13 true).getD 13 false = true := by rw [getD_set_if L 13 13 (by omega), if_pos rfl]
                      obtain rfl := i11 l11
                      obtain rfl := i12 l12
                      go_simp
                      refine (HNX.out _ hX k _ d hlt2 Hd.out rfl).mono ?_; rintro e w' ⟨rfl, hX1⟩
                      exact ⟨_, rfl, v7, v8, v9, v10, v42, v43, v44, v45, v46, v47, v48, v49, v50, v51, v52, _, _, _, rfl, by rw [e0]; exact i0, by rw [e1]; exact i1, by rw [e2]; exact i2, by rw [e3]; exact i3, by rw [e4]; exact i4, by rw [e5]; exact i5, by rw [e6]; exact i6, by rw [e7]; exact i7, by rw [e8]; exact i8, by rw [e9]; exact i9, by rw [e10]; exact i10, fun _ => rfl, fun _ => rfl, fun _ => rfl, by rw [e14, e15, e16, e17, e18, e19, e20, e21]; exact hP.keep hX1, hX.trans hX1⟩
                    · obtain rfl := Option.some.inj ho
                      clear ho
                      clear hall
                      refine wpOp_inv (o := _) rfl rfl ?_
                      have e0 : (L.setIfInBounds 14 true).getD 0 false = L.getD 0 false := getD_set_ne false (by decide)
                      have e1 : (L.setIfInBounds 14 true).getD 1 false = L.getD 1 false := getD_set_ne false (by decide)
                      have e2 : (L.setIfInBounds 14 true).getD 2 false = L.getD 2 false := getD_set_ne false (by decide)
                      have e3 : (L.setIfInBounds 14 true).getD 3 false = L.getD 3 false := getD_set_ne false (by decide)
                      have e4 : (L.setIfInBounds 14 true).getD 4 false = L.getD 4 false := getD_set_ne false (by decide)
                      have e5 : (L.setIfInBounds 14 true).getD 5 false = L.getD 5 false := getD_set_ne false (by decide)
                      have e6 : (L.setIfInBounds 14 true).getD 6 false = L.getD 6 false := getD_set_ne false (by decide)
                      have e7 : (L.setIfInBounds 14 true).getD 7 false = L.getD 7 false := getD_set_ne false (by decide)
                      have e8 : (L.setIfInBounds 14 true).getD 8 false = L.getD 8 false := getD_set_ne false (by decide)
                      have e9 : (L.setIfInBounds 14 true).getD 9 false = L.getD 9 false := getD_set_ne false (by decide)
                      have e10 : (L.setIfInBounds 14 true).getD 10 false = L.getD 10 false := getD_set_ne false (by decide)
                      have e11 : (L.setIfInBounds 14 true).getD 11 false = L.getD 11 false := getD_set_ne false (by decide)
                      have e12 : (L.setIfInBounds 14 true).getD 12 false = L.getD 12 false := getD_set_ne false (by decide)
                      have e13 : (L.setIfInBounds 14 true).getD 13 false = L.getD 13 false := getD_set_ne false (by decide)
                      have e15 : (L.setIfInBounds 14 true).getD 15 false = L.getD 15 false := getD_set_ne false (by decide)
                      have e16 : (L.setIfInBounds 14 true).getD 16 false = L.getD 16 false := getD_set_ne false (by decide)
                      have e17 : (L.setIfInBounds 14 true).getD 17 false = L.getD 17 false := getD_set_ne false (by decide)
                      have e18 : (L.setIfInBounds 14 true).getD 18 false = L.getD 18 false := getD_set_ne false (by decide)
                      have e19 : (L.setIfInBounds 14 true).getD 19 false = L.getD 19 false := getD_set_ne false (by decide)
                      have e20 : (L.setIfInBounds 14 true).getD 20 false = L.getD 20 false := getD_set_ne false (by decide)
                      have e21 : (L.setIfInBounds 14 true).getD 21 false = L.getD 21 false := getD_set_ne false (by decide)
                      have e14 : (L.setIfInBounds 14 true).getD 14 false = true := by rw [getD_set_if L 14 14 (by omega), if_pos rfl]
                      rw [hl] at hP
                      have hP2 := hP.alloc 0 rfl 53
                      simp only [List.set_cons_succ, List.set_cons_zero] at hP2
                      go_simp
                      exact ⟨_, v8, v9, v10, v42, v43, v44, v45, v46, v47, v48, v49, v50, v51, v52, v53, v54, v55, rfl, by rw [e0]; exact i0, by rw [e1]; exact i1, by rw [e2]; exact i2, by rw [e3]; exact i3, by rw [e4]; exact i4, by rw [e5]; exact i5, by rw [e6]; exact i6, by rw [e7]; exact i7, by rw [e8]; exact i8, by rw [e9]; exact i9, by rw [e10]; exact i10, by rw [e11]; exact i11, by rw [e12]; exact i12, by rw [e13]; exact i13, by rw [e14, e15, e16, e17, e18, e19, e20, e21]; exact hP2, hX.alloc _⟩
                    · obtain rfl := Option.some.inj ho
                      clear ho
                      clear hall
                      refine wpOp_inv (o := _) rfl rfl ?_
                      have e0 : (L.setIfInBounds 15 true).getD 0 false = L.getD 0 false := getD_set_ne false (by decide)
                      have e1 : (L.setIfInBounds 15 true).getD 1 false = L.getD 1 false := getD_set_ne false (by decide)
                      have e2 : (L.setIfInBounds 15 true).getD 2 false = L.getD 2 false := getD_set_ne false (by decide)
                      have e3 : (L.setIfInBounds 15 true).getD 3 false = L.getD 3 false := getD_set_ne false (by decide)
                      have e4 : (L.setIfInBounds 15 true).getD 4 false = L.getD 4 false := getD_set_ne false (by decide)
                      have e5 : (L.setIfInBounds 15 true).getD 5 false = L.getD 5 false := getD_set_ne false (by decide)
                      have e6 : (L.setIfInBounds 15 true).getD 6 false = L.getD 6 false := getD_set_ne false (by decide)
                      have e7 : (L.setIfInBounds 15 true).getD 7 false = L.getD 7 false := getD_set_ne false (by decide)
                      have e8 : (L.setIfInBounds 15 true).getD 8 false = L.getD 8 false := getD_set_ne false (by decide)
                      have e9 : (L.setIfInBounds 15 true).getD 9 false = L.getD 9 false := getD_set_ne false (by decide)
                      have e10 : (L.setIfInBounds 15 true).getD 10 false = L.getD 10 false := getD_set_ne false (by decide)
                      have e11 : (L.setIfInBounds 15 true).getD 11 false = L.getD 11 false := getD_set_ne false (by decide)
                      have e12 : (L.setIfInBounds 15 true).getD 12 false = L.getD 12 false := getD_set_ne false (by decide)
                      have e13 : (L.setIfInBounds 15 true).getD 13 false = L.getD 13 false := getD_set_ne false (by decide)
                      have e14 : (L.setIfInBounds 15 true).getD 14 false = L.getD 14 false := getD_set_ne false (by decide)
                      have e16 : (L.setIfInBounds 15 true).getD 16 false = L.getD 16 false := getD_set_ne false (by decide)
                      have e17 : (L.setIfInBounds 15 true).getD 17 false = L.getD 17 false := getD_set_ne false (by decide)
                      have e18 : (L.setIfInBounds 15 true).getD 18 false = L.getD 18 false := getD_set_ne false (by decide)
                      have e19 : (L.setIfInBounds 15 true).getD 19 false = L.getD 19 false := getD_set_ne false (by decide)
                      have e20 : (L.setIfInBounds 15 true).getD 20 false = L.getD 20 false := getD_set_ne false (by decide)
                      have e21 : (L.setIfInBounds 15 true).getD 21 false = L.getD 21 false := getD_set_ne false (by decide)
                      have e15 : (L.setIfInBounds 15 true).getD 15 false = true := by rw [getD_set_if L 15 15 (by omega), if_pos rfl]
                      rw [hl] at hP
                      have hP2 := hP.alloc 1 rfl 53
                      simp only [List.set_cons_succ, List.set_cons_zero] at hP2
                      go_simp
                      exact ⟨v7, _, v9, v10, v42, v43, v44, v45, v46, v47, v48, v49, v50, v51, v52, v53, v54, v55, rfl, by rw [e0]; exact i0, by rw [e1]; exact i1, by rw [e2]; exact i2, by rw [e3]; exact i3, by rw [e4]; exact i4, by rw [e5]; exact i5, by rw [e6]; exact i6, by rw [e7]; exact i7, by rw [e8]; exact i8, by rw [e9]; exact i9, by rw [e10]; exact i10, by rw [e11]; exact i11, by rw [e12]; exact i12, by rw [e13]; exact i13, by rw [e14, e15, e16, e17, e18, e19, e20, e21]; exact hP2, hX.alloc _⟩
                    · obtain rfl := Option.some.inj ho
                      clear ho
                      clear hall
                      refine wpOp_inv (o := _) rfl rfl ?_
                      have e0 : (L.setIfInBounds 16 true).getD 0 false = L.getD 0 false := getD_set_ne false (by decide)
                      have e1 : (L.setIfInBounds 16 true).getD 1 false = L.getD 1 false := getD_set_ne false (by decide)
                      have e2 : (L.setIfInBounds 16 true).getD 2 false = L.getD 2 false := getD_set_ne false (by decide)
                      have e3 : (L.setIfInBounds 16 true).getD 3 false = L.getD 3 false := getD_set_ne false (by decide)
                      have e4 : (L.setIfInBounds 16 true).getD 4 false = L.getD 4 false := getD_set_ne false (by decide)
                      have e5 : (L.setIfInBounds 16 true).getD 5 false = L.getD 5 false := getD_set_ne false (by decide)
                      have e6 : (L.setIfInBounds 16 true).getD 6 false = L.getD 6 false := getD_set_ne false (by decide)
                      have e7 : (L.setIfInBounds 16 true).getD 7 false = L.getD 7 false := getD_set_ne false (by decide)
                      have e8 : (L.setIfInBounds 16 true).getD 8 false = L.getD 8 false := getD_set_ne false (by decide)
                      have e9 : (L.setIfInBounds 16 true).getD 9 false = L.getD 9 false := getD_set_ne false (by decide)
                      have e10 : (L.setIfInBounds 16 true).getD 10 false = L.getD 10 false := getD_set_ne false (by decide)
                      have e11 : (L.setIfInBounds 16 true).getD 11 false = L.getD 11 false := getD_set_ne false (by decide)
                      have e12 : (L.setIfInBounds 16 true).getD 12 false = L.getD 12 false := getD_set_ne false (by decide)
                      have e13 : (L.setIfInBounds 16 true).getD 13 false = L.getD 13 false := getD_set_ne false (by decide)
                      have e14 : (L.setIfInBounds 16 true).getD 14 false = L.getD 14 false := getD_set_ne false (by decide)
                      have e15 : (L.setIfInBounds 16 true).getD 15 false = L.getD 15 false := getD_set_ne false (by decide)
                      have e17 : (L.setIfInBounds 16 true).getD 17 false = L.getD 17 false := getD_set_ne false (by decide)
                      have e18 : (L.setIfInBounds 16 true).getD 18 false = L.getD 18 false := getD_set_ne false (by decide)
                      have e19 : (L.setIfInBounds 16 true).getD 19 false = L.getD 19 false := getD_set_ne false (by decide)
                      have e20 : (L.setIfInBounds 16 true).getD 20 false = L.getD 20 false := getD_set_ne false (by decide)
                      have e21 : (L.setIfInBounds 16 true).getD 21 false = L.getD 21 false := getD_set_ne false (by decide)
                      have e16 : (L.setIfInBounds 16 true).getD 16 false = true := by rw [getD_set_if L 16 16 (by omega), if_pos rfl]
                      rw [hl] at hP
                      have hP2 := hP.alloc 2 rfl 53
                      simp only [List.set_cons_succ, List.set_cons_zero] at hP2
                      go_simp
                      exact ⟨v7, v8, _, v10, v42, v43, v44, v45, v46, v47, v48, v49, v50, v51, v52, v53, v54, v55, rfl, by rw [e0]; exact i0, by rw [e1]; exact i1, by rw [e2]; exact i2, by rw [e3]; exact i3, by rw [e4]; exact i4, by rw [e5]; exact i5, by rw [e6]; exact i6, by rw [e7]; exact i7, by rw [e8]; exact i8, by rw [e9]; exact i9, by rw [e10]; exact i10, by rw [e11]; exact i11, by rw [e12]; exact i12, by rw [e13]; exact i13, by rw [e14, e15, e16, e17, e18, e19, e20, e21]; exact hP2, hX.alloc _⟩
                    · obtain rfl := Option.some.inj ho
                      clear ho
                      clear hall
                      refine wpOp_inv (o := _) rfl rfl ?_
                      have e0 : (L.setIfInBounds 17 true).getD 0 false = L.getD 0 false := getD_set_ne false (by decide)
                      have e1 : (L.setIfInBounds 17 true).getD 1 false = L.getD 1 false := getD_set_ne false (by decide)
                      have e2 : (L.setIfInBounds 17 true).getD 2 false = L.getD 2 false := getD_set_ne false (by decide)
                      have e3 : (L.setIfInBounds 17 true).getD 3 false = L.getD 3 false := getD_set_ne false (by decide)
                      have e4 : (L.setIfInBounds 17 true).getD 4 false = L.getD 4 false := getD_set_ne false (by decide)
                      have e5 : (L.setIfInBounds 17 true).getD 5 false = L.getD 5 false := getD_set_ne false (by decide)
                      have e6 : (L.setIfInBounds 17 true).getD 6 false = L.getD 6 false := getD_set_ne false (by decide)
                      have e7 : (L.setIfInBounds 17 true).getD 7 false = L.getD 7 false := getD_set_ne false (by decide)
                      have e8 : (L.setIfInBounds 17 true).getD 8 false = L.getD 8 false := getD_set_ne false (by decide)
                      have e9 : (L.setIfInBounds 17 true).getD 9 false = L.getD 9 false := getD_set_ne false (by decide)
                      have e10 : (L.setIfInBounds 17 true).getD 10 false = L.getD 10 false := getD_set_ne false (by decide)
                      have e11 : (L.setIfInBounds 17 true).getD 11 false = L.getD 11 false := getD_set_ne false (by decide)
                      have e12 : (L.setIfInBounds 17 true).getD 12 false = L.getD 12 false := getD_set_ne false (by decide)
                      have e13 : (L.setIfInBounds 17 true).getD 13 false = L.getD 13 false := getD_set_ne false (by decide)
                      have e14 : (L.setIfInBounds 17 true).getD 14 false = L.getD 14 false := getD_set_ne false (by decide)
                      have e15 : (L.setIfInBounds 17 true).getD 15 false = L.getD 15 false := getD_set_ne false (by decide)
                      have e16 : (L.setIfInBounds 17 true).getD 16 false = L.getD 16 false := getD_set_ne false (by decide)
                      have e18 : (L.setIfInBounds 17 true).getD 18 false = L.getD 18 false := getD_set_ne false (by decide)
                      have e19 : (L.setIfInBounds 17 true).getD 19 false = L.getD 19 false := getD_set_ne false (by decide)
                      have e20 : (L.setIfInBounds 17 true).getD 20 false = L.getD 20 false := getD_set_ne false (by decide)
                      have e21 : (L.setIfInBounds 17 true).getD 21 false = L.getD 21 false := getD_set_ne false (by decide)
                      have e17 : (L.setIfInBounds 17 true).getD 17 false = true := by rw [getD_set_if L 17 17 (by omega), if_pos rfl]
                      rw [hl] at hP
                      have hP2 := hP.alloc 3 rfl 53
                      simp only [List.set_cons_succ, List.set_cons_zero] at hP2
                      go_simp
                      exact ⟨v7, v8, v9, _, v42, v43, v44, v45, v46, v47, v48, v49, v50, v51, v52, v53, v54, v55, rfl, by rw [e0]; exact i0, by rw [e1]; exact i1, by rw [e2]; exact i2, by rw [e3]; exact i3, by rw [e4]; exact i4, by rw [e5]; exact i5, by rw [e6]; exact i6, by rw [e7]; exact i7, by rw [e8]; exact i8, by rw [e9]; exact i9, by rw [e10]; exact i10, by rw [e11]; exact i11, by rw [e12]; exact i12, by rw [e13]; exact i13, by rw [e14, e15, e16, e17, e18, e19, e20, e21]; exact hP2, hX.alloc _⟩
                    · obtain rfl := Option.some.inj ho
                      clear ho
                      have l14 := hall ⟨14, .data⟩ (by simp) rfl
                      have l3 := hall ⟨3, .data⟩ (by simp) rfl
                      clear hall
                      refine wpOp_inv (o := _) rfl rfl ?_
                      have e0 : (L.setIfInBounds 18 true).getD 0 false = L.getD 0 false := getD_set_ne false (by decide)
                      have e1 : (L.setIfInBounds 18 true).getD 1 false = L.getD 1 false := getD_set_ne false (by decide)
                      have e2 : (L.setIfInBounds 18 true).getD 2 false = L.getD 2 false := getD_set_ne false (by decide)
                      have e3 : (L.setIfInBounds 18 true).getD 3 false = L.getD 3 false := getD_set_ne false (by decide)
                      have e4 : (L.setIfInBounds 18 true).getD 4 false = L.getD 4 false := getD_set_ne false (by decide)
                      have e5 : (L.setIfInBounds 18 true).getD 5 false = L.getD 5 false := getD_set_ne false (by decide)
                      have e6 : (L.setIfInBounds 18 true).getD 6 false = L.getD 6 false := getD_set_ne false (by decide)
                      have e7 : (L.setIfInBounds 18 true).getD 7 false = L.getD 7 false := getD_set_ne false (by decide)
                      have e8 : (L.setIfInBounds 18 true).getD 8 false = L.getD 8 false := getD_set_ne false (by decide)
                      have e9 : (L.setIfInBounds 18 true).getD 9 false = L.getD 9 false := getD_set_ne false (by decide)
                      have e10 : (L.setIfInBounds 18 true).getD 10 false = L.getD 10 false := getD_set_ne false (by decide)
                      have e11 : (L.setIfInBounds 18 true).getD 11 false = L.getD 11 false := getD_set_ne false (by decide)
                      have e12 : (L.setIfInBounds 18 true).getD 12 false = L.getD 12 false := getD_set_ne false (by decide)
                      have e13 : (L.setIfInBounds 18 true).getD 13 false = L.getD 13 false := getD_set_ne false (by decide)
                      have e14 : (L.setIfInBounds 18 true).getD 14 false = L.getD 14 false := getD_set_ne false (by decide)
                      have e15 : (L.setIfInBounds 18 true).getD 15 false = L.getD 15 false := getD_set_ne false (by decide)
                      have e16 : (L.setIfInBounds 18 true).getD 16 false = L.getD 16 false := getD_set_ne false (by decide)
                      have e17 : (L.setIfInBounds 18 true).getD 17 false = L.getD 17 false := getD_set_ne false (by decide)
                      have e19 : (L.setIfInBounds 18 true).getD 19 false = L.getD 19 false := getD_set_ne false (by decide)
                      have e20 : (L.setIfInBounds 18 true).getD 20 false = L.getD 20 false := getD_set_ne false (by decide)
                      have e21 : (L.setIfInBounds 18 true).getD 21 false = L.getD 21 false := getD_set_ne false (by decide)
                      have e18 : (L.setIfInBounds 18 true).getD 18 false = true := by rw [getD_set_if L 18 18 (by omega), if_pos rfl]
                      obtain rfl := i3 l3
                      rw [l14] at hP
                      obtain ⟨y, rfl, hy1, hy2, K⟩ := (hP.each 0 _ _ _ _ rfl).blk rfl
                      rw [hl] at K
                      have K : At wx y #[.int .i64 0, .int .i64 0] := K
                      have k0 := K.cell 0; have k1 := K.cell 1; have k2 := K.frozen 0; have k3 := K.frozen 1
                      have CH := fun u v => ((Chg.refl [y] wx).setCell (p := ⟨y, 0, none⟩) (Or.inl (by simp)) u).setCell (p := ⟨y, 1, none⟩) (Or.inl (by simp)) v
                      have hP2 := hP.store 0 rfl (CH _ _) (K.set2 _ _)
                      simp only [List.set_cons_succ, List.set_cons_zero] at hP2
                      go_simp
                      exact ⟨_, v8, v9, v10, v42, v43, v44, _, v46, v47, v48, v49, v50, v51, v52, v53, v54, v55, rfl, by rw [e0]; exact i0, by rw [e1]; exact i1, by rw [e2]; exact i2, fun _ => rfl, by rw [e4]; exact i4, by rw [e5]; exact i5, by rw [e6]; exact i6, by rw [e7]; exact i7, by rw [e8]; exact i8, by rw [e9]; exact i9, by rw [e10]; exact i10, by rw [e11]; exact i11, by rw [e12]; exact i12, by rw [e13]; exact i13, by rw [e14, e15, e16, e17, e18, e19, e20, e21, l14]; exact hP2, hX.set2 (Nat.le_trans hWz hy1) _ _⟩
                    · obtain rfl := Option.some.inj ho
                      clear ho
                      have l15 := hall ⟨15, .data⟩ (by simp) rfl
                      have l6 := hall ⟨6, .data⟩ (by simp) rfl
                      clear hall
                      refine wpOp_inv (o := _) rfl rfl ?_
                      have e0 : (L.setIfInBounds 19 true).getD 0 false = L.getD 0 false := getD_set_ne false (by decide)
                      have e1 : (L.setIfInBounds 19 true).getD 1 false = L.getD 1 false := getD_set_ne false (by decide)
                      have e2 : (L.setIfInBounds 19 true).getD 2 false = L.getD 2 false := getD_set_ne false (by decide)
                      have e3 : (L.setIfInBounds 19 true).getD 3 false = L.getD 3 false := getD_set_ne false (by decide)
                      have e4 : (L.setIfInBounds 19 true).getD 4 false = L.getD 4 false := getD_set_ne false (by decide)
                      have e5 : (L.setIfInBounds 19 true).getD 5 false = L.getD 5 false := getD_set_ne false (by decide)
                      have e6 : (L.setIfInBounds 19 true).getD 6 false = L.getD 6 false := getD_set_ne false (by decide)
                      have e7 : (L.setIfInBounds 19 true).getD 7 false = L.getD 7 false := getD_set_ne false (by decide)
                      have e8 : (L.setIfInBounds 19 true).getD 8 false = L.getD 8 false := getD_set_ne false (by decide)
                      have e9 : (L.setIfInBounds 19 true).getD 9 false = L.getD 9 false := getD_set_ne false (by decide)
                      have e10 : (L.setIfInBounds 19 true).getD 10 false = L.getD 10 false := getD_set_ne false (by decide)
                      have e11 : (L.setIfInBounds 19 true).getD 11 false = L.getD 11 false := getD_set_ne false (by decide)
                      have e12 : (L.setIfInBounds 19 true).getD 12 false = L.getD 12 false := getD_set_ne false (by decide)
                      have e13 : (L.setIfInBounds 19 true).getD 13 false = L.getD 13 false := getD_set_ne false (by decide)
                      have e14 : (L.setIfInBounds 19 true).getD 14 false = L.getD 14 false := getD_set_ne false (by decide)
                      have e15 : (L.setIfInBounds 19 true).getD 15 false = L.getD 15 false := getD_set_ne false (by decide)
                      have e16 : (L.setIfInBounds 19 true).getD 16 false = L.getD 16 false := getD_set_ne false (by decide)
                      have e17 : (L.setIfInBounds 19 true).getD 17 false = L.getD 17 false := getD_set_ne false (by decide)
                      have e18 : (L.setIfInBounds 19 true).getD 18 false = L.getD 18 false := getD_set_ne false (by decide)
                      have e20 : (L.setIfInBounds 19 true).getD 20 false = L.getD 20 false := getD_set_ne false (by decide)
                      have e21 : (L.setIfInBounds 19 true).getD 21 false = L.getD 21 false := getD_set_ne false (by decide)
                      have e19 : (L.setIfInBounds 19 true).getD 19 false = true := by rw [getD_set_if L 19 19 (by omega), if_pos rfl]
                      obtain rfl := i6 l6
                      rw [l15] at hP
                      obtain ⟨y, rfl, hy1, hy2, K⟩ := (hP.each 1 _ _ _ _ rfl).blk rfl
                      rw [hl] at K
                      have K : At wx y #[.int .i64 0, .int .i64 0] := K
                      have k0 := K.cell 0; have k1 := K.cell 1; have k2 := K.frozen 0; have k3 := K.frozen 1
                      have CH := fun u v => ((Chg.refl [y] wx).setCell (p := ⟨y, 0, none⟩) (Or.inl (by simp)) u).setCell (p := ⟨y, 1, none⟩) (Or.inl (by simp)) v
                      have hP2 := hP.store 1 rfl (CH _ _) (K.set2 _ _)
                      simp only [List.set_cons_succ, List.set_cons_zero] at hP2
                      go_simp
                      exact ⟨v7, _, v9, v10, v42, v43, v44, v45, v46, v47, _, v49, v50, v51, v52, v53, v54, v55, rfl, by rw [e0]; exact i0, by rw [e1]; exact i1, by rw [e2]; exact i2, by rw [e3]; exact i3, by rw [e4]; exact i4, by rw [e5]; exact i5, fun _ => rfl, by rw [e7]; exact i7, by rw [e8]; exact i8, by rw [e9]; exact i9, by rw [e10]; exact i10, by rw [e11]; exact i11, by rw [e12]; exact i12, by rw [e13]; exact i13, by rw [e14, e15, e16, e17, e18, e19, e20, e21, l15]; exact hP2, hX.set2 (Nat.le_trans hWz hy1) _ _⟩
                    · obtain rfl := Option.some.inj ho
                      clear ho
                      have l16 := hall ⟨16, .data⟩ (by simp) rfl
                      have l10 := hall ⟨10, .data⟩ (by simp) rfl
                      clear hall
                      refine wpOp_inv (o := _) rfl rfl ?_
                      have e0 : (L.setIfInBounds 20 true).getD 0 false = L.getD 0 false := getD_set_ne false (by decide)
                      have e1 : (L.setIfInBounds 20 true).getD 1 false = L.getD 1 false := getD_set_ne false (by decide)
                      have e2 : (L.setIfInBounds 20 true).getD 2 false = L.getD 2 false := getD_set_ne false (by decide)
                      have e3 : (L.setIfInBounds 20 true).getD 3 false = L.getD 3 false := getD_set_ne false (by decide)
                      have e4 : (L.setIfInBounds 20 true).getD 4 false = L.getD 4 false := getD_set_ne false (by decide)
                      have e5 : (L.setIfInBounds 20 true).getD 5 false = L.getD 5 false := getD_set_ne false (by decide)
                      have e6 : (L.setIfInBounds 20 true).getD 6 false = L.getD 6 false := getD_set_ne false (by decide)
                      have e7 : (L.setIfInBounds 20 true).getD 7 false = L.getD 7 false := getD_set_ne false (by decide)
                      have e8 : (L.setIfInBounds 20 true).getD 8 false = L.getD 8 false := getD_set_ne false (by decide)
                      have e9 : (L.setIfInBounds 20 true).getD 9 false = L.getD 9 false := getD_set_ne false (by decide)
                      have e10 : (L.setIfInBounds 20 true).getD 10 false = L.getD 10 false := getD_set_ne false (by decide)
                      have e11 : (L.setIfInBounds 20 true).getD 11 false = L.getD 11 false := getD_set_ne false (by decide)
                      have e12 : (L.setIfInBounds 20 true).getD 12 false = L.getD 12 false := getD_set_ne false (by decide)
                      have e13 : (L.setIfInBounds 20 true).getD 13 false = L.getD 13 false := getD_set_ne false (by decide)
                      have e14 : (L.setIfInBounds 20 true).getD 14 false = L.getD 14 false := getD_set_ne false (by decide)
                      have e15 : (L.setIfInBounds 20 true).getD 15 false = L.getD 15 false := getD_set_ne false (by decide)
                      have e16 : (L.setIfInBounds 20 true).getD 16 false = L.getD 16 false := getD_set_ne false (by decide)
                      have e17 : (L.setIfInBounds 20 true).getD 17 false = L.getD 17 false := getD_set_ne false (by decide)
                      have e18 : (L.setIfInBounds 20 true).getD 18 false = L.getD 18 false := getD_set_ne false (by decide)
                      have e19 : (L.setIfInBounds 20 true).getD 19 false = L.getD 19 false := getD_set_ne false (by decide)
                      have e21 : (L.setIfInBounds 20 true).getD 21 false = L.getD 21 false := getD_set_ne false (by decide)
                      have e20 : (L.setIfInBounds 20 true).getD 20 false = true := by rw [getD_set_if L 20 20 (by omega), if_pos rfl]
                      obtain rfl := i10 l10
                      rw [l16] at hP
                      obtain ⟨y, rfl, hy1, hy2, K⟩ := (hP.each 2 _ _ _ _ rfl).blk rfl
                      rw [hl] at K
                      have K : At wx y #[.int .i64 0, .int .i64 0] := K
                      have k0 := K.cell 0; have k1 := K.cell 1; have k2 := K.frozen 0; have k3 := K.frozen 1
                      have CH := fun u v => ((Chg.refl [y] wx).setCell (p := ⟨y, 0, none⟩) (Or.inl (by simp)) u).setCell (p := ⟨y, 1, none⟩) (Or.inl (by simp)) v
                      have hP2 := hP.store 2 rfl (CH _ _) (K.set2 _ _)
                      simp only [List.set_cons_succ, List.set_cons_zero] at hP2
                      go_simp
                      exact ⟨v7, v8, _, v10, v42, v43, v44, v45, v46, v47, v48, v49, v50, v51, _, v53, v54, v55, rfl, by rw [e0]; exact i0, by rw [e1]; exact i1, by rw [e2]; exact i2, by rw [e3]; exact i3, by rw [e4]; exact i4, by rw [e5]; exact i5, by rw [e6]; exact i6, by rw [e7]; exact i7, by rw [e8]; exact i8, by rw [e9]; exact i9, fun _ => rfl, by rw [e11]; exact i11, by rw [e12]; exact i12, by rw [e13]; exact i13, by rw [e14, e15, e16, e17, e18, e19, e20, e21, l16]; exact hP2, hX.set2 (Nat.le_trans hWz hy1) _ _⟩
                    · obtain rfl := Option.some.inj ho
                      clear ho
                      have l17 := hall ⟨17, .data⟩ (by simp) rfl
                      have l13 := hall ⟨13, .data⟩ (by simp) rfl
                      clear hall
                      refine wpOp_inv (o := _) rfl rfl ?_
                      have e0 : (L.setIfInBounds 21 true).getD 0 false = L.getD 0 false := getD_set_ne false (by decide)
                      have e1 : (L.setIfInBounds 21 true).getD 1 false = L.getD 1 false := getD_set_ne false (by decide)
                      have e2 : (L.setIfInBounds 21 true).getD 2 false = L.getD 2 false := getD_set_ne false (by decide)
                      have e3 : (L.setIfInBounds 21 true).getD 3 false = L.getD 3 false := getD_set_ne false (by decide)
                      have e4 : (L.setIfInBounds 21 true).getD 4 false = L.getD 4 false := getD_set_ne false (by decide)
                      have e5 : (L.setIfInBounds 21 true).getD 5 false = L.getD 5 false := getD_set_ne false (by decide)
                      have e6 : (L.setIfInBounds 21 true).getD 6 false = L.getD 6 false := getD_set_ne false (by decide)
                      have e7 : (L.setIfInBounds 21 true).getD 7 false = L.getD 7 false := getD_set_ne false (by decide)
                      have e8 : (L.setIfInBounds 21 true).getD 8 false = L.getD 8 false := getD_set_ne false (by decide)
                      have e9 : (L.setIfInBounds 21 true).getD 9 false = L.getD 9 false := getD_set_ne false (by decide)
                      have e10 : (L.setIfInBounds 21 true).getD 10 false = L.getD 10 false := getD_set_ne false (by decide)
                      have e11 : (L.setIfInBounds 21 true).getD 11 false = L.getD 11 false := getD_set_ne false (by decide)
                      have e12 : (L.setIfInBounds 21 true).getD 12 false = L.getD 12 false := getD_set_ne false (by decide)
                      have e13 : (L.setIfInBounds 21 true).getD 13 false = L.getD 13 false := getD_set_ne false (by decide)
                      have e14 : (L.setIfInBounds 21 true).getD 14 false = L.getD 14 false := getD_set_ne false (by decide)
                      have e15 : (L.setIfInBounds 21 true).getD 15 false = L.getD 15 false := getD_set_ne false (by decide)
                      have e16 : (L.setIfInBounds 21 true).getD 16 false = L.getD 16 false := getD_set_ne false (by decide)
                      have e17 : (L.setIfInBounds 21 true).getD 17 false = L.getD 17 false := getD_set_ne false (by decide)
                      have e18 : (L.setIfInBounds 21 true).getD 18 false = L.getD 18 false := getD_set_ne false (by decide)
                      have e19 : (L.setIfInBounds 21 true).getD 19 false = L.getD 19 false := getD_set_ne false (by decide)
                      have e20 : (L.setIfInBounds 21 true).getD 20 false = L.getD 20 false := getD_set_ne false (by decide)
                      have e21 : (L.setIfInBounds 21 true).getD 21 false = true := by rw [getD_set_if L 21 21 (by omega), if_pos rfl]
                      obtain rfl := i13 l13
                      rw [l17] at hP
                      obtain ⟨y, rfl, hy1, hy2, K⟩ := (hP.each 3 _ _ _ _ rfl).blk rfl
                      rw [hl] at K
                      have K : At wx y #[.int .i64 0, .int .i64 0] := K
                      have k0 := K.cell 0; have k1 := K.cell 1; have k2 := K.frozen 0; have k3 := K.frozen 1
                      have CH := fun u v => ((Chg.refl [y] wx).setCell (p := ⟨y, 0, none⟩) (Or.inl (by simp)) u).setCell (p := ⟨y, 1, none⟩) (Or.inl (by simp)) v
                      have hP2 := hP.store 3 rfl (CH _ _) (K.set2 _ _)
                      simp only [List.set_cons_succ, List.set_cons_zero] at hP2
                      go_simp
                      exact ⟨v7, v8, v9, _, v42, v43, v44, v45, v46, v47, v48, v49, v50, v51, v52, v53, v54, _, rfl, by rw [e0]; exact i0, by rw [e1]; exact i1, by rw [e2]; exact i2, by rw [e3]; exact i3, by rw [e4]; exact i4, by rw [e5]; exact i5, by rw [e6]; exact i6, by rw [e7]; exact i7, by rw [e8]; exact i8, by rw [e9]; exact i9, by rw [e10]; exact i10, by rw [e11]; exact i11, by rw [e12]; exact i12, fun _ => rfl, by rw [e14, e15, e16, e17, e18, e19, e20, e21, l17]; exact hP2, hX.set2 (Nat.le_trans hWz hy1) _ _⟩
                    · exact absurd ho (by simp)
                  intro LL ac wx hall hI
                  clear hXd hz0 hX0
                  obtain ⟨v7, v8, v9, v10, v42, v43, v44, v45, v46, v47, v48, v49, v50, v51, v52, v53, v54, v55, hac, i0, i1, i2, i3, i4, i5, i6, i7, i8, i9, i10, i11, i12, i13, hP, hX⟩ := hI
                  obtain rfl := i0 (hall 0 (by decide))
                  obtain rfl := i1 (hall 1 (by decide))
                  obtain rfl := i2 (hall 2 (by decide))
                  obtain rfl := i3 (hall 3 (by decide))
                  obtain rfl := i4 (hall 4 (by decide))
                  obtain rfl := i5 (hall 5 (by decide))
                  obtain rfl := i6 (hall 6 (by decide))
                  obtain rfl := i7 (hall 7 (by decide))
                  obtain rfl := i8 (hall 8 (by decide))
                  obtain rfl := i9 (hall 9 (by decide))
                  obtain rfl := i10 (hall 10 (by decide))
                  obtain rfl := i11 (hall 11 (by decide))
                  obtain rfl := i12 (hall 12 (by decide))
                  obtain rfl := i13 (hall 13 (by decide))
                  dsimp only at hac
                  subst hac
                  clear i0 i1 i2 i3 i4 i5 i6 i7 i8 i9 i10 i11 i12 i13
                  rw [hall 14 (by decide), hall 15 (by decide), hall 16 (by decide), hall 17 (by decide), hall 18 (by decide), hall 19 (by decide), hall 20 (by decide), hall 21 (by decide)] at hP
                  obtain ⟨y0, rfl, hb0, hs0, Aa⟩ := (hP.each 0 _ _ _ _ rfl).blk rfl
                  rw [if_pos rfl] at Aa
                  obtain ⟨y1, rfl, hb1, hs1, Ab⟩ := (hP.each 1 _ _ _ _ rfl).blk rfl
                  rw [if_pos rfl] at Ab
                  obtain ⟨y2, rfl, hb2, hs2, Ac⟩ := (hP.each 2 _ _ _ _ rfl).blk rfl
                  rw [if_pos rfl] at Ac
                  obtain ⟨y3, rfl, hb3, hs3, Ad⟩ := (hP.each 3 _ _ _ _ rfl).blk rfl
                  rw [if_pos rfl] at Ad
                  clear hP hall
                  cases hE : eqB a c with
                  | true =>
                    have hx : a.x = c.x ∧ a.y = c.y := by unfold eqB at hE; simpa using hE
                    have HF : Hid (R = false) := Lib.hid (HN.out i k hlt hlt2 hik (by rw [Hb.out, hE]; rfl))
                    clear hE
                    obtain ⟨hx, hy⟩ := hx
                    have c0 := Aa.cell 0; have c1 := Aa.cell 1
                    have c2 := Ab.cell 0; have c3 := Ab.cell 1
                    have c4 := Ac.cell 0; have c5 := Ac.cell 1
                    have c6 := Ad.cell 0; have c7 := Ad.cell 1
                    go_wp2
                    all_goals go_returns
                    all_goals exact ⟨ret_bool (by rw [HF.out]), hX⟩
                  | false =>
                    have HE := Lib.hid hE
                    have HI2 := fun (α : Sort 1) (u v : α) => ite_ne hE u v
                    clear hE
                    have hEx : a.x = c.x → a.y = c.y → False := by intro h1 h2; have := HE.out; unfold eqB at this; simp [h1, h2] at this
                    by_cases hk1 : k = i + 1
                    · have HA : Hid (apartV n i k a b c d = (!onB d a b && !onB a c d)) := Lib.hid (by unfold apartV; rw [if_pos (by rw [Nat.mod_eq_of_lt (by omega)]; omega)])
                      rw [HA.out] at Hb
                      have hk1i : (k : Int) = (i : Int) + 1 := by omega
                      have c0 := Aa.cell 0; have c1 := Aa.cell 1
                      have c2 := Ab.cell 0; have c3 := Ab.cell 1
                      have c4 := Ac.cell 0; have c5 := Ac.cell 1
                      have c6 := Ad.cell 0; have c7 := Ad.cell 1
                      go_wp2_with fail
                      refine (RO _ d a b).mono ?_; rintro e w4 ⟨rfl, hX4⟩
                      clear c0 c1 c2 c3 c4 c5 c6 c7
                      replace Aa := hX4.at Aa (by simp)
                      replace Ab := hX4.at Ab (by simp)
                      replace Ac := hX4.at Ac (by simp)
                      replace Ad := hX4.at Ad (by simp)
                      replace hX := hX.trans hX4
                      cases h1 : onB d a b with
                      | true =>
                        have HF : Hid (R = false) := Lib.hid (HN.out i k hlt hlt2 hik (by rw [Hb.out, HE.out]; simp [h1]))
                        clear h1
                        go_wp2
                        all_goals go_returns
                        all_goals exact ⟨ret_bool (by rw [HF.out]), hX⟩
                      | false =>
                        have c0 := Aa.cell 0; have c1 := Aa.cell 1
                        have c2 := Ab.cell 0; have c3 := Ab.cell 1
                        have c4 := Ac.cell 0; have c5 := Ac.cell 1
                        have c6 := Ad.cell 0; have c7 := Ad.cell 1
                        go_wp2_with fail
                        refine (RO _ a c d).mono ?_; rintro e w5 ⟨rfl, hX5⟩
                        clear c0 c1 c2 c3 c4 c5 c6 c7
                        replace Aa := hX5.at Aa (by simp)
                        replace Ab := hX5.at Ab (by simp)
                        replace Ac := hX5.at Ac (by simp)
                        replace Ad := hX5.at Ad (by simp)
                        replace hX := hX.trans hX5
                        cases h2 : onB a c d with
                        | true =>
                          have HF : Hid (R = false) := Lib.hid (HN.out i k hlt hlt2 hik (by rw [Hb.out, HE.out]; simp [h1, h2]))
                          clear h1 h2
                          go_wp2
                          all_goals go_returns
                          all_goals exact ⟨ret_bool (by rw [HF.out]), hX⟩
                        | false =>
                          have HY : Hid (∀ k', i < k' → k' < k + 1 → pairB L i k' = true) := Lib.hid (fun k' q1 q2 => by
                            by_cases e : k' = k
                            · subst e; rw [Hb.out, HE.out]; simp [h1, h2]
                            · exact HQ.out k' q1 (by omega))
                          go_wp2_with fail
                          go_roundg (gk - 1)
                          case measure => omega
                          case rel => exact ⟨k + 1, by omega, by omega, by go_num, hX, HY⟩
                    · by_cases hi0 : i = 0
                      · subst hi0
                        by_cases hk2 : k + 1 = n
                        · have HA : Hid (apartV n 0 k a b c d = (!onB c a b && !onB b c d)) := Lib.hid (by unfold apartV; rw [if_neg (by rw [Nat.mod_eq_of_lt (by omega)]; omega), if_pos (by rw [show k + 1 = n by omega, Nat.mod_self])])
                          rw [HA.out] at Hb
                          have hki : ¬((k : Int) = ((0 : Nat) : Int) + 1) := by omega
                          have hkj : ¬((k : Int) = 1) := by omega
                          have hkn : (k : Int) = (n : Int) - 1 := by omega
                          have c0 := Aa.cell 0; have c1 := Aa.cell 1
                          have c2 := Ab.cell 0; have c3 := Ab.cell 1
                          have c4 := Ac.cell 0; have c5 := Ac.cell 1
                          have c6 := Ad.cell 0; have c7 := Ad.cell 1
                          go_wp2_with fail
                          refine (RO _ c a b).mono ?_; rintro e w4 ⟨rfl, hX4⟩
                          clear c0 c1 c2 c3 c4 c5 c6 c7
                          replace Aa := hX4.at Aa (by simp)
                          replace Ab := hX4.at Ab (by simp)
                          replace Ac := hX4.at Ac (by simp)
                          replace Ad := hX4.at Ad (by simp)
                          replace hX := hX.trans hX4
                          cases h1 : onB c a b with
                          | true =>
                            have HF : Hid (R = false) := Lib.hid (HN.out 0 k hlt hlt2 hik (by rw [Hb.out, HE.out]; simp [h1]))
                            clear h1
                            go_wp2
                            all_goals go_returns
                            all_goals exact ⟨ret_bool (by rw [HF.out]), hX⟩
                          | false =>
                            have c0 := Aa.cell 0; have c1 := Aa.cell 1
                            have c2 := Ab.cell 0; have c3 := Ab.cell 1
                            have c4 := Ac.cell 0; have c5 := Ac.cell 1
                            have c6 := Ad.cell 0; have c7 := Ad.cell 1
                            go_wp2_with fail
                            refine (RO _ b c d).mono ?_; rintro e w5 ⟨rfl, hX5⟩
                            clear c0 c1 c2 c3 c4 c5 c6 c7
                            replace Aa := hX5.at Aa (by simp)
                            replace Ab := hX5.at Ab (by simp)
                            replace Ac := hX5.at Ac (by simp)
                            replace Ad := hX5.at Ad (by simp)
                            replace hX := hX.trans hX5
                            cases h2 : onB b c d with
                            | true =>
                              have HF : Hid (R = false) := Lib.hid (HN.out 0 k hlt hlt2 hik (by rw [Hb.out, HE.out]; simp [h1, h2]))
                              clear h1 h2
                              go_wp2
                              all_goals go_returns
                              all_goals exact ⟨ret_bool (by rw [HF.out]), hX⟩
                            | false =>
                              have HY : Hid (∀ k', 0 < k' → k' < k + 1 → pairB L 0 k' = true) := Lib.hid (fun k' q1 q2 => by
                                by_cases e : k' = k
                                · subst e; rw [Hb.out, HE.out]; simp [h1, h2]
                                · exact HQ.out k' q1 (by omega))
                              go_wp2_with fail
                              go_roundg (gk - 1)
                              case measure => omega
                              case rel => exact ⟨k + 1, by omega, by omega, by go_num, hX, HY⟩
                        · have HA : Hid (apartV n 0 k a b c d = !meetB a b c d) := Lib.hid (by unfold apartV; rw [if_neg (by rw [Nat.mod_eq_of_lt (by omega)]; omega), if_neg (not_back hik hlt2 (by omega))])
                          rw [HA.out] at Hb
                          have hki : ¬((k : Int) = ((0 : Nat) : Int) + 1) := by omega
                          have hkj : ¬((k : Int) = 1) := by omega
                          have hkn : ¬((k : Int) = (n : Int) - 1) := by omega
                          have c0 := Aa.cell 0; have c1 := Aa.cell 1
                          have c2 := Ab.cell 0; have c3 := Ab.cell 1
                          have c4 := Ac.cell 0; have c5 := Ac.cell 1
                          have c6 := Ad.cell 0; have c7 := Ad.cell 1
                          go_wp2_with fail
                          refine (RM _ a b c d).mono ?_; rintro e w4 ⟨rfl, hX4⟩
                          clear c0 c1 c2 c3 c4 c5 c6 c7
                          replace Aa := hX4.at Aa (by simp)
                          replace Ab := hX4.at Ab (by simp)
                          replace Ac := hX4.at Ac (by simp)
                          replace Ad := hX4.at Ad (by simp)
                          replace hX := hX.trans hX4
                          cases h1 : meetB a b c d with
                          | true =>
                            have HF : Hid (R = false) := Lib.hid (HN.out 0 k hlt hlt2 hik (by rw [Hb.out, HE.out]; simp [h1]))
                            clear h1
                            go_wp2
                            all_goals go_returns
                            all_goals exact ⟨ret_bool (by rw [HF.out]), hX⟩
                          | false =>
                            have HY : Hid (∀ k', 0 < k' → k' < k + 1 → pairB L 0 k' = true) := Lib.hid (fun k' q1 q2 => by
                              by_cases e : k' = k
                              · subst e; rw [Hb.out, HE.out]; simp [h1]
                              · exact HQ.out k' q1 (by omega))
                            go_wp2_with fail
                            go_roundg (gk - 1)
                            case measure => omega
                            case rel => exact ⟨k + 1, by omega, by omega, by go_num, hX, HY⟩
                      · have HA : Hid (apartV n i k a b c d = !meetB a b c d) := Lib.hid (by unfold apartV; rw [if_neg (by rw [Nat.mod_eq_of_lt (by omega)]; omega), if_neg (not_back hik hlt2 (by omega))])
                        rw [HA.out] at Hb
                        have hki : ¬((k : Int) = (i : Int) + 1) := by omega
                        have hi00 : ¬((i : Int) = 0) := by omega
                        have c0 := Aa.cell 0; have c1 := Aa.cell 1
                        have c2 := Ab.cell 0; have c3 := Ab.cell 1
                        have c4 := Ac.cell 0; have c5 := Ac.cell 1
                        have c6 := Ad.cell 0; have c7 := Ad.cell 1
                        go_wp2_with fail
                        refine (RM _ a b c d).mono ?_; rintro e w4 ⟨rfl, hX4⟩
                        clear c0 c1 c2 c3 c4 c5 c6 c7
                        replace Aa := hX4.at Aa (by simp)
                        replace Ab := hX4.at Ab (by simp)
                        replace Ac := hX4.at Ac (by simp)
                        replace Ad := hX4.at Ad (by simp)
                        replace hX := hX.trans hX4
                        cases h1 : meetB a b c d with
                        | true =>
                          have HF : Hid (R = false) := Lib.hid (HN.out i k hlt hlt2 hik (by rw [Hb.out, HE.out]; simp [h1]))
                          clear h1
                          go_wp2
                          all_goals go_returns
                          all_goals exact ⟨ret_bool (by rw [HF.out]), hX⟩
                        | false =>
                          have HY : Hid (∀ k', i < k' → k' < k + 1 → pairB L i k' = true) := Lib.hid (fun k' q1 q2 => by
                            by_cases e : k' = k
                            · subst e; rw [Hb.out, HE.out]; simp [h1]
                            · exact HQ.out k' q1 (by omega))
                          go_wp2_with fail
                          go_roundg (gk - 1)
                          case measure => omega
                          case rel => exact ⟨k + 1, by omega, by omega, by go_num, hX, HY⟩
                · obtain rfl : gk = 0 := by omega
                  have HY : Hid (∀ i', i' < i + 1 → ∀ k, i' < k → k < n → pairB L i' k = true) := Lib.hid (fun i' h1 k' h2 h3 => by
                    by_cases e : i' = i
                    · subst e; exact HQ.out k' h2 (by omega)
                    · exact HP.out i' (by omega) k' h2 h3)
                  go_wp2_with fail
                  go_roundg (n - i - 1)
                  case measure => omega
                  case rel => exact ⟨i + 1, by omega, by simp, hX, HY⟩
            · obtain rfl : gk = 0 := by omega
              have HF : Hid (R = true) := Lib.hid (by
                rw [HI.out]
                exact ⟨by have := Hn.out; omega, by have := Hn.out; omega, Hok.out, fun a ha b hb => HP.out b (by have := Hn.out; omega) a hb (by have := Hn.out; omega)⟩)
              go_wp2
              all_goals go_returns
              all_goals exact ⟨ret_bool (by rw [HF.out]), hX⟩
  · have HF : Hid (simpleB L = false) := Lib.hid (by
      cases hs : simpleB L
      · rfl
      · rw [HI.out] at hs; exact absurd ⟨hs.1, hs.2.1⟩ h3)
    obtain ⟨_, ad, cap, rfl⟩ := h.len
    have hm := h.1
    clear h HNX HI HN HO
    generalize simpleB L = R at *
    generalize L.length = n at *
    by_cases h30 : (n : Int) < 3
    · go_enter Tryz.func59, Tryz.ntmps59
      go_wp2
      all_goals go_returns
      all_goals exact ⟨ret_bool (by rw [HF.out]), hX⟩
    · have h80 : (8 : Int) < (n : Int) := by omega
      go_enter Tryz.func59, Tryz.ntmps59
      go_wp2
      all_goals go_returns
      all_goals exact ⟨ret_bool (by rw [HF.out]), hX⟩
end Go.Proofs.YtpfglmlpodjneaaGreat
