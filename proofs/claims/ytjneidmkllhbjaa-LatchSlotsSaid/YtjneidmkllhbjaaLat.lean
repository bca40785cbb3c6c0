/- Package latch and its reference: the small functions. -/
import Derived.Test.YtjneidmkllhbjaaLtb
import Derived.LoopTactic
import Derived.Handy
import Derived.Deep.LoopGhost
import Derived.Deep.DeepCutAuto
namespace Go.Proofs.Ytjneidmkllhbjaa
open Go.RowKit

def wi (n lo hi : Int) : Bool := decide (lo ≤ n) && decide (n ≤ hi)
theorem lwithin_any (w : World) (n lo hi : Int) : Calls Try.prog 30 #[.int .i64 n, .int .i64 lo, .int .i64 hi] w fun e w' => e = .returned (.bool (wi n lo hi)) ∧ w = w' := by
  by_cases h : lo ≤ n
  · go_enter Try.func30, Try.ntmps30
    go_wp2
    go_returns
    exact ⟨ret_bool (by simp [wi, h]), rfl⟩
  · have h' := Lib.hid h
    go_enter Try.func30, Try.ntmps30
    go_wp2
    go_returns
    exact ⟨ret_bool (by rw [wi, decide_eq_false (by have := h'.out; omega)]; rfl), rfl⟩
theorem rwithin_any (w : World) (n lo hi : Int) : Calls Try.prog 31 #[.int .i64 n, .int .i64 lo, .int .i64 hi] w fun e w' => e = .returned (.bool (wi n lo hi)) ∧ w = w' := by
  by_cases h : lo ≤ n
  · go_enter Try.func31, Try.ntmps31
    go_wp2
    go_returns
    exact ⟨ret_bool (by simp [wi, h]), rfl⟩
  · have h' := Lib.hid h
    go_enter Try.func31, Try.ntmps31
    go_wp2
    go_returns
    exact ⟨ret_bool (by rw [wi, decide_eq_false (by have := h'.out; omega)]; rfl), rfl⟩
theorem right_wi (r : RcV) : r.right = (wi r.vi 0 255 && (wi r.di 0 255 && (wi r.inv 0 255 && (wi r.seq 1 2147483648 && (wi r.cyc 0 1000000 && (wi r.inph 0 1000000 && (wi r.ph 0 3 && (wi r.st 0 2 && wi r.fl 0 1)))))))) := by
  unfold RcV.right wi
  rw [Bool.eq_iff_iff]
  simp only [decide_eq_true_eq, Bool.and_eq_true]
theorem or_byte (x b : Int) (h0 : 0 ≤ x) (h1 : x ≤ 16777215) (hb0 : 0 ≤ b) (hb1 : b ≤ 255) : bits .or .u32 (x * 256) b = x * 256 + b :=
  bits_join .u32 32 (by decide) wraps_u32 8 (x * 256) b (by omega) (by omega) (by omega) hb0 (by omega) (by omega)
theorem conv8 (n : Int) : IntKind.u8.wrap n = n % 256 := by simp [IntKind.wrap, IntKind.bits, IntKind.signed]

theorem lright_any (w : World) (r : RcV) : Calls Try.prog 13 #[.agg r.cells] w fun e w' => e = .returned (.bool r.right) ∧ Chg [] w w' := by
  have Hr := Lib.hid (right_wi r)
  have hA := At.new w r.cells 23
  have hX : Chg [] w (w.alloc (.cells r.cells 23)) := (Chg.refl _ _).alloc _
  have W0 := fun w => lwithin_any w r.vi 0 255
  have W1 := fun w => lwithin_any w r.di 0 255
  have W2 := fun w => lwithin_any w r.inv 0 255
  have W3 := fun w => lwithin_any w r.seq 1 2147483648
  have W4 := fun w => lwithin_any w r.cyc 0 1000000
  have W5 := fun w => lwithin_any w r.inph 0 1000000
  have W6 := fun w => lwithin_any w r.ph 0 3
  have W7 := fun w => lwithin_any w r.st 0 2
  have W8 := fun w => lwithin_any w r.fl 0 1
  generalize r.right = res at *
  generalize wi r.vi 0 255 = b0 at *
  generalize wi r.di 0 255 = b1 at *
  generalize wi r.inv 0 255 = b2 at *
  generalize wi r.seq 1 2147483648 = b3 at *
  generalize wi r.cyc 0 1000000 = b4 at *
  generalize wi r.inph 0 1000000 = b5 at *
  generalize wi r.ph 0 3 = b6 at *
  generalize wi r.st 0 2 = b7 at *
  generalize wi r.fl 0 1 = b8 at *
  replace W0 := Lib.hid W0
  replace W1 := Lib.hid W1
  replace W2 := Lib.hid W2
  replace W3 := Lib.hid W3
  replace W4 := Lib.hid W4
  replace W5 := Lib.hid W5
  replace W6 := Lib.hid W6
  replace W7 := Lib.hid W7
  replace W8 := Lib.hid W8
  unfold RcV.cells at *
  go_enter Try.func13, Try.ntmps13
  go_upto_region 1 with fail
  generalize hz : w.heap.size = z at *
  generalize w.alloc (.cells #[.int .i64 r.seq, .int .i64 r.cyc, .int .i64 r.ph, .int .i64 r.st, .int .i64 r.fl, .int .i64 r.vi, .int .i64 r.di, .int .i64 r.inv, .int .i64 r.inph] 23) = w0 at *
  have c0 : w0.cell? ⟨z, 0, none⟩ = some (.int .i64 r.seq) := hA.cell 0
  have c1 : w0.cell? ⟨z, 1, none⟩ = some (.int .i64 r.cyc) := hA.cell 1
  have c2 : w0.cell? ⟨z, 2, none⟩ = some (.int .i64 r.ph) := hA.cell 2
  have c3 : w0.cell? ⟨z, 3, none⟩ = some (.int .i64 r.st) := hA.cell 3
  have c4 : w0.cell? ⟨z, 4, none⟩ = some (.int .i64 r.fl) := hA.cell 4
  have c5 : w0.cell? ⟨z, 5, none⟩ = some (.int .i64 r.vi) := hA.cell 5
  have c6 : w0.cell? ⟨z, 6, none⟩ = some (.int .i64 r.di) := hA.cell 6
  have c7 : w0.cell? ⟨z, 7, none⟩ = some (.int .i64 r.inv) := hA.cell 7
  have c8 : w0.cell? ⟨z, 8, none⟩ = some (.int .i64 r.inph) := hA.cell 8
  go_wp2_with fail
  clear c0 c1 c2 c3 c4 c5 c6 c7 c8
  have hS := At.new w0 #[.int .i64 r.vi, .int .i64 r.di, .int .i64 r.inv] 3
  replace hA := hA.alloc (.cells #[.int .i64 r.vi, .int .i64 r.di, .int .i64 r.inv] 3)
  replace hX := hX.alloc (.cells #[.int .i64 r.vi, .int .i64 r.di, .int .i64 r.inv] 3)
  generalize w0.alloc (.cells #[.int .i64 r.vi, .int .i64 r.di, .int .i64 r.inv] 3) = w1 at *
  generalize w0.heap.size = y at *
  have c0 : w1.cell? ⟨z, 0, none⟩ = some (.int .i64 r.seq) := hA.cell 0
  have c1 : w1.cell? ⟨z, 1, none⟩ = some (.int .i64 r.cyc) := hA.cell 1
  have c2 : w1.cell? ⟨z, 2, none⟩ = some (.int .i64 r.ph) := hA.cell 2
  have c3 : w1.cell? ⟨z, 3, none⟩ = some (.int .i64 r.st) := hA.cell 3
  have c4 : w1.cell? ⟨z, 4, none⟩ = some (.int .i64 r.fl) := hA.cell 4
  have c5 : w1.cell? ⟨z, 5, none⟩ = some (.int .i64 r.vi) := hA.cell 5
  have c6 : w1.cell? ⟨z, 6, none⟩ = some (.int .i64 r.di) := hA.cell 6
  have c7 : w1.cell? ⟨z, 7, none⟩ = some (.int .i64 r.inv) := hA.cell 7
  have c8 : w1.cell? ⟨z, 8, none⟩ = some (.int .i64 r.inph) := hA.cell 8
  have s0 : w1.cell? ⟨y, 0, none⟩ = some (.int .i64 r.vi) := hS.cell 0
  have s1 : w1.cell? ⟨y, 1, none⟩ = some (.int .i64 r.di) := hS.cell 1
  have s2 : w1.cell? ⟨y, 2, none⟩ = some (.int .i64 r.inv) := hS.cell 2
  refine wp_loop_rounds 4 ?_
  rw [rounds_succ]
  go_wp2_with fail
  refine (W0.out _).mono ?_; rintro e w' ⟨rfl, rfl⟩
  cases b0
  · go_wp2
    go_returns
    exact ⟨by rw [Hr.out]; rfl, hX⟩
  · go_wp2_with fail
    rw [rounds_succ]
    go_wp2_with fail
    refine (W1.out _).mono ?_; rintro e w' ⟨rfl, rfl⟩
    cases b1
    · go_wp2
      go_returns
      exact ⟨by rw [Hr.out]; rfl, hX⟩
    · go_wp2_with fail
      rw [rounds_succ]
      go_wp2_with fail
      refine (W2.out _).mono ?_; rintro e w' ⟨rfl, rfl⟩
      cases b2
      · go_wp2
        go_returns
        exact ⟨by rw [Hr.out]; rfl, hX⟩
      · go_wp2_with fail
        rw [rounds_succ]
        go_wp2_with fail
        refine (W3.out _).mono ?_; rintro e w' ⟨rfl, rfl⟩
        cases b3
        · go_wp2
          go_returns
          exact ⟨by rw [Hr.out]; rfl, hX⟩
        · go_wp2_with fail
          refine (W4.out _).mono ?_; rintro e w' ⟨rfl, rfl⟩
          cases b4
          · go_wp2
            go_returns
            exact ⟨by rw [Hr.out]; rfl, hX⟩
          · go_wp2_with fail
            refine (W5.out _).mono ?_; rintro e w' ⟨rfl, rfl⟩
            cases b5
            · go_wp2
              go_returns
              exact ⟨by rw [Hr.out]; rfl, hX⟩
            · go_wp2_with fail
              refine (W6.out _).mono ?_; rintro e w' ⟨rfl, rfl⟩
              cases b6
              · go_wp2
                go_returns
                exact ⟨by rw [Hr.out]; rfl, hX⟩
              · go_wp2_with fail
                refine (W7.out _).mono ?_; rintro e w' ⟨rfl, rfl⟩
                cases b7
                · go_wp2
                  go_returns
                  exact ⟨by rw [Hr.out]; rfl, hX⟩
                · go_wp2_with fail
                  refine (W8.out _).mono ?_; rintro e w' ⟨rfl, rfl⟩
                  cases b8
                  · go_wp2
                    go_returns
                    exact ⟨by rw [Hr.out]; rfl, hX⟩
                  · go_wp2
                    go_returns
                    exact ⟨by rw [Hr.out]; rfl, hX⟩

/-- Four bytes behind a row of the call's own; a: the world before all that. -/
theorem lput_any (a w : World) (base : Nat) (v : Value) (L : List Int) (hB : BRow w base v L) (hX : Chg [] a w) (hab : a.heap.size ≤ base) (hbw : base ≤ w.heap.size) (hL : L.length ≤ 900000) (n : Int) (h0 : 0 ≤ n) (h1 : n ≤ 4294967295) :
    Calls Try.prog 24 #[v, .int .u32 n] w fun e w' => ∃ v', e = .returned v' ∧ BRow w' base v' (L ++ be4 n) ∧ Chg [] a w' ∧ base ≤ w'.heap.size := by
  have e1 : IntKind.u8.wrap (n / 16777216) = n / 16777216 := by rw [conv8]; omega
  have e2 : IntKind.u8.wrap (n / 65536) = n / 65536 % 256 := conv8 _
  have e3 : IntKind.u8.wrap (n / 256) = n / 256 % 256 := conv8 _
  have e4 : IntKind.u8.wrap n = n % 256 := conv8 _
  have hN := At.new w #[.int .u8 (n / 16777216), .int .u8 (n / 65536 % 256), .int .u8 (n / 256 % 256), .int .u8 (n % 256)] 5
  have hB2 := hB.alloc (.cells #[.int .u8 (n / 16777216), .int .u8 (n / 65536 % 256), .int .u8 (n / 256 % 256), .int .u8 (n % 256)] 5)
  have hX2 : Chg [] a (w.alloc (.cells #[.int .u8 (n / 16777216), .int .u8 (n / 65536 % 256), .int .u8 (n / 256 % 256), .int .u8 (n % 256)] 5)) := hX.alloc _
  have hsz : base ≤ (w.alloc (.cells #[.int .u8 (n / 16777216), .int .u8 (n / 65536 % 256), .int .u8 (n / 256 % 256), .int .u8 (n % 256)] 5)).heap.size := by simp; omega
  clear hB hX
  go_enter Try.func24, Try.ntmps24
  go_wp2_with (at_builtin; refine wpList_app rfl (.tmp 5) (.tmp 17) rfl rfl hB2 (M := be4 n) rfl hN rfl rfl (by simp [be4]; omega) hsz ?_; intro v1 w1 hQ g; refine Hid.out ?_)
  refine Lib.hid ?_
  have hX3 := BRow.grown hB2 hX2 g hab
  have hs3 : base ≤ w1.heap.size := Nat.le_trans hsz g.size
  clear g hX2 hB2 hN e1 e2 e3 e4
  go_wp2
  go_returns
  exact ⟨v1, rfl, hQ, hX3, hs3⟩

theorem lget_any (w : World) (s : ByteArray) (h4 : 4 ≤ s.size) (hs : s.size ≤ maxLen) : Calls Try.prog 26 #[.string s] w fun e w' => e = .returned (.int .i64 (num4 s 0)) ∧ Chg [] w w' := by
  unfold maxLen at hs
  have hsl := slice_to w s (j := 4) (b := 4) rfl h4
  have hz : (s.extract 0 4).size = 4 := by simp; omega
  obtain ⟨w1, cap, hcv, hcell, hX⟩ := bytes_conv w (s.extract 0 4)
  rw [hz] at hcv
  have c0 := hcell 0 (by omega); have c1 := hcell 1 (by omega); have c2 := hcell 2 (by omega); have c3 := hcell 3 (by omega)
  rw [by_get _ _ (by omega), by_extract _ _ _ _ (by omega) h4] at c0 c1 c2 c3
  simp only [Nat.zero_add] at c0 c1 c2 c3
  clear hcell
  have b0 := by_bd s 0; have b1 := by_bd s 1; have b2 := by_bd s 2; have b3 := by_bd s 3
  have Hn := Lib.hid (show num4 s 0 = by_ s 0 * 16777216 + by_ s 1 * 65536 + by_ s 2 * 256 + by_ s 3 from rfl)
  generalize num4 s 0 = res at *
  generalize by_ s 0 = x0 at *
  generalize by_ s 1 = x1 at *
  generalize by_ s 2 = x2 at *
  generalize by_ s 3 = x3 at *
  have o0 : bits .or .u32 0 x0 = x0 := by have := or_byte 0 x0 (by omega) (by omega) b0.1 b0.2; simpa using this
  have o1 := or_byte x0 x1 (by omega) (by omega) b1.1 b1.2
  have o2 := or_byte (x0 * 256 + x1) x2 (by omega) (by omega) b2.1 b2.2
  have o3 := or_byte ((x0 * 256 + x1) * 256 + x2) x3 (by omega) (by omega) b3.1 b3.2
  generalize hzz : w.heap.size = z at *
  generalize s.extract 0 4 = t at *
  go_enter Try.func26, Try.ntmps26
  go_wp2_with fail
  refine wp_loop_rounds 5 ?_
  rw [rounds_succ]; go_wp2_with fail
  rw [rounds_succ]; go_wp2_with fail
  rw [rounds_succ]; go_wp2_with fail
  rw [rounds_succ]; go_wp2_with fail
  rw [rounds_succ]; go_wp2
  go_returns
  exact ⟨ret_int (by rw [Hn.out]; omega), hX⟩

end Go.Proofs.Ytjneidmkllhbjaa
