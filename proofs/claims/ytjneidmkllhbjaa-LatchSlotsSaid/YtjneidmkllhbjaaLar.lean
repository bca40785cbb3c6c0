/- The reference of package latch: the small functions. -/
import Derived.Test.YtjneidmkllhbjaaLat
import Derived.Deep.QuietTactic
import Derived.BigQuiet
namespace Go.Proofs.Ytjneidmkllhbjaa
open Go.RowKit

theorem right_wi2 (r : RcV) : r.right = (wi r.seq 1 2147483648 && (wi r.cyc 0 1000000 && (wi r.inph 0 1000000 && (wi r.ph 0 3 && (wi r.st 0 2 && (wi r.fl 0 1 && (wi r.vi 0 255 && (wi r.di 0 255 && (wi r.inv 0 255))))))))) := by
  unfold RcV.right wi
  rw [Bool.eq_iff_iff]
  simp only [decide_eq_true_eq, Bool.and_eq_true]
  omega
theorem lit4 (w : World) (a b c d : Int) : (convert 52 9 (.slice (some ⟨w.heap.size, 0, none⟩) 4 4)).run Try.prog (w.alloc (.cells #[.int .u8 a, .int .u8 b, .int .u8 c, .int .u8 d] 5)) =
    .ok (.string (strOfNums [a, b, c, d])) (w.alloc (.cells #[.int .u8 a, .int .u8 b, .int .u8 c, .int .u8 d] 5)) :=
  (BRow.lit w 0 [a, b, c, d] #[.int .u8 a, .int .u8 b, .int .u8 c, .int .u8 d] 4 rfl rfl (by omega) (by omega)).string
theorem rfour_any (w : World) (n : Int) (h0 : 0 ≤ n) (h1 : n ≤ 4294967295) : Calls Try.prog 28 #[.int .i64 n] w fun e w' => e = .returned (.string (strOfNums (be4 n))) ∧ Chg [] w w' := by
  have e1 : IntKind.u8.wrap (n / 16777216) = n / 16777216 := by rw [conv8]; omega
  have e2 : IntKind.u8.wrap (n / 65536) = n / 65536 % 256 := conv8 _
  have e3 : IntKind.u8.wrap (n / 256) = n / 256 % 256 := conv8 _
  have e4 : IntKind.u8.wrap n = n % 256 := conv8 _
  have L := lit4 w (n / 16777216) (n / 65536 % 256) (n / 256 % 256) (n % 256)
  go_enter Try.func28, Try.ntmps28
  go_wp2
  go_returns
  exact ⟨rfl, (Chg.refl _ _).alloc _⟩
theorem rnumber_any (w : World) (s : ByteArray) (h4 : 4 ≤ s.size) (hs : s.size ≤ 1000000) : Calls Try.prog 27 #[.string s] w fun e w' => e = .returned (.int .i64 (num4 s 0)) ∧ ∃ n, w' = w.drewN n := by
  have g0 := by_get s 0 (by omega); have g1 := by_get s 1 (by omega); have g2 := by_get s 2 (by omega); have g3 := by_get s 3 (by omega)
  have b0 := by_bd s 0; have b1 := by_bd s 1; have b2 := by_bd s 2; have b3 := by_bd s 3
  have w0 : IntKind.i64.wrap (by_ s 0) = by_ s 0 := by rw [IntKind.wrap_i64]; omega
  have w1 : IntKind.i64.wrap (by_ s 1) = by_ s 1 := by rw [IntKind.wrap_i64]; omega
  have w2 : IntKind.i64.wrap (by_ s 2) = by_ s 2 := by rw [IntKind.wrap_i64]; omega
  have w3 : IntKind.i64.wrap (by_ s 3) = by_ s 3 := by rw [IntKind.wrap_i64]; omega
  have Hn := Lib.hid (show num4 s 0 = by_ s 0 * 16777216 + by_ s 1 * 65536 + by_ s 2 * 256 + by_ s 3 from rfl)
  generalize num4 s 0 = res at *
  go_enter Try.func27, Try.ntmps27
  go_wp2_with fail
  go_quiet (fail)
  go_wp2
  go_returns
  exact ⟨ret_int (by rw [Hn.out]), _, rfl⟩

theorem rright_any (w : World) (r : RcV) : Calls Try.prog 14 #[.agg r.cells] w fun e w' => e = .returned (.bool r.right) ∧ Chg [] w w' := by
  have Hr := Lib.hid (right_wi2 r)
  have hA := At.new w r.cells 28
  have hX : Chg [] w (w.alloc (.cells r.cells 28)) := (Chg.refl _ _).alloc _
  have W0 := fun w => rwithin_any w r.seq 1 2147483648
  have W1 := fun w => rwithin_any w r.cyc 0 1000000
  have W2 := fun w => rwithin_any w r.inph 0 1000000
  have W3 := fun w => rwithin_any w r.ph 0 3
  have W4 := fun w => rwithin_any w r.st 0 2
  have W5 := fun w => rwithin_any w r.fl 0 1
  have W6 := fun w => rwithin_any w r.vi 0 255
  have W7 := fun w => rwithin_any w r.di 0 255
  have W8 := fun w => rwithin_any w r.inv 0 255
  generalize r.right = res at *
  generalize wi r.seq 1 2147483648 = b0 at *
  generalize wi r.cyc 0 1000000 = b1 at *
  generalize wi r.inph 0 1000000 = b2 at *
  generalize wi r.ph 0 3 = b3 at *
  generalize wi r.st 0 2 = b4 at *
  generalize wi r.fl 0 1 = b5 at *
  generalize wi r.vi 0 255 = b6 at *
  generalize wi r.di 0 255 = b7 at *
  generalize wi r.inv 0 255 = b8 at *
  replace W0 := Lib.hid W0
  replace W1 := Lib.hid W1
  replace W2 := Lib.hid W2
  replace W3 := Lib.hid W3
  replace W4 := Lib.hid W4
  replace W5 := Lib.hid W5
  replace W6 := Lib.hid W6
  replace W7 := Lib.hid W7
  replace W8 := Lib.hid W8
  unfold RcV.cells at *
  go_enter Try.func14, Try.ntmps14
  go_upto_region 1 with fail
  generalize hz : w.heap.size = z at *
  generalize w.alloc (.cells #[.int .i64 r.seq, .int .i64 r.cyc, .int .i64 r.ph, .int .i64 r.st, .int .i64 r.fl, .int .i64 r.vi, .int .i64 r.di, .int .i64 r.inv, .int .i64 r.inph] 28) = w0 at *
  have c0 : w0.cell? ⟨z, 0, none⟩ = some (.int .i64 r.seq) := hA.cell 0
  have c1 : w0.cell? ⟨z, 1, none⟩ = some (.int .i64 r.cyc) := hA.cell 1
  have c2 : w0.cell? ⟨z, 2, none⟩ = some (.int .i64 r.ph) := hA.cell 2
  have c3 : w0.cell? ⟨z, 3, none⟩ = some (.int .i64 r.st) := hA.cell 3
  have c4 : w0.cell? ⟨z, 4, none⟩ = some (.int .i64 r.fl) := hA.cell 4
  have c5 : w0.cell? ⟨z, 5, none⟩ = some (.int .i64 r.vi) := hA.cell 5
  have c6 : w0.cell? ⟨z, 6, none⟩ = some (.int .i64 r.di) := hA.cell 6
  have c7 : w0.cell? ⟨z, 7, none⟩ = some (.int .i64 r.inv) := hA.cell 7
  have c8 : w0.cell? ⟨z, 8, none⟩ = some (.int .i64 r.inph) := hA.cell 8
  go_wp2_with fail
  refine (W0.out _).mono ?_; rintro e w' ⟨rfl, rfl⟩
  cases b0
  · go_wp2
    go_returns
    exact ⟨by rw [Hr.out]; rfl, hX⟩
  · go_wp2_with fail
    refine (W1.out _).mono ?_; rintro e w' ⟨rfl, rfl⟩
    cases b1
    · go_wp2
      go_returns
      exact ⟨by rw [Hr.out]; rfl, hX⟩
    · go_wp2_with fail
      refine (W2.out _).mono ?_; rintro e w' ⟨rfl, rfl⟩
      cases b2
      · go_wp2
        go_returns
        exact ⟨by rw [Hr.out]; rfl, hX⟩
      · go_wp2_with fail
        refine (W3.out _).mono ?_; rintro e w' ⟨rfl, rfl⟩
        cases b3
        · go_wp2
          go_returns
          exact ⟨by rw [Hr.out]; rfl, hX⟩
        · go_wp2_with fail
          refine (W4.out _).mono ?_; rintro e w' ⟨rfl, rfl⟩
          cases b4
          · go_wp2
            go_returns
            exact ⟨by rw [Hr.out]; rfl, hX⟩
          · go_wp2_with fail
            refine (W5.out _).mono ?_; rintro e w' ⟨rfl, rfl⟩
            cases b5
            · go_wp2
              go_returns
              exact ⟨by rw [Hr.out]; rfl, hX⟩
            · go_wp2_with fail
              refine (W6.out _).mono ?_; rintro e w' ⟨rfl, rfl⟩
              cases b6
              · go_wp2
                go_returns
                exact ⟨by rw [Hr.out]; rfl, hX⟩
              · go_wp2_with fail
                refine (W7.out _).mono ?_; rintro e w' ⟨rfl, rfl⟩
                cases b7
                · go_wp2
                  go_returns
                  exact ⟨by rw [Hr.out]; rfl, hX⟩
                · go_wp2_with fail
                  refine (W8.out _).mono ?_; rintro e w' ⟨rfl, rfl⟩
                  cases b8
                  · go_wp2
                    go_returns
                    exact ⟨by rw [Hr.out]; rfl, hX⟩
                  · go_wp2
                    go_returns
                    exact ⟨by rw [Hr.out]; rfl, hX⟩
end Go.Proofs.Ytjneidmkllhbjaa
