/- Walk of the law FlashKeeps: what is written whole is read as it was, wherever else is written behind it. -/
import Derived.Test.YtfabbafmbifkiaaL08
namespace Go.Proofs.Ytfabbafmbifkiaa
open Go.RowKit

theorem u64_bd (a : Int) : 0 ≤ IntKind.u64.wrap a ∧ IntKind.u64.wrap a ≤ 18446744073709551615 := Go.bounds_u64 (wf_wrap .u64 a)
theorem umod_bd (a d : Int) (h0 : 0 < d) (h1 : d ≤ 1000000) : 0 ≤ wrap64 ((IntKind.u64.wrap a).tmod d) ∧ wrap64 ((IntKind.u64.wrap a).tmod d) < d := by
  obtain ⟨h2, h3⟩ := u64_bd a
  have e : (IntKind.u64.wrap a).tmod d = IntKind.u64.wrap a % d := Int.tmod_eq_emod_of_nonneg h2
  have h4 := Int.emod_nonneg (IntKind.u64.wrap a) (show d ≠ 0 by omega)
  have h5 := Int.emod_lt_of_pos (IntKind.u64.wrap a) h0
  rw [e, IntWalk.wrap64_in _ ⟨by omega, by omega⟩]
  exact ⟨h4, h5⟩

set_option maxRecDepth 100000 in
set_option maxHeartbeats 400000 in
theorem kp_core (W : World) (a b : ByteArray) (n : Int) (N : Nat) (B0 B1 B2 : ByteArray) (h1 : a.size + b.size ≤ 200) (h2 : 1 ≤ a.size + b.size)
    (_hm : 0 ≤ wrap64 ((IntKind.u64.wrap n).tmod 50) ∧ wrap64 ((IntKind.u64.wrap n).tmod 50) < 50)
    (hN : ↑a.size + ↑b.size + wrap64 ((IntKind.u64.wrap n).tmod 50) = (N : Int)) (hN1 : a.size + b.size ≤ N) (hN2 : N ≤ 250)
    (HN : ∀ w, Calls Try.prog 8 #[.int .i64 N] w fun e w' => ∃ f r c, e = .returned (.tuple #[.pointer (some ⟨f, 0, none⟩), .int .i64 0]) ∧ w.heap.size ≤ f ∧ w.heap.size ≤ r ∧ w.heap.size ≤ c ∧ FlA w' f r c ⟨B0, false, 0, false, 0⟩ ∧ Chg [] w w')
    (hz0 : B0.size = N) (hz1 : B1.size = N) (hz2 : B2.size = N) (hB1 : over B0 0 a = B1) (hB2 : over B1 (N - b.size) b = B2)
    (hR1 : B2.extract 0 (0 + a.size) = a) (hR2 : B2.extract (N - b.size) (N - b.size + b.size) = b) :
    Calls Try.prog 4 #[.string a, .string b, .int .i64 n] W fun e w' => e = .returned (.bool true) ∧ Below W.heap.size W w' := by
  go_enter Try.func4, Try.ntmps4
  go_wp2_with fail
  refine (awake08 _).mono ?_; rintro e w1 ⟨rfl, hX⟩
  go_wp2_with fail
  clear hN
  refine (HN _).mono ?_; clear HN; rintro e w2 ⟨f, r, c, rfl, hf, hr, hc, hF, hX2⟩
  have hfW : W.heap.size ≤ f := by have := hX.size; omega
  have hrW : W.heap.size ≤ r := by have := hX.size; omega
  have hcW : W.heap.size ≤ c := by have := hX.size; omega
  have hXa := hX.trans hX2
  clear hX hX2 hf hr hc
  have HS := fl_size w2 f r c ⟨B0, false, 0, false, 0⟩ hF
  have HW := fl_write w2 f r c ⟨B0, false, 0, false, 0⟩ hF rfl rfl 0 a (by show B0.size ≤ 4096; omega) (by show 0 + a.size ≤ B0.size; omega) (by show (0 : Int) ≤ 0; decide) (by show (0 : Int) ≤ 1000; decide)
  simp only [hz0, hB1] at HS HW
  rw [show ((0 : Nat) : Int) = 0 from rfl, show (0 : Int) + 1 = 1 from rfl] at HW
  clear hF
  have hfar : (N : Int) - b.size = ((N - b.size : Nat) : Int) := by omega
  go_wp2_with (go_at_call 14; (with_reducible refine HS.mono ?_); rintro e w' ⟨rfl, rfl⟩)
  refine HW.mono ?_; clear HW HS; rintro e w3 ⟨rfl, hF3, hX3⟩
  have hXb : Chg [] W w3 := hXa.then hX3 (by simp; omega)
  clear hX3 hXa
  have HW := fl_write w3 f r c ⟨B1, false, 0, false, 1⟩ hF3 rfl rfl (N - b.size) b (by show B1.size ≤ 4096; omega) (by show N - b.size + b.size ≤ B1.size; omega) (by show (0 : Int) ≤ 1; decide) (by show (1 : Int) ≤ 1000; decide)
  simp only [hB2] at HW
  rw [show (1 : Int) + 1 = 2 from rfl] at HW
  clear hF3
  go_wp2_with fail
  refine HW.mono ?_; clear HW; rintro e w4 ⟨rfl, hF4, hX4⟩
  have hXc : Chg [] W w4 := hXb.then hX4 (by simp; omega)
  clear hX4 hXb
  have HR1 := fl_read w4 f r c ⟨B2, false, 0, false, 2⟩ hF4 rfl 0 a.size (by show B2.size ≤ 4096; omega) (by show 0 + a.size ≤ B2.size; omega)
  have HR2 := fl_read w4 f r c ⟨B2, false, 0, false, 2⟩ hF4 rfl (N - b.size) b.size (by show B2.size ≤ 4096; omega) (by show N - b.size + b.size ≤ B2.size; omega)
  have HV := fl_writes w4 f r c ⟨B2, false, 0, false, 2⟩ hF4
  simp only [hR1, hR2] at HR1 HR2 HV
  rw [show ((0 : Nat) : Int) = 0 from rfl] at HR1
  clear hF4 hR1 hR2 hB1 hB2
  go_wp2_with fail
  refine HR1.mono ?_; rintro e w' ⟨rfl, rfl⟩
  go_wp2_with fail
  refine HR2.mono ?_; rintro e w' ⟨rfl, rfl⟩
  go_wp2_with (go_at_call 15; (with_reducible refine HV.mono ?_); rintro e w' ⟨rfl, rfl⟩)
  go_returns
  exact ⟨rfl, Chg.to_below hXc⟩

set_option maxRecDepth 100000 in
theorem kp_small (W : World) (a b : ByteArray) (n : Int) (ha : a.size ≤ 9223372036854775807) (hb : b.size ≤ 9223372036854775807) (h0 : a.size + b.size = 0) :
    Calls Try.prog 4 #[.string a, .string b, .int .i64 n] W fun e w' => e = .returned (.bool true) ∧ Below W.heap.size W w' := by
  have e1 : a.size = 0 := by omega
  have e2 : b.size = 0 := by omega
  clear ha hb h0
  go_enter Try.func4, Try.ntmps4
  go_wp2_with fail
  refine (awake08 _).mono ?_; rintro e w1 ⟨rfl, hX⟩
  go_wp2_with fail
  refine (awake08 _).mono ?_; rintro e w2 ⟨rfl, hX2⟩
  go_wp2
  go_returns
  exact ⟨rfl, Chg.to_below (hX.trans hX2)⟩
set_option maxRecDepth 100000 in
theorem kp_mid (W : World) (a b : ByteArray) (n : Int) (_ha : a.size ≤ 9223372036854775807) (_hb : b.size ≤ 9223372036854775807) (h0 : 200 < a.size + b.size) (h1 : a.size + b.size ≤ 9223372036854775807) :
    Calls Try.prog 4 #[.string a, .string b, .int .i64 n] W fun e w' => e = .returned (.bool true) ∧ Below W.heap.size W w' := by
  go_enter Try.func4, Try.ntmps4
  go_wp2_with fail
  refine (awake08 _).mono ?_; rintro e w1 ⟨rfl, hX⟩
  go_wp2_with fail
  refine (awake08 _).mono ?_; rintro e w2 ⟨rfl, hX2⟩
  go_wp2
  go_returns
  exact ⟨rfl, Chg.to_below (hX.trans hX2)⟩
theorem wrap_over (x y : Int) (hx : 0 ≤ x) (hy : 0 ≤ y) (ha : x ≤ 9223372036854775807) (hb : y ≤ 9223372036854775807) (h1 : 9223372036854775807 < x + y) : wrap64 (x + y) < 1 := by unfold wrap64; omega
set_option maxRecDepth 100000 in
theorem kp_over (W : World) (a b : ByteArray) (n : Int) (z : Int) (hz : wrap64 ((a.size : Int) + (b.size : Int)) = z) (hz1 : z < 1) (hz2 : z ≤ 200) :
    Calls Try.prog 4 #[.string a, .string b, .int .i64 n] W fun e w' => e = .returned (.bool true) ∧ Below W.heap.size W w' := by
  go_enter Try.func4, Try.ntmps4
  go_wp2_with fail
  refine (awake08 _).mono ?_; rintro e w1 ⟨rfl, hX⟩
  go_wp2_with fail
  refine (awake08 _).mono ?_; rintro e w2 ⟨rfl, hX2⟩
  go_wp2
  go_returns
  exact ⟨rfl, Chg.to_below (hX.trans hX2)⟩
theorem FlashKeeps_walk (W : World) (a : ByteArray) (ha : a.size ≤ maxLen) (b : ByteArray) (hb : b.size ≤ maxLen) (n : Int) (_wn : (Lit.int .i64 n).wf = true) :
    Calls Try.prog 4 #[.string a, .string b, .int .i64 n] W fun e w' => e = .returned (.bool true) ∧ Below W.heap.size W w' := by
  unfold maxLen at ha hb
  by_cases hbig : a.size + b.size ≤ 200 ∧ 1 ≤ a.size + b.size
  · obtain ⟨h1, h2⟩ := hbig
    have hm := umod_bd n 50 (by omega) (by omega)
    obtain ⟨N, hN, hN1, hN2⟩ : ∃ N : Nat, ↑a.size + ↑b.size + wrap64 ((IntKind.u64.wrap n).tmod 50) = (N : Int) ∧ a.size + b.size ≤ N ∧ N ≤ 250 :=
      ⟨(↑a.size + ↑b.size + wrap64 ((IntKind.u64.wrap n).tmod 50)).toNat, by omega, by omega, by omega⟩
    have hz0 := rep_size N
    have hz1 := over_size (rep N) 0 a (by omega)
    have hz2 := over_size (over (rep N) 0 a) (N - b.size) b (by omega)
    have hR1 := over_other (over (rep N) 0 a) (N - b.size) b (by omega) 0 a.size (by omega)
    rw [over_read (rep N) 0 a (by omega)] at hR1
    exact kp_core W a b n N (rep N) (over (rep N) 0 a) (over (over (rep N) 0 a) (N - b.size) b) h1 h2 hm hN hN1 hN2 (fun w => fl_new w N (by omega) (by omega)) hz0 (by omega) (by omega) rfl rfl hR1 (over_read (over (rep N) 0 a) (N - b.size) b (by omega))
  · by_cases h0 : a.size + b.size = 0
    · exact kp_small W a b n (by omega) (by omega) h0
    · by_cases h1 : a.size + b.size ≤ 9223372036854775807
      · exact kp_mid W a b n (by omega) (by omega) (by omega) h1
      · have hw := wrap_over (a.size : Int) (b.size : Int) (by omega) (by omega) (by omega) (by omega) (by omega)
        exact kp_over W a b n _ rfl hw (by omega)
end Go.Proofs.Ytfabbafmbifkiaa
