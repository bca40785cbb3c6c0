/- Walk of the law FixSum. -/
import Derived.Test.YthdjanjlpgcmoaaFaw
import Derived.Test.YthdjanjlpgcmoaaIn6
import Derived.Laws.AppendOwnNone
namespace Go.Proofs.Ythdjanjlpgcmoaa
open Go.RowKit Go.Deep

/-- Numbers of somebody's slice behind a slice of the call's own. -/
theorem wpList_appJs {ops : Array Oper} {rest : List Oper} {o : Oper} {a : Act} {Q : Exit → Act → World → Prop} {w : World} (hgd : o.guard = none) (s x : Operand)
    (ho : o.op = .call { callee := .builtin .append, args := #[s, x], argTypes := #[35, 35] })
    {base : Nat} {v : Value} {L : List Int} (hs : a.eval s = v) (hr : JRow w base v L) {v1 : Value} {M : List Int} (hx : a.eval x = v1) (hm : ISl w v1 M) (hnil : ∀ ad n c, v1 = .slice ad n c → ad = none → c = 0)
    (h63 : L.length + M.length ≤ 1000000) (hb : base ≤ w.heap.size)
    (h : ∀ v' w', JRow w' base v' (L ++ M) → w.grownBy w' v.ownBlock → wpList Try.prog ops Q rest (a.put o.dst v') w') : wpList Try.prog ops Q (o :: rest) a w := by
  obtain ⟨i, hi, hz, hz1, hz2⟩ := info_parts info_i64
  rcases hm with ⟨rfl, ad, cap, rfl⟩ | ⟨b, off, cap, rfl, hc⟩
  · have hcap : (ad = none ∧ cap = 0) ∨ ∃ ad', ad = some ad' := by
      rcases ad with _ | ad
      · exact .inl ⟨rfl, hnil _ _ _ rfl rfl⟩
      · exact .inr ⟨ad, rfl⟩
    rcases hcap with ⟨rfl, rfl⟩ | ⟨ad, rfl⟩
    · refine wpList_append_own_none hgd s x 35 ho base 2 i 1 und_ints hi v L.length (L.map (Value.int .i64)) hs hr hx ?_
      refine h v w ?_ ⟨rfl, rfl, rfl, Nat.le_refl _, fun _ _ _ => rfl⟩
      rw [List.append_nil]
      exact hr
    · refine wpList_append_own w hgd s x 35 ho base 2 i (.int .i64 0) 1 8 und_ints hi hz hz1 hz2 rfl (by decide) v L.length (L.map (Value.int .i64)) hs hr ad 0 cap [] hx rfl (by simp) (by simp) (by unfold maxLen; omega) (by simp at h63; omega) hb ?_
      intro v' w' h1 h2 _
      refine h v' w' ?_ h2
      rw [List.append_nil]
      rw [List.append_nil] at h1
      exact h1
  · refine wpList_append_own w hgd s x 35 ho base 2 i (.int .i64 0) 1 8 und_ints hi hz hz1 hz2 rfl (by decide) v L.length (L.map (Value.int .i64)) hs hr ⟨b, off, none⟩ M.length cap (M.map (Value.int .i64)) hx (by simp) ?_ ?_ (by unfold maxLen; omega) (by omega) hb ?_
    · intro j u hu
      rw [List.getElem?_map] at hu
      cases hM : M[j]? with
      | none => rw [hM] at hu; cases hu
      | some n =>
        rw [hM] at hu
        cases hu
        have := hc j n hM
        unfold Addr.add
        split
        · simp_all
        · exact this
    · intro u hu
      simp only [List.mem_map] at hu
      obtain ⟨n, _, rfl⟩ := hu
      rfl
    · intro v' w' h1 h2 _
      refine h v' w' ?_ h2
      unfold JRow
      rw [List.length_append, List.map_append]
      exact h1
theorem sumL_bd (l : List Int) : ∀ s, -9223372036854775808 ≤ s → s ≤ 9223372036854775807 → -9223372036854775808 ≤ (sumL s l).1 ∧ (sumL s l).1 ≤ 9223372036854775807 := by
  induction l with
  | nil => intro s h0 h1; exact ⟨h0, h1⟩
  | cons n l ih =>
    intro s h0 h1
    unfold sumL
    split
    · rename_i h
      have := (fits64_iff _).1 h
      exact ih _ this.1 this.2
    · exact ⟨by decide, by decide⟩
theorem JRow.isl {w : World} {base : Nat} {v : Value} {L : List Int} (h : JRow w base v L) : ISl w v L := by
  by_cases h0 : 0 < L.length
  · obtain ⟨g, cap, rfl⟩ := h.form h0
    exact .inr ⟨g, 0, cap, rfl, fun i n hn => by rw [Nat.zero_add]; exact h.cell rfl i n hn⟩
  · have hL : L = [] := by cases L with
      | nil => rfl
      | cons f l => simp at h0
    subst hL
    rcases Joins.ownsRow_forms h with ⟨rfl, -⟩ | ⟨g, cap, rfl⟩
    · exact .inl ⟨rfl, _, _, rfl⟩
    · exact .inl ⟨rfl, _, _, rfl⟩
theorem isl_of {W : World} {v : Value} {l : List (Sh.int .i64).T} (h : (Sh.slice (.int .i64)).rep W l [v]) : ∃ M : List Int, ISl W v M ∧ ∀ n ∈ M, -9223372036854775808 ≤ n ∧ n ≤ 9223372036854775807 := by
  rcases h with ⟨rfl, a, cap, h⟩ | ⟨b, off, cap, h, h0, h1, h2, h3, h4⟩
  · exact ⟨[], .inl ⟨rfl, a, cap, (List.cons.inj h).1⟩, fun n hn => by simp at hn⟩
  · have key : ∀ k (s : Int), l[k]? = some s → W.cell? ⟨b, off + k, none⟩ = some (.int .i64 s) ∧ -9223372036854775808 ≤ s ∧ s ≤ 9223372036854775807 := by
      intro k s hs
      have hk : k < l.length := (List.getElem?_eq_some_iff.1 hs).1
      obtain ⟨cs, hl, hc, hr⟩ := h4 k hk
      have es : l.get ⟨k, hk⟩ = s := (List.getElem?_eq_some_iff.1 hs).2
      rw [es] at hr
      obtain ⟨rfl, hz⟩ := hr
      have g0 := hc 0 (by decide)
      rw [show (Sh.int .i64).sz = 1 from rfl, Nat.mul_one, Nat.add_zero] at g0
      exact ⟨g0, bounds_i64 hz⟩
    refine ⟨l, .inr ⟨b, off, cap, (List.cons.inj h).1, fun i n hn => (key i n hn).1⟩, fun n hn => ?_⟩
    obtain ⟨k, hk⟩ := List.getElem?_of_mem hn
    exact (key k n hk).2
set_option maxRecDepth 100000 in
set_option maxHeartbeats 2000000 in
theorem FixSum_walk (W : World) (v1 : Value) (l1 : List (Sh.int .i64).T) (h1 : (Sh.slice (.int .i64)).rep W l1 [v1]) (hs1 : ∀ b n c, v1 = .slice b n c → n ≤ 140737488351232 ∧ (b = none → c = 0)) (v2 : Value) (l2 : List (Sh.int .i64).T) (h2 : (Sh.slice (.int .i64)).rep W l2 [v2]) (hs2 : ∀ b n c, v2 = .slice b n c → n ≤ 140737488351232 ∧ (b = none → c = 0)) :
    Calls Try.prog 5 #[v1, v2] W fun e w' => e = .returned (.bool true) ∧ Below W.heap.size W w' := by
  obtain ⟨La, hIa, hBa⟩ := isl_of h1
  obtain ⟨Lb, hIb, hBb⟩ := isl_of h2
  obtain ⟨aa, ca, ea⟩ := hIa.form
  obtain ⟨ab, cb, eb⟩ := hIb.form
  subst ea eb
  obtain ⟨la, na⟩ := hs1 _ _ _ rfl
  obtain ⟨lb, nb⟩ := hs2 _ _ _ rfl
  have NA := Lib.hid na
  have NB := Lib.hid nb
  clear hs1 hs2 na nb
  clear h1 h2
  have Hab := Lib.hid (show ∀ n ∈ La ++ Lb, -9223372036854775808 ≤ n ∧ n ≤ 9223372036854775807 from fun n hn => by
    rcases List.mem_append.1 hn with h | h
    · exact hBa n h
    · exact hBb n h)
  obtain ⟨L, hL⟩ : ∃ L, La ++ Lb = L := ⟨_, rfl⟩
  rw [hL] at Hab
  have hLl : L.length = La.length + Lb.length := by rw [← hL, List.length_append]
  obtain ⟨⟨s, ok⟩, es⟩ : ∃ r, sumL 0 L = r := ⟨_, rfl⟩
  obtain ⟨⟨x, p⟩, ex⟩ : ∃ r, sumL 0 La = r := ⟨_, rfl⟩
  obtain ⟨⟨y, q⟩, ey⟩ : ∃ r, sumL 0 Lb = r := ⟨_, rfl⟩
  have bx := sumL_bd La 0 (by omega) (by omega)
  have by_ := sumL_bd Lb 0 (by omega) (by omega)
  rw [ex] at bx
  rw [ey] at by_
  have AD := fun w => fadd_any w x y bx.1 bx.2 by_.1 by_.2
  have HF : ok = true → p = true → q = true → fits64 (x + y) = true → int64V (x + y) = s := by
    rintro rfl rfl rfl hf
    rw [int64V_fits hf, sumL_sum L 0 s es, sumL_sum La 0 x ex, sumL_sum Lb 0 y ey, ← hL, List.sum_append]
    omega
  generalize int64V (x + y) = zz at *
  generalize fits64 (x + y) = r at *
  by_cases hlen : (La.length : Int) + Lb.length ≤ 200
  · have S1 : ∀ w v, ISl w v L → Calls Try.prog 15 #[v] w fun e w' => e = .returned (.tuple #[.int .i64 s, .bool ok]) ∧ Chg [] w w' := fun w v h => by
      have H := fsum_any w v L h Hab.out (by omega)
      rw [es] at H
      exact H
    have S2 : ∀ w v, ISl w v L → Calls Try.prog 16 #[v] w fun e w' => e = .returned (.tuple #[.int .i64 s, .bool ok]) ∧ Chg [] w w' := fun w v h => by
      have H := rsum2_any w v L h Hab.out (by omega)
      rw [es] at H
      exact H
    have SA : ∀ w v, ISl w v La → Calls Try.prog 15 #[v] w fun e w' => e = .returned (.tuple #[.int .i64 x, .bool p]) ∧ Chg [] w w' := fun w v h => by
      have H := fsum_any w v La h hBa (by omega)
      rw [ex] at H
      exact H
    have SB : ∀ w v, ISl w v Lb → Calls Try.prog 15 #[v] w fun e w' => e = .returned (.tuple #[.int .i64 y, .bool q]) ∧ Chg [] w w' := fun w v h => by
      have H := fsum_any w v Lb h hBb (by omega)
      rw [ey] at H
      exact H
    have HL := Lib.hid hL
    replace S1 := Lib.hid S1
    replace S2 := Lib.hid S2
    replace SA := Lib.hid SA
    replace SB := Lib.hid SB
    replace AD := Lib.hid AD
    replace HF := Lib.hid HF
    clear es ex ey bx by_ hBa hBb Hab hL hLl
    have C := CL.new W 0
    go_enter Try.func5, Try.ntmps5
    go_wp2_with fail
    refine (awake02 _).mono ?_; rintro e w1 ⟨rfl, hX⟩
    replace C := C.step (j := 0) hX
    clear hX
    have hI1 := hIa.keep C.x
    have hI2 := hIb.keep C.x
    have hlb : La.length + Lb.length ≤ 200 := by omega
    have hE : JRow (w1.alloc (.cells #[] 2)) w1.heap.size (.slice (some ⟨w1.heap.size, 0, none⟩) 0 0) [] := JRow.lit w1 w1.heap.size [] #[] 0 rfl rfl (Nat.le_refl _) (by omega)
    go_wp2_with (first
  | (at_builtin; (refine wpList_appJs rfl (.tmp 27) (.tmp 28) rfl rfl hE rfl (hI1.keep ((Chg.refl [] _).alloc _)) (fun _ _ _ e g => by cases e; exact NA.out g) (by simp; omega) (by simp) ?_); intro v1 w2 h1 h2; have hX2 := JRow.grown hE ((Chg.refl [] w1).alloc _) h2 (Nat.le_refl _))
  | (at_builtin; (refine wpList_appJs rfl (.tmp 29) (.tmp 30) rfl rfl h1 rfl (hI2.keep hX2) (fun _ _ _ e g => by cases e; exact NB.out g) (by simp; omega) hX2.size ?_); intro v2 w3 h3 h4; have hX3 := JRow.grown h1 hX2 h4 (Nat.le_refl _)))
    rw [List.nil_append] at h3
    replace C := C.step (j := 0) hX3
    have hAll := h3.isl
    clear h1 h2 h3 h4 hX2 hX3 hE hI1 hI2
    rw [HL.out] at hAll
    refine (S1.out _ _ hAll).mono ?_; rintro e w4 ⟨rfl, hX⟩
    replace hAll := hAll.keep hX
    replace C := C.step (j := 0) hX
    clear hX
    go_wp2_with fail
    refine (S2.out _ _ hAll).mono ?_; rintro e w5 ⟨rfl, hX⟩
    replace C := C.step (j := 0) hX
    clear hX hAll
    go_wp2_with fail
    have hA1 := hIa.keep C.x
    refine (SA.out _ _ hA1).mono ?_; rintro e w6 ⟨rfl, hX⟩
    clear hA1
    replace C := C.step (j := 0) hX
    clear hX
    go_wp2_with fail
    have hA1 := hIb.keep C.x
    refine (SB.out _ _ hA1).mono ?_; rintro e w7 ⟨rfl, hX⟩
    clear hA1
    replace C := C.step (j := 0) hX
    clear hX
    go_wp2_with fail
    refine (AD.out _).mono ?_; rintro e w8 ⟨rfl, hX⟩
    replace C := C.step (j := 0) hX
    clear hX
    have hC := Lib.hid C.x
    clear C hIa hIb
    cases ok
    · go_wp2_with fail
      go_returns
      exact ⟨rfl, hC.out.to_below⟩
    · cases p
      · go_wp2_with fail
        go_returns
        exact ⟨rfl, hC.out.to_below⟩
      · cases q
        · go_wp2_with fail
          go_returns
          exact ⟨rfl, hC.out.to_below⟩
        · cases r
          · go_wp2_with fail
            go_returns
            exact ⟨rfl, hC.out.to_below⟩
          · have hz := HF.out rfl rfl rfl rfl
            subst hz
            go_wp2_with fail
            go_returns
            exact ⟨rfl, hC.out.to_below⟩
  · clear AD HF es ex ey bx by_ hBa hBb Hab hL hLl
    have C := CL.new W 0
    go_enter Try.func5, Try.ntmps5
    go_wp2_with fail
    refine (awake02 _).mono ?_; rintro e w1 ⟨rfl, hX⟩
    replace C := C.step (j := 0) hX
    clear hX
    go_wp2_with fail
    refine (awake02 _).mono ?_; rintro e w2 ⟨rfl, hX⟩
    replace C := C.step (j := 0) hX
    clear hX
    go_wp2_with fail
    go_returns
    exact ⟨rfl, C.x.to_below⟩
end Go.Proofs.Ythdjanjlpgcmoaa
