/- Rpb, Rpc, Rps, Pnt, Pcf, Trn. -/
import Derived.Test.YtpfglmlpodjneaaGreatZ07
import Derived.Deep.Onto
import Derived.LoopTactic
import Derived.Handy
import Derived.Deep.LoopGhost
set_option linter.unusedSimpArgs false
set_option linter.unusedVariables false
namespace Go.Proofs.YtpfglmlpodjneaaGreat
open Go.RowKit

def z5 : Array Value := #[.slice none 0 0, .int .i64 0, .int .i64 0, .int .i64 0, .int .i64 0]
theorem phase_bad (W : World) (s : ByteArray) (hs : s.size ≤ 1000000) (h : s.size < 14 ∨ (s.size : Int) - 14 < 8 * by_ s 0) :
    Calls Tryz.prog 57 #[.string s] W fun e w' => e = .returned (.tuple #[.agg #[.slice none 0 0, .int .i64 0, .int .i64 0, .int .i64 0, .int .i64 0], .string s, .int .i64 5]) ∧ Chg [] W w' := by
  have C := (CL.new W 0).push #[.slice none 0 0, .int .i64 0, .int .i64 0, .int .i64 0, .int .i64 0] 51
  by_cases h14 : s.size < 14
  · have hg : (s.size : Int) < 14 := by omega
    clear h
    go_enter Tryz.func57, Tryz.ntmps57
    go_upto_region 2 with fail
    generalize hz : W.heap.size = z at *
    have hWz : W.heap.size ≤ z := by omega
    clear hz
    generalize W.alloc (.cells #[.slice none 0 0, .int .i64 0, .int .i64 0, .int .i64 0, .int .i64 0] 51) = w1 at *
    have hA := C.get 0 rfl
    dsimp only at hA
    go_wp2_with (first | (refine wpList_get rfl rfl rfl hA (by kernel_rfl) ?_) | (refine wpList_put rfl rfl rfl rfl hA rfl (by kernel_rfl) (by simp [Value.oneCell']) ?_; intro w5 hA5 hX5; refine Hid.out ?_))
    refine Lib.hid ?_
    go_wp2_with (with_reducible refine hold_post ?_)
    refine Lib.hid ?_
    exact bodyPost_ret (res_ctt rfl hA5 (by kernel_rfl) rfl) rfl ⟨rfl, C.x.then hX5 (fun x hx hl => by simp at hx; omega)⟩
  · have hg : (14 : Int) ≤ (s.size : Int) := by omega
    have hg2 : (s.size : Int) - 14 < 8 * by_ s 0 := by omega
    have g0 := by_get s 0 (by omega)
    have b0 := by_bd s 0
    have j0 : (0 : Int) < (s.size : Int) := by omega
    clear h
    go_enter Tryz.func57, Tryz.ntmps57
    go_upto_region 2 with fail
    generalize hz : W.heap.size = z at *
    have hWz : W.heap.size ≤ z := by omega
    clear hz
    generalize W.alloc (.cells #[.slice none 0 0, .int .i64 0, .int .i64 0, .int .i64 0, .int .i64 0] 51) = w1 at *
    have hA := C.get 0 rfl
    dsimp only at hA
    go_wp2_with (first | (refine wpList_get rfl rfl rfl hA (by kernel_rfl) ?_) | (refine wpList_put rfl rfl rfl rfl hA rfl (by kernel_rfl) (by simp [Value.oneCell']) ?_; intro w5 hA5 hX5; refine Hid.out ?_))
    refine Lib.hid ?_
    go_wp2_with (with_reducible refine hold_post ?_)
    refine Lib.hid ?_
    exact bodyPost_ret (res_ctt rfl hA5 (by kernel_rfl) rfl) rfl ⟨rfl, C.x.then hX5 (fun x hx hl => by simp at hx; omega)⟩

/-- An area's row. -/
def AreaA (w : World) (v : Value) (L : List PtV) : Prop := w.ownsRow 0 53 2 v L.length (ptCells L)
def phCells : List Value → List PhV → List Value
  | va :: vs, p :: L => [va, .int .i64 p.g, .int .i64 p.mv, .int .i64 p.mn, .int .i64 p.up] ++ phCells vs L
  | _, _ => []
theorem phCells_len : ∀ (vs : List Value) (L : List PhV), vs.length = L.length → (phCells vs L).length = L.length * 5
  | [], [], _ => rfl
  | [], _ :: _, h => by simp at h
  | _ :: _, [], h => by simp at h
  | va :: vs, p :: L, h => by
    simp only [phCells, List.length_append, List.length_cons, List.length_nil]
    rw [phCells_len vs L (by simpa using h)]
    omega
theorem phCells_app : ∀ (vs : List Value) (L : List PhV) (va : Value) (p : PhV), vs.length = L.length → phCells (vs ++ [va]) (L ++ [p]) = phCells vs L ++ [va, .int .i64 p.g, .int .i64 p.mv, .int .i64 p.mn, .int .i64 p.up]
  | [], [], _, _, _ => rfl
  | [], _ :: _, _, _, h => by simp at h
  | _ :: _, [], _, _, h => by simp at h
  | v :: vs, q :: L, va, p, h => by
    simp only [List.cons_append, phCells]
    rw [phCells_app vs L va p (by simpa using h)]
    simp
theorem phCells_one : ∀ (vs : List Value) (L : List PhV), (∀ v ∈ vs, v.oneCell' = true) → ∀ u ∈ phCells vs L, u.oneCell' = true
  | va :: vs, p :: L, h, u, hu => by
    simp only [phCells, List.cons_append, List.mem_cons, List.nil_append] at hu
    rcases hu with rfl | rfl | rfl | rfl | rfl | hu
    · exact h _ (by simp)
    · rfl
    · rfl
    · rfl
    · rfl
    · exact phCells_one vs L (fun v hv => h v (by simp [hv])) u hu
  | [], [], _, u, hu => by simp [phCells] at hu
  | [], _ :: _, _, u, hu => by simp [phCells] at hu
  | _ :: _, [], _, u, hu => by simp [phCells] at hu
/-- A row of phases of the call's own, with their areas. -/
structure PhsA (w : World) (base : Nat) (v : Value) (L : List PhV) : Prop where
  ex : ∃ vs : List Value, vs.length = L.length ∧ w.ownsRow base 51 5 v L.length (phCells vs L) ∧ ∀ (i : Nat) (va : Value) (p : PhV), vs[i]? = some va → L[i]? = some p → AreaA w va p.area
theorem AreaA.keep {w w' : World} {v : Value} {L : List PtV} (h : AreaA w v L) (hX : Chg [] w w') : AreaA w' v L := row_keep h hX (by simp)
theorem PhsA.keep {w w' : World} {base : Nat} {v : Value} {L : List PhV} (h : PhsA w base v L) (hX : Chg [] w w') : PhsA w' base v L := by
  obtain ⟨vs, h1, h2, h3⟩ := h.ex
  exact ⟨vs, h1, row_keep h2 hX (by simp), fun i va p hi hp => (h3 i va p hi hp).keep hX⟩
/-- An area isn't the row of phases. -/
theorem AreaA.grown {w w' : World} {base : Nat} {v va : Value} {n : Nat} {xs : List Value} {L : List PtV} (h : AreaA w va L) (hp : w.ownsRow base 51 5 v n xs) (g : w.grownBy w' v.ownBlock) : AreaA w' va L := by
  refine World.ownsRow.kept h g ?_
  rcases h.2 with ⟨rfl, _⟩ | ⟨ga, capa, cura, rfl, _, hga, _⟩
  · exact .inl rfl
  · refine .inr fun he => ?_
    rcases hp.2 with ⟨rfl, _⟩ | ⟨gp, capp, curp, rfl, _, hgp, _⟩
    · simp [Value.ownBlock] at he
    · simp only [Value.ownBlock, Option.some.injEq] at he
      subst he
      rw [hga] at hgp
      simp at hgp
theorem und_phs : Tryz.prog.underlying 23 = some (.slice 51) := by kernel_rfl
theorem info_ph : (Tryz.prog.info? 51).map (fun i => (i.zero, i.size, i.bytes)) = some (some (.agg #[.slice none 0 0, .int .i64 0, .int .i64 0, .int .i64 0, .int .i64 0]), 5, 56) := by kernel_rfl
/-- One more phase. -/
theorem PhsA.app {w w' : World} {base : Nat} {v v' va : Value} {L : List PhV} {p : PhV} (h : PhsA w base v L) (ha : AreaA w va p.area)
    (hr : ∀ vs : List Value, vs.length = L.length → w.ownsRow base 51 5 v L.length (phCells vs L) → w'.ownsRow base 51 5 v' (L.length + 1) (phCells vs L ++ [va, .int .i64 p.g, .int .i64 p.mv, .int .i64 p.mn, .int .i64 p.up]) ∧ w.grownBy w' v.ownBlock) : PhsA w' base v' (L ++ [p]) := by
  obtain ⟨vs, h1, h2, h3⟩ := h.ex
  obtain ⟨q1, q2⟩ := hr vs h1 h2
  refine ⟨vs ++ [va], by simp [h1], by rw [phCells_app vs L va p h1]; simpa using q1, fun i ub pb hi hp => ?_⟩
  by_cases hlt : i < vs.length
  · rw [List.getElem?_append_left hlt] at hi
    rw [List.getElem?_append_left (by omega)] at hp
    exact (h3 i ub pb hi hp).grown h2 q2
  · rw [List.getElem?_append_right (by omega)] at hi hp
    rw [h1] at hi
    have h0 : i - L.length = 0 := by
      have := (List.getElem?_eq_some_iff.1 hi).1
      simp at this
      omega
    rw [h0] at hi hp
    simp only [List.getElem?_cons_zero, Option.some.injEq] at hi hp
    subst hi hp
    exact ha.grown h2 q2
end Go.Proofs.YtpfglmlpodjneaaGreat
namespace Go.Proofs.YtpfglmlpodjneaaGreat
open Go.RowKit

def AreaB (w : World) (base : Nat) (v : Value) (L : List PtV) : Prop := w.ownsRow base 53 2 v L.length (ptCells L)
structure PhsB (w : World) (base : Nat) (v : Value) (L : List PhV) : Prop where
  ex : ∃ vs : List Value, vs.length = L.length ∧ w.ownsRow base 51 5 v L.length (phCells vs L) ∧ ∀ (i : Nat) (va : Value) (p : PhV), vs[i]? = some va → L[i]? = some p → AreaB w base va p.area
theorem PhsB.keep {w w' : World} {base : Nat} {v : Value} {L : List PhV} {S : List Nat} (h : PhsB w base v L) (hX : Chg S w w') (hS : ∀ b ∈ S, b < base) : PhsB w' base v L := by
  obtain ⟨vs, h1, h2, h3⟩ := h.ex
  exact ⟨vs, h1, row_keep h2 hX hS, fun i va p hi hp => row_keep (h3 i va p hi hp) hX hS⟩
theorem PhsB.mono {w : World} {base b : Nat} {v : Value} {L : List PhV} (h : PhsB w base v L) (hb : b ≤ base) : PhsB w b v L := by
  obtain ⟨vs, v1, v2, v3⟩ := h.ex
  exact ⟨vs, v1, World.ownsRow.mono v2 hb, fun i va p hi hp => World.ownsRow.mono (v3 i va p hi hp) hb⟩
theorem PhsB.nil (w : World) (base : Nat) : PhsB w base (.slice none 0 0) [] := ⟨[], rfl, World.ownsRow_nil _ _ _ _, fun i va p h => by simp at h⟩
theorem PhsB.toA {w : World} {base : Nat} {v : Value} {L : List PhV} (h : PhsB w base v L) : PhsA w base v L := by
  obtain ⟨vs, h1, h2, h3⟩ := h.ex
  exact ⟨vs, h1, h2, fun i va p hi hp => World.ownsRow.mono (h3 i va p hi hp) (Nat.zero_le _)⟩
theorem AreaB.grown {w w' : World} {base b2 : Nat} {v va : Value} {n : Nat} {xs : List Value} {L : List PtV} (h : AreaB w b2 va L) (hp : w.ownsRow base 51 5 v n xs) (g : w.grownBy w' v.ownBlock) : AreaB w' b2 va L := by
  refine World.ownsRow.kept h g ?_
  rcases h.2 with ⟨rfl, _⟩ | ⟨ga, capa, cura, rfl, _, hga, _⟩
  · exact .inl rfl
  · refine .inr fun he => ?_
    rcases hp.2 with ⟨rfl, _⟩ | ⟨gp, capp, curp, rfl, _, hgp, _⟩
    · simp [Value.ownBlock] at he
    · simp only [Value.ownBlock, Option.some.injEq] at he
      subst he
      rw [hga] at hgp
      simp at hgp
theorem PhsB.app1 {w w' : World} {base : Nat} {v v' va : Value} {L : List PhV} {p : PhV} (vs : List Value) (h1 : vs.length = L.length) (h2 : w.ownsRow base 51 5 v L.length (phCells vs L))
    (h3 : ∀ (i : Nat) (va : Value) (p : PhV), vs[i]? = some va → L[i]? = some p → AreaB w base va p.area) (ha : AreaB w base va p.area)
    (q1 : w'.ownsRow base 51 5 v' (L.length + 1) (phCells vs L ++ [va, .int .i64 p.g, .int .i64 p.mv, .int .i64 p.mn, .int .i64 p.up])) (q2 : w.grownBy w' v.ownBlock) : PhsB w' base v' (L ++ [p]) := by
  refine ⟨vs ++ [va], by simp [h1], by rw [phCells_app vs L va p h1]; simpa using q1, fun i ub pb hi hp => ?_⟩
  by_cases hlt : i < vs.length
  · rw [List.getElem?_append_left hlt] at hi
    rw [List.getElem?_append_left (by omega)] at hp
    exact (h3 i ub pb hi hp).grown h2 q2
  · rw [List.getElem?_append_right (by omega)] at hi hp
    rw [h1] at hi
    have h0 : i - L.length = 0 := by
      have := (List.getElem?_eq_some_iff.1 hi).1
      simp at this
      omega
    rw [h0] at hi hp
    simp only [List.getElem?_cons_zero, Option.some.injEq] at hi hp
    subst hi hp
    exact ha.grown h2 q2
theorem addr_add (b j : Nat) : (⟨b, 0, none⟩ : Addr).add j = ⟨b, j, none⟩ := by unfold Addr.add; split <;> simp_all
end Go.Proofs.YtpfglmlpodjneaaGreat
namespace Go.Proofs.YtpfglmlpodjneaaGreat
open Go.RowKit

def okPh (s : ByteArray) : Bool := decide (14 ≤ s.size) && decide (8 * by_ s 0 ≤ (s.size : Int) - 14)
def onePh (s : ByteArray) : PhV := ⟨ptsAt s 14 (by_ s 0).toNat, by_ s 1, num4 s 2, num4 s 6, num4 s 10⟩
def restPh (s : ByteArray) : ByteArray := s.extract (14 + 8 * (by_ s 0).toNat) s.size
/-- So many phases in s, behind those that were read: all, and what is left. -/
def phsL : Nat → ByteArray → List PhV → Option (List PhV × ByteArray)
  | 0, s, L => some (L, s)
  | n + 1, s, L => if okPh s = true then phsL n (restPh s) (L ++ [onePh s]) else none
theorem restPh_size (s : ByteArray) : (restPh s).size ≤ s.size := by unfold restPh; simp
def PhsPost (W : World) (R : Option (List PhV × ByteArray)) (e : Ending) (w' : World) : Prop :=
  Chg [] W w' ∧ match R with
    | some (L, t) => ∃ v, e = .returned (.tuple #[v, .string t, .int .i64 0]) ∧ PhsB w' W.heap.size v L ∧ t.size ≤ 1000000
    | none => ∃ t, e = .returned (.tuple #[.slice none 0 0, .string t, .int .i64 5])
theorem res_ttt {fn : Func} {a b c : Tmp} (hr : fn.results = #[.tmp a, .tmp b, .tmp c]) {tmps : Array Value} {w : World} {x y z : Value} (ha : tmps.getD a undef = x) (hb : tmps.getD b undef = y) (hc : tmps.getD c undef = z) :
    (results fn tmps).run Tryz.prog w = .ok (.tuple #[x, y, z]) w := by
  simp only [results, hr]
  simp [Sem.run_bind, Result.andThen, -Array.getD_eq_getD_getElem?, ha, hb, hc]
set_option maxRecDepth 100000 in
set_option maxHeartbeats 4000000 in
/-- All phases. -/
theorem phases_any (W : World) (n : Nat) (s : ByteArray) (hn : n ≤ 255) (hs : s.size ≤ 1000000) :
    Calls Tryz.prog 39 #[.int .i64 n, .string s] W (PhsPost W (phsL n s [])) := by
  obtain ⟨R, hR⟩ : ∃ R, phsL n s [] = R := ⟨_, rfl⟩
  rw [hR]
  have HR := Lib.hid hR
  clear hR
  go_enter Tryz.func39, Tryz.ntmps39
  go_wp2_with fail
  go_loopg [1, 4, 6, 9] n (fun gg a b c i wr => ∃ (k : Nat) (t : ByteArray) (L : List PhV), k + gg = n ∧ i = .int .i64 k ∧ a = .string t ∧ c = .int .i64 0 ∧ PhsB wr W.heap.size b L ∧ Hid (phsL gg t L = R) ∧ L.length = k ∧ Chg [] W wr ∧ t.size ≤ 1000000)
  case atStart => exact ⟨0, s, [], by omega, rfl, rfl, rfl, PhsB.nil _ _, HR, rfl, Chg.refl _ _, hs⟩
  case round =>
    obtain ⟨k, t, L, hk, rfl, rfl, rfl, hP, HL, hLk, hX, ht⟩ := hrel
    by_cases hlt : k < n
    · have hgk : (k : Int) < (n : Int) := by omega
      obtain ⟨g2, rfl⟩ : ∃ g2, gk = g2 + 1 := ⟨gk - 1, by omega⟩
      cases hok : okPh t with
      | true =>
        have HL2 := Lib.hid (show phsL g2 (restPh t) (L ++ [onePh t]) = R by have := HL.out; simpa [phsL, hok] using this)
        unfold okPh at hok
        simp only [Bool.and_eq_true, decide_eq_true_eq] at hok
        have HF := fun w => phase_ok w t ht hok.1 hok.2
        rw [show t.extract (14 + 8 * (by_ t 0).toNat) t.size = restPh t from rfl] at HF
        have hrz := restPh_size t
        have hrz2 : (restPh t).size ≤ 1000000 := by omega
        have Hp := Lib.hid (show onePh t = ⟨ptsAt t 14 (by_ t 0).toNat, by_ t 1, num4 t 2, num4 t 6, num4 t 10⟩ from rfl)
        generalize restPh t = rt at *
        generalize onePh t = p at *
        have hlen := ptsAt_len t 14 (by_ t 0).toNat
        generalize (by_ t 0).toNat = m at *
        generalize ptsAt t 14 m = ar at *
        generalize by_ t 1 = pg at *
        generalize num4 t 2 = pm at *
        generalize num4 t 6 = pn at *
        generalize num4 t 10 = pu at *
        have Hlen := Lib.hid hlen
        clear hok hlen hrz HL
        replace HF := Lib.hid HF
        have hZ := At.new wr #[.slice none 0 0, .int .i64 0, .int .i64 0, .int .i64 0, .int .i64 0] 51
        have hXz : Chg [] wr (wr.alloc (.cells #[.slice none 0 0, .int .i64 0, .int .i64 0, .int .i64 0, .int .i64 0] 51)) := (Chg.refl _ _).alloc _
        go_wp2_with fail
        generalize hwz : wr.heap.size = z7 at *
        have hWz : W.heap.size ≤ z7 := by have := hX.size; omega
        generalize wr.alloc (.cells #[.slice none 0 0, .int .i64 0, .int .i64 0, .int .i64 0, .int .i64 0] 51) = wa at *
        have hwz2 : wr.heap.size ≤ z7 := by omega
        have hz7 : z7 < wa.heap.size := hZ.lt
        clear hwz
        refine (HF.out _).mono ?_; rintro e w1 ⟨va, rfl, hRow, hX1⟩
        replace hZ := hX1.at hZ (by simp)
        have hone := row_one hRow
        have hvaz := fun b => World.ownsRow.lt hRow b
        go_wp2_with (refine wpList_put rfl rfl rfl rfl hZ rfl (by kernel_rfl) (by simp [hone, one_int]) ?_; intro w2 hz2 hX2; refine Hid.out ?_)
        refine Lib.hid ?_
        have hXt : Chg [] wr w2 := (hXz.trans hX1).then hX2 (fun x hx hl => by simp at hx; omega)
        obtain ⟨vs, v1, v2, v3⟩ := (hP.keep hXt (by simp)).ex
        have hAr : AreaB w2 W.heap.size va ar := by
          have := World.ownsRow.mono (row_keep hRow hX2 (by simp; omega)) (show W.heap.size ≤ _ by omega)
          unfold AreaB
          rw [Hlen.out]
          exact this
        have hX3 : Chg [] W w2 := hX.trans hXt
        have hN := At.new w2 #[va, .int .i64 pg, .int .i64 pm, .int .i64 pn, .int .i64 pu] 51
        have hXn : Chg [] w2 (w2.alloc (.cells #[va, .int .i64 pg, .int .i64 pm, .int .i64 pn, .int .i64 pu] 51)) := (Chg.refl _ _).alloc _
        have v2' := row_keep v2 hXn (by simp)
        have v3' := fun i va p h1 h2 => row_keep (v3 i va p h1 h2) hXn (S := []) (by simp)
        have hAr' := row_keep hAr hXn (by simp)
        obtain ⟨ti, hi, hz0, hz1, hzb⟩ := info_parts info_ph
        have hnews : ∀ j u, ([va, .int .i64 pg, .int .i64 pm, .int .i64 pn, .int .i64 pu] : List Value)[j]? = some u → (w2.alloc (.cells #[va, .int .i64 pg, .int .i64 pm, .int .i64 pn, .int .i64 pu] 51)).cell? ((⟨w2.heap.size, 0, none⟩ : Addr).add j) = some u := by
          intro j u hu
          have hadd : (⟨w2.heap.size, 0, none⟩ : Addr).add j = ⟨w2.heap.size, j, none⟩ := by unfold Addr.add; split <;> simp_all
          rw [hadd, hN.cell j]
          simpa using hu
        have hone5 : ∀ u ∈ ([va, .int .i64 pg, .int .i64 pm, .int .i64 pn, .int .i64 pu] : List Value), u.oneCell' = true := by
          intro u hu
          simp only [List.mem_cons, List.not_mem_nil, or_false] at hu
          rcases hu with rfl | rfl | rfl | rfl | rfl
          · exact hone
          · rfl
          · rfl
          · rfl
          · rfl
        have hL255 : L.length ≤ 255 := by omega
        have Hnews := Lib.hid hnews
        have Hone5 := Lib.hid hone5
        have Hvaz := Lib.hid hvaz
        have Hi := Lib.hid hi
        have Hz0 := Lib.hid hz0
        have Hz1 := Lib.hid hz1
        have Hzb := Lib.hid hzb
        have Hv1 := Lib.hid v1
        have Hone := Lib.hid hone
        have Hv3 := Lib.hid v3'
        have HlenL := Lib.hid hLk
        clear hnews hone5 hvaz hi hz0 hz1 hzb v1 v3 v3' hone hLk
        go_wp2_with (first
          | (refine wpList_get rfl rfl rfl hz2 (by kernel_rfl) ?_)
          | (at_builtin; refine wpList_append_own _ rfl (.tmp 21) (.tmp 23) 23 rfl W.heap.size 51 ti (.agg #[.slice none 0 0, .int .i64 0, .int .i64 0, .int .i64 0, .int .i64 0]) 5 56 und_phs Hi.out Hz0.out Hz1.out Hzb.out rfl (by decide) u4 L.length (phCells vs L) rfl v2' ⟨w2.heap.size, 0, none⟩ 1 1 [va, .int .i64 pg, .int .i64 pm, .int .i64 pn, .int .i64 pu] rfl rfl Hnews.out Hone5.out (by unfold maxLen; omega) (by omega) (by have := hX3.size; simp; omega) ?_; intro v9 w9 h9 hg9 _; refine Hid.out ?_))
        refine Lib.hid ?_
        have hP9 : PhsB w9 W.heap.size v9 (L ++ [p]) := by
          rw [Hp.out]
          exact PhsB.app1 vs Hv1.out v2' Hv3.out hAr' h9 hg9
        have hX9 : Chg [] W w9 := row_grown v2' (hX3.trans hXn) hg9 (Nat.le_refl _)
        go_wp2_with fail
        go_roundg g2
        case rel => exact ⟨k + 1, rt, L ++ [p], by omega, by go_num, rfl, rfl, hP9, HL2, by have := HlenL.out; simp; omega, hX9, hrz2⟩
        case measure => omega
      | false =>
        have HRn : R = none := by have := HL.out; simpa [phsL, hok] using this.symm
        have hbad : t.size < 14 ∨ (t.size : Int) - 14 < 8 * by_ t 0 := by
          unfold okPh at hok
          by_cases h14 : 14 ≤ t.size
          · right
            simp only [h14, decide_true, Bool.true_and, decide_eq_false_iff_not] at hok
            omega
          · left; omega
        have HF := fun w => phase_bad w t ht hbad
        replace HF := Lib.hid HF
        have HRN := Lib.hid HRn
        clear hok hbad HRn
        have hZ := At.new wr #[.slice none 0 0, .int .i64 0, .int .i64 0, .int .i64 0, .int .i64 0] 51
        have hXz : Chg [] wr (wr.alloc (.cells #[.slice none 0 0, .int .i64 0, .int .i64 0, .int .i64 0, .int .i64 0] 51)) := (Chg.refl _ _).alloc _
        go_wp2_with fail
        generalize hwz : wr.heap.size = z7 at *
        have hWz : W.heap.size ≤ z7 := by have := hX.size; omega
        generalize wr.alloc (.cells #[.slice none 0 0, .int .i64 0, .int .i64 0, .int .i64 0, .int .i64 0] 51) = wa at *
        clear hwz
        refine (HF.out _).mono ?_; rintro e w1 ⟨rfl, hX1⟩
        replace hZ := hX1.at hZ (by simp)
        go_wp2_with (refine wpList_put rfl rfl rfl rfl hZ rfl (by kernel_rfl) (by simp [Value.oneCell']) ?_; intro w2 hz2 hX2; refine Hid.out ?_)
        refine Lib.hid ?_
        have hX9 : Chg [] W w2 := ((hX.trans hXz).trans hX1).then hX2 (fun x hx hl => by simp at hx; omega)
        go_wp2_with (with_reducible refine hold_post ?_)
        refine Lib.hid ?_
        exact bodyPost_ret (v := .tuple #[.slice none 0 0, .string t, .int .i64 5]) (res_ttt rfl rfl rfl rfl) rfl ⟨hX9, by rw [HRN.out]; exact ⟨t, rfl⟩⟩
    · obtain rfl : gk = 0 := by omega
      have HRs : R = some (L, t) := by have := HL.out; simpa [phsL] using this.symm
      have HRS := Lib.hid HRs
      clear HRs
      go_wp2_with (with_reducible refine hold_post ?_)
      refine Lib.hid ?_
      exact bodyPost_ret (v := .tuple #[u4, .string t, .int .i64 0]) (res_ttt rfl rfl rfl rfl) rfl ⟨hX, by rw [HRS.out]; exact ⟨u4, rfl, hP, ht⟩⟩
end Go.Proofs.YtpfglmlpodjneaaGreat
namespace Go.Proofs.YtpfglmlpodjneaaGreat
open Go.RowKit

def pin (n : Int) : Bool := decide (-1099511627776 ≤ n) && decide (n ≤ 1099511627776)
def PtV.ok (p : PtV) : Bool := pin p.x && pin p.y
def btw (n a b : Int) : Bool := decide (min a b ≤ n) && decide (n ≤ max a b)
def PtV.cells (p : PtV) : Array Value := #[.int .i64 p.x, .int .i64 p.y]
theorem pin_iff (n : Int) : pin n = true ↔ -1099511627776 ≤ n ∧ n ≤ 1099511627776 := by unfold pin; simp
theorem ptwithin_any (w : World) (n : Int) : Calls Tryz.prog 129 #[.int .i64 n] w fun e w' => e = .returned (.bool (pin n)) ∧ w = w' := by
  by_cases h1 : -1099511627776 ≤ n
  · by_cases h2 : n ≤ 1099511627776
    · go_enter Tryz.func129, Tryz.ntmps129
      go_wp2
      go_returns
      exact ⟨ret_bool (by simp [pin, h1, h2]), rfl⟩
    · go_enter Tryz.func129, Tryz.ntmps129
      go_wp2
      go_returns
      exact ⟨ret_bool (by simp [pin, h1, h2]), rfl⟩
  · go_enter Tryz.func129, Tryz.ntmps129
    go_wp2
    go_returns
    exact ⟨ret_bool (by simp [pin]; omega), rfl⟩
theorem ptright_any (w : World) (p : PtV) : Calls Tryz.prog 116 #[.agg #[.int .i64 p.x, .int .i64 p.y]] w fun e w' => e = .returned (.bool p.ok) ∧ Chg [] w w' := by
  have H1 := fun w => ptwithin_any w p.x
  have H2 := fun w => ptwithin_any w p.y
  have Hp := Lib.hid (show p.ok = (pin p.x && pin p.y) from rfl)
  have hA := At.new w #[.int .i64 p.x, .int .i64 p.y] 53
  have hX : Chg [] w (w.alloc (.cells #[.int .i64 p.x, .int .i64 p.y] 53)) := (Chg.refl [] w).alloc _
  have c0 := hA.cell 0
  have c1 := hA.cell 1
  generalize p.ok = r at *
  generalize pin p.x = b0 at *
  generalize pin p.y = b1 at *
  go_enter Tryz.func116, Tryz.ntmps116
  go_wp2_with fail
  refine (H1 _).mono ?_; rintro e w' ⟨rfl, rfl⟩
  cases b0
  · go_wp2
    go_returns
    exact ⟨by rw [Hp.out]; rfl, hX⟩
  · go_wp2_with fail
    refine (H2 _).mono ?_; rintro e w' ⟨rfl, rfl⟩
    go_wp2
    go_returns
    exact ⟨by rw [Hp.out]; rfl, hX⟩
theorem btw_any (w : World) (n a b : Int) : Calls Tryz.prog 137 #[.int .i64 n, .int .i64 a, .int .i64 b] w fun e w' => e = .returned (.bool (btw n a b)) ∧ w = w' := by
  by_cases h1 : min a b ≤ n
  · by_cases h2 : n ≤ max a b
    · have e1 := decide_eq_true h1
      have e2 := decide_eq_true h2
      go_enter Tryz.func137, Tryz.ntmps137
      go_wp2
      all_goals go_returns
      all_goals exact ⟨ret_bool (by unfold btw; simp; omega), rfl⟩
    · go_enter Tryz.func137, Tryz.ntmps137
      go_wp2
      all_goals go_returns
      all_goals exact ⟨ret_bool (by unfold btw; simp; omega), rfl⟩
  · go_enter Tryz.func137, Tryz.ntmps137
    go_wp2
    all_goals go_returns
    all_goals exact ⟨ret_bool (by unfold btw; simp; omega), rfl⟩
end Go.Proofs.YtpfglmlpodjneaaGreat
namespace Go.Proofs.YtpfglmlpodjneaaGreat
open Go.RowKit

/-- A slice of points, to be read. -/
def PtsR (w : World) (v : Value) (L : List PtV) : Prop := L.length ≤ 9223372036854775807 ∧ ((L = [] ∧ ∃ a cap, v = .slice a 0 cap) ∨
  ∃ b off cap, v = .slice (some ⟨b, off, none⟩) L.length cap ∧ 0 < L.length ∧ ∀ i p, L[i]? = some p → w.cell? ⟨b, off + i * 2, none⟩ = some (.int .i64 p.x) ∧ w.cell? ⟨b, off + i * 2 + 1, none⟩ = some (.int .i64 p.y))
theorem PtsR.keep {w w' : World} {v : Value} {L : List PtV} (h : PtsR w v L) (hX : Chg [] w w') : PtsR w' v L := by
  refine ⟨h.1, ?_⟩
  rcases h.2 with h | ⟨b, off, cap, h1, h2, h3⟩
  · exact .inl h
  · exact .inr ⟨b, off, cap, h1, h2, fun i p hp => ⟨hX.cell (h3 i p hp).1 (by simp), hX.cell (h3 i p hp).2 (by simp)⟩⟩
theorem ptCells_len (L : List PtV) : (ptCells L).length = L.length * 2 := by
  induction L with
  | nil => rfl
  | cons p L ih => simp only [ptCells, List.flatMap_cons] at ih ⊢; simp [ih]; omega
theorem ptCells_get : ∀ (L : List PtV) (i : Nat) (p : PtV), L[i]? = some p → (ptCells L)[i * 2]? = some (.int .i64 p.x) ∧ (ptCells L)[i * 2 + 1]? = some (.int .i64 p.y)
  | [], i, p, h => by simp at h
  | q :: L, 0, p, h => by simp only [List.getElem?_cons_zero, Option.some.injEq] at h; subst h; exact ⟨rfl, rfl⟩
  | q :: L, i + 1, p, h => by
    have := ptCells_get L i p (by simpa using h)
    rw [show (i + 1) * 2 = i * 2 + 1 + 1 by omega]
    simpa [ptCells] using this
theorem AreaA.pts {w : World} {v : Value} {L : List PtV} (h : AreaA w v L) (hm : L.length ≤ 1000000) : PtsR w v L := by
  refine ⟨by omega, ?_⟩
  rcases h.2 with ⟨rfl, h0⟩ | ⟨g, cap, cur, rfl, _, hg, _, _, hsz, htk⟩
  · exact .inl ⟨List.length_eq_zero_iff.1 h0, _, _, rfl⟩
  · by_cases hL : L = []
    · subst hL; exact .inl ⟨rfl, _, _, rfl⟩
    · refine .inr ⟨g, 0, cap, rfl, List.length_pos_iff.2 hL, fun i p hp => ?_⟩
      have hi : i < L.length := (List.getElem?_eq_some_iff.1 hp).1
      have hc := ptCells_get L i p hp
      have key : ∀ j u, (ptCells L)[j]? = some u → w.cell? ⟨g, j, none⟩ = some u := by
        intro j u hu
        rw [← htk, List.getElem?_take] at hu
        split at hu
        · simp [World.cell?, hg]; simpa using hu
        · cases hu
      rw [Nat.zero_add]
      exact ⟨key _ _ hc.1, key _ _ hc.2⟩
/-- What IndexFunc tells: from 0 on, just if there is one. -/
def IdxPost (W : World) (b : Bool) (e : Ending) (w' : World) : Prop := ∃ r : Int, e = .returned (.int .i64 r) ∧ decide (0 ≤ r) = b ∧ Chg [] W w'
theorem any_drop (B : PtV → Bool) (L : List PtV) (k : Nat) (p : PtV) (h : L[k]? = some p) : (L.drop k).any B = (B p || (L.drop (k + 1)).any B) := by
  obtain ⟨hk, rfl⟩ := List.getElem?_eq_some_iff.1 h
  rw [List.drop_eq_getElem_cons hk]
  rfl
theorem clo_right (w : World) (p : PtV) : Calls Tryz.prog 138 #[.agg #[.int .i64 p.x, .int .i64 p.y]] w fun e w' => e = .returned (.bool (!p.ok)) ∧ Chg [] w w' := by
  have H := fun w => ptright_any w p
  have hA := At.new w #[.int .i64 p.x, .int .i64 p.y] 53
  have hX : Chg [] w (w.alloc (.cells #[.int .i64 p.x, .int .i64 p.y] 53)) := (Chg.refl [] w).alloc _
  have c0 := hA.cell 0
  have c1 := hA.cell 1
  go_enter Tryz.func138, Tryz.ntmps138
  go_wp2_with fail
  refine (H _).mono ?_; rintro e w' ⟨rfl, hY⟩
  go_wp2
  go_returns
  exact ⟨rfl, hX.trans hY⟩
set_option maxHeartbeats 1000000 in
theorem idx_right (W : World) (v : Value) (L : List PtV) (h : PtsR W v L) : Calls Tryz.prog 118 #[v, .func (.func 138) #[] #[]] W (IdxPost W (L.any fun p => (!p.ok))) := by
  obtain ⟨hm, h⟩ := h
  obtain ⟨R, hR⟩ : ∃ R, (L.any fun p => (!p.ok)) = R := ⟨_, rfl⟩
  rw [hR]
  have HC := fun w p => clo_right w p
  rcases h with ⟨rfl, a, cap, rfl⟩ | ⟨b, off, cap, rfl, h0, hc⟩
  · have HR := Lib.hid hR
    clear hR
    go_enter Tryz.func118, Tryz.ntmps118
    go_wp2_with fail
    go_loopg [5, 8] 0 (fun g a i wr => i = .int .i64 0 ∧ wr = W)
    case atStart => exact ⟨rfl, rfl⟩
    case round =>
      obtain ⟨rfl, rfl⟩ := hrel
      go_wp2_with (with_reducible refine hold_post ?_)
      refine Lib.hid ?_
      exact bodyPost_ret (v := .int .i64 (-1)) (by simp [results, Tryz.results118]) rfl ⟨-1, rfl, by rw [← HR.out]; rfl, Chg.refl _ _⟩
  · have Hc := Lib.hid hc
    have HR := Lib.hid (show ((L.drop 0).any fun p => (!p.ok)) = R from hR)
    clear hR hc
    have hmi : (L.length : Int) ≤ 9223372036854775807 := by omega
    generalize hn : L.length = n at *
    have Hn := Lib.hid hn
    clear hn
    go_enter Tryz.func118, Tryz.ntmps118
    go_wp2_with fail
    go_loopg [5, 8] n (fun gk a i wr => ∃ k : Nat, k + gk = n ∧ i = .int .i64 k ∧ Chg [] W wr ∧ Hid (((L.drop k).any fun p => (!p.ok)) = R))
    case atStart => exact ⟨0, by omega, rfl, Chg.refl _ _, HR⟩
    case round =>
      obtain ⟨k, hk, rfl, hX, Hk⟩ := hrel
      by_cases hlt : k < n
      · obtain ⟨p, hp⟩ : ∃ p, L[k]? = some p := ⟨L[k]'(by rw [Hn.out]; exact hlt), List.getElem?_eq_getElem _⟩
        have d0 := hX.cell (Hc.out k p hp).1 (by simp)
        have d1 := hX.cell (Hc.out k p hp).2 (by simp)
        have Hd := Lib.hid (any_drop (fun p => (!p.ok)) L k p hp)
        have Hp := Lib.hid hp
        clear hp
        have g0 : (0 : Int) ≤ (k : Int) := by omega
        have g1 : (k : Int) < (n : Int) := by omega
        have g2 : (k : Int).toNat = k := by omega
        go_wp2_with fail
        refine (HC _ p).mono ?_; rintro e w' ⟨rfl, hY⟩
        replace hX := hX.trans hY
        clear d0 d1 hY
        cases hB : (fun p => (!p.ok)) p with
        | true =>
          try dsimp only at hB
          rw [hB]
          go_wp2_with (with_reducible refine hold_post ?_)
          refine Lib.hid ?_
          exact bodyPost_ret (v := .int .i64 k) (by simp [results, Tryz.results118]) rfl ⟨k, rfl, by rw [← Hk.out, Hd.out]; (try dsimp only); rw [hB, decide_eq_true g0]; rfl, hX⟩
        | false =>
          try dsimp only at hB
          rw [hB]
          have Hk2 := Lib.hid (show ((L.drop (k + 1)).any fun p => (!p.ok)) = R by have := Hk.out; rw [Hd.out] at this; (try dsimp only at this); rw [hB, Bool.false_or] at this; exact this)
          clear hB
          go_wp2_with fail
          go_roundg (gk - 1)
          case rel => exact ⟨k + 1, by omega, by go_num, hX, Hk2⟩
          case measure => omega
      · obtain rfl : gk = 0 := by omega
        have HRf : R = false := by rw [← Hk.out, List.drop_eq_nil_of_le (by rw [Hn.out]; omega)]; rfl
        have HRF := Lib.hid HRf
        clear HRf
        go_wp2_with (with_reducible refine hold_post ?_)
        refine Lib.hid ?_
        exact bodyPost_ret (v := .int .i64 (-1)) (by simp [results, Tryz.results118]) rfl ⟨-1, rfl, by rw [HRF.out]; rfl, hX⟩
theorem has_right (W : World) (v : Value) (L : List PtV) (h : PtsR W v L) : Calls Tryz.prog 101 #[v, .func (.func 138) #[] #[]] W fun e w' => e = .returned (.bool (L.any fun p => (!p.ok))) ∧ Chg [] W w' := by
  have HI := idx_right W v L h
  generalize (L.any fun p => (!p.ok)) = R at *
  clear h
  go_enter Tryz.func101, Tryz.ntmps101
  go_wp2_with fail
  refine HI.mono ?_; rintro e w' ⟨r, rfl, hr, hX⟩
  have Hr := Lib.hid hr
  clear hr
  go_wp2_with (with_reducible refine hold_post ?_)
  all_goals (first | refine Lib.hid ?_ | skip)
  all_goals exact bodyPost_ret (v := .bool R) (by rw [← Hr.out]; simp [results, Tryz.results101, *]) rfl ⟨rfl, hX⟩
theorem ptsright_any (W : World) (v : Value) (L : List PtV) (h : PtsR W v L) : Calls Tryz.prog 135 #[v] W fun e w' => e = .returned (.bool (L.all PtV.ok)) ∧ Chg [] W w' := by
  have H := has_right W v L h
  have e : (L.any fun p => (!p.ok)) = !(L.all PtV.ok) := by rw [List.any_eq_not_all_not]; simp
  rw [e] at H
  generalize L.all PtV.ok = r at *
  go_enter Tryz.func135, Tryz.ntmps135
  go_wp2_with fail
  refine H.mono ?_; rintro e w' ⟨rfl, hY⟩
  go_wp2
  go_returns
  exact ⟨ret_bool (by simp), hY⟩
end Go.Proofs.YtpfglmlpodjneaaGreat
namespace Go.Proofs.YtpfglmlpodjneaaGreat
open Go.RowKit

def turnI (a b c : PtV) : Int := cmpI ((b.x - a.x) * (c.y - a.y)) ((b.y - a.y) * (c.x - a.x))
def turnV (a b c : PtV) : Int := if a.ok && (b.ok && c.ok) then turnI a b c else 0
theorem alloc_sz (w : World) (o : Obj) : (w.alloc o).heap.size = w.heap.size + 1 := by simp
/-- A slice just made of points. -/
theorem pts_new (w : World) (L : List PtV) (T : TypeId) (h0 : 0 < L.length) (hm : L.length ≤ 9223372036854775807) : PtsR (w.alloc (.cells (ptCells L).toArray T)) (.slice (some ⟨w.heap.size, 0, none⟩) L.length L.length) L := by
  refine ⟨hm, .inr ⟨_, _, _, rfl, h0, fun i p hp => ?_⟩⟩
  have hc := ptCells_get L i p hp
  have hA := At.new w (ptCells L).toArray T
  rw [Nat.zero_add]
  exact ⟨by rw [hA.cell]; simpa using hc.1, by rw [hA.cell]; simpa using hc.2⟩
theorem right2 (w : World) (a b : PtV) : Calls Tryz.prog 135 #[.slice (some ⟨w.heap.size, 0, none⟩) 2 2] (w.alloc (.cells #[.int .i64 a.x, .int .i64 a.y, .int .i64 b.x, .int .i64 b.y] 53)) fun e w' => e = .returned (.bool (a.ok && (b.ok))) ∧ Chg [] (w.alloc (.cells #[.int .i64 a.x, .int .i64 a.y, .int .i64 b.x, .int .i64 b.y] 53)) w' := by
  have H := ptsright_any _ _ _ (pts_new w [a, b] 53 (by simp) (by simp))
  have e : [a, b].all PtV.ok = (a.ok && (b.ok)) := by simp
  rw [e] at H
  exact H
theorem right3 (w : World) (a b c : PtV) : Calls Tryz.prog 135 #[.slice (some ⟨w.heap.size, 0, none⟩) 3 3] (w.alloc (.cells #[.int .i64 a.x, .int .i64 a.y, .int .i64 b.x, .int .i64 b.y, .int .i64 c.x, .int .i64 c.y] 53)) fun e w' => e = .returned (.bool (a.ok && (b.ok && (c.ok)))) ∧ Chg [] (w.alloc (.cells #[.int .i64 a.x, .int .i64 a.y, .int .i64 b.x, .int .i64 b.y, .int .i64 c.x, .int .i64 c.y] 53)) w' := by
  have H := ptsright_any _ _ _ (pts_new w [a, b, c] 53 (by simp) (by simp))
  have e : [a, b, c].all PtV.ok = (a.ok && (b.ok && (c.ok))) := by simp
  rw [e] at H
  exact H
theorem right4 (w : World) (a b c d : PtV) : Calls Tryz.prog 135 #[.slice (some ⟨w.heap.size, 0, none⟩) 4 4] (w.alloc (.cells #[.int .i64 a.x, .int .i64 a.y, .int .i64 b.x, .int .i64 b.y, .int .i64 c.x, .int .i64 c.y, .int .i64 d.x, .int .i64 d.y] 53)) fun e w' => e = .returned (.bool (a.ok && (b.ok && (c.ok && (d.ok))))) ∧ Chg [] (w.alloc (.cells #[.int .i64 a.x, .int .i64 a.y, .int .i64 b.x, .int .i64 b.y, .int .i64 c.x, .int .i64 c.y, .int .i64 d.x, .int .i64 d.y] 53)) w' := by
  have H := ptsright_any _ _ _ (pts_new w [a, b, c, d] 53 (by simp) (by simp))
  have e : [a, b, c, d].all PtV.ok = (a.ok && (b.ok && (c.ok && (d.ok)))) := by simp
  rw [e] at H
  exact H
theorem PtV.ok_bd {p : PtV} (h : p.ok = true) : -1099511627776 ≤ p.x ∧ p.x ≤ 1099511627776 ∧ -1099511627776 ≤ p.y ∧ p.y ≤ 1099511627776 := by
  unfold PtV.ok at h
  rw [Bool.and_eq_true, pin_iff, pin_iff] at h
  omega
theorem sub_in (a b : Int) (h : -4611686018427387903 ≤ a ∧ a ≤ 4611686018427387903) (h' : -4611686018427387903 ≤ b ∧ b ≤ 4611686018427387903) : IntKind.i64.wrap (a - b) = a - b := i64_in _ (by omega) (by omega)
/-- What Turn's three subtractions and products are like. -/
theorem turn_prep {a b c : PtV} (ha : a.ok = true) (hb : b.ok = true) (hc : c.ok = true) : ∃ d1 d2 d3 d4 : Int,
    IntKind.i64.wrap (b.x - a.x) = d1 ∧ IntKind.i64.wrap (c.y - a.y) = d2 ∧ IntKind.i64.wrap (b.y - a.y) = d3 ∧ IntKind.i64.wrap (c.x - a.x) = d4 ∧
    (-2199023255552 ≤ d1 ∧ d1 ≤ 2199023255552) ∧ (-2199023255552 ≤ d2 ∧ d2 ≤ 2199023255552) ∧ (-2199023255552 ≤ d3 ∧ d3 ≤ 2199023255552) ∧ (-2199023255552 ≤ d4 ∧ d4 ≤ 2199023255552) ∧
    (ofV (d1 * d2)).ok ∧ (ofV (d3 * d4)).ok ∧ turnI a b c = cmpV (ofV (d1 * d2)) (ofV (d3 * d4)) := by
  have A := ha; have B := hb; have C := hc
  replace A := PtV.ok_bd A; replace B := PtV.ok_bd B; replace C := PtV.ok_bd C
  refine ⟨_, _, _, _, sub_in _ _ (by omega) (by omega), sub_in _ _ (by omega) (by omega), sub_in _ _ (by omega) (by omega), sub_in _ _ (by omega) (by omega), by omega, by omega, by omega, by omega, ?_, ?_, ?_⟩
  · obtain ⟨h1, h2⟩ := imul_bd (b.x - a.x) (c.y - a.y) 2199023255552 (by omega) (by omega) (by omega) (by omega) (by omega)
    exact ofV_ok _ (by omega) (by omega)
  · obtain ⟨h1, h2⟩ := imul_bd (b.y - a.y) (c.x - a.x) 2199023255552 (by omega) (by omega) (by omega) (by omega) (by omega)
    exact ofV_ok _ (by omega) (by omega)
  · unfold turnI cmpV
    rw [ofV_val', ofV_val']
set_option maxHeartbeats 4000000 in
set_option maxRecDepth 10000 in
theorem turn_any (W : World) (a b c : PtV) : Calls Tryz.prog 136 #[.agg #[.int .i64 a.x, .int .i64 a.y], .agg #[.int .i64 b.x, .int .i64 b.y], .agg #[.int .i64 c.x, .int .i64 c.y]] W fun e w' => e = .returned (.int .i64 (turnV a b c)) ∧ Chg [] W w' := by
  have hC := ((((CL.new W 0).push #[.int .i64 a.x, .int .i64 a.y] 53).push #[.int .i64 b.x, .int .i64 b.y] 53).push #[.int .i64 c.x, .int .i64 c.y] 53)
  simp only [alloc_sz] at hC
  have HR := right3 (((W.alloc (.cells #[.int .i64 a.x, .int .i64 a.y] 53)).alloc (.cells #[.int .i64 b.x, .int .i64 b.y] 53)).alloc (.cells #[.int .i64 c.x, .int .i64 c.y] 53)) a b c
  simp only [alloc_sz] at HR
  have Ht := Lib.hid (show turnV a b c = if (a.ok && (b.ok && c.ok)) = true then turnI a b c else 0 from rfl)
  by_cases hok : (a.ok && (b.ok && c.ok)) = true
  · rw [hok] at HR
    rw [Bool.and_eq_true, Bool.and_eq_true] at hok
    obtain ⟨d1, d2, d3, d4, q1, q2, q3, q4, b1, b2, b3, b4, k1, k2, ht⟩ := turn_prep hok.1 hok.2.1 hok.2.2
    have HM1 := fun w => wmul_any w d1 d2 (by omega) (by omega) (by omega) (by omega)
    have HM2 := fun w => wmul_any w d3 d4 (by omega) (by omega) (by omega) (by omega)
    have HCm := fun w => wcmp_any w _ _ k1 k2
    rw [← ht] at HCm
    have Ht2 : Hid (turnV a b c = turnI a b c) := Lib.hid (by rw [Ht.out, if_pos (by simp [hok])])
    generalize turnI a b c = t at *
    generalize ofV (d1 * d2) = p1 at *
    generalize ofV (d3 * d4) = p2 at *
    clear hok ht k1 k2 b1 b2 b3 b4 Ht
    go_enter Tryz.func136, Tryz.ntmps136
    go_wp2_with fail
    refine HR.mono ?_; rintro e w1 ⟨rfl, hX1⟩
    replace hC := (hC.alloc0 (j := 0) _).step (j := 0) hX1
    clear hX1 HR
    go_upto_region 3 with fail
    refine wp_region_ex (fun k w => CL W [(W.heap.size + 1 + 1, #[.int .i64 c.x, .int .i64 c.y]), (W.heap.size + 1, #[.int .i64 b.x, .int .i64 b.y]), (W.heap.size, #[.int .i64 a.x, .int .i64 a.y])] 0 w) (fun _ => Chg []) [10, 21, 22] [(0, 0, false), (0, 0, false), (0, 0, false), (0, 0, false), (0, 0, false), (0, 0, false), (0, 0, false), (0, 0, false), (0, 0, false), (0, 0, false), (0, 0, true), (0, 1, false), (0, 1, false), (0, 1, false), (0, 1, false), (0, 1, false), (0, 1, false), (0, 1, false), (0, 1, false), (0, 1, false), (0, 1, false), (1, 1, true), (2, 2, true), (3, 3, false)] [13, 14, 15, 16, 17, 18, 19, 20, 21, 22, 23, 24, 25, 26, 27, 28, 29, 30, 31, 32, 33, 34, 35, 6] (by kernel_rfl) rfl (by kernel_rfl) (by kernel_rfl) (hC.drew) ?_
    simp only [List.zip_cons_cons, List.zip_nil_right]
    refine ex_det 13 [4] rfl rfl (fun _ _ _ _ _ _ _ _ => rfl) ?_
    apply Exists.intro
    refine ⟨?_, ?_⟩
    · intro wx bX kX hk1 hk2 hC hb hd K hK
      have e4 := hb 4 rfl
      simp only [exSlot, List.getD_cons_succ, List.getD_cons_zero] at e4
      simp only [execOp, e4]
      clear hb hd
      go_simp
      exact hK _ hC (Chg.refl _ _)
    refine ex_det 14 [13] rfl rfl (fun _ _ _ _ _ _ _ _ => rfl) ?_
    apply Exists.intro
    refine ⟨?_, ?_⟩
    · intro wx bX kX hk1 hk2 hC hb hd K hK
      have e13 := hd 13 _ _ rfl rfl
      try dsimp only at e13
      obtain ⟨f0, f1⟩ := hC.cells 0 rfl
      obtain ⟨f2, f3⟩ := hC.cells 1 rfl
      obtain ⟨f4, f5⟩ := hC.cells 2 rfl
      simp only [execOp, e13]
      clear hb hd
      go_simp
      exact hK _ hC (Chg.refl _ _)
    refine ex_det 15 [3] rfl rfl (fun _ _ _ _ _ _ _ _ => rfl) ?_
    apply Exists.intro
    refine ⟨?_, ?_⟩
    · intro wx bX kX hk1 hk2 hC hb hd K hK
      have e3 := hb 3 rfl
      simp only [exSlot, List.getD_cons_succ, List.getD_cons_zero] at e3
      simp only [execOp, e3]
      clear hb hd
      go_simp
      exact hK _ hC (Chg.refl _ _)
    refine ex_det 16 [15] rfl rfl (fun _ _ _ _ _ _ _ _ => rfl) ?_
    apply Exists.intro
    refine ⟨?_, ?_⟩
    · intro wx bX kX hk1 hk2 hC hb hd K hK
      have e15 := hd 15 _ _ rfl rfl
      try dsimp only at e15
      obtain ⟨f0, f1⟩ := hC.cells 0 rfl
      obtain ⟨f2, f3⟩ := hC.cells 1 rfl
      obtain ⟨f4, f5⟩ := hC.cells 2 rfl
      simp only [execOp, e15]
      clear hb hd
      go_simp
      exact hK _ hC (Chg.refl _ _)
    refine ex_det 17 [14, 16] rfl rfl (fun _ _ _ _ _ _ _ _ => rfl) ?_
    apply Exists.intro
    refine ⟨?_, ?_⟩
    · intro wx bX kX hk1 hk2 hC hb hd K hK
      have e14 := hd 14 _ _ rfl rfl
      try dsimp only at e14
      have e16 := hd 16 _ _ rfl rfl
      try dsimp only at e16
      simp only [execOp, e14, e16]
      clear hb hd
      go_simp
      exact hK _ hC (Chg.refl _ _)
    refine ex_det 18 [5] rfl rfl (fun _ _ _ _ _ _ _ _ => rfl) ?_
    apply Exists.intro
    refine ⟨?_, ?_⟩
    · intro wx bX kX hk1 hk2 hC hb hd K hK
      have e5 := hb 5 rfl
      simp only [exSlot, List.getD_cons_succ, List.getD_cons_zero] at e5
      simp only [execOp, e5]
      clear hb hd
      go_simp
      exact hK _ hC (Chg.refl _ _)
    refine ex_det 19 [18] rfl rfl (fun _ _ _ _ _ _ _ _ => rfl) ?_
    apply Exists.intro
    refine ⟨?_, ?_⟩
    · intro wx bX kX hk1 hk2 hC hb hd K hK
      have e18 := hd 18 _ _ rfl rfl
      try dsimp only at e18
      obtain ⟨f0, f1⟩ := hC.cells 0 rfl
      obtain ⟨f2, f3⟩ := hC.cells 1 rfl
      obtain ⟨f4, f5⟩ := hC.cells 2 rfl
      simp only [execOp, e18]
      clear hb hd
      go_simp
      exact hK _ hC (Chg.refl _ _)
    refine ex_det 20 [3] rfl rfl (fun _ _ _ _ _ _ _ _ => rfl) ?_
    apply Exists.intro
    refine ⟨?_, ?_⟩
    · intro wx bX kX hk1 hk2 hC hb hd K hK
      have e3 := hb 3 rfl
      simp only [exSlot, List.getD_cons_succ, List.getD_cons_zero] at e3
      simp only [execOp, e3]
      clear hb hd
      go_simp
      exact hK _ hC (Chg.refl _ _)
    refine ex_det 21 [20] rfl rfl (fun _ _ _ _ _ _ _ _ => rfl) ?_
    apply Exists.intro
    refine ⟨?_, ?_⟩
    · intro wx bX kX hk1 hk2 hC hb hd K hK
      have e20 := hd 20 _ _ rfl rfl
      try dsimp only at e20
      obtain ⟨f0, f1⟩ := hC.cells 0 rfl
      obtain ⟨f2, f3⟩ := hC.cells 1 rfl
      obtain ⟨f4, f5⟩ := hC.cells 2 rfl
      simp only [execOp, e20]
      clear hb hd
      go_simp
      exact hK _ hC (Chg.refl _ _)
    refine ex_det 22 [19, 21] rfl rfl (fun _ _ _ _ _ _ _ _ => rfl) ?_
    apply Exists.intro
    refine ⟨?_, ?_⟩
    · intro wx bX kX hk1 hk2 hC hb hd K hK
      have e19 := hd 19 _ _ rfl rfl
      try dsimp only at e19
      have e21 := hd 21 _ _ rfl rfl
      try dsimp only at e21
      simp only [execOp, e19, e21]
      clear hb hd
      go_simp
      exact hK _ hC (Chg.refl _ _)
    refine ex_det 23 [17, 22] rfl rfl (fun _ _ _ _ _ _ _ _ => rfl) ?_
    apply Exists.intro
    refine ⟨?_, ?_⟩
    · intro wx bX kX hk1 hk2 hC hb hd K hK
      have e17 := hd 17 _ _ rfl rfl
      try dsimp only at e17
      have e22 := hd 22 _ _ rfl rfl
      try dsimp only at e22
      simp only [execOp, resolve, List.map_toArray, List.map_cons, List.map_nil, e17, e22]
      clear hb hd
      go_simp
      refine (HM1 _).mono ?_; rintro e w' ⟨rfl, hX⟩
      exact ⟨_, rfl, hK _ (hC.step (j := 0) hX) hX⟩
    refine ex_det 24 [4] rfl rfl (fun _ _ _ _ _ _ _ _ => rfl) ?_
    apply Exists.intro
    refine ⟨?_, ?_⟩
    · intro wx bX kX hk1 hk2 hC hb hd K hK
      have e4 := hb 4 rfl
      simp only [exSlot, List.getD_cons_succ, List.getD_cons_zero] at e4
      simp only [execOp, e4]
      clear hb hd
      go_simp
      exact hK _ hC (Chg.refl _ _)
    refine ex_det 25 [24] rfl rfl (fun _ _ _ _ _ _ _ _ => rfl) ?_
    apply Exists.intro
    refine ⟨?_, ?_⟩
    · intro wx bX kX hk1 hk2 hC hb hd K hK
      have e24 := hd 24 _ _ rfl rfl
      try dsimp only at e24
      obtain ⟨f0, f1⟩ := hC.cells 0 rfl
      obtain ⟨f2, f3⟩ := hC.cells 1 rfl
      obtain ⟨f4, f5⟩ := hC.cells 2 rfl
      simp only [execOp, e24]
      clear hb hd
      go_simp
      exact hK _ hC (Chg.refl _ _)
    refine ex_det 26 [3] rfl rfl (fun _ _ _ _ _ _ _ _ => rfl) ?_
    apply Exists.intro
    refine ⟨?_, ?_⟩
    · intro wx bX kX hk1 hk2 hC hb hd K hK
      have e3 := hb 3 rfl
      simp only [exSlot, List.getD_cons_succ, List.getD_cons_zero] at e3
      simp only [execOp, e3]
      clear hb hd
      go_simp
      exact hK _ hC (Chg.refl _ _)
    refine ex_det 27 [26] rfl rfl (fun _ _ _ _ _ _ _ _ => rfl) ?_
    apply Exists.intro
    refine ⟨?_, ?_⟩
    · intro wx bX kX hk1 hk2 hC hb hd K hK
      have e26 := hd 26 _ _ rfl rfl
      try dsimp only at e26
      obtain ⟨f0, f1⟩ := hC.cells 0 rfl
      obtain ⟨f2, f3⟩ := hC.cells 1 rfl
      obtain ⟨f4, f5⟩ := hC.cells 2 rfl
      simp only [execOp, e26]
      clear hb hd
      go_simp
      exact hK _ hC (Chg.refl _ _)
    refine ex_det 28 [25, 27] rfl rfl (fun _ _ _ _ _ _ _ _ => rfl) ?_
    apply Exists.intro
    refine ⟨?_, ?_⟩
    · intro wx bX kX hk1 hk2 hC hb hd K hK
      have e25 := hd 25 _ _ rfl rfl
      try dsimp only at e25
      have e27 := hd 27 _ _ rfl rfl
      try dsimp only at e27
      simp only [execOp, e25, e27]
      clear hb hd
      go_simp
      exact hK _ hC (Chg.refl _ _)
    refine ex_det 29 [5] rfl rfl (fun _ _ _ _ _ _ _ _ => rfl) ?_
    apply Exists.intro
    refine ⟨?_, ?_⟩
    · intro wx bX kX hk1 hk2 hC hb hd K hK
      have e5 := hb 5 rfl
      simp only [exSlot, List.getD_cons_succ, List.getD_cons_zero] at e5
      simp only [execOp, e5]
      clear hb hd
      go_simp
      exact hK _ hC (Chg.refl _ _)
    refine ex_det 30 [29] rfl rfl (fun _ _ _ _ _ _ _ _ => rfl) ?_
    apply Exists.intro
    refine ⟨?_, ?_⟩
    · intro wx bX kX hk1 hk2 hC hb hd K hK
      have e29 := hd 29 _ _ rfl rfl
      try dsimp only at e29
      obtain ⟨f0, f1⟩ := hC.cells 0 rfl
      obtain ⟨f2, f3⟩ := hC.cells 1 rfl
      obtain ⟨f4, f5⟩ := hC.cells 2 rfl
      simp only [execOp, e29]
      clear hb hd
      go_simp
      exact hK _ hC (Chg.refl _ _)
    refine ex_det 31 [3] rfl rfl (fun _ _ _ _ _ _ _ _ => rfl) ?_
    apply Exists.intro
    refine ⟨?_, ?_⟩
    · intro wx bX kX hk1 hk2 hC hb hd K hK
      have e3 := hb 3 rfl
      simp only [exSlot, List.getD_cons_succ, List.getD_cons_zero] at e3
      simp only [execOp, e3]
      clear hb hd
      go_simp
      exact hK _ hC (Chg.refl _ _)
    refine ex_det 32 [31] rfl rfl (fun _ _ _ _ _ _ _ _ => rfl) ?_
    apply Exists.intro
    refine ⟨?_, ?_⟩
    · intro wx bX kX hk1 hk2 hC hb hd K hK
      have e31 := hd 31 _ _ rfl rfl
      try dsimp only at e31
      obtain ⟨f0, f1⟩ := hC.cells 0 rfl
      obtain ⟨f2, f3⟩ := hC.cells 1 rfl
      obtain ⟨f4, f5⟩ := hC.cells 2 rfl
      simp only [execOp, e31]
      clear hb hd
      go_simp
      exact hK _ hC (Chg.refl _ _)
    refine ex_det 33 [30, 32] rfl rfl (fun _ _ _ _ _ _ _ _ => rfl) ?_
    apply Exists.intro
    refine ⟨?_, ?_⟩
    · intro wx bX kX hk1 hk2 hC hb hd K hK
      have e30 := hd 30 _ _ rfl rfl
      try dsimp only at e30
      have e32 := hd 32 _ _ rfl rfl
      try dsimp only at e32
      simp only [execOp, e30, e32]
      clear hb hd
      go_simp
      exact hK _ hC (Chg.refl _ _)
    refine ex_det 34 [28, 33] rfl rfl (fun _ _ _ _ _ _ _ _ => rfl) ?_
    apply Exists.intro
    refine ⟨?_, ?_⟩
    · intro wx bX kX hk1 hk2 hC hb hd K hK
      have e28 := hd 28 _ _ rfl rfl
      try dsimp only at e28
      have e33 := hd 33 _ _ rfl rfl
      try dsimp only at e33
      simp only [execOp, resolve, List.map_toArray, List.map_cons, List.map_nil, e28, e33]
      clear hb hd
      go_simp
      refine (HM2 _).mono ?_; rintro e w' ⟨rfl, hX⟩
      exact ⟨_, rfl, hK _ (hC.step (j := 0) hX) hX⟩
    refine ex_det 35 [23, 34] rfl rfl (fun _ _ _ _ _ _ _ _ => rfl) ?_
    apply Exists.intro
    refine ⟨?_, ?_⟩
    · intro wx bX kX hk1 hk2 hC hb hd K hK
      have e23 := hd 23 _ _ rfl rfl
      try dsimp only at e23
      have e34 := hd 34 _ _ rfl rfl
      try dsimp only at e34
      simp only [execOp, resolve, List.map_toArray, List.map_cons, List.map_nil, e23, e34]
      clear hb hd
      go_simp
      refine (HCm _).mono ?_; rintro e w' ⟨rfl, hX⟩
      exact ⟨_, rfl, hK _ (hC.step (j := 0) hX) hX⟩
    refine ex_det 6 [35] rfl rfl (fun _ _ _ _ _ _ _ _ => rfl) ?_
    apply Exists.intro
    refine ⟨?_, ?_⟩
    · intro wx bX kX hk1 hk2 hC hb hd K hK
      have e35 := hd 35 _ _ rfl rfl
      try dsimp only at e35
      simp only [execOp, e35]
      clear hb hd
      go_simp
      exact hK _ hC (Chg.refl _ _)
    refine ex_end ?_
    intro us w2 hus hC hall
    obtain ⟨v0, us, rfl⟩ := List.exists_cons_of_length_eq_add_one hus
    replace hus := Nat.succ.inj hus
    obtain ⟨v1, us, rfl⟩ := List.exists_cons_of_length_eq_add_one hus
    replace hus := Nat.succ.inj hus
    obtain ⟨v2, us, rfl⟩ := List.exists_cons_of_length_eq_add_one hus
    replace hus := Nat.succ.inj hus
    obtain ⟨v3, us, rfl⟩ := List.exists_cons_of_length_eq_add_one hus
    replace hus := Nat.succ.inj hus
    obtain ⟨v4, us, rfl⟩ := List.exists_cons_of_length_eq_add_one hus
    replace hus := Nat.succ.inj hus
    obtain ⟨v5, us, rfl⟩ := List.exists_cons_of_length_eq_add_one hus
    replace hus := Nat.succ.inj hus
    obtain ⟨v6, us, rfl⟩ := List.exists_cons_of_length_eq_add_one hus
    replace hus := Nat.succ.inj hus
    obtain ⟨v7, us, rfl⟩ := List.exists_cons_of_length_eq_add_one hus
    replace hus := Nat.succ.inj hus
    obtain ⟨v8, us, rfl⟩ := List.exists_cons_of_length_eq_add_one hus
    replace hus := Nat.succ.inj hus
    obtain ⟨v9, us, rfl⟩ := List.exists_cons_of_length_eq_add_one hus
    replace hus := Nat.succ.inj hus
    obtain ⟨v10, us, rfl⟩ := List.exists_cons_of_length_eq_add_one hus
    replace hus := Nat.succ.inj hus
    obtain ⟨v11, us, rfl⟩ := List.exists_cons_of_length_eq_add_one hus
    replace hus := Nat.succ.inj hus
    obtain ⟨v12, us, rfl⟩ := List.exists_cons_of_length_eq_add_one hus
    replace hus := Nat.succ.inj hus
    obtain ⟨v13, us, rfl⟩ := List.exists_cons_of_length_eq_add_one hus
    replace hus := Nat.succ.inj hus
    obtain ⟨v14, us, rfl⟩ := List.exists_cons_of_length_eq_add_one hus
    replace hus := Nat.succ.inj hus
    obtain ⟨v15, us, rfl⟩ := List.exists_cons_of_length_eq_add_one hus
    replace hus := Nat.succ.inj hus
    obtain ⟨v16, us, rfl⟩ := List.exists_cons_of_length_eq_add_one hus
    replace hus := Nat.succ.inj hus
    obtain ⟨v17, us, rfl⟩ := List.exists_cons_of_length_eq_add_one hus
    replace hus := Nat.succ.inj hus
    obtain ⟨v18, us, rfl⟩ := List.exists_cons_of_length_eq_add_one hus
    replace hus := Nat.succ.inj hus
    obtain ⟨v19, us, rfl⟩ := List.exists_cons_of_length_eq_add_one hus
    replace hus := Nat.succ.inj hus
    obtain ⟨v20, us, rfl⟩ := List.exists_cons_of_length_eq_add_one hus
    replace hus := Nat.succ.inj hus
    obtain ⟨v21, us, rfl⟩ := List.exists_cons_of_length_eq_add_one hus
    replace hus := Nat.succ.inj hus
    obtain ⟨v22, us, rfl⟩ := List.exists_cons_of_length_eq_add_one hus
    replace hus := Nat.succ.inj hus
    obtain ⟨v23, us, rfl⟩ := List.exists_cons_of_length_eq_add_one hus
    replace hus := Nat.succ.inj hus
    obtain rfl := List.length_eq_zero_iff.1 hus
    clear hus
    generalize hbb : exPuts _ _ _ = bb at hall ⊢
    simp only [exPuts, Act.put, List.setIfInBounds_toArray, List.set_cons_succ, List.set_cons_zero] at hbb
    subst hbb
    obtain ⟨h23, h22, h21, h20, h19, h18, h17, h16, h15, h14, h13, h12, h11, h10, h9, h8, h7, h6, h5, h4, h3, h2, h1, h0, -⟩ := hall
    obtain rfl : v0 = _ := h0
    obtain rfl : v1 = _ := h1
    obtain rfl : v2 = _ := h2
    obtain rfl : v3 = _ := h3
    obtain rfl : v4 = _ := h4
    obtain rfl : v5 = _ := h5
    obtain rfl : v6 = _ := h6
    obtain rfl : v7 = _ := h7
    obtain rfl : v8 = _ := h8
    obtain rfl : v9 = _ := h9
    obtain rfl : v10 = _ := h10
    obtain rfl : v11 = _ := h11
    obtain rfl : v12 = _ := h12
    obtain rfl : v13 = _ := h13
    obtain rfl : v14 = _ := h14
    obtain rfl : v15 = _ := h15
    obtain rfl : v16 = _ := h16
    obtain rfl : v17 = _ := h17
    obtain rfl : v18 = _ := h18
    obtain rfl : v19 = _ := h19
    obtain rfl : v20 = _ := h20
    obtain rfl : v21 = _ := h21
    obtain rfl : v22 = _ := h22
    obtain rfl : v23 = _ := h23
    go_wp2
    go_returns
    exact ⟨by rw [Ht2.out]; rfl, hC.x⟩
  · rw [Bool.not_eq_true] at hok
    rw [hok] at HR
    have Ht2 : Hid (turnV a b c = 0) := Lib.hid (by rw [Ht.out, hok]; rfl)
    clear hok
    go_enter Tryz.func136, Tryz.ntmps136
    go_wp2_with fail
    refine HR.mono ?_; rintro e w1 ⟨rfl, hX1⟩
    replace hC := (hC.alloc0 (j := 0) _).step (j := 0) hX1
    go_wp2
    go_returns
    exact ⟨by rw [Ht2.out]; rfl, hC.x⟩
end Go.Proofs.YtpfglmlpodjneaaGreat
