/- The law apogee/apogeelaw02.FixSum: for every input it returns true, and its arguments read afterwards as before: the row, out of the walk. -/
import Derived.Test.YthdjanjlpgcmoaaFlu
import Derived.Test.YthdjanjlpgcmoaaSh
import Derived.WalkKit
import Derived.ProofKit
import Derived.OpenShut
import Derived.Carry
import Derived.SizedLaws
import Derived.Deep.Slices
namespace Go.Proofs.Ythdjanjlpgcmoaa.fixSum
open Go.ChangeShapes Go.WideShapes Go.ChangeAt Go.RowKit
open Go.ChangeMaps (open_string shut_string)
set_option linter.unusedVariables false

theorem own : ownKnob Try.prog.godebug = none := by kernel_rfl
theorem laidOut : laidOutB Try.prog = true := by kernel_rfl

set_option maxRecDepth 100000 in
theorem lifted (os : Os) (started : os.Started) (H : Type) (enc : TypeId × Value → H) :
    ReturnsInHanded {} Try.checked os 5 .any (Rows.fixSumSpec.pre6 enc Try.prog Try.f5 Rows.fixSumRow.domain false) (Rows.fixSumSpec.post enc Try.prog Try.f5 false true false false) := by
  refine returnsInHanded_of_change_sized (C := Try.checked) own started (by kernel_rfl) Try.func5
    (ChangeSpec.witness6 (enc := enc) (C := Try.checked) false ⟨#[], #[.slice none 0 0, .slice none 0 0], []⟩ 12 (by kernel_rfl) (by kernel_rfl) (by kernel_rfl) (by kernel_rfl)) ?_
  intro W base args ds gs before hval0 hW hcnd hsz0 _
  have hsz : (DataW.weightsEach Try.prog (Try.f5.params.toList ++ Rows.fixSumSpec.plain.varTypes Try.prog) (ds ++ gs)).all (· ≤ reachBytes) = true := hsz0
  clear hsz0
  have hval : ∀ (j : Nat) t v, Try.f5.params[j]? = some t → args[j]? = some v → Value.okWide Try.prog W .any base t v := hval0
  have hW' := hW
  obtain ⟨p, q, hA0, hV, rfl, hfz, hnd⟩ := hW
  have hA : DataW.TrodAll enc Try.prog W 0 (fun _ => true) true Try.f5.params.toList args.toList ds p := hA0
  rw [Try.params5] at hA hval hsz
  obtain ⟨v0, vs0, d0, ds0, p0, q0, hargs, rfl, rfl, h0, r0⟩ := trodAll_cons hA
  obtain ⟨v1, vs1, d1, ds1, p1, q1, rfl, rfl, rfl, h1, r1⟩ := trodAll_cons r0
  obtain ⟨rfl, rfl, rfl⟩ := trodAll_nil r1
  obtain rfl : args = #[v0, v1] := by cases args; simp_all
  obtain ⟨rfl, rfl⟩ := trodVars_none hV
  clear hA0 hval0
  simp only [List.append_nil] at hW'
  have hk0 := h0
  obtain ⟨fuel0, hf0⟩ := h0
  have hlt0 : ∀ x ∈ p0, x.block < W.heap.size := fun x hx => by simpa using hW'.lt x (by simp [hx])
  obtain ⟨a0, ha0, _⟩ := open_rep 40 _ _ (.slice (.int .i64)) _ _ (by kernel_rfl) hf0
  obtain ⟨b0, len0, cap0, rfl⟩ := okWide_slice Try.underlying35 (hval 0 35 v0 rfl rfl)
  have hq0 : len0 ≤ 140737488351232 ∧ (b0 = none → cap0 = 0) := by
    have hb : Try.prog.bytesOf 2 = 8 := by kernel_rfl
    rcases Go.Deep.open_slice Try.underlying35 hf0 with ⟨he, _⟩ | ⟨_, n9, _, _, _, D, Pl, he, _, _, _, _, hx, _⟩
    · cases (List.cons.inj he).1
      exact ⟨by omega, fun _ => rfl⟩
    · cases (List.cons.inj he).1
      have e9 := (Prod.mk.inj hx).1
      subst e9
      have h8 := sized_slice hsz (j := 0) (t := 35) (e := 2) rfl rfl Try.underlying35
      rw [hb, List.length_map, List.length_range] at h8
      unfold reachBytes at h8
      exact ⟨by omega, fun h => by cases h⟩
  have hk1 := h1
  obtain ⟨fuel1, hf1⟩ := h1
  have hlt1 : ∀ x ∈ p1, x.block < W.heap.size := fun x hx => by simpa using hW'.lt x (by simp [hx])
  obtain ⟨a1, ha1, _⟩ := open_rep 40 _ _ (.slice (.int .i64)) _ _ (by kernel_rfl) hf1
  obtain ⟨b1, len1, cap1, rfl⟩ := okWide_slice Try.underlying35 (hval 1 35 v1 rfl rfl)
  have hq1 : len1 ≤ 140737488351232 ∧ (b1 = none → cap1 = 0) := by
    have hb : Try.prog.bytesOf 2 = 8 := by kernel_rfl
    rcases Go.Deep.open_slice Try.underlying35 hf1 with ⟨he, _⟩ | ⟨_, n9, _, _, _, D, Pl, he, _, _, _, _, hx, _⟩
    · cases (List.cons.inj he).1
      exact ⟨by omega, fun _ => rfl⟩
    · cases (List.cons.inj he).1
      have e9 := (Prod.mk.inj hx).1
      subst e9
      have h8 := sized_slice hsz (j := 1) (t := 35) (e := 2) rfl rfl Try.underlying35
      rw [hb, List.length_map, List.length_range] at h8
      unfold reachBytes at h8
      exact ⟨by omega, fun h => by cases h⟩
  refine (FixSum_walk W _ a0 ha0 (fun _ _ _ e => by cases e; exact hq0) _ a1 ha1 (fun _ _ _ e => by cases e; exact hq1)).mono fun e W' ⟨he, hg⟩ => ?_
  subst he
  exact ⟨_, rfl, _, _, _, [] ++ [], _, [], hW', trodAll_cons_mk (shut_bool Try.underlying4 true) trodAll_mk0, (trodAll_cons_mk (Below.trod laidOut (by kernel_rfl) (of_decide_eq_true (by kernel_rfl)) hk0 hg hlt0) (trodAll_cons_mk (Below.trod laidOut (by kernel_rfl) (of_decide_eq_true (by kernel_rfl)) hk1 hg hlt1) trodAll_mk0)), rfl, hg.frame _, fun h => by cases h⟩

theorem over : Rows.fixSumRow.holds Try.pinned (OpenSpec.ofChange Rows.fixSumSpec) :=
  OpenClaim.holds_of_wide 5 Try.f5 rfl rfl rfl rfl rfl rfl rfl ⟨rfl, rfl, rfl, rfl, rfl⟩ rfl rfl rfl rfl rfl (by kernel_rfl) Try.func5 (by kernel_rfl)
    (of_decide_eq_true (by kernel_rfl)) (by unfold Func.isWrapper; first | (rw [if_pos (by decide +kernel)]; kernel_rfl) | (rw [if_neg (by decide +kernel)]; exact ⟨rfl, rfl⟩))
    (fun os started H enc _ => lifted os started H enc)

theorem proved : Rows.FixSumSaid := over
end Go.Proofs.Ythdjanjlpgcmoaa.fixSum
