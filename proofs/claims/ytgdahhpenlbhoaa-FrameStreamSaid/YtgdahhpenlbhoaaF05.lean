/- Frames: what the package's answers come to at the numbers of 'awake'. -/
import Derived.Test.YtgdahhpenlbhoaaFrl
import Derived.Test.YtgdahhpenlbhoaaStage
namespace Go.Proofs.Ytgdahhpenlbhoaa
open Go.RowKit

theorem FRow.form {w : World} {base : Nat} {e : TypeId} {v : Value} {L : List FV} (h : FRow w base e v L) : ∃ p cap, v = .slice p L.length cap := by
  rcases Joins.ownsRow_forms h with ⟨rfl, h0⟩ | h
  · exact ⟨none, 0, by rw [h0]⟩
  · obtain ⟨g, cap, rfl, -⟩ := h
    exact ⟨_, _, rfl⟩
theorem fcells_at (L : List FV) (k : Nat) (f : FV) (h : L[k]? = some f) : (fcells L)[k * 2]? = some (.int .i64 f.k) ∧ (fcells L)[k * 2 + 1]? = some (.string f.p) := by
  induction L generalizing k with
  | nil => simp at h
  | cons a l ih =>
    cases k with
    | zero =>
      simp at h
      subst h
      exact ⟨rfl, rfl⟩
    | succ k =>
      have := ih k (by simpa using h)
      rw [show (k + 1) * 2 = k * 2 + 1 + 1 by omega]
      exact this
/-- Where a row that isn't empty lies. -/
theorem FRow.out {w : World} {base : Nat} {e : TypeId} {v : Value} {L : List FV} (h : FRow w base e v L) (hn : 0 < L.length) : ∃ g cap, v = .slice (some ⟨g, 0, none⟩) L.length cap ∧ base ≤ g ∧ g < w.heap.size ∧
    ∀ k f, L[k]? = some f → w.cell? ⟨g, k * 2, none⟩ = some (.int .i64 f.k) ∧ w.cell? ⟨g, k * 2 + 1, none⟩ = some (.string f.p) := by
  obtain ⟨g, cap, rfl⟩ := Joins.ownsRow_form h hn
  have hl := World.ownsRow.lt h g rfl
  refine ⟨g, cap, rfl, hl.1, hl.2, fun k f hk => ?_⟩
  have hk2 : k < L.length := (List.getElem?_eq_some_iff.1 hk).1
  obtain ⟨c0, c1⟩ := fcells_at L k f hk
  exact ⟨(World.ownsRow.cellAt h (k * 2) (by omega)).trans c0, (World.ownsRow.cellAt h (k * 2 + 1) (by omega)).trans c1⟩

def f5 : FV := ⟨1, ⟨#[97, 98]⟩⟩
theorem f5_right : f5.right = true := by decide
theorem f5_size : f5.print.size = 8 := print_size f5 f5_right
theorem f5_more : fread (f5.print ++ ⟨#[120]⟩) = ⟨f5, 8, 0⟩ := (fread_print f5 f5_right _).1
theorem f5_less : fread (f5.print.extract 0 7) = ⟨FV.none, 0, 5⟩ := by kernel_rfl
theorem f5_x : fread ⟨#[120]⟩ = ⟨FV.none, 0, 3⟩ := by kernel_rfl
theorem f5_q : fread (f5.print.extract 0 7 ++ ⟨#[63]⟩) = ⟨FV.none, 0, 4⟩ := by kernel_rfl
theorem f5_3 : fread (f5.print.extract 0 3) = ⟨FV.none, 0, 5⟩ := by kernel_rfl
theorem f5_noise : scan (⟨#[110, 111, 105, 115, 101]⟩ ++ f5.print.extract 0 3) = ([], f5.print.extract 0 3, 5) := by
  rw [scan_noise 5 ⟨#[110, 111, 105, 115, 101]⟩ _ rfl (fun k hk => by
    match k, hk with
    | 0, _ => decide
    | 1, _ => decide
    | 2, _ => decide
    | 3, _ => decide
    | 4, _ => decide
    | n + 5, h => exact absurd h (by show ¬(n + 5 < 5); omega)), scan_short (by rw [f5_3])]
theorem f5_rest : scan (f5.print.extract 0 3 ++ f5.print.extract 3 f5.print.size) = ([f5], ByteArray.empty, 0) := by
  rw [ext_app _ 0 3 _ (by omega) (by rw [f5_size]; omega) (Nat.le_refl _), ext_all]
  have := scan_print f5 f5_right ByteArray.empty
  rw [app_empty] at this
  rw [this, scan_none rfl]
theorem f5_wrong : FV.print ⟨256, ByteArray.empty⟩ = ByteArray.empty := by rfl

end Go.Proofs.Ytgdahhpenlbhoaa
