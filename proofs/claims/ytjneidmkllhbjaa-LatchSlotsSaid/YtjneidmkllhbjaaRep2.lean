/- bytes.Repeat of one byte: the walk. -/
import Derived.Test.YtjneidmkllhbjaaRep
import Derived.Laws.Externs
import Derived.Deep.RegionLaw
import Derived.Test.YtjneidmkllhbjaaStage
import Derived.Test.YtjneidmkllhbjaaStage
namespace Go.Proofs.Ytjneidmkllhbjaa
open Go.RowKit

def rep (n : Nat) : ByteArray := ⟨(List.replicate n 255).toArray⟩
theorem rep_size (n : Nat) : (rep n).size = n := by show (List.replicate n (255 : UInt8)).toArray.size = n; simp
theorem rep_by (n j : Nat) (h : j < n) : by_ (rep n) j = 255 := by
  unfold by_ rep
  rw [List.getD_eq_getElem?_getD]
  simp [h]

/-- Row r begins with k bytes ff, and has room for n. -/
def FrN (w : World) (r n k : Nat) : Prop := ∃ cur : Array Value, w.heap[r]? = some (.cells cur 5 (0, 0)) ∧ n ≤ cur.size ∧ ∀ j, j < k → cur[j]? = some (.int .u8 255)
theorem rep_at (m j : Nat) (v : Value) (h : (List.replicate m (Value.int .u8 255))[j]? = some v) : v = .int .u8 255 ∧ j < m := by
  have h1 := (List.getElem?_eq_some_iff.1 h).1
  rw [List.length_replicate] at h1
  rw [List.getElem?_replicate, if_pos h1] at h
  exact ⟨(Option.some.inj h).symm, h1⟩
/-- m more bytes ff laid behind k. -/
theorem FrN.more {w : World} {r n k : Nat} {cur : Array Value} (hg : w.heap[r]? = some (.cells cur 5 (0, 0))) (hn : n ≤ cur.size) (hc : ∀ j, j < k → cur[j]? = some (.int .u8 255)) (m : Nat) (h : k + m ≤ n) :
    FrN (w.setRow r (cur.toList.take k ++ List.replicate m (Value.int .u8 255) ++ cur.toList.drop (k + m)).toArray) r n (k + m) := by
  refine ⟨_, setRow_heap w r cur _ _ _ hg, by simp; omega, fun j hj => ?_⟩
  have hl : cur.toList.length = cur.size := by simp
  rw [List.getElem?_toArray, List.append_assoc]
  by_cases h1 : j < k
  · rw [List.getElem?_append_left (by simp; omega), List.getElem?_take_of_lt h1]
    simpa using hc j h1
  · rw [List.getElem?_append_right (by simp; omega), List.getElem?_append_left (by simp; omega), List.getElem?_replicate, if_pos (by simp; omega)]

structure CRp (w1 w2 : World) (q : Nat) (w : World) : Prop where
  a : q = 0 → w = w1
  b : q = 1 → w = w2

set_option maxHeartbeats 2000000 in
theorem repeat_any (w : World) (g n : Nat) (hn0 : 1 ≤ n) (hn : n ≤ 4096) (hA : At w g #[.int .u8 255]) : Calls Try.prog 32 #[.slice (some ⟨g, 0, none⟩) 1 1, .int .i64 n] w fun e w' =>
    ∃ r, e = .returned (.slice (some ⟨r, 0, none⟩) n n) ∧ w.heap.size ≤ r ∧ Fr w' r (rep n) ∧ Chg [] w w' := by
  have hgl := hA.lt
  obtain ⟨cs, hrunM, hle, hmax⟩ := Lib.run_makeNoZero (P := Try.prog) w #[3] 52 5 und_bytes n (by omega)
  have hcall : (callFunc 41 #[.int .i64 (n : Int)]).run Try.prog w = .ok (.value (.slice (some ⟨w.heap.size, 0, none⟩) n cs.size)) ((w.alloc (.cells cs 5)).drewN 2) := by
    rw [run_callFunc_extern Try.func41 (by kernel_rfl) (by kernel_rfl) (by kernel_rfl) (e := Extern.BytealgMakeNoZero.makeNoZero #[3] #[52]) (by kernel_rfl), hrunM]
    rfl
  clear hrunM
  have i1 : (n : Int) ≤ (cs.size : Int) := by omega
  have HM := fun w => mul_one' w (n : Int) (by omega) (by omega)
  have hA2 := (hA.alloc (.cells cs 5)).drewN 2
  have hR : ((w.alloc (.cells cs 5)).drewN 2).heap[w.heap.size]? = some (.cells cs 5 (0, 0)) := (MapKept.heap_alloc w _).1
  have hX0 : Chg [] w ((w.alloc (.cells cs 5)).drewN 2) := ((Chg.refl [] w).alloc _).drewN 2
  have hc0 := hA2.cell 0
  have hcp := run_copy_row (P := Try.prog) ((w.alloc (.cells cs 5)).drewN 2) 52 52 3 5 w.heap.size 0 n n ⟨g, 0, none⟩ 1 1 cs 5 (List.replicate 1 (Value.int .u8 255)) und_bytes info_u8s hR
    (by show 1 = min 1 n; omega) (fun j v hj => by obtain ⟨rfl, hj1⟩ := rep_at 1 j v hj; obtain rfl : j = 0 := by omega
                                                   exact hc0) (by show 0 + 1 ≤ cs.size; omega) (by simp [Value.oneCell'])
  have hF := FrN.more (k := 0) (n := n) hR (by omega) (fun j hj => absurd hj (by omega)) 1 (by omega)
  have hX : Chg [] w (((w.alloc (.cells cs 5)).drewN 2).setRow w.heap.size (cs.toList.take 0 ++ List.replicate 1 (Value.int .u8 255) ++ cs.toList.drop (0 + 1)).toArray) := hX0.setRow (Or.inr (Nat.le_refl _)) _
  rw [show (List.replicate 1 (Value.int .u8 255)).length = 1 from rfl] at hcp
  clear hR hX0 hc0 hA2
  generalize ((w.alloc (.cells cs 5)).drewN 2).setRow w.heap.size (cs.toList.take 0 ++ List.replicate 1 (Value.int .u8 255) ++ cs.toList.drop (0 + 1)).toArray = w2 at *
  have hzz : w.heap.size ≤ w.heap.size := Nat.le_refl _
  generalize hz : w.heap.size = z at *
  go_enter Try.func32, Try.ntmps32
  go_wp2_with fail
  refine (HM _).mono ?_; rintro e w' ⟨rfl, rfl⟩
  go_wp2_with fail
  clear hcp hcall HM
  go_loopg [10] (n - 1) (fun gg bv wr => ∃ k : Nat, 1 ≤ k ∧ k ≤ n ∧ gg = n - k ∧ bv = .int .i64 k ∧ FrN wr z n k ∧ Chg [] w wr)
  case atStart => exact ⟨1, by omega, hn0, rfl, rfl, hF, hX⟩
  case round =>
    obtain ⟨k, hk1, hkn, rfl, rfl, hFr, hXr⟩ := hrel
    by_cases hlt : k < n
    · obtain ⟨m, hm, hm0, hmk, hmn⟩ : ∃ m : Nat, m = min k (n - k) ∧ 0 < m ∧ m ≤ k ∧ k + m ≤ n := ⟨_, rfl, by omega, by omega, by omega⟩
      obtain ⟨cur, hg, hcn, hc⟩ := hFr
      have hcp : ∀ W : World, W.heap[z]? = some (.cells cur 5 (0, 0)) → (Builtin.copy_ #[52, 52] 3 #[.slice (some ⟨z, k, none⟩) (n - k) (n - k), .slice (some ⟨z, 0, none⟩) k n]).run Try.prog W =
          .ok (goInt m) (W.setRow z (cur.toList.take k ++ List.replicate m (Value.int .u8 255) ++ cur.toList.drop (k + m)).toArray) := fun W hW => by
        have := run_copy_row (P := Try.prog) W 52 52 3 5 z k (n - k) (n - k) ⟨z, 0, none⟩ k n cur 5 (List.replicate m (Value.int .u8 255)) und_bytes info_u8s hW
          (by rw [List.length_replicate]; show m = min k (n - k); omega) (fun j v hj => by
            obtain ⟨rfl, hj1⟩ := rep_at m j v hj
            have hadd : (⟨z, 0, none⟩ : Addr).add j = ⟨z, j, none⟩ := by unfold Addr.add; split <;> simp_all
            rw [hadd]
            simp [World.cell?, hW, hc j (by omega)]) (by rw [List.length_replicate]; omega) (by simp [Value.oneCell'])
        rw [List.length_replicate] at this
        exact this
      have hc1 := hcp wr hg
      have hc2 := hcp wr.drew hg
      have hF2 := FrN.more (k := k) (n := n) hg hcn hc m hmn
      have hX2 := hXr.setRow (r := z) (Or.inr (by omega)) (cur.toList.take k ++ List.replicate m (Value.int .u8 255) ++ cur.toList.drop (k + m)).toArray
      clear hcp hg hc hcn
      clear hc1
      have hF2 : FrN (wr.drew.setRow z (cur.toList.take k ++ List.replicate m (Value.int .u8 255) ++ cur.toList.drop (k + m)).toArray) z n (k + m) := hF2
      have hX2 : Chg [] w (wr.drew.setRow z (cur.toList.take k ++ List.replicate m (Value.int .u8 255) ++ cur.toList.drop (k + m)).toArray) := hX2.drew
      generalize wr.drew.setRow z (cur.toList.take k ++ List.replicate m (Value.int .u8 255) ++ cur.toList.drop (k + m)).toArray = wq at *
      have hw8 : IntKind.i64.wrap ((k : Int) + (m : Int)) = (k : Int) + (m : Int) := i64_in _ (by omega) (by omega)
      have hki : (k : Int) < n := by omega
      have hnk : ¬n = k := by omega
      clear hm
      go_wp2_with fail
      refine wp_region_stage (CRp wr.drew wq) [7] [(0, 1, false), (0, 0, false), (0, 0, false), (0, 0, false), (0, 0, false), (0, 0, false), (0, 0, false), (0, 0, true), (1, 1, false), (1, 1, false)]
        (by kernel_rfl) (by kernel_rfl) (by kernel_rfl) (⟨fun _ => rfl, fun h => absurd h (by omega)⟩) ?_
      simp only [List.zip_cons_cons, List.zip_nil_right]
      refine wpStage_yes (by go_simp) ?_
      intro K hK
      apply Exists.intro
      refine ⟨fun kk ww hk1 hk2 hC => ?_, ?_⟩
      · go_simp
        with_reducible exact rfl
      go_simp
      refine hK _ ?_
      clear hK K
      refine wpStage_yes (by go_simp) ?_
      intro K hK
      apply Exists.intro
      refine ⟨fun kk ww hk1 hk2 hC => ?_, ?_⟩
      · go_simp
        with_reducible exact rfl
      go_simp
      refine hK _ ?_
      clear hK K
      refine wpStage_yes (by go_simp) ?_
      intro K hK
      apply Exists.intro
      refine ⟨fun kk ww hk1 hk2 hC => ?_, ?_⟩
      · go_simp
        with_reducible exact rfl
      go_simp
      refine hK _ ?_
      clear hK K
      refine wpStage_yes (by go_simp) ?_
      intro K hK
      apply Exists.intro
      refine ⟨fun kk ww hk1 hk2 hC => ?_, ?_⟩
      · go_simp
        with_reducible exact rfl
      go_simp
      refine hK _ ?_
      clear hK K
      refine wpStage_yes (by go_simp) ?_
      intro K hK
      apply Exists.intro
      refine ⟨fun kk ww hk1 hk2 hC => ?_, ?_⟩
      · go_simp
        with_reducible exact rfl
      go_simp
      refine hK _ ?_
      clear hK K
      refine wpStage_yes (by go_simp) ?_
      intro K hK
      apply Exists.intro
      refine ⟨fun kk ww hk1 hk2 hC => ?_, ?_⟩
      · go_simp
        with_reducible exact rfl
      go_simp
      refine hK _ ?_
      clear hK K
      refine wpStage_yes (by go_simp) ?_
      intro K hK
      apply Exists.intro
      refine ⟨fun kk ww hk1 hk2 hC => ?_, ?_⟩
      · go_simp
        with_reducible exact rfl
      go_simp
      refine hK _ ?_
      clear hK K
      refine wpStage_yes (by go_simp) ?_
      intro K hK
      apply Exists.intro
      refine ⟨fun kk ww hk1 hk2 hC => ?_, ?_⟩
      · obtain rfl : kk = 0 := by omega
        obtain rfl := hC.a rfl
        go_simp
        exact ⟨rfl, fun h => absurd h (by omega), fun _ => rfl⟩
      go_simp
      refine hK _ ?_
      clear hK K
      refine wpStage_yes (by go_simp) ?_
      intro K hK
      apply Exists.intro
      refine ⟨fun kk ww hk1 hk2 hC => ?_, ?_⟩
      · go_simp
        with_reducible exact rfl
      go_simp
      refine hK _ ?_
      clear hK K
      refine wpStage_yes (by go_simp) ?_
      intro K hK
      apply Exists.intro
      refine ⟨fun kk ww hk1 hk2 hC => ?_, ?_⟩
      · go_simp
        with_reducible exact rfl
      go_simp
      refine hK _ ?_
      clear hK K
      refine wpStage_nil (fun ww hC => ?_)
      obtain rfl := hC.b rfl
      go_wp2_with fail
      go_roundg (n - (k + m))
      case rel => exact ⟨k + m, by omega, hmn, rfl, by go_num, hF2, hX2⟩
      case measure => omega
    · obtain rfl : k = n := by omega
      obtain ⟨cur, hg, hcn, hc⟩ := hFr
      go_wp2
      go_returns
      exact ⟨z, rfl, by omega, ⟨cur, _, hg, by rw [rep_size]; exact hcn, fun j hj => by rw [rep_size] at hj; rw [rep_by k j hj]; exact hc j hj⟩, hXr⟩
end Go.Proofs.Ytjneidmkllhbjaa
