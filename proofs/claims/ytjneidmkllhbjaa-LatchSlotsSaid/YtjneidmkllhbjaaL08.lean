/- Package apogeelaw08: 'awake', 'few'; the walk of FlashNil. -/
import Derived.Test.YtjneidmkllhbjaaFlw
import Derived.Test.YtjneidmkllhbjaaSh
namespace Go.Proofs.Ytjneidmkllhbjaa
open Go.RowKit

theorem ext_all (s : ByteArray) : s.extract 0 s.size = s := by
  refine by_ext (by simp) fun i hi => ?_
  simp at hi
  rw [by_extract s 0 s.size i (by omega) (Nat.le_refl _), Nat.zero_add]
theorem over_all (B t : ByteArray) (h : t.size = B.size) : over B 0 t = t := by
  have hz := over_size B 0 t (by omega)
  refine by_ext (by omega) fun i hi => ?_
  rw [over_by B 0 t (by omega) i (by omega), if_neg (by omega), if_pos (by omega), Nat.sub_zero]
theorem over_read (B : ByteArray) (off : Nat) (t : ByteArray) (h : off + t.size ≤ B.size) : (over B off t).extract off (off + t.size) = t := by
  have hz := over_size B off t h
  have hx : ((over B off t).extract off (off + t.size)).size = t.size := by simp; omega
  refine by_ext hx fun i hi => ?_
  rw [hx] at hi
  rw [by_extract _ _ _ _ (by omega) (by omega), over_by B off t h _ (by omega), if_neg (by omega), if_pos (by omega), Nat.add_sub_cancel_left]
theorem over_other (B : ByteArray) (off : Nat) (t : ByteArray) (h : off + t.size ≤ B.size) (x l : Nat) (hx : x + l ≤ off) : (over B off t).extract x (x + l) = B.extract x (x + l) := by
  have hz := over_size B off t h
  have h1 : ((over B off t).extract x (x + l)).size = l := by simp; omega
  have h2 : (B.extract x (x + l)).size = l := by simp; omega
  refine by_ext (h1.trans h2.symm) fun i hi => ?_
  rw [h1] at hi
  rw [by_extract _ _ _ _ (by omega) (by omega), by_extract _ _ _ _ (by omega) (by omega), over_by B off t h _ (by omega), if_pos (by omega)]
theorem over_twice (B : ByteArray) (off : Nat) (t u : ByteArray) (h : off + t.size ≤ B.size) (hu : u.size ≤ t.size) : over (over B off u) off t = over B off t := by
  have hz := over_size B off t h
  have hzu := over_size B off u (by omega)
  have hz2 := over_size (over B off u) off t (by omega)
  refine by_ext (by omega) fun i hi => ?_
  rw [over_by (over B off u) off t (by omega) i (by omega), over_by B off t h i (by omega)]
  split
  · rename_i h1
    rw [over_by B off u (by omega) i (by omega), if_pos h1]
  · rename_i h1
    split
    · rfl
    · rename_i h2
      rw [over_by B off u (by omega) i (by omega), if_neg h1, if_neg (by omega)]

def B8 : ByteArray := over (rep 8) 2 ((ByteArray.mk #[97, 98, 99]).extract 0 1)
theorem B8_read : B8.extract 1 (1 + 4) = ⟨#[255, 97, 255, 255]⟩ := by kernel_rfl
theorem B8_size : B8.size = 8 := by kernel_rfl

end Go.Proofs.Ytjneidmkllhbjaa
