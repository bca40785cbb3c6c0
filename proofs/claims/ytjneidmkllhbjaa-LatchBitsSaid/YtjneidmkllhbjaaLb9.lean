/- The law LatchBits. -/
import Derived.Test.YtjneidmkllhbjaaLn9
import Derived.Laws.BitsAllLaws
namespace Go.Proofs.Ytjneidmkllhbjaa
open Go.RowKit

/-- A row of bytes of its own, as a string's. -/
structure BsA (w : World) (y : Nat) (s : ByteArray) : Prop where
  lt : y < w.heap.size
  c : ∀ j, j < s.size → w.cell? ⟨y, j, none⟩ = some (.int .u8 (by_ s j))
  f : ∀ j, j < s.size → w.frozen? ⟨y, j, none⟩ = false
/-- .. with one byte put anew. -/
def BsX (w : World) (y : Nat) (s : ByteArray) (k : Nat) (x : Int) : Prop := ∀ j, j < s.size → w.cell? ⟨y, j, none⟩ = some (.int .u8 (if j = k then x else by_ s j))
theorem BsA.keep {S : List Nat} {w w' : World} {y : Nat} {s : ByteArray} (h : BsA w y s) (hX : Chg S w w') (hn : y ∉ S) : BsA w' y s :=
  ⟨Nat.lt_of_lt_of_le h.lt hX.size, fun j hj => hX.cell (h.c j hj) hn, fun j hj => by
    have := h.f j hj
    unfold World.frozen? at this ⊢
    rw [hX.block y h.lt hn]; exact this⟩
theorem BsA.put {w : World} {y : Nat} {s : ByteArray} (h : BsA w y s) (k : Nat) (hk : k < s.size) (x : Int) : BsX (w.setCell ⟨y, k, none⟩ (.int .u8 x)) y s k x := by
  intro j hj
  by_cases hjk : j = k
  · subst hjk
    rw [if_pos rfl]
    exact World.cell?_setCell_same _ _ _ (h.c j hj)
  · rw [if_neg hjk, World.cell?_setCell_other _ _ _ _ (by intro e; simp at e; try exact hjk e.symm)]
    exact h.c j hj
theorem bytes_new (w : World) (r : ByteArray) : ∃ w' cap, (convert 9 52 (.string r)).run Try.prog w = .ok (.slice (some ⟨w.heap.size, 0, none⟩) r.size cap) w' ∧ BsA w' w.heap.size r ∧ Chg [] w w' := by
  have hX : Chg [] w (w.drew.alloc (.cells (bytesRow r (grownCap w r.size 0 5)) 5 ((bytesRow r (grownCap w r.size 0 5)).size, (bytesRow r (grownCap w r.size 0 5)).size + 1))) := (Chg.refl _ _).drew.alloc _
  refine ⟨_, _, run_bytes_of_string w 9 52 5 r und_str und_bytes und_u8, ⟨by show w.heap.size < (w.heap.push _).size; simp, fun j h => ?_, fun j h => ?_⟩, hX⟩
  · have h1 := World.cell?_alloc_mark w.drew (bytesRow r (grownCap w r.size 0 5)) 5 ((bytesRow r (grownCap w r.size 0 5)).size, (bytesRow r (grownCap w r.size 0 5)).size + 1) j
    have h2 := bytesRow_at r (grownCap w r.size 0 5) j h
    rw [show ((r.data[j]'(by simpa using h)).toNat : Int) = by_ r j from by_get r j h] at h2
    exact h1.trans h2
  · have h1 := World.frozen?_alloc_mark w.drew (bytesRow r (grownCap w r.size 0 5)) 5 (bytesRow r (grownCap w r.size 0 5)).size ((bytesRow r (grownCap w r.size 0 5)).size + 1) j
    have h2 := bytesRow_at r (grownCap w r.size 0 5) j h
    have h3 := (Array.getElem?_eq_some_iff.1 h2).1
    refine h1.trans ?_
    rw [decide_eq_false (by omega)]; rfl
theorem u64_bd (a : Int) : 0 ≤ IntKind.u64.wrap a ∧ IntKind.u64.wrap a ≤ 18446744073709551615 := Go.bounds_u64 (wf_wrap .u64 a)
theorem umod_bd (a d : Int) (h0 : 0 < d) (h1 : d ≤ 1000000) : 0 ≤ wrap64 ((IntKind.u64.wrap a).tmod d) ∧ wrap64 ((IntKind.u64.wrap a).tmod d) < d := by
  obtain ⟨h2, h3⟩ := u64_bd a
  have e : (IntKind.u64.wrap a).tmod d = IntKind.u64.wrap a % d := Int.tmod_eq_emod_of_nonneg h2
  have h4 := Int.emod_nonneg (IntKind.u64.wrap a) (show d ≠ 0 by omega)
  have h5 := Int.emod_lt_of_pos (IntKind.u64.wrap a) h0
  rw [e, IntWalk.wrap64_in _ ⟨by omega, by omega⟩]
  exact ⟨h4, h5⟩

theorem by_big (s : ByteArray) (j : Nat) (h : s.size ≤ j) : by_ s j = 0 := by
  unfold by_
  rw [List.getD_eq_getElem?_getD, List.getElem?_eq_none (by simpa using h)]
  rfl
theorem shl_u8 (w : World) (m : Nat) (h : m < 8) : (binOp .shl 5 (.int .u8 1) (.int .i64 (m : Int))).run Try.prog w = .ok (.int .u8 ((2 ^ m : Nat) : Int)) w := by
  match m, h with
  | 0, _ | 1, _ | 2, _ | 3, _ | 4, _ | 5, _ | 6, _ | 7, _ => rfl
theorem wrap_pow (m : Nat) (h : m < 8) : IntKind.u8.wrap (2 ^ m) = ((2 ^ m : Nat) : Int) := by
  match m, h with
  | 0, _ | 1, _ | 2, _ | 3, _ | 4, _ | 5, _ | 6, _ | 7, _ => rfl
theorem xor_ne : ∀ a : Fin 256, ∀ m : Fin 8, (a.val ^^^ 2 ^ m.val) ≠ a.val ∧ (a.val ^^^ 2 ^ m.val) < 256 := by decide +kernel
theorem flip_ne (a : Int) (m : Nat) (h0 : 0 ≤ a) (h1 : a ≤ 255) (hm : m < 8) : bits .xor .u8 a ((2 ^ m : Nat) : Int) ≠ a ∧ 0 ≤ bits .xor .u8 a ((2 ^ m : Nat) : Int) ∧ bits .xor .u8 a ((2 ^ m : Nat) : Int) ≤ 255 := by
  have hp : 2 ^ m < 256 := by
    match m, hm with
    | 0, _ | 1, _ | 2, _ | 3, _ | 4, _ | 5, _ | 6, _ | 7, _ => decide
  have := xor_ne ⟨a.toNat, by omega⟩ ⟨m, hm⟩
  dsimp only at this
  generalize 2 ^ m = p2 at *
  rw [u8_xor a _ h0 (by omega) (by omega) (by omega)]
  simp only [Int.toNat_natCast] at this ⊢
  omega
set_option maxRecDepth 100000 in
set_option maxHeartbeats 8000000 in
theorem lbits_yes (W : World) (q : RcV) (n : Int) (hq : q.right = true) : Calls Try.prog 5 #[.agg q.cells, .int .i64 n] W fun e w' => e = .returned (.bool true) ∧ Below W.heap.size W w' := by
  have HLP := fun w => lprint_any w q
  have hpr : q.print = strOfNums q.all := by unfold RcV.print; rw [hq]; rfl
  have hisr := (isRec_print hq).1
  have hz24 : (strOfNums q.all).size = 24 := by rw [strOfNums_size, RcV.all_len]
  have hne := str24_ne hz24
  rw [hpr] at HLP
  clear hpr
  generalize strOfNums q.all = t at *
  have C := (CL.new W 0).push q.cells 23
  rw [show q.cells = #[.int .i64 q.seq, .int .i64 q.cyc, .int .i64 q.ph, .int .i64 q.st, .int .i64 q.fl, .int .i64 q.vi, .int .i64 q.di, .int .i64 q.inv, .int .i64 q.inph] from rfl] at *
  replace HLP := Lib.hid HLP
  have Hz := Lib.hid hz24
  have hz1 : 24 ≤ t.size := by omega
  have hz2 : t.size ≤ 24 := by omega
  clear hz24 hq
  have bm := umod_bd n 192 (by omega) (by omega)
  go_enter Try.func5, Try.ntmps5
  go_upto_region 1 with fail
  generalize hz : W.heap.size = z2 at *
  have hzW : W.heap.size ≤ z2 := by omega
  generalize W.alloc (.cells #[.int .i64 q.seq, .int .i64 q.cyc, .int .i64 q.ph, .int .i64 q.st, .int .i64 q.fl, .int .i64 q.vi, .int .i64 q.di, .int .i64 q.inv, .int .i64 q.inph] 23) = w0 at *
  have cc := (C.get 0 rfl).cell
  dsimp only at cc
  have c0 := cc 0; have c1 := cc 1; have c2 := cc 2; have c3 := cc 3; have c4 := cc 4; have c5 := cc 5; have c6 := cc 6; have c7 := cc 7; have c8 := cc 8
  clear cc
  go_wp2_with fail
  refine (HLP.out _).mono ?_; rintro e w1 ⟨rfl, hX1⟩
  replace C := C.step (j := 0) hX1
  clear hX1 c0 c1 c2 c3 c4 c5 c6 c7 c8
  go_wp2_with fail
  refine (awake09 _).mono ?_; rintro e w2 ⟨rfl, hX2⟩
  replace C := C.step (j := 0) hX2
  clear hX2
  go_upto_region 5 with fail
  generalize wrap64 ((IntKind.u64.wrap n).tmod 192) = p at *
  obtain ⟨w3, cap, hcv, hB, hX3⟩ := bytes_new w2 t
  have hyW : W.heap.size ≤ w2.heap.size := C.x.size
  replace C := C.step (j := 0) hX3
  go_upto_region 6 with fail
  clear hcv hX3
  generalize w2.heap.size = y at *
  obtain ⟨kk, m, rfl, hk, hm⟩ : ∃ kk m : Nat, p = 8 * (kk : Int) + (m : Int) ∧ kk < 24 ∧ m < 8 := ⟨(p / 8).toNat, (p % 8).toNat, by omega, by omega, by omega⟩
  have d1 : (8 * (kk : Int) + (m : Int)).tdiv 8 = (kk : Int) := by rw [Int.tdiv_eq_ediv_of_nonneg (by omega)]; omega
  have d2 : (8 * (kk : Int) + (m : Int)).tmod 8 = (m : Int) := by rw [Int.tmod_eq_emod_of_nonneg (by omega)]; omega
  have d3 : IntKind.i64.wrap (kk : Int) = (kk : Int) := IntWalk.i64_in _ (by omega)
  have hb := by_bd t kk
  obtain ⟨f1, f2, f3⟩ := flip_ne (by_ t kk) m hb.1 hb.2 hm
  have hkt : (kk : Int) < (t.size : Int) := by omega
  have hk0 : (0 : Int) ≤ (kk : Int) := by omega
  have hw8 := wrap_pow m hm
  rw [← hw8] at f1 f2 f3
  clear hw8
  obtain ⟨x, hx⟩ : ∃ x, bits .xor .u8 (by_ t kk) (IntKind.u8.wrap (2 ^ m)) = x := ⟨_, rfl⟩
  rw [hx] at f1 f2 f3
  refine wp_region_ex (fun k w => (k = 0 → BsA w y t ∧ Chg [] W w) ∧ (k = 1 → BsX w y t kk x ∧ Chg [] W w)) (fun _ _ => True) [10] [(0, 0, false), (0, 0, false), (0, 0, false), (0, 0, false), (0, 0, false), (0, 0, false), (0, 0, false), (0, 0, false), (0, 0, false), (0, 0, false), (0, 0, true)] [24, 25, 26, 27, 28, 29, 30, 31, 32, 33] (by kernel_rfl) rfl (by kernel_rfl) (by kernel_rfl) (⟨fun _ => ⟨hB.keep ((Chg.refl [] _).drew) (by simp), C.x.drew⟩, fun h => absurd h (by decide)⟩) ?_
  simp only [List.zip_cons_cons, List.zip_nil_right]
  refine ex_det 24 [6] rfl rfl (fun _ _ _ _ _ _ _ _ => rfl) ?_
  apply Exists.intro
  refine ⟨?_, ?_⟩
  · intro wx b k hk1 hk2 hC hb hd K hK
    have e6 := hb 6 rfl
    simp only [exSlot, List.getD_cons_succ, List.getD_cons_zero] at e6
    simp only [execOp, e6]
    clear hb hd
    go_simp
    exact hK _ hC (trivial)
  refine ex_det 25 [1] rfl rfl (fun _ _ _ _ _ _ _ _ => rfl) ?_
  apply Exists.intro
  refine ⟨?_, ?_⟩
  · intro wx b k hk1 hk2 hC hb hd K hK
    have e1 := hb 1 rfl
    simp only [exSlot, List.getD_cons_succ, List.getD_cons_zero] at e1
    simp only [execOp, e1]
    clear hb hd
    go_simp
    exact hK _ hC (trivial)
  refine ex_det 26 [25] rfl rfl (fun _ _ _ _ _ _ _ _ => rfl) ?_
  apply Exists.intro
  refine ⟨?_, ?_⟩
  · intro wx b k hk1 hk2 hC hb hd K hK
    have e25 := hd 25 _ _ rfl rfl
    try dsimp only at e25
    simp only [execOp, e25]
    clear hb hd
    go_simp
    exact hK _ hC (trivial)
  refine ex_det 27 [24, 26] rfl rfl (fun _ _ _ _ _ _ _ _ => rfl) ?_
  apply Exists.intro
  refine ⟨?_, ?_⟩
  · intro wx b k hk1 hk2 hC hb hd K hK
    have e24 := hd 24 _ _ rfl rfl
    try dsimp only at e24
    have e26 := hd 26 _ _ rfl rfl
    try dsimp only at e26
    simp only [execOp, e24, e26]
    clear hb hd
    go_simp
    exact hK _ hC (trivial)
  refine ex_det 28 [27] rfl rfl (fun _ _ _ _ _ _ _ _ => rfl) ?_
  apply Exists.intro
  refine ⟨?_, ?_⟩
  · intro wx b k hk1 hk2 hC hb hd K hK
    have e27 := hd 27 _ _ rfl rfl
    try dsimp only at e27
    have hcK := ((hC.1 (by omega)).1.c kk (by omega))
    simp only [execOp, e27]
    clear hb hd
    go_simp
    exact hK _ hC (trivial)
  refine ex_det 29 [1] rfl rfl (fun _ _ _ _ _ _ _ _ => rfl) ?_
  apply Exists.intro
  refine ⟨?_, ?_⟩
  · intro wx b k hk1 hk2 hC hb hd K hK
    have e1 := hb 1 rfl
    simp only [exSlot, List.getD_cons_succ, List.getD_cons_zero] at e1
    simp only [execOp, e1]
    clear hb hd
    go_simp
    exact hK _ hC (trivial)
  refine ex_det 30 [29] rfl rfl (fun _ _ _ _ _ _ _ _ => rfl) ?_
  apply Exists.intro
  refine ⟨?_, ?_⟩
  · intro wx b k hk1 hk2 hC hb hd K hK
    have e29 := hd 29 _ _ rfl rfl
    try dsimp only at e29
    simp only [execOp, e29]
    clear hb hd
    go_simp
    exact hK _ hC (trivial)
  refine ex_det 31 [30] rfl rfl (fun _ _ _ _ _ _ _ _ => rfl) ?_
  apply Exists.intro
  refine ⟨?_, ?_⟩
  · intro wx b k hk1 hk2 hC hb hd K hK
    have e30 := hd 30 _ _ rfl rfl
    try dsimp only at e30
    have hsh := shl_u8 wx m hm
    simp only [execOp, e30]
    clear hb hd
    go_simp
    exact hK _ hC (trivial)
  refine ex_det 32 [28, 31] rfl rfl (fun _ _ _ _ _ _ _ _ => rfl) ?_
  apply Exists.intro
  refine ⟨?_, ?_⟩
  · intro wx b k hk1 hk2 hC hb hd K hK
    have e28 := hd 28 _ _ rfl rfl
    try dsimp only at e28
    have e31 := hd 31 _ _ rfl rfl
    try dsimp only at e31
    simp only [execOp, e28, e31]
    clear hb hd
    go_simp
    exact hK _ hC (trivial)
  refine ex_det 33 [24, 26] rfl rfl (fun _ _ _ _ _ _ _ _ => rfl) ?_
  apply Exists.intro
  refine ⟨?_, ?_⟩
  · intro wx b k hk1 hk2 hC hb hd K hK
    have e24 := hd 24 _ _ rfl rfl
    try dsimp only at e24
    have e26 := hd 26 _ _ rfl rfl
    try dsimp only at e26
    simp only [execOp, e24, e26]
    clear hb hd
    go_simp
    exact hK _ hC (trivial)
  refine ex_unit (fun _ _ => True) [33, 32] rfl rfl (fun _ _ _ _ _ _ _ _ => rfl) (fun _ _ _ _ _ => trivial) ?_ ?_
  · intro wx b k hk1 hk2 hC hb hd K hK
    have e33 := hd 33 _ _ rfl rfl
    try dsimp only at e33
    have e32 := hd 32 _ _ rfl rfl
    try dsimp only at e32
    simp only [execOp, e33, e32]
    clear hb hd
    have hA0 := (hC.1 (by omega)).1
    have hcK := hA0.c kk (by omega)
    have hfK := hA0.f kk (by omega)
    go_simp
    exact hK _ trivial ⟨fun h => absurd h (by simp), fun _ => ⟨hA0.put kk (by omega) x, (hC.1 (by omega)).2.setCell (.inr hyW) _⟩⟩ trivial
  refine ex_end ?_
  intro us w2 hus hC hall
  obtain ⟨v0, us, rfl⟩ := List.exists_cons_of_length_eq_add_one hus
  replace hus := Nat.succ.inj hus
  obtain ⟨v1, us, rfl⟩ := List.exists_cons_of_length_eq_add_one hus
  replace hus := Nat.succ.inj hus
  obtain ⟨v2, us, rfl⟩ := List.exists_cons_of_length_eq_add_one hus
  replace hus := Nat.succ.inj hus
  obtain ⟨v3, us, rfl⟩ := List.exists_cons_of_length_eq_add_one hus
  replace hus := Nat.succ.inj hus
  obtain ⟨v4, us, rfl⟩ := List.exists_cons_of_length_eq_add_one hus
  replace hus := Nat.succ.inj hus
  obtain ⟨v5, us, rfl⟩ := List.exists_cons_of_length_eq_add_one hus
  replace hus := Nat.succ.inj hus
  obtain ⟨v6, us, rfl⟩ := List.exists_cons_of_length_eq_add_one hus
  replace hus := Nat.succ.inj hus
  obtain ⟨v7, us, rfl⟩ := List.exists_cons_of_length_eq_add_one hus
  replace hus := Nat.succ.inj hus
  obtain ⟨v8, us, rfl⟩ := List.exists_cons_of_length_eq_add_one hus
  replace hus := Nat.succ.inj hus
  obtain ⟨v9, us, rfl⟩ := List.exists_cons_of_length_eq_add_one hus
  replace hus := Nat.succ.inj hus
  obtain ⟨v10, us, rfl⟩ := List.exists_cons_of_length_eq_add_one hus
  replace hus := Nat.succ.inj hus
  obtain rfl := List.length_eq_zero_iff.1 hus
  clear hus
  generalize hbb : exPuts _ _ _ = bb at hall ⊢
  simp only [exPuts, Act.put, List.setIfInBounds_toArray, List.set_cons_succ, List.set_cons_zero] at hbb
  subst hbb
  obtain ⟨h10, h9, h8, h7, h6, h5, h4, h3, h2, h1, h0, -⟩ := hall
  obtain rfl : v0 = _ := h0
  obtain rfl : v1 = _ := h1
  obtain rfl : v2 = _ := h2
  obtain rfl : v3 = _ := h3
  obtain rfl : v4 = _ := h4
  obtain rfl : v5 = _ := h5
  obtain rfl : v6 = _ := h6
  obtain rfl : v7 = _ := h7
  obtain rfl : v8 = _ := h8
  obtain rfl : v9 = _ := h9
  clear v10
  obtain ⟨hB2, hX2⟩ := hC.2 rfl
  clear hC hB C hx d1 d2 d3 hkt hk0 hb bm
  obtain ⟨s2, hs2⟩ : ∃ s2 : ByteArray, s2 = strOfNums ((List.range 24).map fun j => if j = kk then x else by_ t j) := ⟨_, rfl⟩
  have hL : ((List.range 24).map fun j => if j = kk then x else by_ t j).length = 24 := by simp
  have hs2z : s2.size = 24 := by rw [hs2, strOfNums_size, hL]
  have hby : ∀ j, j < 24 → by_ s2 j = if j = kk then x else by_ t j := by
    intro j hj
    rw [hs2]
    have h1 := by_bd t j
    refine by_nums _ j _ (by rw [List.getElem?_map, List.getElem?_range hj]; rfl) ?_ ?_ <;> split <;> omega
  have hcv : (convert 52 9 (.slice (some ⟨y, 0, none⟩) t.size cap)).run Try.prog w2 = .ok (.string s2) w2 := by
    rw [hs2]
    refine run_convert_bytes_arg w2 52 5 und_bytes und_u8 y 0 t.size cap _ (by rw [hL]; omega) (fun i hi => ?_) 9 und_str
    rw [Nat.zero_add, hB2 i (by omega)]
    first | rfl | (simp; rw [List.getElem?_range (by omega)]; rfl)
  have hno : isRec s2 = false := by
    refine isRec_one t s2 hisr hs2z kk hk (by rw [hby kk hk, if_pos rfl]; exact f1) (fun j hj => ?_)
    by_cases h24 : j < 24
    · rw [hby j h24, if_neg hj]
    · rw [by_big s2 j (by omega), by_big t j (by omega)]
  have HR := fun w => lread_any w s2 (by omega)
  rw [hno, show (lread s2).cells = #[.int .i64 0, .int .i64 0, .int .i64 0, .int .i64 0, .int .i64 0, .int .i64 0, .int .i64 0, .int .i64 0, .int .i64 0] by rw [lread, hno]; rfl] at HR
  clear hs2 hby hno hB2 hL hs2z
  go_wp2_with fail
  refine (HR _).mono ?_; rintro e w5 ⟨rfl, hX5⟩
  go_wp2_with (refine wpList_put rfl rfl rfl rfl (At.new _ _ _) rfl (by kernel_rfl) (by simp [Value.oneCell']) ?_; intro w6 hz6 hX6; refine Hid.out ?_)
  refine Lib.hid ?_
  have hX7 := ((hX2.trans hX5).alloc _).then hX6 (fun x hx hl => by simp at hx; have := (hX2.trans hX5).size; omega)
  clear hX6 hz6
  go_wp2
  go_returns
  exact ⟨rfl, hX7.to_below⟩
theorem lbits_no (W : World) (q : RcV) (n : Int) (hq : q.right = false) : Calls Try.prog 5 #[.agg q.cells, .int .i64 n] W fun e w' => e = .returned (.bool true) ∧ Below W.heap.size W w' := by
  have HLP := fun w => lprint_any w q
  have hpr : q.print = ByteArray.empty := by unfold RcV.print; rw [hq]; rfl
  rw [hpr] at HLP
  clear hpr
  have C := (CL.new W 0).push q.cells 23
  rw [show q.cells = #[.int .i64 q.seq, .int .i64 q.cyc, .int .i64 q.ph, .int .i64 q.st, .int .i64 q.fl, .int .i64 q.vi, .int .i64 q.di, .int .i64 q.inv, .int .i64 q.inph] from rfl] at *
  replace HLP := Lib.hid HLP
  clear hq
  go_enter Try.func5, Try.ntmps5
  go_upto_region 1 with fail
  generalize hz : W.heap.size = z2 at *
  have hzW : W.heap.size ≤ z2 := by omega
  generalize W.alloc (.cells #[.int .i64 q.seq, .int .i64 q.cyc, .int .i64 q.ph, .int .i64 q.st, .int .i64 q.fl, .int .i64 q.vi, .int .i64 q.di, .int .i64 q.inv, .int .i64 q.inph] 23) = w0 at *
  have cc := (C.get 0 rfl).cell
  dsimp only at cc
  have c0 := cc 0; have c1 := cc 1; have c2 := cc 2; have c3 := cc 3; have c4 := cc 4; have c5 := cc 5; have c6 := cc 6; have c7 := cc 7; have c8 := cc 8
  clear cc
  go_wp2_with fail
  refine (HLP.out _).mono ?_; rintro e w1 ⟨rfl, hX1⟩
  replace C := C.step (j := 0) hX1
  clear hX1 c0 c1 c2 c3 c4 c5 c6 c7 c8
  go_wp2_with fail
  refine (awake09 _).mono ?_; rintro e w2 ⟨rfl, hX2⟩
  replace C := C.step (j := 0) hX2
  clear hX2
  go_wp2_with fail
  refine (awake09 _).mono ?_; rintro e w3 ⟨rfl, hX3⟩
  replace C := C.step (j := 0) hX3
  go_wp2
  go_returns
  exact ⟨rfl, C.x.to_below⟩
theorem LatchBits_walk (W : World) (c0 : Array Value) (x0 : shRc.T) (h0 : shRc.rep W x0 c0.toList) (n : Int) (_w1 : (Lit.int .i64 n).wf = true) :
    Calls Try.prog 5 #[.agg c0, .int .i64 n] W fun e w' => e = .returned (.bool true) ∧ Below W.heap.size W w' := by
  obtain ⟨rfl, -⟩ := rc_of h0
  generalize toRc x0 = q
  cases hq : q.right with
  | true => exact lbits_yes W q n hq
  | false => exact lbits_no W q n hq
end Go.Proofs.Ytjneidmkllhbjaa
