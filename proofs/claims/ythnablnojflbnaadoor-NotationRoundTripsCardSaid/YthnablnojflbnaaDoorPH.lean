/- Three laws: prefixes, round trips, canonical notations. -/
import Derived.Test.YthnablnojflbnaaDoorPF
set_option linter.unusedSimpArgs false
set_option linter.unusedVariables false
namespace Go.Av
open Go.Nt
set_option linter.unusedSimpArgs false
set_option linter.unusedVariables false
set_option maxHeartbeats 16000000
set_option maxRecDepth 100000
theorem mem_at {f : List Tk} {t : Tk} (h : t ∈ f) : ∃ i : Nat, f[i]? = some t := by
  obtain ⟨i, hi, he⟩ := List.mem_iff_getElem.1 h
  exact ⟨i, by rw [List.getElem?_eq_getElem hi, he]⟩
theorem vld_hb {f : List Tk} (h : vld f = 0) : ∀ t ∈ f, t.2.1.length ≤ cap47 := by
  intro t ht
  obtain ⟨i, hi⟩ := mem_at ht
  obtain ⟨h1, h2, h3⟩ := (vld_iff f).1 h
  have hc := VL_at h1 hi
  have hwl : wid t ≤ len f := by
    have := split_at hi
    rw [this, len_app, len_cons]; omega
  obtain ⟨k, s, id⟩ := t
  simp only [cap47]
  rcases chk_kind hc with ⟨rfl, _⟩ | ⟨h64, _⟩
  · have : wid (1, s, id) = s.length := rfl
    omega
  · omega
theorem c11 (s : Bs) (l : List Int) : G0 11 [.str s, .sl .no 1 (ints l)] [] = some (.bool true, []) := by
  refine contract F11 rfl rfl rfl ?_
  by_cases h1 : (200 : Int) < (s.length : Int)
  · simp only [F11, go_sem, op, mv, ↓reduceIte, Nat.reduceAdd, Nat.reduceEqDiff, Nat.reduceLT, Int.reduceNeg, Int.cast_ofNat_Int, Int.reduceLT, Int.reduceAdd, Int.reduceSub, Int.reduceLE, Int.reduceEq, Int.reduceToNat, Nat.reduceSub, Nat.reduceMul, Nat.reduceLeDiff, h1, c31]
  by_cases h2 : (60 : Int) < (l.length : Int)
  · simp only [F11, go_sem, op, mv, ↓reduceIte, Nat.reduceAdd, Nat.reduceEqDiff, Nat.reduceLT, Int.reduceNeg, Int.cast_ofNat_Int, Int.reduceLT, Int.reduceAdd, Int.reduceSub, Int.reduceLE, Int.reduceEq, Int.reduceToNat, Nat.reduceSub, Nat.reduceMul, Nat.reduceLeDiff, ints_length, h1, h2, c31]
  obtain ⟨f, f1, f2, f3, h34⟩ := c34 l
  have h33 := c33 f (by omega) (hb_of f2 (by decide))
  have hf := vld_len f3
  rw [f3, fmtE_ok f3] at h33
  generalize fmt f = t at h33 hf
  have ha := addS t s (by omega)
  have hul : (t ++ s).length ≤ 100000 := by simp; omega
  generalize hu : t ++ s = u at ha hul
  have h35 := c35 u hul
  by_cases he : (parse u).2.2 = 0
  · rw [he] at h35
    simp only [F11, ha, go_sem, op, mv, ↓reduceIte, Nat.reduceAdd, Nat.reduceEqDiff, Nat.reduceLT, Int.reduceNeg, Int.cast_ofNat_Int, Int.reduceLT, Int.reduceAdd, Int.reduceSub, Int.reduceLE, Int.reduceEq, Int.reduceToNat, Nat.reduceSub, Nat.reduceMul, Nat.reduceLeDiff, ints_length, h1, h2, h34, h33, h35, c31]
  · obtain ⟨g, b, e, hp⟩ : ∃ g b e, parse u = (g, b, e) := ⟨(parse u).1, (parse u).2.1, (parse u).2.2, rfl⟩
    rw [hp] at h35 he
    obtain ⟨q1, q2, q3⟩ := parse_err hp he
    have k35 := c35 (u.take b) (by rw [List.length_take]; omega)
    rw [q3] at k35
    have sl : sliceA true 0 (.str u) none (some (.int .i64 (b : Int))) = some (.str (u.take b)) := by
      rw [slcS_hi _ _ _ _ (by omega) (by omega), Int.toNat_natCast]
    have n1 : ¬ (b : Int) < 0 := by omega
    have n2 : ¬ (u.length : Int) ≤ (b : Int) := by omega
    simp only [] at h35 he
    simp only [F11, ha, go_sem, op, mv, ↓reduceIte, Nat.reduceAdd, Nat.reduceEqDiff, Nat.reduceLT, Int.reduceNeg, Int.cast_ofNat_Int, Int.reduceLT, Int.reduceAdd, Int.reduceSub, Int.reduceLE, Int.reduceEq, Int.reduceToNat, Nat.reduceSub, Nat.reduceMul, Nat.reduceLeDiff, ints_length, h1, h2, h34, h33, h35, he, n1, n2, sl, k35, c31]
theorem ten_wrt (c : UInt8) : (10 : UInt8) ∉ wrt c := by
  have := byte_all (fun c => !((wrt c).contains 10)) (by decide +kernel) c
  simpa using this
theorem ten_ok (c : UInt8) (h : okB c = true) : c ≠ 10 := by rintro rfl; exact absurd h (by decide)
theorem ten_elt {f : List Tk} {x : Tk} (h : chk f x = 0) : (10 : UInt8) ∉ elt x := by
  obtain ⟨k, s, i⟩ := x
  by_cases hk : k = 1
  · subst hk
    show (10 : UInt8) ∉ s.flatMap wrt
    rw [List.mem_flatMap]
    rintro ⟨c, _, hc⟩
    exact ten_wrt c hc
  · have hw := chk_wf h hk
    have hd : ∀ n : Nat, n ≤ 999 → (10 : UInt8) ∉ Nt.dec n := fun n hn q => absurd (dec_digs hn _ q) (by decide)
    have hnm : ∀ t : Bs, isNm t = true → (10 : UInt8) ∉ t := fun t ht q => absurd ((isNm_mem ht).2.2 _ q) (by decide)
    have hic : ∀ t : Bs, isC t = true → (10 : UInt8) ∉ t := fun t ht q => absurd ((isC_mem ht).1 _ q) (by decide)
    rcases hw with ⟨h1, _⟩ | ⟨h1, h2, h3⟩ | ⟨h1, h2, h3, h4⟩ | ⟨h1, h2, h3, h4⟩
    · exact absurd h1 hk
    · simp only [] at h1 h2 h3
      subst h1
      simp [elt, hnm s h2]
    · simp only [] at h1 h2 h3 h4
      have hdi := hd i.toNat (by omega)
      rcases h1 with rfl | rfl
      · simp [elt, hic s h2, hdi]
      · simp [elt, hic s h2, hdi]
    · simp only [] at h1 h2 h3 h4
      have hdi := hd i.toNat (by omega)
      subst h1
      simp [elt, hnm s h2, hdi]
theorem ten_fmt {f : List Tk} (h : VL f) : (10 : UInt8) ∉ fmt f := by
  unfold fmt
  rw [List.mem_flatMap]
  rintro ⟨x, hx, hc⟩
  obtain ⟨i, hi⟩ := mem_at hx
  exact ten_elt (VL_at h hi) hc
theorem l8a (f : List Tk) (s : Bs) (hs : s.length ≤ 1000000) (h10 : (10 : UInt8) ∉ s) : ∀ (k i : Nat), i + k = s.length →
    execX G0 L8_0 (ST [(5, .sl .no 3 (tks f)), (6, .str s), (7, .int .i64 0), (8, .sl .no 3 (tks f)), (9, .int .i64 0), (10, .int .i64 0), (11, .int .i64 i), (19, .bool false), (24, .bool true)] [] []) = some (.ex 0, ST [(5, .sl .no 3 (tks f)), (6, .str s), (7, .int .i64 0), (8, .sl .no 3 (tks f)), (9, .int .i64 0), (10, .int .i64 0), (11, .int .i64 s.length), (19, .bool false), (24, .bool true), (44, .bool false)] [] [])
  | 0, i, h => by
    have : i = s.length := by omega
    subst this
    rw [Y_loop (L := L8_0) rfl]
    simp only [go_sem, op, mv, ↓reduceIte, Nat.reduceAdd, Nat.reduceEqDiff, Nat.reduceLT, Int.reduceNeg, Int.cast_ofNat_Int, Int.reduceLT, Int.reduceAdd, Int.reduceSub, Int.reduceLE, Int.reduceEq, Int.reduceToNat, Nat.reduceSub, Nat.reduceMul, Nat.reduceLeDiff, Int.lt_irrefl]
  | k + 1, i, h => by
    have h4 : (i : Int) < (s.length : Int) := by omega
    have h0 : (0 : Int) ≤ (i : Int) := by omega
    have hw : IntKind.i64.wrap ((i : Int) + 1) = ((i + 1 : Nat) : Int) := by rw [w64 (by omega) (by omega)]; rfl
    obtain ⟨c, h5, hd⟩ := str_at (s := s) (i := i) (by omega)
    have hc : c ≠ 10 := by
      rintro rfl
      exact h10 (List.mem_iff_getElem?.2 ⟨i, h5⟩)
    have hn : ¬ (c.toNat : Int) = 10 := nat_ne (d := 10) hc
    have ih := l8a f s hs h10 k (i + 1) (by omega)
    rw [Y_loop (L := L8_0) rfl]
    simp only [go_sem, op, mv, ↓reduceIte, Nat.reduceAdd, Nat.reduceEqDiff, Nat.reduceLT, Int.reduceNeg, Int.cast_ofNat_Int, Int.reduceLT, Int.reduceAdd, Int.reduceSub, Int.reduceLE, Int.reduceEq, Int.reduceToNat, Nat.reduceSub, Nat.reduceMul, Nat.reduceLeDiff, h4, h0, h5, hn, hw]
    exact ih
theorem l8b (w : Bs) (f : List Tk) (s : Bs) (hs : s.length ≤ 1000000) (h10 : (10 : UInt8) ∉ s) : ∀ (k i : Nat), i + k = s.length →
    execX G0 L8_0 (ST [(1, .str w), (5, .sl .no 3 (tks f)), (6, .str s), (7, .int .i64 0), (8, .sl .no 3 (tks f)), (9, .int .i64 0), (10, .int .i64 0), (11, .int .i64 i), (19, .bool false), (24, .bool false)] [] []) = some (.ex 0, ST [(1, .str w), (5, .sl .no 3 (tks f)), (6, .str s), (7, .int .i64 0), (8, .sl .no 3 (tks f)), (9, .int .i64 0), (10, .int .i64 0), (11, .int .i64 s.length), (19, .bool false), (24, .bool false), (44, .bool false)] [] [])
  | 0, i, h => by
    have : i = s.length := by omega
    subst this
    rw [Y_loop (L := L8_0) rfl]
    simp only [go_sem, op, mv, ↓reduceIte, Nat.reduceAdd, Nat.reduceEqDiff, Nat.reduceLT, Int.reduceNeg, Int.cast_ofNat_Int, Int.reduceLT, Int.reduceAdd, Int.reduceSub, Int.reduceLE, Int.reduceEq, Int.reduceToNat, Nat.reduceSub, Nat.reduceMul, Nat.reduceLeDiff, Int.lt_irrefl]
  | k + 1, i, h => by
    have h4 : (i : Int) < (s.length : Int) := by omega
    have h0 : (0 : Int) ≤ (i : Int) := by omega
    have hw : IntKind.i64.wrap ((i : Int) + 1) = ((i + 1 : Nat) : Int) := by rw [w64 (by omega) (by omega)]; rfl
    obtain ⟨c, h5, hd⟩ := str_at (s := s) (i := i) (by omega)
    have hc : c ≠ 10 := by
      rintro rfl
      exact h10 (List.mem_iff_getElem?.2 ⟨i, h5⟩)
    have hn : ¬ (c.toNat : Int) = 10 := nat_ne (d := 10) hc
    have ih := l8b w f s hs h10 k (i + 1) (by omega)
    rw [Y_loop (L := L8_0) rfl]
    simp only [go_sem, op, mv, ↓reduceIte, Nat.reduceAdd, Nat.reduceEqDiff, Nat.reduceLT, Int.reduceNeg, Int.cast_ofNat_Int, Int.reduceLT, Int.reduceAdd, Int.reduceSub, Int.reduceLE, Int.reduceEq, Int.reduceToNat, Nat.reduceSub, Nat.reduceMul, Nat.reduceLeDiff, h4, h0, h5, hn, hw]
    exact ih
theorem c8 (l : List Int) (w : Bs) : G0 8 [.sl .no 1 (ints l), .str w] [] = some (.bool true, []) := by
  refine contract F8 rfl rfl rfl ?_
  by_cases h1 : (100 : Int) < (l.length : Int)
  · simp only [F8, go_sem, op, mv, ↓reduceIte, Nat.reduceAdd, Nat.reduceEqDiff, Nat.reduceLT, Int.reduceNeg, Int.cast_ofNat_Int, Int.reduceLT, Int.reduceAdd, Int.reduceSub, Int.reduceLE, Int.reduceEq, Int.reduceToNat, Nat.reduceSub, Nat.reduceMul, Nat.reduceLeDiff, ints_length, h1, c31]
  by_cases h2 : (200 : Int) < (w.length : Int)
  · simp only [F8, go_sem, op, mv, ↓reduceIte, Nat.reduceAdd, Nat.reduceEqDiff, Nat.reduceLT, Int.reduceNeg, Int.cast_ofNat_Int, Int.reduceLT, Int.reduceAdd, Int.reduceSub, Int.reduceLE, Int.reduceEq, Int.reduceToNat, Nat.reduceSub, Nat.reduceMul, Nat.reduceLeDiff, ints_length, h1, h2, c31]
  obtain ⟨f, f1, f2, f3, h34⟩ := c34 l
  have hL := len_le f
  have ec : ((0 : Nat) : Int) = 0 := rfl
  by_cases hw0 : w = []
  · subst hw0
    have e : (([] : Bs) != ([] : Bs)) = false := rfl
    have h32 := c32 f (by omega) (vld_hb f3)
    have hf := vld_len f3
    have ht := ten_fmt ((vld_iff f).1 f3).1
    have hp := parse_fmt f3
    rw [f3, fmtE_ok f3] at h32
    have h35 := c35 (fmt f) (by omega)
    rw [hp] at h35
    have h22 := c22 f f (by omega)
    rw [decide_eq_true rfl] at h22
    generalize fmt f = s at h32 h35 hf ht
    simp only [ec] at h35
    have hl := l8b [] f s (by omega) ht s.length 0 (by omega)
    rw [ec] at hl
    simp only [F8, go_sem, op, mv, ↓reduceIte, Nat.reduceAdd, Nat.reduceEqDiff, Nat.reduceLT, Int.reduceNeg, Int.cast_ofNat_Int, Int.reduceLT, Int.reduceAdd, Int.reduceSub, Int.reduceLE, Int.reduceEq, Int.reduceToNat, Nat.reduceSub, Nat.reduceMul, Nat.reduceLeDiff, ints_length, h1, h34, e, h32, h35, hl, h22, c31]
  · have e : (w != ([] : Bs)) = true := by simp [hw0]
    have hv := (vld_iff f).1 f3
    have h37 := c37x hv.1 (1, w, 0) (by omega) (by simp only []; omega)
    simp only [] at h37
    obtain ⟨p1, p2⟩ := len_pn f (1, w, 0)
    have hwd : wid (1, w, 0) = w.length := rfl
    have g3 : vld (pn f (1, w, 0)) = 0 := (vld_iff _).2 ⟨VL_pn_text hv.1 rfl, by omega, by omega⟩
    have g1 : (pn f (1, w, 0)).length ≤ 100 := by omega
    generalize pn f (1, w, 0) = g at h37 g3 g1
    have h32 := c32 g (by omega) (vld_hb g3)
    have hf := vld_len g3
    have ht := ten_fmt ((vld_iff g).1 g3).1
    have hp := parse_fmt g3
    rw [g3, fmtE_ok g3] at h32
    have h35 := c35 (fmt g) (by omega)
    rw [hp] at h35
    have h22 := c22 g g (by omega)
    rw [decide_eq_true rfl] at h22
    generalize fmt g = s at h32 h35 hf ht
    simp only [ec] at h35
    have hl := l8a g s (by omega) ht s.length 0 (by omega)
    rw [ec] at hl
    simp only [F8, go_sem, op, mv, ↓reduceIte, Nat.reduceAdd, Nat.reduceEqDiff, Nat.reduceLT, Int.reduceNeg, Int.cast_ofNat_Int, Int.reduceLT, Int.reduceAdd, Int.reduceSub, Int.reduceLE, Int.reduceEq, Int.reduceToNat, Nat.reduceSub, Nat.reduceMul, Nat.reduceLeDiff, ints_length, h1, h2, h34, e, h37, h32, h35, hl, h22, c31]
theorem st9 (a b u : Bs) (i : Int) (j : Int) (hi : 0 ≤ i) (hi2 : i < 2) (hw : IntKind.i64.wrap (i + 1) = j) (hg : ([.str a, .str b] : List AV)[i.toNat * 1]? = some (.str u)) (hu : u.length ≤ 100000) : execX G0 L9_0 (ST [(23, .bool false), (39, .agg [.str a, .str b]), (40, .int .i64 i)] [] []) = execX G0 L9_0 (ST [(23, .bool false), (39, .agg [.str a, .str b]), (40, .int .i64 j)] [] []) := by
  have h35 := c35 u hu
  conv => lhs; rw [Y_loop (L := L9_0) rfl]
  by_cases he : (parse u).2.2 = 0
  · obtain ⟨g, b', hp⟩ : ∃ g b, parse u = (g, b, 0) := ⟨(parse u).1, (parse u).2.1, by rw [← he]⟩
    rw [hp] at h35
    obtain ⟨q1, q2, q3⟩ := parse_canon hp
    have hgl := ((vld_iff g).1 q1).2.1
    have h32 := c32 g (by omega) (vld_hb q1)
    have h21 := c21 g (by omega) (vld_hb q1)
    rw [q1, fmtE_ok q1, q2] at h32
    rw [q1] at h21
    have e : (u != u) = false := by simp
    simp only [] at h35
    simp only [go_sem, op, mv, ↓reduceIte, Nat.reduceAdd, Nat.reduceEqDiff, Nat.reduceLT, Int.reduceNeg, Int.cast_ofNat_Int, Int.reduceLT, Int.reduceAdd, Int.reduceSub, Int.reduceLE, Int.reduceEq, Int.reduceToNat, Nat.reduceSub, Nat.reduceMul, Nat.reduceLeDiff, hi, hi2, hg, h35, h32, h21, e, hw]
  · generalize (parse u).1 = G at h35
    generalize (parse u).2.1 = B at h35
    generalize (parse u).2.2 = E at h35 he
    simp only [go_sem, op, mv, ↓reduceIte, Nat.reduceAdd, Nat.reduceEqDiff, Nat.reduceLT, Int.reduceNeg, Int.cast_ofNat_Int, Int.reduceLT, Int.reduceAdd, Int.reduceSub, Int.reduceLE, Int.reduceEq, Int.reduceToNat, Nat.reduceSub, Nat.reduceMul, Nat.reduceLeDiff, hi, hi2, hg, h35, he, hw]
theorem c9 (s : Bs) (l : List Int) (x : Int) : G0 9 [.str s, .sl .no 1 (ints l), .int .i64 x] [] = some (.bool true, []) := by
  refine contract F9 rfl rfl rfl ?_
  by_cases h1 : (300 : Int) < (s.length : Int)
  · simp only [F9, go_sem, op, mv, ↓reduceIte, Nat.reduceAdd, Nat.reduceEqDiff, Nat.reduceLT, Int.reduceNeg, Int.cast_ofNat_Int, Int.reduceLT, Int.reduceAdd, Int.reduceSub, Int.reduceLE, Int.reduceEq, Int.reduceToNat, Nat.reduceSub, Nat.reduceMul, Nat.reduceLeDiff, h1, c31]
  by_cases h2 : (60 : Int) < (l.length : Int)
  · simp only [F9, go_sem, op, mv, ↓reduceIte, Nat.reduceAdd, Nat.reduceEqDiff, Nat.reduceLT, Int.reduceNeg, Int.cast_ofNat_Int, Int.reduceLT, Int.reduceAdd, Int.reduceSub, Int.reduceLE, Int.reduceEq, Int.reduceToNat, Nat.reduceSub, Nat.reduceMul, Nat.reduceLeDiff, ints_length, h1, h2, c31]
  obtain ⟨f, f1, f2, f3, h34⟩ := c34 l
  have h33 := c33 f (by omega) (hb_of f2 (by decide))
  have hf := vld_len f3
  rw [f3, fmtE_ok f3] at h33
  generalize fmt f = t at h33 hf
  have w1 : IntKind.i64.wrap ((t.length : Int) + 1) = ((t.length + 1 : Nat) : Int) := by rw [w64 (by omega) (by omega)]; rfl
  have h18 := c18 x ((t.length + 1 : Nat) : Int) (by omega) (by omega)
  have hb1 := Int.emod_nonneg x (show ((t.length + 1 : Nat) : Int) ≠ 0 by omega)
  have hb2 := Int.emod_lt_of_pos x (show (0 : Int) < ((t.length + 1 : Nat) : Int) by omega)
  generalize x % ((t.length + 1 : Nat) : Int) = y at h18 hb1 hb2
  have sl : sliceA true 0 (.str t) none (some (.int .i64 y)) = some (.str (t.take y.toNat)) := slcS_hi _ _ _ _ hb1 (by omega)
  have hu : (t.take y.toNat).length ≤ 100000 := by rw [List.length_take]; omega
  generalize t.take y.toNat = u at sl hu
  have e1 := st9 s u s 0 1 (by decide) (by decide) (by decide) rfl (by omega)
  have e2 := st9 s u u 1 2 (by decide) (by decide) (by decide) rfl hu
  have e3 : execX G0 L9_0 (ST [(23, .bool false), (39, .agg [.str s, .str u]), (40, .int .i64 2)] [] []) = some (.ex 0, ST [(23, .bool false), (39, .agg [.str s, .str u]), (40, .int .i64 2), (41, .bool false)] [] []) := by
    rw [Y_loop (L := L9_0) rfl]
    simp only [go_sem, op, mv, ↓reduceIte, Nat.reduceAdd, Nat.reduceEqDiff, Nat.reduceLT, Int.reduceNeg, Int.cast_ofNat_Int, Int.reduceLT, Int.reduceAdd, Int.reduceSub, Int.reduceLE, Int.reduceEq, Int.reduceToNat, Nat.reduceSub, Nat.reduceMul, Nat.reduceLeDiff, Int.lt_irrefl]
  simp only [F9, go_sem, op, mv, ↓reduceIte, Nat.reduceAdd, Nat.reduceEqDiff, Nat.reduceLT, Int.reduceNeg, Int.cast_ofNat_Int, Int.reduceLT, Int.reduceAdd, Int.reduceSub, Int.reduceLE, Int.reduceEq, Int.reduceToNat, Nat.reduceSub, Nat.reduceMul, Nat.reduceLeDiff, ints_length, h1, h2, h34, h33, w1, h18, sl, e1, e2, e3, c31]
end Go.Av
