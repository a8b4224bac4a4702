/- A part of the proof: D8. No conditions. -/
import Derived.Test.YthbgidickbhojaaD7
set_option linter.unusedSimpArgs false
set_option linter.unusedVariables false
namespace Go.Av
set_option linter.unusedSimpArgs false
set_option maxHeartbeats 4000000
theorem bne_nil {s : List UInt8} (h : 1 ≤ s.length) : (s != []) = true := by
  cases s with
  | nil => simp at h
  | cons a l => rfl
theorem l43 (x : List (List AV)) : ∀ (k : Nat) (s : List UInt8) (md : Own) (out : List Tk), md ≠ .no → s.length ≤ k → out.length + s.length ≤ 1000000 →
    ∃ md', execX G0 L43_0 (ST [(3, .sl md 3 (tks out)), (6, .str s), (9, .sl .no 3 x), (10, .int .i64 1), (11, .int .i64 0), (12, .bool true), (17, .bool false), (26, .bool true)] [] []) = some (.ex 3, ST [(3, .sl md' 3 (tks (out ++ cutL k s))), (6, .str []), (9, .sl .no 3 x), (10, .int .i64 1), (11, .int .i64 0), (12, .bool true), (17, .bool false), (26, .bool true), (31, .bool false)] [] [])
  | 0, s, md, out, hm, h1, h2 => by
    have : s = [] := List.eq_nil_of_length_eq_zero (by omega)
    subst this
    refine ⟨md, ?_⟩
    rw [Y_loop (L := L43_0) rfl]
    simp only [go_sem, and_false, false_and, and_true, true_and, Nat.reduceAdd, Nat.reduceEqDiff, Nat.reduceLT, ↓reduceIte, decide_eq_true_eq, List.take_nil, beq_self_eq_true, bne_self_eq_false, List.take_zero, List.map_cons, List.map_nil, Int.reduceNeg, Bool.and_true, and_self, Bool.true_and, Bool.and_self, ne_eq, not_true_eq_false, decide_false, decide_true, Bool.false_eq_true, Nat.reduceAdd, Option.map_some, Option.map_none, Option.bind_some, Option.bind_none, List.length_nil, List.length_cons, List.append_nil, Bool.and_false, w64, demV_sl, Int.cast_ofNat_Int, Int.reduceLT, Int.reduceAdd, Int.reduceSub, Int.reduceLE, Int.reduceEq, Int.reduceToNat, Int.toNat_natCast, Nat.reduceSub, Nat.reduceMul, Nat.reduceLeDiff, Nat.zero_add, Int.zero_add, not_false_eq_true, Bool.not_true, Bool.not_false, Bool.false_and, List.cons_append, List.nil_append, cutL, Int.lt_irrefl]
  | k + 1, s, md, out, hm, h1, h2 => by
    by_cases h3 : 1 ≤ s.length
    · have hn := nx_le s h3
      obtain ⟨md', ih⟩ := l43 x k (s.drop (nxN s)) .own (out ++ [(nxK s, s.take (nxN s), 0)]) (by decide) (by simp; omega) (by simp; omega)
      have h6 : (0 : Int) ≤ (nxN s : Int) := by omega
      have h7 : (nxN s : Int) ≤ (s.length : Int) := by omega
      have hs : s.length ≤ 1000000 := by omega
      have ha : appOK 32 (out.length + 1) = true := appOK_le (by decide) (by omega)
      refine ⟨md', ?_⟩
      rw [Y_loop (L := L43_0) rfl]
      simp only [cutL, h3, if_true]
      rw [List.append_assoc] at ih
      simp only [go_sem, and_false, false_and, and_true, true_and, Nat.reduceAdd, Nat.reduceEqDiff, Nat.reduceLT, ↓reduceIte, decide_eq_true_eq, List.take_nil, beq_self_eq_true, bne_self_eq_false, List.take_zero, List.map_cons, List.map_nil, Int.reduceNeg, Bool.and_true, and_self, Bool.true_and, Bool.and_self, ne_eq, not_true_eq_false, decide_false, decide_true, Bool.false_eq_true, Nat.reduceAdd, Option.map_some, Option.map_none, Option.bind_some, Option.bind_none, List.length_nil, List.length_cons, List.append_nil, Bool.and_false, w64, demV_sl, Int.cast_ofNat_Int, Int.reduceLT, Int.reduceAdd, Int.reduceSub, Int.reduceLE, Int.reduceEq, Int.reduceToNat, Int.toNat_natCast, Nat.reduceSub, Nat.reduceMul, Nat.reduceLeDiff, Nat.zero_add, Int.zero_add, not_false_eq_true, Bool.not_true, Bool.not_false, Bool.false_and, List.cons_append, List.nil_append, bne_nil h3, c61 s hs h3, h6, h7, appA_gen md _ hm 3 32 (by decide), tks_len, ha, tks_one, tks_app]
      exact ih
    · have : s = [] := List.eq_nil_of_length_eq_zero (by omega)
      subst this
      refine ⟨md, ?_⟩
      rw [Y_loop (L := L43_0) rfl]
      simp only [go_sem, and_false, false_and, and_true, true_and, Nat.reduceAdd, Nat.reduceEqDiff, Nat.reduceLT, ↓reduceIte, decide_eq_true_eq, List.take_nil, beq_self_eq_true, bne_self_eq_false, List.take_zero, List.map_cons, List.map_nil, Int.reduceNeg, Bool.and_true, and_self, Bool.true_and, Bool.and_self, ne_eq, not_true_eq_false, decide_false, decide_true, Bool.false_eq_true, Nat.reduceAdd, Option.map_some, Option.map_none, Option.bind_some, Option.bind_none, List.length_nil, List.length_cons, List.append_nil, Bool.and_false, w64, demV_sl, Int.cast_ofNat_Int, Int.reduceLT, Int.reduceAdd, Int.reduceSub, Int.reduceLE, Int.reduceEq, Int.reduceToNat, Int.toNat_natCast, Nat.reduceSub, Nat.reduceMul, Nat.reduceLeDiff, Nat.zero_add, Int.zero_add, not_false_eq_true, Bool.not_true, Bool.not_false, Bool.false_and, List.cons_append, List.nil_append, cutL, Int.lt_irrefl]
theorem c43 (s : List UInt8) (hs : s.length ≤ 1000000) : G0 43 [.sl .no 3 [[.int .i64 1, .str s, .int .i64 0]]] [] = some (.sl .no 3 (tks (cutF s)), []) := by
  refine contract F43 rfl rfl rfl ?_
  obtain ⟨md', hx⟩ := l43 [[.int .i64 1, .str s, .int .i64 0]] s.length s .full [] (by decide) (by omega) (by simpa using hs)
  simp only [go_sem, and_false, false_and, and_true, true_and, Nat.reduceAdd, Nat.reduceEqDiff, Nat.reduceLT, ↓reduceIte, decide_eq_true_eq, List.take_nil, beq_self_eq_true, bne_self_eq_false, List.take_zero, List.map_cons, List.map_nil, Int.reduceNeg, Bool.and_true, and_self, Bool.true_and, Bool.and_self, ne_eq, not_true_eq_false, decide_false, decide_true, Bool.false_eq_true, Nat.reduceAdd, Option.map_some, Option.map_none, Option.bind_some, Option.bind_none, List.length_nil, List.length_cons, List.append_nil, Bool.and_false, w64, demV_sl, Int.cast_ofNat_Int, Int.reduceLT, Int.reduceAdd, Int.reduceSub, Int.reduceLE, Int.reduceEq, Int.reduceToNat, Int.toNat_natCast, Nat.reduceSub, Nat.reduceMul, Nat.reduceLeDiff, Nat.zero_add, Int.zero_add, not_false_eq_true, Bool.not_true, Bool.not_false, Bool.false_and, List.cons_append, List.nil_append, tks_nil] at hx
  simp only [F43, go_sem, and_false, false_and, and_true, true_and, Nat.reduceAdd, Nat.reduceEqDiff, Nat.reduceLT, ↓reduceIte, decide_eq_true_eq, List.take_nil, beq_self_eq_true, bne_self_eq_false, List.take_zero, List.map_cons, List.map_nil, Int.reduceNeg, Bool.and_true, and_self, Bool.true_and, Bool.and_self, ne_eq, not_true_eq_false, decide_false, decide_true, Bool.false_eq_true, Nat.reduceAdd, Option.map_some, Option.map_none, Option.bind_some, Option.bind_none, List.length_nil, List.length_cons, List.append_nil, Bool.and_false, w64, demV_sl, Int.cast_ofNat_Int, Int.reduceLT, Int.reduceAdd, Int.reduceSub, Int.reduceLE, Int.reduceEq, Int.reduceToNat, Int.toNat_natCast, Nat.reduceSub, Nat.reduceMul, Nat.reduceLeDiff, Nat.zero_add, Int.zero_add, not_false_eq_true, Bool.not_true, Bool.not_false, Bool.false_and, List.cons_append, List.nil_append]
  rw [Y_loop (L := L43_1) rfl]
  simp only [go_sem, and_false, false_and, and_true, true_and, Nat.reduceAdd, Nat.reduceEqDiff, Nat.reduceLT, ↓reduceIte, decide_eq_true_eq, List.take_nil, beq_self_eq_true, bne_self_eq_false, List.take_zero, List.map_cons, List.map_nil, Int.reduceNeg, Bool.and_true, and_self, Bool.true_and, Bool.and_self, ne_eq, not_true_eq_false, decide_false, decide_true, Bool.false_eq_true, Nat.reduceAdd, Option.map_some, Option.map_none, Option.bind_some, Option.bind_none, List.length_nil, List.length_cons, List.append_nil, Bool.and_false, w64, demV_sl, Int.cast_ofNat_Int, Int.reduceLT, Int.reduceAdd, Int.reduceSub, Int.reduceLE, Int.reduceEq, Int.reduceToNat, Int.toNat_natCast, Nat.reduceSub, Nat.reduceMul, Nat.reduceLeDiff, Nat.zero_add, Int.zero_add, not_false_eq_true, Bool.not_true, Bool.not_false, Bool.false_and, List.cons_append, List.nil_append, hx]
  rw [Y_loop (L := L43_1) rfl]
  simp only [go_sem, and_false, false_and, and_true, true_and, Nat.reduceAdd, Nat.reduceEqDiff, Nat.reduceLT, ↓reduceIte, decide_eq_true_eq, List.take_nil, beq_self_eq_true, bne_self_eq_false, List.take_zero, List.map_cons, List.map_nil, Int.reduceNeg, Bool.and_true, and_self, Bool.true_and, Bool.and_self, ne_eq, not_true_eq_false, decide_false, decide_true, Bool.false_eq_true, Nat.reduceAdd, Option.map_some, Option.map_none, Option.bind_some, Option.bind_none, List.length_nil, List.length_cons, List.append_nil, Bool.and_false, w64, demV_sl, Int.cast_ofNat_Int, Int.reduceLT, Int.reduceAdd, Int.reduceSub, Int.reduceLE, Int.reduceEq, Int.reduceToNat, Int.toNat_natCast, Nat.reduceSub, Nat.reduceMul, Nat.reduceLeDiff, Nat.zero_add, Int.zero_add, not_false_eq_true, Bool.not_true, Bool.not_false, Bool.false_and, List.cons_append, List.nil_append, cutF, Int.lt_irrefl]
def strs (l : List (List UInt8)) : List (List AV) := l.map fun s => [.str s]
theorem strs_len (l : List (List UInt8)) : (strs l).length = l.length := by simp [strs]
theorem strs_one (s : List UInt8) : [[AV.str s]] = strs [s] := rfl
theorem strs_app (x y : List (List UInt8)) : strs x ++ strs y = strs (x ++ y) := by simp [strs]
theorem strs_nil : strs [] = [] := rfl
theorem strs_at {l : List (List UInt8)} {i : Nat} {s : List UInt8} (h : l[i]? = some s) : (strs l)[i]? = some [.str s] := by simp [strs, h]
theorem tks_at {l : List Tk} {i : Nat} {t : Tk} (h : l[i]? = some t) : (tks l)[i]? = some [.int .i64 t.1, .str t.2.1, .int .i64 t.2.2] := by simp [tks, tkR, h]
def phr (T : List Tk) : List (List UInt8) := (T.filter fun t => cnt t.1).map fun t => keyF t.1 t.2.1
theorem phr_yes {t : Tk} {l : List Tk} (h : cnt t.1 = true) : phr (t :: l) = keyF t.1 t.2.1 :: phr l := by simp [phr, h]
theorem phr_no {t : Tk} {l : List Tk} (h : cnt t.1 = false) : phr (t :: l) = phr l := by simp [phr, h]
theorem cutL_len : ∀ (k : Nat) (s : List UInt8), (cutL k s).length ≤ s.length ∧ ∀ t ∈ cutL k s, t.2.1.length ≤ s.length
  | 0, s => by simp [cutL]
  | k + 1, s => by
    simp only [cutL]
    split
    · rename_i h
      have hn := nx_le s h
      have ih := cutL_len k (s.drop (nxN s))
      simp only [List.length_drop] at ih
      refine ⟨by simp only [List.length_cons]; omega, fun t ht => ?_⟩
      simp only [List.mem_cons] at ht
      rcases ht with ht | ht
      · subst ht; simp; omega
      · have := ih.2 t ht; omega
    · simp
theorem l16 (T : List Tk) (hT : T.length ≤ 1000000) (hT2 : ∀ t ∈ T, t.2.1.length ≤ 1000000) : ∀ (k i : Nat) (md : Own) (out : List (List UInt8)), md ≠ .no → i + k = T.length → out.length ≤ i →
    ∃ md', execX G0 L16_0 (ST [(3, .sl md 1 (strs out)), (7, .bool false), (11, .sl .no 3 (tks T)), (12, .int .i64 T.length), (13, .int .i64 i)] [] []) = some (.ex 0, ST [(3, .sl md' 1 (strs (out ++ phr (T.drop i)))), (7, .bool false), (11, .sl .no 3 (tks T)), (12, .int .i64 T.length), (13, .int .i64 T.length), (14, .bool false)] [] [])
  | 0, i, md, out, hm, h1, h2 => by
    have : i = T.length := by omega
    subst this
    refine ⟨md, ?_⟩
    rw [Y_loop (L := L16_0) rfl]
    simp only [go_sem, and_false, false_and, and_true, true_and, Nat.reduceAdd, Nat.reduceEqDiff, Nat.reduceLT, ↓reduceIte, decide_eq_true_eq, List.take_nil, beq_self_eq_true, bne_self_eq_false, List.take_zero, List.map_cons, List.map_nil, Int.reduceNeg, Bool.and_true, and_self, Bool.true_and, Bool.and_self, ne_eq, not_true_eq_false, decide_false, decide_true, Bool.false_eq_true, Nat.reduceAdd, Option.map_some, Option.map_none, Option.bind_some, Option.bind_none, List.length_nil, List.length_cons, List.append_nil, Bool.and_false, w64, demV_sl, Int.cast_ofNat_Int, Int.reduceLT, Int.reduceAdd, Int.reduceSub, Int.reduceLE, Int.reduceEq, Int.reduceToNat, Int.toNat_natCast, Nat.reduceSub, Nat.reduceMul, Nat.reduceLeDiff, Nat.zero_add, Int.zero_add, not_false_eq_true, Bool.not_true, Bool.not_false, Bool.false_and, List.cons_append, List.nil_append, Int.lt_irrefl, List.drop_length]
    simp [phr]
  | k + 1, i, md, out, hm, h1, h2 => by
    have h3 : i < T.length := by omega
    have h4 : (i : Int) < (T.length : Int) := by omega
    have h0 : (0 : Int) ≤ (i : Int) := by omega
    have hw : IntKind.i64.wrap ((i : Int) + 1) = ((i + 1 : Nat) : Int) := by rw [w64 (by omega) (by omega)]; rfl
    have hg : T[i]? = some T[i] := List.getElem?_eq_getElem h3
    have hd : T.drop i = T[i] :: T.drop (i + 1) := List.drop_eq_getElem_cons h3
    have hl : T[i].2.1.length ≤ 1000000 := hT2 _ (List.getElem_mem h3)
    have hr := tks_at hg
    by_cases h5 : cnt T[i].1 = true
    · obtain ⟨md', ih⟩ := l16 T hT hT2 k (i + 1) .own (out ++ [keyF T[i].1 T[i].2.1]) (by decide) (by omega) (by simp; omega)
      refine ⟨md', ?_⟩
      have e : phr (T.drop i) = keyF T[i].1 T[i].2.1 :: phr (T.drop (i + 1)) := by rw [hd, phr_yes h5]
      rw [e]
      rw [List.append_assoc] at ih
      have ha : appOK 16 (out.length + 1) = true := appOK_le (by decide) (by omega)
      rw [Y_loop (L := L16_0) rfl]
      simp only [go_sem, and_false, false_and, and_true, true_and, Nat.reduceAdd, Nat.reduceEqDiff, Nat.reduceLT, ↓reduceIte, decide_eq_true_eq, List.take_nil, beq_self_eq_true, bne_self_eq_false, List.take_zero, List.map_cons, List.map_nil, Int.reduceNeg, Bool.and_true, and_self, Bool.true_and, Bool.and_self, ne_eq, not_true_eq_false, decide_false, decide_true, Bool.false_eq_true, Nat.reduceAdd, Option.map_some, Option.map_none, Option.bind_some, Option.bind_none, List.length_nil, List.length_cons, List.append_nil, Bool.and_false, w64, demV_sl, Int.cast_ofNat_Int, Int.reduceLT, Int.reduceAdd, Int.reduceSub, Int.reduceLE, Int.reduceEq, Int.reduceToNat, Int.toNat_natCast, Nat.reduceSub, Nat.reduceMul, Nat.reduceLeDiff, Nat.zero_add, Int.zero_add, not_false_eq_true, Bool.not_true, Bool.not_false, Bool.false_and, List.cons_append, List.nil_append, h4, h0, hw, hr, c44, c45 _ _ _ hl, h5, appA_gen md _ hm 1 16 (by decide), strs_len, ha, strs_one, strs_app]
      exact ih
    · obtain ⟨md', ih⟩ := l16 T hT hT2 k (i + 1) md out hm (by omega) (by omega)
      refine ⟨md', ?_⟩
      have h5' : cnt T[i].1 = false := by simpa using h5
      have e : phr (T.drop i) = phr (T.drop (i + 1)) := by rw [hd, phr_no h5']
      rw [e]
      rw [Y_loop (L := L16_0) rfl]
      simp only [go_sem, and_false, false_and, and_true, true_and, Nat.reduceAdd, Nat.reduceEqDiff, Nat.reduceLT, ↓reduceIte, decide_eq_true_eq, List.take_nil, beq_self_eq_true, bne_self_eq_false, List.take_zero, List.map_cons, List.map_nil, Int.reduceNeg, Bool.and_true, and_self, Bool.true_and, Bool.and_self, ne_eq, not_true_eq_false, decide_false, decide_true, Bool.false_eq_true, Nat.reduceAdd, Option.map_some, Option.map_none, Option.bind_some, Option.bind_none, List.length_nil, List.length_cons, List.append_nil, Bool.and_false, w64, demV_sl, Int.cast_ofNat_Int, Int.reduceLT, Int.reduceAdd, Int.reduceSub, Int.reduceLE, Int.reduceEq, Int.reduceToNat, Int.toNat_natCast, Nat.reduceSub, Nat.reduceMul, Nat.reduceLeDiff, Nat.zero_add, Int.zero_add, not_false_eq_true, Bool.not_true, Bool.not_false, Bool.false_and, List.cons_append, List.nil_append, h4, h0, hw, hr, c44, h5']
      exact ih
theorem l17 (T : List Tk) (hT : T.length ≤ 1000000) (hT2 : ∀ t ∈ T, t.2.1.length ≤ 1000000) : ∀ (k i : Nat) (md : Own) (out : List (List UInt8)), md ≠ .no → i + k = T.length → out.length ≤ i →
    ∃ md', execX G0 L17_0 (ST [(3, .sl md 1 (strs out)), (7, .sl .no 3 (tks T)), (8, .int .i64 T.length), (9, .int .i64 i)] [] []) = some (.ex 0, ST [(3, .sl md' 1 (strs (out ++ phr (T.drop i)))), (7, .sl .no 3 (tks T)), (8, .int .i64 T.length), (9, .int .i64 T.length), (10, .bool false)] [] [])
  | 0, i, md, out, hm, h1, h2 => by
    have : i = T.length := by omega
    subst this
    refine ⟨md, ?_⟩
    rw [Y_loop (L := L17_0) rfl]
    simp only [go_sem, and_false, false_and, and_true, true_and, Nat.reduceAdd, Nat.reduceEqDiff, Nat.reduceLT, ↓reduceIte, decide_eq_true_eq, List.take_nil, beq_self_eq_true, bne_self_eq_false, List.take_zero, List.map_cons, List.map_nil, Int.reduceNeg, Bool.and_true, and_self, Bool.true_and, Bool.and_self, ne_eq, not_true_eq_false, decide_false, decide_true, Bool.false_eq_true, Nat.reduceAdd, Option.map_some, Option.map_none, Option.bind_some, Option.bind_none, List.length_nil, List.length_cons, List.append_nil, Bool.and_false, w64, demV_sl, Int.cast_ofNat_Int, Int.reduceLT, Int.reduceAdd, Int.reduceSub, Int.reduceLE, Int.reduceEq, Int.reduceToNat, Int.toNat_natCast, Nat.reduceSub, Nat.reduceMul, Nat.reduceLeDiff, Nat.zero_add, Int.zero_add, not_false_eq_true, Bool.not_true, Bool.not_false, Bool.false_and, List.cons_append, List.nil_append, Int.lt_irrefl, List.drop_length]
    simp [phr]
  | k + 1, i, md, out, hm, h1, h2 => by
    have h3 : i < T.length := by omega
    have h4 : (i : Int) < (T.length : Int) := by omega
    have h0 : (0 : Int) ≤ (i : Int) := by omega
    have hw : IntKind.i64.wrap ((i : Int) + 1) = ((i + 1 : Nat) : Int) := by rw [w64 (by omega) (by omega)]; rfl
    have hg : T[i]? = some T[i] := List.getElem?_eq_getElem h3
    have hd : T.drop i = T[i] :: T.drop (i + 1) := List.drop_eq_getElem_cons h3
    have hl : T[i].2.1.length ≤ 1000000 := hT2 _ (List.getElem_mem h3)
    have hr := tks_at hg
    by_cases h5 : cnt T[i].1 = true
    · obtain ⟨md', ih⟩ := l17 T hT hT2 k (i + 1) .own (out ++ [keyF T[i].1 T[i].2.1]) (by decide) (by omega) (by simp; omega)
      refine ⟨md', ?_⟩
      have e : phr (T.drop i) = keyF T[i].1 T[i].2.1 :: phr (T.drop (i + 1)) := by rw [hd, phr_yes h5]
      rw [e]
      rw [List.append_assoc] at ih
      have ha : appOK 16 (out.length + 1) = true := appOK_le (by decide) (by omega)
      rw [Y_loop (L := L17_0) rfl]
      simp only [go_sem, and_false, false_and, and_true, true_and, Nat.reduceAdd, Nat.reduceEqDiff, Nat.reduceLT, ↓reduceIte, decide_eq_true_eq, List.take_nil, beq_self_eq_true, bne_self_eq_false, List.take_zero, List.map_cons, List.map_nil, Int.reduceNeg, Bool.and_true, and_self, Bool.true_and, Bool.and_self, ne_eq, not_true_eq_false, decide_false, decide_true, Bool.false_eq_true, Nat.reduceAdd, Option.map_some, Option.map_none, Option.bind_some, Option.bind_none, List.length_nil, List.length_cons, List.append_nil, Bool.and_false, w64, demV_sl, Int.cast_ofNat_Int, Int.reduceLT, Int.reduceAdd, Int.reduceSub, Int.reduceLE, Int.reduceEq, Int.reduceToNat, Int.toNat_natCast, Nat.reduceSub, Nat.reduceMul, Nat.reduceLeDiff, Nat.zero_add, Int.zero_add, not_false_eq_true, Bool.not_true, Bool.not_false, Bool.false_and, List.cons_append, List.nil_append, h4, h0, hw, hr, c47, c23 _ _ _ hl, h5, appA_gen md _ hm 1 16 (by decide), strs_len, ha, strs_one, strs_app]
      exact ih
    · obtain ⟨md', ih⟩ := l17 T hT hT2 k (i + 1) md out hm (by omega) (by omega)
      refine ⟨md', ?_⟩
      have h5' : cnt T[i].1 = false := by simpa using h5
      have e : phr (T.drop i) = phr (T.drop (i + 1)) := by rw [hd, phr_no h5']
      rw [e]
      rw [Y_loop (L := L17_0) rfl]
      simp only [go_sem, and_false, false_and, and_true, true_and, Nat.reduceAdd, Nat.reduceEqDiff, Nat.reduceLT, ↓reduceIte, decide_eq_true_eq, List.take_nil, beq_self_eq_true, bne_self_eq_false, List.take_zero, List.map_cons, List.map_nil, Int.reduceNeg, Bool.and_true, and_self, Bool.true_and, Bool.and_self, ne_eq, not_true_eq_false, decide_false, decide_true, Bool.false_eq_true, Nat.reduceAdd, Option.map_some, Option.map_none, Option.bind_some, Option.bind_none, List.length_nil, List.length_cons, List.append_nil, Bool.and_false, w64, demV_sl, Int.cast_ofNat_Int, Int.reduceLT, Int.reduceAdd, Int.reduceSub, Int.reduceLE, Int.reduceEq, Int.reduceToNat, Int.toNat_natCast, Nat.reduceSub, Nat.reduceMul, Nat.reduceLeDiff, Nat.zero_add, Int.zero_add, not_false_eq_true, Bool.not_true, Bool.not_false, Bool.false_and, List.cons_append, List.nil_append, h4, h0, hw, hr, c47, h5']
      exact ih
def phrF (s : List UInt8) : List (List UInt8) := phr (cutF s)
theorem c17 (s : List UInt8) (hs : s.length ≤ 1000000) : G0 17 [.str s] [] = some (.sl .no 1 (strs (phrF s)), []) := by
  refine contract F17 rfl rfl rfl ?_
  have hc := cutL_len s.length s
  obtain ⟨md', hx⟩ := l17 (cutF s) (by unfold cutF; omega) (fun t ht => by have := hc.2 t ht; omega) (cutF s).length 0 .full [] (by decide) (by omega) (by simp)
  simp only [go_sem, and_false, false_and, and_true, true_and, Nat.reduceAdd, Nat.reduceEqDiff, Nat.reduceLT, ↓reduceIte, decide_eq_true_eq, List.take_nil, beq_self_eq_true, bne_self_eq_false, List.take_zero, List.map_cons, List.map_nil, Int.reduceNeg, Bool.and_true, and_self, Bool.true_and, Bool.and_self, ne_eq, not_true_eq_false, decide_false, decide_true, Bool.false_eq_true, Nat.reduceAdd, Option.map_some, Option.map_none, Option.bind_some, Option.bind_none, List.length_nil, List.length_cons, List.append_nil, Bool.and_false, w64, demV_sl, Int.cast_ofNat_Int, Int.reduceLT, Int.reduceAdd, Int.reduceSub, Int.reduceLE, Int.reduceEq, Int.reduceToNat, Int.toNat_natCast, Nat.reduceSub, Nat.reduceMul, Nat.reduceLeDiff, Nat.zero_add, Int.zero_add, not_false_eq_true, Bool.not_true, Bool.not_false, Bool.false_and, List.cons_append, List.nil_append, strs_nil, List.drop_zero] at hx
  simp only [F17, go_sem, and_false, false_and, and_true, true_and, Nat.reduceAdd, Nat.reduceEqDiff, Nat.reduceLT, ↓reduceIte, decide_eq_true_eq, List.take_nil, beq_self_eq_true, bne_self_eq_false, List.take_zero, List.map_cons, List.map_nil, Int.reduceNeg, Bool.and_true, and_self, Bool.true_and, Bool.and_self, ne_eq, not_true_eq_false, decide_false, decide_true, Bool.false_eq_true, Nat.reduceAdd, Option.map_some, Option.map_none, Option.bind_some, Option.bind_none, List.length_nil, List.length_cons, List.append_nil, Bool.and_false, w64, demV_sl, Int.cast_ofNat_Int, Int.reduceLT, Int.reduceAdd, Int.reduceSub, Int.reduceLE, Int.reduceEq, Int.reduceToNat, Int.toNat_natCast, Nat.reduceSub, Nat.reduceMul, Nat.reduceLeDiff, Nat.zero_add, Int.zero_add, not_false_eq_true, Bool.not_true, Bool.not_false, Bool.false_and, List.cons_append, List.nil_append, c46 s hs, tks_len, hx, phrF]
theorem c16 (s : List UInt8) (hs : s.length ≤ 1000000) : G0 16 [.str s] [] = some (.sl .no 1 (strs (phrF s)), []) := by
  refine contract F16 rfl rfl rfl ?_
  by_cases h1 : 1 ≤ s.length
  · have hc := cutL_len s.length s
    obtain ⟨md', hx⟩ := l16 (cutF s) (by unfold cutF; omega) (fun t ht => by have := hc.2 t ht; omega) (cutF s).length 0 .full [] (by decide) (by omega) (by simp)
    simp only [go_sem, and_false, false_and, and_true, true_and, Nat.reduceAdd, Nat.reduceEqDiff, Nat.reduceLT, ↓reduceIte, decide_eq_true_eq, List.take_nil, beq_self_eq_true, bne_self_eq_false, List.take_zero, List.map_cons, List.map_nil, Int.reduceNeg, Bool.and_true, and_self, Bool.true_and, Bool.and_self, ne_eq, not_true_eq_false, decide_false, decide_true, Bool.false_eq_true, Nat.reduceAdd, Option.map_some, Option.map_none, Option.bind_some, Option.bind_none, List.length_nil, List.length_cons, List.append_nil, Bool.and_false, w64, demV_sl, Int.cast_ofNat_Int, Int.reduceLT, Int.reduceAdd, Int.reduceSub, Int.reduceLE, Int.reduceEq, Int.reduceToNat, Int.toNat_natCast, Nat.reduceSub, Nat.reduceMul, Nat.reduceLeDiff, Nat.zero_add, Int.zero_add, not_false_eq_true, Bool.not_true, Bool.not_false, Bool.false_and, List.cons_append, List.nil_append, strs_nil, List.drop_zero] at hx
    simp only [F16, go_sem, and_false, false_and, and_true, true_and, Nat.reduceAdd, Nat.reduceEqDiff, Nat.reduceLT, ↓reduceIte, decide_eq_true_eq, List.take_nil, beq_self_eq_true, bne_self_eq_false, List.take_zero, List.map_cons, List.map_nil, Int.reduceNeg, Bool.and_true, and_self, Bool.true_and, Bool.and_self, ne_eq, not_true_eq_false, decide_false, decide_true, Bool.false_eq_true, Nat.reduceAdd, Option.map_some, Option.map_none, Option.bind_some, Option.bind_none, List.length_nil, List.length_cons, List.append_nil, Bool.and_false, w64, demV_sl, Int.cast_ofNat_Int, Int.reduceLT, Int.reduceAdd, Int.reduceSub, Int.reduceLE, Int.reduceEq, Int.reduceToNat, Int.toNat_natCast, Nat.reduceSub, Nat.reduceMul, Nat.reduceLeDiff, Nat.zero_add, Int.zero_add, not_false_eq_true, Bool.not_true, Bool.not_false, Bool.false_and, List.cons_append, List.nil_append, beq_nil h1, c43 s hs, tks_len, hx, phrF]
  · have : s = [] := List.eq_nil_of_length_eq_zero (by omega)
    subst this
    simp only [F16, go_sem, and_false, false_and, and_true, true_and, Nat.reduceAdd, Nat.reduceEqDiff, Nat.reduceLT, ↓reduceIte, decide_eq_true_eq, List.take_nil, beq_self_eq_true, bne_self_eq_false, List.take_zero, List.map_cons, List.map_nil, Int.reduceNeg, Bool.and_true, and_self, Bool.true_and, Bool.and_self, ne_eq, not_true_eq_false, decide_false, decide_true, Bool.false_eq_true, Nat.reduceAdd, Option.map_some, Option.map_none, Option.bind_some, Option.bind_none, List.length_nil, List.length_cons, List.append_nil, Bool.and_false, w64, demV_sl, Int.cast_ofNat_Int, Int.reduceLT, Int.reduceAdd, Int.reduceSub, Int.reduceLE, Int.reduceEq, Int.reduceToNat, Int.toNat_natCast, Nat.reduceSub, Nat.reduceMul, Nat.reduceLeDiff, Nat.zero_add, Int.zero_add, not_false_eq_true, Bool.not_true, Bool.not_false, Bool.false_and, List.cons_append, List.nil_append]
    rfl
end Go.Av
