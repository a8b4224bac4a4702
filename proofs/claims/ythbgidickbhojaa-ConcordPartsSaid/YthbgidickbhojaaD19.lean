/- A part of the proof: D19. No conditions. -/
import Derived.Test.YthbgidickbhojaaD16
import Derived.Test.YthbgidickbhojaaD17
set_option linter.unusedSimpArgs false
set_option linter.unusedVariables false
namespace Go.Av
set_option linter.unusedSimpArgs false
set_option maxHeartbeats 4000000
theorem l5a (x1 x2 : Int) (T : List Tk) (hT : T.length ≤ 1000000) (hT2 : ∀ t ∈ T, t.2.1.length ≤ 1000000) : ∀ (k i : Nat) (md : Own) (P : List Int) (K : List (List UInt8)), md ≠ .no → i + k = T.length → P.length ≤ i → K.length ≤ i →
    ∃ md', md' ≠ .no ∧ execX G0 L5_0 (ST [(1, .int .i64 x1), (2, .int .i64 x2), (7, .sl .no 3 (tks T)), (8, .sl md 1 (ints P)), (9, .sl md 1 (strs K)), (18, .bool false), (23, .int .i64 T.length), (24, .int .i64 i)] [] []) = some (.ex 0, ST [(1, .int .i64 x1), (2, .int .i64 x2), (7, .sl .no 3 (tks T)), (8, .sl md' 1 (ints (P ++ plc i (T.drop i)))), (9, .sl md' 1 (strs (K ++ phr (T.drop i)))), (18, .bool false), (23, .int .i64 T.length), (24, .int .i64 T.length), (25, .bool false)] [] [])
  | 0, i, md, P, K, hm, h1, h2, h2' => by
    have : i = T.length := by omega
    subst this
    refine ⟨md, hm, ?_⟩
    rw [Y_loop (L := L5_0) rfl]
    simp only [go_sem, List.set_cons_zero, List.set_cons_succ, List.take_succ_cons, and_false, false_and, and_true, true_and, Nat.reduceAdd, Nat.reduceEqDiff, Nat.reduceLT, ↓reduceIte, decide_eq_true_eq, List.take_nil, beq_self_eq_true, bne_self_eq_false, List.take_zero, List.map_cons, List.map_nil, Int.reduceNeg, Bool.and_true, and_self, Bool.true_and, Bool.and_self, ne_eq, not_true_eq_false, decide_false, decide_true, Bool.false_eq_true, Nat.reduceAdd, Option.map_some, Option.map_none, Option.bind_some, Option.bind_none, List.length_nil, List.length_cons, List.append_nil, Bool.and_false, w64, demV_sl, Int.cast_ofNat_Int, Int.reduceLT, Int.reduceAdd, Int.reduceSub, Int.reduceLE, Int.reduceEq, Int.reduceToNat, Int.toNat_natCast, Nat.reduceSub, Nat.reduceMul, Nat.reduceLeDiff, Nat.zero_add, Int.zero_add, not_false_eq_true, Bool.not_true, Bool.not_false, Bool.false_and, List.cons_append, List.nil_append, Int.lt_irrefl, List.drop_length]
    simp [phr, plc]
  | k + 1, i, md, P, K, hm, h1, h2, h2' => by
    have h3 : i < T.length := by omega
    have h4 : (i : Int) < (T.length : Int) := by omega
    have h0 : (0 : Int) ≤ (i : Int) := by omega
    have hw : IntKind.i64.wrap ((i : Int) + 1) = ((i + 1 : Nat) : Int) := by rw [w64 (by omega) (by omega)]; rfl
    have hg : T[i]? = some T[i] := List.getElem?_eq_getElem h3
    have hd : T.drop i = T[i] :: T.drop (i + 1) := List.drop_eq_getElem_cons h3
    have hl : T[i].2.1.length ≤ 1000000 := hT2 _ (List.getElem_mem h3)
    generalize T[i] = t at hg hd hl
    have hr := tks_at hg
    by_cases h5 : cnt t.1 = true
    · obtain ⟨md', hm', ih⟩ := l5a x1 x2 T hT hT2 k (i + 1) .own (P ++ [(i : Int)]) (K ++ [keyF t.1 t.2.1]) (by decide) (by omega) (by simp; omega) (by simp; omega)
      refine ⟨md', hm', ?_⟩
      have e : phr (T.drop i) = keyF t.1 t.2.1 :: phr (T.drop (i + 1)) := by rw [hd, phr_yes h5]
      have e2 : plc i (T.drop i) = (i : Int) :: plc (i + 1) (T.drop (i + 1)) := by rw [hd]; simp only [plc, h5, if_true]
      rw [e, e2]
      rw [List.append_assoc, List.append_assoc] at ih
      have ha : appOK 16 (K.length + 1) = true := appOK_le (by decide) (by omega)
      have ha2 : appOK 8 (P.length + 1) = true := appOK_le (by decide) (by omega)
      rw [Y_loop (L := L5_0) rfl]
      by_cases c6 : t.1 = 6
      · have c6' := eq_true c6
        simp only [go_sem, List.set_cons_zero, List.set_cons_succ, List.take_succ_cons, and_false, false_and, and_true, true_and, Nat.reduceAdd, Nat.reduceEqDiff, Nat.reduceLT, ↓reduceIte, decide_eq_true_eq, List.take_nil, beq_self_eq_true, bne_self_eq_false, List.take_zero, List.map_cons, List.map_nil, Int.reduceNeg, Bool.and_true, and_self, Bool.true_and, Bool.and_self, ne_eq, not_true_eq_false, decide_false, decide_true, Bool.false_eq_true, Nat.reduceAdd, Option.map_some, Option.map_none, Option.bind_some, Option.bind_none, List.length_nil, List.length_cons, List.append_nil, Bool.and_false, w64, demV_sl, Int.cast_ofNat_Int, Int.reduceLT, Int.reduceAdd, Int.reduceSub, Int.reduceLE, Int.reduceEq, Int.reduceToNat, Int.toNat_natCast, Nat.reduceSub, Nat.reduceMul, Nat.reduceLeDiff, Nat.zero_add, Int.zero_add, not_false_eq_true, Bool.not_true, Bool.not_false, Bool.false_and, List.cons_append, List.nil_append, h4, h0, hw, hr, c23 _ _ _ hl, c6', appA_gen md _ hm 1 16 (by decide), appA_gen md _ hm 1 8 (by decide), strs_len, ints_length, ha, ha2, strs_one, strs_app, ints_one, ints_app]
        exact ih
      · have c7 : t.1 = 7 := by simpa [cnt, c6] using h5
        have c6' := eq_false c6
        have c7' := eq_true c7
        simp only [go_sem, List.set_cons_zero, List.set_cons_succ, List.take_succ_cons, and_false, false_and, and_true, true_and, Nat.reduceAdd, Nat.reduceEqDiff, Nat.reduceLT, ↓reduceIte, decide_eq_true_eq, List.take_nil, beq_self_eq_true, bne_self_eq_false, List.take_zero, List.map_cons, List.map_nil, Int.reduceNeg, Bool.and_true, and_self, Bool.true_and, Bool.and_self, ne_eq, not_true_eq_false, decide_false, decide_true, Bool.false_eq_true, Nat.reduceAdd, Option.map_some, Option.map_none, Option.bind_some, Option.bind_none, List.length_nil, List.length_cons, List.append_nil, Bool.and_false, w64, demV_sl, Int.cast_ofNat_Int, Int.reduceLT, Int.reduceAdd, Int.reduceSub, Int.reduceLE, Int.reduceEq, Int.reduceToNat, Int.toNat_natCast, Nat.reduceSub, Nat.reduceMul, Nat.reduceLeDiff, Nat.zero_add, Int.zero_add, not_false_eq_true, Bool.not_true, Bool.not_false, Bool.false_and, List.cons_append, List.nil_append, h4, h0, hw, hr, c23 _ _ _ hl, c6', c7', appA_gen md _ hm 1 16 (by decide), appA_gen md _ hm 1 8 (by decide), strs_len, ints_length, ha, ha2, strs_one, strs_app, ints_one, ints_app]
        exact ih
    · obtain ⟨md', hm', ih⟩ := l5a x1 x2 T hT hT2 k (i + 1) md P K hm (by omega) (by omega) (by omega)
      refine ⟨md', hm', ?_⟩
      have h5' : cnt t.1 = false := by simpa using h5
      have e : phr (T.drop i) = phr (T.drop (i + 1)) := by rw [hd, phr_no h5']
      have e2 : plc i (T.drop i) = plc (i + 1) (T.drop (i + 1)) := by rw [hd]; simp only [plc, h5', Bool.false_eq_true, if_false]
      have c6' : (t.1 = 6) = False := eq_false (fun h => by simp [cnt, h] at h5)
      have c7' : (t.1 = 7) = False := eq_false (fun h => by simp [cnt, h] at h5)
      rw [e, e2]
      rw [Y_loop (L := L5_0) rfl]
      simp only [go_sem, List.set_cons_zero, List.set_cons_succ, List.take_succ_cons, and_false, false_and, and_true, true_and, Nat.reduceAdd, Nat.reduceEqDiff, Nat.reduceLT, ↓reduceIte, decide_eq_true_eq, List.take_nil, beq_self_eq_true, bne_self_eq_false, List.take_zero, List.map_cons, List.map_nil, Int.reduceNeg, Bool.and_true, and_self, Bool.true_and, Bool.and_self, ne_eq, not_true_eq_false, decide_false, decide_true, Bool.false_eq_true, Nat.reduceAdd, Option.map_some, Option.map_none, Option.bind_some, Option.bind_none, List.length_nil, List.length_cons, List.append_nil, Bool.and_false, w64, demV_sl, Int.cast_ofNat_Int, Int.reduceLT, Int.reduceAdd, Int.reduceSub, Int.reduceLE, Int.reduceEq, Int.reduceToNat, Int.toNat_natCast, Nat.reduceSub, Nat.reduceMul, Nat.reduceLeDiff, Nat.zero_add, Int.zero_add, not_false_eq_true, Bool.not_true, Bool.not_false, Bool.false_and, List.cons_append, List.nil_append, h4, h0, hw, hr, c6', c7']
      exact ih
theorem l5b (y : Int) (a b : Int) (L : List (Int × Int)) (hL : L.length ≤ 1000000) : ∀ (k i : Nat), i + k = L.length → (a, b) ∈ L.drop i →
    ∃ l' m', execX G0 L5_1 (ST [(13, .loc 13 0), (18, .bool false), (23, .int .i64 y), (24, .int .i64 y), (25, .bool false), (56, .bool false), (94, .sl .no 2 (prs L)), (95, .int .i64 L.length), (96, .int .i64 i)] [(13, some [.int .i64 a, .int .i64 b])] []) = some (.ret, ST l' m' []) ∧ look .any l' 6 = .bool true
  | 0, i, h, hm => by
    have : i = L.length := by omega
    subst this
    simp at hm
  | k + 1, i, h, hm => by
    have hi : i < L.length := by omega
    have h4 : (i : Int) < (L.length : Int) := by omega
    have h0 : (0 : Int) ≤ (i : Int) := by omega
    have hw : IntKind.i64.wrap ((i : Int) + 1) = ((i + 1 : Nat) : Int) := by rw [w64 (by omega) (by omega)]; rfl
    have hg : L[i]? = some L[i] := List.getElem?_eq_getElem hi
    have hd : L.drop i = L[i] :: L.drop (i + 1) := List.drop_eq_getElem_cons hi
    generalize L[i] = q at hg hd
    have hr := prs_at hg
    by_cases c : q.1 = a ∧ q.2 = b
    · refine Exists.intro ?_ (Exists.intro ?_ (And.intro ?_ ?_))
      rotate_left 2
      · rw [Y_loop (L := L5_1) rfl]
        simp only [go_sem, List.set_cons_zero, List.set_cons_succ, List.take_succ_cons, and_false, false_and, and_true, true_and, Nat.reduceAdd, Nat.reduceEqDiff, Nat.reduceLT, ↓reduceIte, decide_eq_true_eq, List.take_nil, beq_self_eq_true, bne_self_eq_false, List.take_zero, List.map_cons, List.map_nil, Int.reduceNeg, Bool.and_true, and_self, Bool.true_and, Bool.and_self, ne_eq, not_true_eq_false, decide_false, decide_true, Bool.false_eq_true, Nat.reduceAdd, Option.map_some, Option.map_none, Option.bind_some, Option.bind_none, List.length_nil, List.length_cons, List.append_nil, Bool.and_false, w64, demV_sl, Int.cast_ofNat_Int, Int.reduceLT, Int.reduceAdd, Int.reduceSub, Int.reduceLE, Int.reduceEq, Int.reduceToNat, Int.toNat_natCast, Nat.reduceSub, Nat.reduceMul, Nat.reduceLeDiff, Nat.zero_add, Int.zero_add, not_false_eq_true, Bool.not_true, Bool.not_false, Bool.false_and, List.cons_append, List.nil_append, h4, h0, hw, hr, c.1, c.2, c14]
        rfl
      · rfl
    · have hm' : (a, b) ∈ L.drop (i + 1) := by
        rw [hd] at hm
        rcases List.mem_cons.1 hm with h | h
        · exact absurd ⟨by rw [← h], by rw [← h]⟩ c
        · exact h
      obtain ⟨l', m', e1, e2⟩ := l5b y a b L hL k (i + 1) (by omega) hm'
      refine ⟨l', m', ?_, e2⟩
      rw [Y_loop (L := L5_1) rfl]
      by_cases c1 : q.1 = a
      · have c2 : ¬ q.2 = b := fun h => c ⟨c1, h⟩
        simp only [go_sem, List.set_cons_zero, List.set_cons_succ, List.take_succ_cons, and_false, false_and, and_true, true_and, Nat.reduceAdd, Nat.reduceEqDiff, Nat.reduceLT, ↓reduceIte, decide_eq_true_eq, List.take_nil, beq_self_eq_true, bne_self_eq_false, List.take_zero, List.map_cons, List.map_nil, Int.reduceNeg, Bool.and_true, and_self, Bool.true_and, Bool.and_self, ne_eq, not_true_eq_false, decide_false, decide_true, Bool.false_eq_true, Nat.reduceAdd, Option.map_some, Option.map_none, Option.bind_some, Option.bind_none, List.length_nil, List.length_cons, List.append_nil, Bool.and_false, w64, demV_sl, Int.cast_ofNat_Int, Int.reduceLT, Int.reduceAdd, Int.reduceSub, Int.reduceLE, Int.reduceEq, Int.reduceToNat, Int.toNat_natCast, Nat.reduceSub, Nat.reduceMul, Nat.reduceLeDiff, Nat.zero_add, Int.zero_add, not_false_eq_true, Bool.not_true, Bool.not_false, Bool.false_and, List.cons_append, List.nil_append, h4, h0, hw, hr, c1, c2]
        exact e1
      · simp only [go_sem, List.set_cons_zero, List.set_cons_succ, List.take_succ_cons, and_false, false_and, and_true, true_and, Nat.reduceAdd, Nat.reduceEqDiff, Nat.reduceLT, ↓reduceIte, decide_eq_true_eq, List.take_nil, beq_self_eq_true, bne_self_eq_false, List.take_zero, List.map_cons, List.map_nil, Int.reduceNeg, Bool.and_true, and_self, Bool.true_and, Bool.and_self, ne_eq, not_true_eq_false, decide_false, decide_true, Bool.false_eq_true, Nat.reduceAdd, Option.map_some, Option.map_none, Option.bind_some, Option.bind_none, List.length_nil, List.length_cons, List.append_nil, Bool.and_false, w64, demV_sl, Int.cast_ofNat_Int, Int.reduceLT, Int.reduceAdd, Int.reduceSub, Int.reduceLE, Int.reduceEq, Int.reduceToNat, Int.toNat_natCast, Nat.reduceSub, Nat.reduceMul, Nat.reduceLeDiff, Nat.zero_add, Int.zero_add, not_false_eq_true, Bool.not_true, Bool.not_false, Bool.false_and, List.cons_append, List.nil_append, h4, h0, hw, hr, c1]
        exact e1
theorem occ_mem (P : List Int) (K w : List (List UInt8)) (a : Nat) (h1 : a + w.length ≤ K.length) (h2 : (K.take (a + w.length)).drop a = w) : ∀ (k i : Nat), i ≤ a → a < i + k → (P.getD a 0, P.getD (a + w.length - 1) 0 + 1) ∈ occ P K w k i
  | 0, i, h3, h4 => by omega
  | k + 1, i, h3, h4 => by
    simp only [occ]
    rw [if_pos (by omega : i + w.length ≤ K.length)]
    by_cases e : i = a
    · subst e
      rw [if_pos h2]
      exact List.mem_cons_self
    · have ih := occ_mem P K w a h1 h2 k (i + 1) (by omega) (by omega)
      split
      · exact List.mem_cons_of_mem _ ih
      · exact ih
theorem c5 (l : List Int) (x1 x2 : Int) : G0 5 [.sl .no 1 (ints l), .int .i64 x1, .int .i64 x2] [] = some (.bool true, []) := by
  refine contract F5 rfl rfl rfl ?_
  by_cases h1 : 80 < l.length
  · have h1' : (80 : Int) < (l.length : Int) := by omega
    simp only [F5, go_sem, List.set_cons_zero, List.set_cons_succ, List.take_succ_cons, and_false, false_and, and_true, true_and, Nat.reduceAdd, Nat.reduceEqDiff, Nat.reduceLT, ↓reduceIte, decide_eq_true_eq, List.take_nil, beq_self_eq_true, bne_self_eq_false, List.take_zero, List.map_cons, List.map_nil, Int.reduceNeg, Bool.and_true, and_self, Bool.true_and, Bool.and_self, ne_eq, not_true_eq_false, decide_false, decide_true, Bool.false_eq_true, Nat.reduceAdd, Option.map_some, Option.map_none, Option.bind_some, Option.bind_none, List.length_nil, List.length_cons, List.append_nil, Bool.and_false, w64, demV_sl, Int.cast_ofNat_Int, Int.reduceLT, Int.reduceAdd, Int.reduceSub, Int.reduceLE, Int.reduceEq, Int.reduceToNat, Int.toNat_natCast, Nat.reduceSub, Nat.reduceMul, Nat.reduceLeDiff, Nat.zero_add, Int.zero_add, not_false_eq_true, Bool.not_true, Bool.not_false, Bool.false_and, List.cons_append, List.nil_append, ints_length, h1', c14]
  have h1' : ¬ (80 : Int) < (l.length : Int) := by omega
  obtain ⟨T, t1, t2, t3⟩ := c22 l
  have hT2 : ∀ t ∈ T, t.2.1.length ≤ 1000000 := fun t ht => by have := t2 t ht; omega
  obtain ⟨md, hmd, ha⟩ := l5a x1 x2 T (by omega) hT2 T.length 0 .full [] [] (by decide) (by omega) (by simp) (by simp)
  simp only [go_sem, List.set_cons_zero, List.set_cons_succ, List.take_succ_cons, and_false, false_and, and_true, true_and, Nat.reduceAdd, Nat.reduceEqDiff, Nat.reduceLT, ↓reduceIte, decide_eq_true_eq, List.take_nil, beq_self_eq_true, bne_self_eq_false, List.take_zero, List.map_cons, List.map_nil, Int.reduceNeg, Bool.and_true, and_self, Bool.true_and, Bool.and_self, ne_eq, not_true_eq_false, decide_false, decide_true, Bool.false_eq_true, Nat.reduceAdd, Option.map_some, Option.map_none, Option.bind_some, Option.bind_none, List.length_nil, List.length_cons, List.append_nil, Bool.and_false, w64, demV_sl, Int.cast_ofNat_Int, Int.reduceLT, Int.reduceAdd, Int.reduceSub, Int.reduceLE, Int.reduceEq, Int.reduceToNat, Int.toNat_natCast, Nat.reduceSub, Nat.reduceMul, Nat.reduceLeDiff, Nat.zero_add, Int.zero_add, not_false_eq_true, Bool.not_true, Bool.not_false, Bool.false_and, List.cons_append, List.nil_append, ints_nil, strs_nil, List.drop_zero] at ha
  have hPK := plc_len T 0
  have hKT := phr_le T
  by_cases h2 : (phr T).length = 0
  · have h2' : (((plc 0 T).length : Nat) : Int) = 0 := by omega
    have h20 := c20 [[97]] T (by decide) (by omega) hT2
    have e : occF [[97]] T = [] := by
      unfold occF
      rw [if_neg (by simp)]
      simp [occ, h2]
    rw [e, prs_nil] at h20
    have e2 : strs [[97]] = [[.str [97]]] := rfl
    rw [e2] at h20
    simp only [F5, go_sem, List.set_cons_zero, List.set_cons_succ, List.take_succ_cons, and_false, false_and, and_true, true_and, Nat.reduceAdd, Nat.reduceEqDiff, Nat.reduceLT, ↓reduceIte, decide_eq_true_eq, List.take_nil, beq_self_eq_true, bne_self_eq_false, List.take_zero, List.map_cons, List.map_nil, Int.reduceNeg, Bool.and_true, and_self, Bool.true_and, Bool.and_self, ne_eq, not_true_eq_false, decide_false, decide_true, Bool.false_eq_true, Nat.reduceAdd, Option.map_some, Option.map_none, Option.bind_some, Option.bind_none, List.length_nil, List.length_cons, List.append_nil, Bool.and_false, w64, demV_sl, Int.cast_ofNat_Int, Int.reduceLT, Int.reduceAdd, Int.reduceSub, Int.reduceLE, Int.reduceEq, Int.reduceToNat, Int.toNat_natCast, Nat.reduceSub, Nat.reduceMul, Nat.reduceLeDiff, Nat.zero_add, Int.zero_add, not_false_eq_true, Bool.not_true, Bool.not_false, Bool.false_and, List.cons_append, List.nil_append, ints_length, h1', t3, tks_len, ha, h2', h20, c14]
  · have h2' : ¬ (((plc 0 T).length : Nat) : Int) = 0 := by omega
    have h24 := c24 x1 ((plc 0 T).length : Int) (by omega) (by omega)
    have b1 := Int.emod_nonneg x1 (show ((plc 0 T).length : Int) ≠ 0 by omega)
    have b2 := Int.emod_lt_of_pos x1 (show 0 < ((plc 0 T).length : Int) by omega)
    generalize x1 % ((plc 0 T).length : Int) = ai at h24 b1 b2
    obtain ⟨a, rfl⟩ : ∃ a : Nat, ai = (a : Int) := ⟨ai.toNat, by omega⟩
    have w1 : IntKind.i64.wrap ((a : Int) + 1) = ((a + 1 : Nat) : Int) := by rw [w64 (by omega) (by omega)]; rfl
    have w2 : IntKind.i64.wrap (((plc 0 T).length : Int) - (a : Int)) = (((plc 0 T).length - a : Nat) : Int) := by rw [w64 (by omega) (by omega)]; omega
    have h24b := c24 x2 (((plc 0 T).length - a : Nat) : Int) (by omega) (by omega)
    have b3 := Int.emod_nonneg x2 (show (((plc 0 T).length - a : Nat) : Int) ≠ 0 by omega)
    have b4 := Int.emod_lt_of_pos x2 (show 0 < (((plc 0 T).length - a : Nat) : Int) by omega)
    generalize x2 % (((plc 0 T).length - a : Nat) : Int) = ci at h24b b3 b4
    obtain ⟨c, rfl⟩ : ∃ c : Nat, ci = (c : Int) := ⟨ci.toNat, by omega⟩
    have w3 : IntKind.i64.wrap (((a + 1 : Nat) : Int) + (c : Int)) = ((a + 1 + c : Nat) : Int) := by rw [w64 (by omega) (by omega)]; rfl
    have w4 : IntKind.i64.wrap (((a + 1 + c : Nat) : Int) - 1) = ((a + c : Nat) : Int) := by rw [w64 (by omega) (by omega)]; omega
    have g1 : (plc 0 T)[a]? = some ((plc 0 T).getD a 0) := by simp [List.getD_eq_getElem?_getD, (show a < (plc 0 T).length by omega)]
    have g2 : (plc 0 T)[a + c]? = some ((plc 0 T).getD (a + c) 0) := by simp [List.getD_eq_getElem?_getD, (show a + c < (plc 0 T).length by omega)]
    have hb := plc_bd T 0 _ (List.mem_of_getElem? g2)
    have w5 : IntKind.i64.wrap ((plc 0 T).getD (a + c) 0 + 1) = (plc 0 T).getD (a + c) 0 + 1 := w64 (by omega) (by omega)
    have i0 : (0 : Int) ≤ (a : Int) := by omega
    have i1 : (0 : Int) ≤ ((a + c : Nat) : Int) := by omega
    have i2 : (a : Int) ≤ ((a + 1 + c : Nat) : Int) := by omega
    have i3 : ((a + 1 + c : Nat) : Int) ≤ ((phr T).length : Int) := by omega
    have hwl : (((phr T).take (a + 1 + c)).drop a).length = c + 1 := by simp; omega
    have h20 := c20 (((phr T).take (a + 1 + c)).drop a) T (by omega) (by omega) hT2
    have hm : ((plc 0 T).getD a 0, (plc 0 T).getD (a + c) 0 + 1) ∈ occF (((phr T).take (a + 1 + c)).drop a) T := by
      unfold occF
      rw [if_neg (by omega)]
      have q := occ_mem (plc 0 T) (phr T) (((phr T).take (a + 1 + c)).drop a) a (by omega) (by rw [hwl, show a + (c + 1) = a + 1 + c by omega]) ((phr T).length + 1) 0 (by omega) (by omega)
      rw [hwl] at q
      exact q
    have hlen : (occF (((phr T).take (a + 1 + c)).drop a) T).length ≤ 1000000 := by
      unfold occF
      split
      · simp
      · have := occ_len (plc 0 T) (phr T) (((phr T).take (a + 1 + c)).drop a) ((phr T).length + 1) 0; omega
    generalize occF (((phr T).take (a + 1 + c)).drop a) T = L at h20 hm hlen
    obtain ⟨l', m', e1, e2⟩ := l5b T.length _ _ L hlen L.length 0 (by omega) (by rw [List.drop_zero]; exact hm)
    simp only [go_sem, List.set_cons_zero, List.set_cons_succ, List.take_succ_cons, and_false, false_and, and_true, true_and, Nat.reduceAdd, Nat.reduceEqDiff, Nat.reduceLT, ↓reduceIte, decide_eq_true_eq, List.take_nil, beq_self_eq_true, bne_self_eq_false, List.take_zero, List.map_cons, List.map_nil, Int.reduceNeg, Bool.and_true, and_self, Bool.true_and, Bool.and_self, ne_eq, not_true_eq_false, decide_false, decide_true, Bool.false_eq_true, Nat.reduceAdd, Option.map_some, Option.map_none, Option.bind_some, Option.bind_none, List.length_nil, List.length_cons, List.append_nil, Bool.and_false, w64, demV_sl, Int.cast_ofNat_Int, Int.reduceLT, Int.reduceAdd, Int.reduceSub, Int.reduceLE, Int.reduceEq, Int.reduceToNat, Int.toNat_natCast, Nat.reduceSub, Nat.reduceMul, Nat.reduceLeDiff, Nat.zero_add, Int.zero_add, not_false_eq_true, Bool.not_true, Bool.not_false, Bool.false_and, List.cons_append, List.nil_append] at e1
    simp only [F5, go_sem, List.set_cons_zero, List.set_cons_succ, List.take_succ_cons, and_false, false_and, and_true, true_and, Nat.reduceAdd, Nat.reduceEqDiff, Nat.reduceLT, ↓reduceIte, decide_eq_true_eq, List.take_nil, beq_self_eq_true, bne_self_eq_false, List.take_zero, List.map_cons, List.map_nil, Int.reduceNeg, Bool.and_true, and_self, Bool.true_and, Bool.and_self, ne_eq, not_true_eq_false, decide_false, decide_true, Bool.false_eq_true, Nat.reduceAdd, Option.map_some, Option.map_none, Option.bind_some, Option.bind_none, List.length_nil, List.length_cons, List.append_nil, Bool.and_false, w64, demV_sl, Int.cast_ofNat_Int, Int.reduceLT, Int.reduceAdd, Int.reduceSub, Int.reduceLE, Int.reduceEq, Int.reduceToNat, Int.toNat_natCast, Nat.reduceSub, Nat.reduceMul, Nat.reduceLeDiff, Nat.zero_add, Int.zero_add, not_false_eq_true, Bool.not_true, Bool.not_false, Bool.false_and, List.cons_append, List.nil_append, ints_length, strs_len, h1', t3, tks_len, ha, h2', h24, w1, w2, h24b, w3, w4, w5, ints_at g1, ints_at g2, i0, i1, i2, i3, strs_slc, h20, prs_len, e1, e2, look_setl, look_kill]
end Go.Av
