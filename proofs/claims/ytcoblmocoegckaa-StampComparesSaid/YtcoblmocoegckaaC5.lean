/- A part of the proof: C5. No conditions. -/
import Derived.Test.YtcoblmocoegckaaP4
set_option linter.unusedSimpArgs false
set_option linter.unusedVariables false
namespace Go.Av
set_option linter.unusedSimpArgs false
theorem lists1 (l : List Int) : G0 8 [.sl .no 1 [[.sl .no 1 (ints l)]]] [] = some (.bool (decide (160 < sumW 0 [l])), []) := c8 [l] (by simp)
theorem c4 (t o n : Int) (l : List Int) : G0 4 [stA t o n, .sl .no 1 (ints l)] [] = some (.bool true, []) := by
  refine contract F4 rfl rfl rfl ?_
  by_cases h : 160 < sumW 0 [l]
  · simp only [F4, go_sem, Nat.reduceAdd, Nat.reduceEqDiff, Nat.reduceLT, ↓reduceIte, decide_eq_true_eq, List.take_nil, beq_self_eq_true, bne_self_eq_false, List.take_zero, List.map_cons, List.map_nil, Int.reduceNeg, Bool.and_true, and_self, Bool.true_and, Bool.and_self, ne_eq, not_true_eq_false, decide_false, decide_true, Bool.false_eq_true, Nat.reduceAdd, Option.map_some, Option.map_none, Option.bind_some, Option.bind_none, List.length_nil, List.length_cons, List.append_nil, Bool.and_false, w64, demV_sl, Int.cast_ofNat_Int, Int.reduceLT, Int.reduceAdd, Int.reduceSub, Int.reduceLE, Int.reduceEq, Int.reduceToNat, Int.toNat_natCast, Nat.reduceSub, Nat.reduceMul, Nat.reduceLeDiff, Nat.zero_add, Int.zero_add, not_false_eq_true, Bool.not_true, Bool.not_false, Bool.false_and, List.cons_append, List.nil_append, stA, lists1 l, h, c9]
  · obtain ⟨r, r1, r2, e1⟩ := c14 l 0 4 (by decide) (by decide) (by omega)
    obtain ⟨r', r1', r2', e2⟩ := c14 l 1 4 (by decide) (by decide) (by omega)
    obtain ⟨r'', r1'', r2'', e3⟩ := c14 l 2 4 (by decide) (by decide) (by omega)
    have g1 := ints_get [0, 1, 1073741824, 1073741825] r.toNat (by simp; omega)
    have g2 := ints_get [-1, 0, 7, 8] r'.toNat (by simp; omega)
    have g3 := ints_get [0, 1, 128, 129] r''.toNat (by simp; omega)
    generalize ([0, 1, 1073741824, 1073741825] : List Int).getD r.toNat 0 = x1 at g1
    generalize ([-1, 0, 7, 8] : List Int).getD r'.toNat 0 = x2 at g2
    generalize ([0, 1, 128, 129] : List Int).getD r''.toNat 0 = x3 at g3
    simp only [ints, List.map_cons, List.map_nil] at g1 g2 g3
    have v1 := c15 t o n
    have v2 := c16 t o n
    have v3 := c15 x1 x2 x3
    have v4 := c16 x1 x2 x3
    simp only [stA] at v1 v2 v3 v4
    simp only [F4, go_sem, Nat.reduceAdd, Nat.reduceEqDiff, Nat.reduceLT, ↓reduceIte, decide_eq_true_eq, List.take_nil, beq_self_eq_true, bne_self_eq_false, List.take_zero, List.map_cons, List.map_nil, Int.reduceNeg, Bool.and_true, and_self, Bool.true_and, Bool.and_self, ne_eq, not_true_eq_false, decide_false, decide_true, Bool.false_eq_true, Nat.reduceAdd, Option.map_some, Option.map_none, Option.bind_some, Option.bind_none, List.length_nil, List.length_cons, List.append_nil, Bool.and_false, w64, demV_sl, Int.cast_ofNat_Int, Int.reduceLT, Int.reduceAdd, Int.reduceSub, Int.reduceLE, Int.reduceEq, Int.reduceToNat, Int.toNat_natCast, Nat.reduceSub, Nat.reduceMul, Nat.reduceLeDiff, Nat.zero_add, Int.zero_add, not_false_eq_true, Bool.not_true, Bool.not_false, Bool.false_and, List.cons_append, List.nil_append, stA, lists1 l, h, c9, c10, e1, e2, e3, r1, r1', r1'', g1, g2, g3, v1, v2, v3, v4]
theorem cF (a b : List Int) : G0 23 [.sl .no 1 (ints a), .sl .no 1 (ints b)] [] = some (.bool (contF a b 0 8), []) := by rw [c23, cont_same]
theorem c6 (l : List Int) : G0 6 [.sl .no 1 (ints l)] [] = some (.bool true, []) := by
  refine contract F6 rfl rfl rfl ?_
  by_cases h : 160 < sumW 0 [l]
  · simp only [F6, go_sem, Nat.reduceAdd, Nat.reduceEqDiff, Nat.reduceLT, ↓reduceIte, decide_eq_true_eq, List.take_nil, beq_self_eq_true, bne_self_eq_false, List.take_zero, List.map_cons, List.map_nil, Int.reduceNeg, Bool.and_true, and_self, Bool.true_and, Bool.and_self, ne_eq, not_true_eq_false, decide_false, decide_true, Bool.false_eq_true, Nat.reduceAdd, Option.map_some, Option.map_none, Option.bind_some, Option.bind_none, List.length_nil, List.length_cons, List.append_nil, Bool.and_false, w64, demV_sl, Int.cast_ofNat_Int, Int.reduceLT, Int.reduceAdd, Int.reduceSub, Int.reduceLE, Int.reduceEq, Int.reduceToNat, Int.toNat_natCast, Nat.reduceSub, Nat.reduceMul, Nat.reduceLeDiff, Nat.zero_add, Int.zero_add, not_false_eq_true, Bool.not_true, Bool.not_false, Bool.false_and, List.cons_append, List.nil_append, lists1 l, h, c9]
  · obtain ⟨a, k1, a1, k1', e1⟩ := c17 l 0 (by omega)
    obtain ⟨b, k2, b1, k2', e2⟩ := c17 l k1 (by omega)
    obtain ⟨c, k3, d1, k3', e3⟩ := c17 l k2 (by omega)
    have q1 := c18 (joinF a b) (joinF b a) (by have := joinF_len a b; omega)
    have q2 := c18 (joinF (joinF a b) c) (joinF a (joinF b c)) (by have := joinF_len (joinF a b) c; omega)
    have q3 := c18 (joinF a a) (joinF a []) (by have := joinF_len a a; omega)
    rw [decide_eq_true (join_comm a b)] at q1
    rw [decide_eq_true (join_assoc a b c)] at q2
    rw [decide_eq_true (join_idem a)] at q3
    have p1 : contF (joinF a b) a 0 8 = true := (cont8 _ _).2 (le_join1 a b)
    have p2 : contF (joinF a b) b 0 8 = true := (cont8 _ _).2 (le_join2 a b)
    have p3 : contF c (joinF a b) 0 8 = (contF c a 0 8 && contF c b 0 8) := by
      rw [Bool.eq_iff_iff, Bool.and_eq_true, cont8, cont8, cont8]; exact join_le a b c
    cases p4 : contF c a 0 8
    · simp only [F6, go_sem, Nat.reduceAdd, Nat.reduceEqDiff, Nat.reduceLT, ↓reduceIte, decide_eq_true_eq, List.take_nil, beq_self_eq_true, bne_self_eq_false, List.take_zero, List.map_cons, List.map_nil, Int.reduceNeg, Bool.and_true, and_self, Bool.true_and, Bool.and_self, ne_eq, not_true_eq_false, decide_false, decide_true, Bool.false_eq_true, Nat.reduceAdd, Option.map_some, Option.map_none, Option.bind_some, Option.bind_none, List.length_nil, List.length_cons, List.append_nil, Bool.and_false, w64, demV_sl, Int.cast_ofNat_Int, Int.reduceLT, Int.reduceAdd, Int.reduceSub, Int.reduceLE, Int.reduceEq, Int.reduceToNat, Int.toNat_natCast, Nat.reduceSub, Nat.reduceMul, Nat.reduceLeDiff, Nat.zero_add, Int.zero_add, not_false_eq_true, Bool.not_true, Bool.not_false, Bool.false_and, List.cons_append, List.nil_append, lists1 l, h, c9, c10, e1, e2, e3, c21, c19, cF, q1, q2, q3, p1, p2, p3, p4]
    · simp only [F6, go_sem, Nat.reduceAdd, Nat.reduceEqDiff, Nat.reduceLT, ↓reduceIte, decide_eq_true_eq, List.take_nil, beq_self_eq_true, bne_self_eq_false, List.take_zero, List.map_cons, List.map_nil, Int.reduceNeg, Bool.and_true, and_self, Bool.true_and, Bool.and_self, ne_eq, not_true_eq_false, decide_false, decide_true, Bool.false_eq_true, Nat.reduceAdd, Option.map_some, Option.map_none, Option.bind_some, Option.bind_none, List.length_nil, List.length_cons, List.append_nil, Bool.and_false, w64, demV_sl, Int.cast_ofNat_Int, Int.reduceLT, Int.reduceAdd, Int.reduceSub, Int.reduceLE, Int.reduceEq, Int.reduceToNat, Int.toNat_natCast, Nat.reduceSub, Nat.reduceMul, Nat.reduceLeDiff, Nat.zero_add, Int.zero_add, not_false_eq_true, Bool.not_true, Bool.not_false, Bool.false_and, List.cons_append, List.nil_append, lists1 l, h, c9, c10, e1, e2, e3, c21, c19, cF, q1, q2, q3, p1, p2, p3, p4]


def cvF (a b : List Int) : Int → Nat → Bool
  | _, 0 => true
  | i, k + 1 => (decide (atF b i = 0) || covF a i (atF b i)) && cvF a b (i + 1) k
theorem cvF_cont (a b : List Int) : ∀ (k : Nat) (i : Int), cvF a b i k = contF a b i k
  | 0, i => rfl
  | k + 1, i => by
    have h := atF_nn b i
    have h2 := atF_nn a i
    simp only [cvF, contF, cvF_cont a b k (i + 1), covF]
    by_cases h3 : atF a i < atF b i
    · rw [if_pos h3, decide_eq_false (show ¬ atF b i = 0 by omega), decide_eq_false (show ¬ atF b i ≤ atF a i by omega)]; simp
    · rw [if_neg h3]
      by_cases h4 : atF b i = 0
      · simp [h4]
      · rw [decide_eq_true (show 1 ≤ atF b i by omega), decide_eq_true (show atF b i ≤ atF a i by omega)]; simp
theorem l7 (a b : List Int) (sh : List (List AV)) (u w : Bool) : ∀ (k : Nat) (v : Bool) (i : Int), 0 ≤ i → i + k = 8 →
    execX G0 L7_0 (ST [(4, .sl .no 1 (ints a)), (5, .sl .no 1 (ints b)), (7, .bool v), (8, .int .i64 i), (12, .bool u), (59, .bool w)] [] sh) =
    some (.ex 0, ST [(4, .sl .no 1 (ints a)), (5, .sl .no 1 (ints b)), (7, .bool (v && cvF a b i k)), (8, .int .i64 8), (12, .bool u), (59, .bool w), (61, .bool false)] [] sh)
  | 0, v, i, h0, h1 => by
    have : i = 8 := by omega
    subst this
    rw [Y_loop (L := L7_0) rfl]
    simp only [go_sem, Nat.reduceAdd, Nat.reduceEqDiff, Nat.reduceLT, ↓reduceIte, decide_eq_true_eq, List.take_nil, beq_self_eq_true, bne_self_eq_false, List.take_zero, List.map_cons, List.map_nil, Int.reduceNeg, Bool.and_true, and_self, Bool.true_and, Bool.and_self, ne_eq, not_true_eq_false, decide_false, decide_true, Bool.false_eq_true, Nat.reduceAdd, Option.map_some, Option.map_none, Option.bind_some, Option.bind_none, List.length_nil, List.length_cons, List.append_nil, Bool.and_false, w64, demV_sl, Int.cast_ofNat_Int, Int.reduceLT, Int.reduceAdd, Int.reduceSub, Int.reduceLE, Int.reduceEq, Int.reduceToNat, Int.toNat_natCast, Nat.reduceSub, Nat.reduceMul, Nat.reduceLeDiff, Nat.zero_add, Int.zero_add, not_false_eq_true, Bool.not_true, Bool.not_false, Bool.false_and, List.cons_append, List.nil_append, Int.lt_irrefl, cvF]
  | k + 1, v, i, h0, h1 => by
    have h3 : i < 8 := by omega
    have e1 := c27 a 1 i (atF b i)
    simp only [stA] at e1
    rw [Y_loop (L := L7_0) rfl]
    cases v with
    | false =>
      have ih := l7 a b sh u w k false (i + 1) (by omega) (by omega)
      simp only [go_sem, Nat.reduceAdd, Nat.reduceEqDiff, Nat.reduceLT, ↓reduceIte, decide_eq_true_eq, List.take_nil, beq_self_eq_true, bne_self_eq_false, List.take_zero, List.map_cons, List.map_nil, Int.reduceNeg, Bool.and_true, and_self, Bool.true_and, Bool.and_self, ne_eq, not_true_eq_false, decide_false, decide_true, Bool.false_eq_true, Nat.reduceAdd, Option.map_some, Option.map_none, Option.bind_some, Option.bind_none, List.length_nil, List.length_cons, List.append_nil, Bool.and_false, w64, demV_sl, Int.cast_ofNat_Int, Int.reduceLT, Int.reduceAdd, Int.reduceSub, Int.reduceLE, Int.reduceEq, Int.reduceToNat, Int.toNat_natCast, Nat.reduceSub, Nat.reduceMul, Nat.reduceLeDiff, Nat.zero_add, Int.zero_add, not_false_eq_true, Bool.not_true, Bool.not_false, Bool.false_and, List.cons_append, List.nil_append, c25, h3, w64 (n := i + 1) (by omega) (by omega), ih]
    | true =>
      by_cases h5 : atF b i = 0
      · have ih := l7 a b sh u w k true (i + 1) (by omega) (by omega)
        rw [h5] at e1
        simp only [go_sem, Nat.reduceAdd, Nat.reduceEqDiff, Nat.reduceLT, ↓reduceIte, decide_eq_true_eq, List.take_nil, beq_self_eq_true, bne_self_eq_false, List.take_zero, List.map_cons, List.map_nil, Int.reduceNeg, Bool.and_true, and_self, Bool.true_and, Bool.and_self, ne_eq, not_true_eq_false, decide_false, decide_true, Bool.false_eq_true, Nat.reduceAdd, Option.map_some, Option.map_none, Option.bind_some, Option.bind_none, List.length_nil, List.length_cons, List.append_nil, Bool.and_false, w64, demV_sl, Int.cast_ofNat_Int, Int.reduceLT, Int.reduceAdd, Int.reduceSub, Int.reduceLE, Int.reduceEq, Int.reduceToNat, Int.toNat_natCast, Nat.reduceSub, Nat.reduceMul, Nat.reduceLeDiff, Nat.zero_add, Int.zero_add, not_false_eq_true, Bool.not_true, Bool.not_false, Bool.false_and, List.cons_append, List.nil_append, c25, h3, h5, w64 (n := i + 1) (by omega) (by omega), ih, cvF, Bool.true_or]
      · have ih := l7 a b sh u w k (covF a i (atF b i)) (i + 1) (by omega) (by omega)
        simp only [go_sem, Nat.reduceAdd, Nat.reduceEqDiff, Nat.reduceLT, ↓reduceIte, decide_eq_true_eq, List.take_nil, beq_self_eq_true, bne_self_eq_false, List.take_zero, List.map_cons, List.map_nil, Int.reduceNeg, Bool.and_true, and_self, Bool.true_and, Bool.and_self, ne_eq, not_true_eq_false, decide_false, decide_true, Bool.false_eq_true, Nat.reduceAdd, Option.map_some, Option.map_none, Option.bind_some, Option.bind_none, List.length_nil, List.length_cons, List.append_nil, Bool.and_false, w64, demV_sl, Int.cast_ofNat_Int, Int.reduceLT, Int.reduceAdd, Int.reduceSub, Int.reduceLE, Int.reduceEq, Int.reduceToNat, Int.toNat_natCast, Nat.reduceSub, Nat.reduceMul, Nat.reduceLeDiff, Nat.zero_add, Int.zero_add, not_false_eq_true, Bool.not_true, Bool.not_false, Bool.false_and, List.cons_append, List.nil_append, c25, h3, h5, e1, w64 (n := i + 1) (by omega) (by omega), ih, cvF, Bool.false_or]
theorem c7 (l : List Int) : G0 7 [.sl .no 1 (ints l)] [] = some (.bool true, []) := by
  refine contract F7 rfl rfl rfl ?_
  by_cases h : 160 < sumW 0 [l]
  · simp only [F7, go_sem, Nat.reduceAdd, Nat.reduceEqDiff, Nat.reduceLT, ↓reduceIte, decide_eq_true_eq, List.take_nil, beq_self_eq_true, bne_self_eq_false, List.take_zero, List.map_cons, List.map_nil, Int.reduceNeg, Bool.and_true, and_self, Bool.true_and, Bool.and_self, ne_eq, not_true_eq_false, decide_false, decide_true, Bool.false_eq_true, Nat.reduceAdd, Option.map_some, Option.map_none, Option.bind_some, Option.bind_none, List.length_nil, List.length_cons, List.append_nil, Bool.and_false, w64, demV_sl, Int.cast_ofNat_Int, Int.reduceLT, Int.reduceAdd, Int.reduceSub, Int.reduceLE, Int.reduceEq, Int.reduceToNat, Int.toNat_natCast, Nat.reduceSub, Nat.reduceMul, Nat.reduceLeDiff, Nat.zero_add, Int.zero_add, not_false_eq_true, Bool.not_true, Bool.not_false, Bool.false_and, List.cons_append, List.nil_append, lists1 l, h, c9]
  · obtain ⟨a, k1, a1, k1', e1⟩ := c17 l 0 (by omega)
    obtain ⟨b, k2, b1, k2', e2⟩ := c17 l k1 (by omega)
    obtain ⟨c, k3, d1, k3', e3⟩ := c17 l k2 (by omega)
    have p1 : contF a a 0 8 = true := (cont8 _ _).2 (fun i => Int.le_refl _)
    have lp := l7 a b (NUM l k3) false false 8 true 0 (by omega) (by omega)
    rw [cvF_cont] at lp
    cases p2 : contF a b 0 8 with
    | false =>
      rw [p2] at lp
      simp only [F7, go_sem, Nat.reduceAdd, Nat.reduceEqDiff, Nat.reduceLT, ↓reduceIte, decide_eq_true_eq, List.take_nil, beq_self_eq_true, bne_self_eq_false, List.take_zero, List.map_cons, List.map_nil, Int.reduceNeg, Bool.and_true, and_self, Bool.true_and, Bool.and_self, ne_eq, not_true_eq_false, decide_false, decide_true, Bool.false_eq_true, Nat.reduceAdd, Option.map_some, Option.map_none, Option.bind_some, Option.bind_none, List.length_nil, List.length_cons, List.append_nil, Bool.and_false, w64, demV_sl, Int.cast_ofNat_Int, Int.reduceLT, Int.reduceAdd, Int.reduceSub, Int.reduceLE, Int.reduceEq, Int.reduceToNat, Int.toNat_natCast, Nat.reduceSub, Nat.reduceMul, Nat.reduceLeDiff, Nat.zero_add, Int.zero_add, not_false_eq_true, Bool.not_true, Bool.not_false, Bool.false_and, List.cons_append, List.nil_append, lists1 l, h, c9, c10, e1, e2, e3, c21, c19, cF, p1, p2, lp]
    | true =>
      rw [p2] at lp
      have pa := (cont8 _ _).1 p2
      have p3 : (contF b c 0 8 = true) → contF a c 0 8 = true := fun p => (cont8 _ _).2 fun i => Int.le_trans ((cont8 _ _).1 p i) (pa i)
      cases p4 : contF b a 0 8 with
      | false =>
        cases p5 : contF b c 0 8 with
        | false => simp only [F7, go_sem, Nat.reduceAdd, Nat.reduceEqDiff, Nat.reduceLT, ↓reduceIte, decide_eq_true_eq, List.take_nil, beq_self_eq_true, bne_self_eq_false, List.take_zero, List.map_cons, List.map_nil, Int.reduceNeg, Bool.and_true, and_self, Bool.true_and, Bool.and_self, ne_eq, not_true_eq_false, decide_false, decide_true, Bool.false_eq_true, Nat.reduceAdd, Option.map_some, Option.map_none, Option.bind_some, Option.bind_none, List.length_nil, List.length_cons, List.append_nil, Bool.and_false, w64, demV_sl, Int.cast_ofNat_Int, Int.reduceLT, Int.reduceAdd, Int.reduceSub, Int.reduceLE, Int.reduceEq, Int.reduceToNat, Int.toNat_natCast, Nat.reduceSub, Nat.reduceMul, Nat.reduceLeDiff, Nat.zero_add, Int.zero_add, not_false_eq_true, Bool.not_true, Bool.not_false, Bool.false_and, List.cons_append, List.nil_append, lists1 l, h, c9, c10, e1, e2, e3, c21, c19, cF, p1, p2, p4, p5, lp]
        | true => simp only [F7, go_sem, Nat.reduceAdd, Nat.reduceEqDiff, Nat.reduceLT, ↓reduceIte, decide_eq_true_eq, List.take_nil, beq_self_eq_true, bne_self_eq_false, List.take_zero, List.map_cons, List.map_nil, Int.reduceNeg, Bool.and_true, and_self, Bool.true_and, Bool.and_self, ne_eq, not_true_eq_false, decide_false, decide_true, Bool.false_eq_true, Nat.reduceAdd, Option.map_some, Option.map_none, Option.bind_some, Option.bind_none, List.length_nil, List.length_cons, List.append_nil, Bool.and_false, w64, demV_sl, Int.cast_ofNat_Int, Int.reduceLT, Int.reduceAdd, Int.reduceSub, Int.reduceLE, Int.reduceEq, Int.reduceToNat, Int.toNat_natCast, Nat.reduceSub, Nat.reduceMul, Nat.reduceLeDiff, Nat.zero_add, Int.zero_add, not_false_eq_true, Bool.not_true, Bool.not_false, Bool.false_and, List.cons_append, List.nil_append, lists1 l, h, c9, c10, e1, e2, e3, c21, c19, cF, p1, p2, p3 p5, p4, p5, lp]
      | true =>
        have q := c18 (joinF a []) (joinF b []) (by have := joinF_len a []; omega)
        rw [decide_eq_true (le_anti a b ((cont8 _ _).1 p4) pa)] at q
        cases p5 : contF b c 0 8 with
        | false => simp only [F7, go_sem, Nat.reduceAdd, Nat.reduceEqDiff, Nat.reduceLT, ↓reduceIte, decide_eq_true_eq, List.take_nil, beq_self_eq_true, bne_self_eq_false, List.take_zero, List.map_cons, List.map_nil, Int.reduceNeg, Bool.and_true, and_self, Bool.true_and, Bool.and_self, ne_eq, not_true_eq_false, decide_false, decide_true, Bool.false_eq_true, Nat.reduceAdd, Option.map_some, Option.map_none, Option.bind_some, Option.bind_none, List.length_nil, List.length_cons, List.append_nil, Bool.and_false, w64, demV_sl, Int.cast_ofNat_Int, Int.reduceLT, Int.reduceAdd, Int.reduceSub, Int.reduceLE, Int.reduceEq, Int.reduceToNat, Int.toNat_natCast, Nat.reduceSub, Nat.reduceMul, Nat.reduceLeDiff, Nat.zero_add, Int.zero_add, not_false_eq_true, Bool.not_true, Bool.not_false, Bool.false_and, List.cons_append, List.nil_append, lists1 l, h, c9, c10, e1, e2, e3, c21, c19, cF, p1, p2, p4, p5, q, lp]
        | true => simp only [F7, go_sem, Nat.reduceAdd, Nat.reduceEqDiff, Nat.reduceLT, ↓reduceIte, decide_eq_true_eq, List.take_nil, beq_self_eq_true, bne_self_eq_false, List.take_zero, List.map_cons, List.map_nil, Int.reduceNeg, Bool.and_true, and_self, Bool.true_and, Bool.and_self, ne_eq, not_true_eq_false, decide_false, decide_true, Bool.false_eq_true, Nat.reduceAdd, Option.map_some, Option.map_none, Option.bind_some, Option.bind_none, List.length_nil, List.length_cons, List.append_nil, Bool.and_false, w64, demV_sl, Int.cast_ofNat_Int, Int.reduceLT, Int.reduceAdd, Int.reduceSub, Int.reduceLE, Int.reduceEq, Int.reduceToNat, Int.toNat_natCast, Nat.reduceSub, Nat.reduceMul, Nat.reduceLeDiff, Nat.zero_add, Int.zero_add, not_false_eq_true, Bool.not_true, Bool.not_false, Bool.false_and, List.cons_append, List.nil_append, lists1 l, h, c9, c10, e1, e2, e3, c21, c19, cF, p1, p2, p3 p5, p4, p5, q, lp]
end Go.Av
