/- A part of the proof: C6. No conditions. -/
import Derived.Test.YtcoblmocoegckaaC5
set_option linter.unusedSimpArgs false
set_option linter.unusedVariables false
namespace Go.Av
set_option linter.unusedSimpArgs false
theorem c20' (v : List Int) : G0 20 [.sl .no 1 (ints v)] [] = some (.sl .no 1 (ints (joinF v [])), []) := by rw [c20, trim_same]
theorem c22' (a b : List Int) : G0 22 [.sl .no 1 (ints a), .sl .no 1 (ints b)] [] = some (.sl .no 1 (ints (joinF a b)), []) := by rw [c22, join_same]
theorem l50 (v : List Int) (rows : List (List AV)) (cs : List AV) (sh : List (List AV)) (q j : Int) (u : Bool) : ∀ (k : Nat) (i : Int), -1 ≤ i → i + k = 12 →
   execX G0 L5_0 (ST [(3, .int .i64 q), (7, .loc 7 0), (11, .ptr 0 0), (14, .sl .no 1 (ints v)), (17, .int .i64 i), (22, .bool u), (34, .sl .full 2 rows), (35, .int .i64 2), (36, .int .i64 j), (37, .bool true), (97, .bool false)] [(7, some cs)] sh) =
   some (.ex 2, ST [(3, .int .i64 q), (7, .loc 7 0), (11, .ptr 0 0), (14, .sl .no 1 (ints v)), (17, .int .i64 12), (22, .bool u), (34, .sl .full 2 rows), (35, .int .i64 2), (36, .int .i64 j), (37, .bool true), (97, .bool false), (99, .bool false)] [(7, some cs)] sh)
  | 0, i, h0, h1 => by
    have : i = 12 := by omega
    subst this
    rw [Y_loop (L := L5_0) rfl]
    simp only [go_sem, Nat.reduceAdd, Nat.reduceEqDiff, Nat.reduceLT, ↓reduceIte, decide_eq_true_eq, List.take_nil, beq_self_eq_true, bne_self_eq_false, List.take_zero, List.map_cons, List.map_nil, Int.reduceNeg, Bool.and_true, and_self, Bool.true_and, Bool.and_self, ne_eq, not_true_eq_false, decide_false, decide_true, Bool.false_eq_true, Nat.reduceAdd, Option.map_some, Option.map_none, Option.bind_some, Option.bind_none, List.length_nil, List.length_cons, List.append_nil, Bool.and_false, w64, demV_sl, Int.cast_ofNat_Int, Int.reduceLT, Int.reduceAdd, Int.reduceSub, Int.reduceLE, Int.reduceEq, Int.reduceToNat, Int.toNat_natCast, Nat.reduceSub, Nat.reduceMul, Nat.reduceLeDiff, Nat.zero_add, Int.zero_add, not_false_eq_true, Bool.not_true, Bool.not_false, Bool.false_and, List.cons_append, List.nil_append, Int.lt_irrefl]
  | k + 1, i, h0, h1 => by
    have h3 : i < 12 := by omega
    have ih := l50 v rows cs sh q j u k (i + 1) (by omega) (by omega)
    rw [Y_loop (L := L5_0) rfl]
    simp only [go_sem, Nat.reduceAdd, Nat.reduceEqDiff, Nat.reduceLT, ↓reduceIte, decide_eq_true_eq, List.take_nil, beq_self_eq_true, bne_self_eq_false, List.take_zero, List.map_cons, List.map_nil, Int.reduceNeg, Bool.and_true, and_self, Bool.true_and, Bool.and_self, ne_eq, not_true_eq_false, decide_false, decide_true, Bool.false_eq_true, Nat.reduceAdd, Option.map_some, Option.map_none, Option.bind_some, Option.bind_none, List.length_nil, List.length_cons, List.append_nil, Bool.and_false, w64, demV_sl, Int.cast_ofNat_Int, Int.reduceLT, Int.reduceAdd, Int.reduceSub, Int.reduceLE, Int.reduceEq, Int.reduceToNat, Int.toNat_natCast, Nat.reduceSub, Nat.reduceMul, Nat.reduceLeDiff, Nat.zero_add, Int.zero_add, not_false_eq_true, Bool.not_true, Bool.not_false, Bool.false_and, List.cons_append, List.nil_append, c19, c25, c26, at_trim, h3, w64 (n := i + 1) (by omega) (by omega), ih]
theorem i5 (v w : List Int) (rows : List (List AV)) (i : Int) (hi : i < 2) (hi0 : 0 ≤ i) (hr : rows[i.toNat]? = some [.sl .no 1 (ints v), .sl .no 1 (ints w)])
   (l : List Int) (k : Nat) (t o n q : Int) (hk : k ≤ 10000) (u : Bool) : 
   execX G0 L5_1 (ST [(3, .int .i64 q), (7, .loc 7 0), (11, .ptr 0 0), (22, .bool u), (34, .sl .full 2 rows), (35, .int .i64 2), (36, .int .i64 i)] [(7, some [.int .i64 t, .int .i64 o, .int .i64 n])] (NUM l k)) =
   execX G0 L5_1 (ST [(3, .int .i64 q), (7, .loc 7 0), (11, .ptr 0 0), (22, .bool u), (34, .sl .full 2 rows), (35, .int .i64 2), (36, .int .i64 (i + 1))] [(7, some [.int .i64 t, .int .i64 o, .int .i64 n])] (NUM l (k + 3))) := by
  obtain ⟨t', o', n', e3⟩ := c11 l k (by omega)
  have q1 := c18 (joinF v []) (joinF v []) (by have := joinF_len v []; omega)
  have q2 := c18 (joinF v w) (joinF v w) (by have := joinF_len v w; omega)
  have d1 := c27 v t o n
  have d2 := c28 v t o n
  have d3 := c27 v t' o' n'
  have d4 := c28 v t' o' n'
  have hl := l50 v rows [.int .i64 t, .int .i64 o, .int .i64 n] (NUM l (k + 3)) q i u 13 (-1) (by omega) (by omega)
  simp only [stA] at d1 d2 d3 d4
  conv => lhs; rw [Y_loop (L := L5_1) rfl]
  simp only [go_sem, Nat.reduceAdd, Nat.reduceEqDiff, Nat.reduceLT, ↓reduceIte, decide_eq_true_eq, List.take_nil, beq_self_eq_true, bne_self_eq_false, List.take_zero, List.map_cons, List.map_nil, Int.reduceNeg, Bool.and_true, and_self, Bool.true_and, Bool.and_self, ne_eq, not_true_eq_false, decide_false, decide_true, Bool.false_eq_true, Nat.reduceAdd, Option.map_some, Option.map_none, Option.bind_some, Option.bind_none, List.length_nil, List.length_cons, List.append_nil, Bool.and_false, w64, demV_sl, Int.cast_ofNat_Int, Int.reduceLT, Int.reduceAdd, Int.reduceSub, Int.reduceLE, Int.reduceEq, Int.reduceToNat, Int.toNat_natCast, Nat.reduceSub, Nat.reduceMul, Nat.reduceLeDiff, Nat.zero_add, Int.zero_add, not_false_eq_true, Bool.not_true, Bool.not_false, Bool.false_and, List.cons_append, List.nil_append, e3, stA, hr, hi, hi0, c19, c20', c21, c22', cF, c24, c25, c26, q1, q2, d1, d2, d3, d4, hl, w64 (n := i + 1) (by omega) (by omega)]
theorem x5 (rows : List (List AV)) (l : List Int) (k : Nat) (t o n q : Int) (u : Bool) : 
   execX G0 L5_1 (ST [(3, .int .i64 q), (7, .loc 7 0), (11, .ptr 0 0), (22, .bool u), (34, .sl .full 2 rows), (35, .int .i64 2), (36, .int .i64 2)] [(7, some [.int .i64 t, .int .i64 o, .int .i64 n])] (NUM l k)) =
   some (.ex 0, ST [(3, .int .i64 q), (7, .loc 7 0), (11, .ptr 0 0), (22, .bool u), (34, .sl .full 2 rows), (35, .int .i64 2), (36, .int .i64 2), (37, .bool false)] [(7, some [.int .i64 t, .int .i64 o, .int .i64 n])] (NUM l k)) := by
  rw [Y_loop (L := L5_1) rfl]
  simp only [go_sem, Nat.reduceAdd, Nat.reduceEqDiff, Nat.reduceLT, ↓reduceIte, decide_eq_true_eq, List.take_nil, beq_self_eq_true, bne_self_eq_false, List.take_zero, List.map_cons, List.map_nil, Int.reduceNeg, Bool.and_true, and_self, Bool.true_and, Bool.and_self, ne_eq, not_true_eq_false, decide_false, decide_true, Bool.false_eq_true, Nat.reduceAdd, Option.map_some, Option.map_none, Option.bind_some, Option.bind_none, List.length_nil, List.length_cons, List.append_nil, Bool.and_false, w64, demV_sl, Int.cast_ofNat_Int, Int.reduceLT, Int.reduceAdd, Int.reduceSub, Int.reduceLE, Int.reduceEq, Int.reduceToNat, Int.toNat_natCast, Nat.reduceSub, Nat.reduceMul, Nat.reduceLeDiff, Nat.zero_add, Int.zero_add, not_false_eq_true, Bool.not_true, Bool.not_false, Bool.false_and, List.cons_append, List.nil_append, Int.lt_irrefl]
theorem lists3 (a b l : List Int) : G0 8 [.sl .no 1 [[.sl .no 1 (ints a)], [.sl .no 1 (ints b)], [.sl .no 1 (ints l)]]] [] = some (.bool (decide (160 < sumW 0 [a, b, l])), []) := c8 [a, b, l] (by simp)
theorem c5 (a b l : List Int) (t o n q : Int) : G0 5 [.sl .no 1 (ints a), .sl .no 1 (ints b), stA t o n, .int .i64 q, .sl .no 1 (ints l)] [] = some (.bool true, []) := by
  refine contract F5 rfl rfl rfl ?_
  by_cases h : 160 < sumW 0 [a, b, l]
  · simp only [F5, go_sem, Nat.reduceAdd, Nat.reduceEqDiff, Nat.reduceLT, ↓reduceIte, decide_eq_true_eq, List.take_nil, beq_self_eq_true, bne_self_eq_false, List.take_zero, List.map_cons, List.map_nil, Int.reduceNeg, Bool.and_true, and_self, Bool.true_and, Bool.and_self, ne_eq, not_true_eq_false, decide_false, decide_true, Bool.false_eq_true, Nat.reduceAdd, Option.map_some, Option.map_none, Option.bind_some, Option.bind_none, List.length_nil, List.length_cons, List.append_nil, Bool.and_false, w64, demV_sl, Int.cast_ofNat_Int, Int.reduceLT, Int.reduceAdd, Int.reduceSub, Int.reduceLE, Int.reduceEq, Int.reduceToNat, Int.toNat_natCast, Nat.reduceSub, Nat.reduceMul, Nat.reduceLeDiff, Nat.zero_add, Int.zero_add, not_false_eq_true, Bool.not_true, Bool.not_false, Bool.false_and, List.cons_append, List.nil_append, stA, lists3 a b l, h, c9]
  obtain ⟨a', k1, a1, k1', e1⟩ := c17 l 0 (by omega)
  obtain ⟨b', k2, b1, k2', e2⟩ := c17 l k1 (by omega)
  have s1 := i5 a b [[.sl .no 1 (ints a), .sl .no 1 (ints b)], [.sl .no 1 (ints a'), .sl .no 1 (ints b')]] 0 (by omega) (by omega) rfl l k2 t o n q (by omega) false
  have s2 := i5 a' b' [[.sl .no 1 (ints a), .sl .no 1 (ints b)], [.sl .no 1 (ints a'), .sl .no 1 (ints b')]] 1 (by omega) (by omega) rfl l (k2 + 3) t o n q (by omega) false
  simp only [F5, go_sem, Nat.reduceAdd, Nat.reduceEqDiff, Nat.reduceLT, ↓reduceIte, decide_eq_true_eq, List.take_nil, beq_self_eq_true, bne_self_eq_false, List.take_zero, List.map_cons, List.map_nil, Int.reduceNeg, Bool.and_true, and_self, Bool.true_and, Bool.and_self, ne_eq, not_true_eq_false, decide_false, decide_true, Bool.false_eq_true, Nat.reduceAdd, Option.map_some, Option.map_none, Option.bind_some, Option.bind_none, List.length_nil, List.length_cons, List.append_nil, Bool.and_false, w64, demV_sl, Int.cast_ofNat_Int, Int.reduceLT, Int.reduceAdd, Int.reduceSub, Int.reduceLE, Int.reduceEq, Int.reduceToNat, Int.toNat_natCast, Nat.reduceSub, Nat.reduceMul, Nat.reduceLeDiff, Nat.zero_add, Int.zero_add, not_false_eq_true, Bool.not_true, Bool.not_false, Bool.false_and, List.cons_append, List.nil_append, stA, lists3 a b l, h, c9, c10, e1, e2]
  rw [s1, Int.zero_add, s2, show (1 : Int) + 1 = 2 from rfl, x5]
  simp only [go_sem, Nat.reduceAdd, Nat.reduceEqDiff, Nat.reduceLT, ↓reduceIte, decide_eq_true_eq, List.take_nil, beq_self_eq_true, bne_self_eq_false, List.take_zero, List.map_cons, List.map_nil, Int.reduceNeg, Bool.and_true, and_self, Bool.true_and, Bool.and_self, ne_eq, not_true_eq_false, decide_false, decide_true, Bool.false_eq_true, Nat.reduceAdd, Option.map_some, Option.map_none, Option.bind_some, Option.bind_none, List.length_nil, List.length_cons, List.append_nil, Bool.and_false, w64, demV_sl, Int.cast_ofNat_Int, Int.reduceLT, Int.reduceAdd, Int.reduceSub, Int.reduceLE, Int.reduceEq, Int.reduceToNat, Int.toNat_natCast, Nat.reduceSub, Nat.reduceMul, Nat.reduceLeDiff, Nat.zero_add, Int.zero_add, not_false_eq_true, Bool.not_true, Bool.not_false, Bool.false_and, List.cons_append, List.nil_append, c9]
end Go.Av
