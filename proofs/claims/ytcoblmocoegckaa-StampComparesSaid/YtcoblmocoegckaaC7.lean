/- A part of the proof: C7. No conditions. -/
import Derived.Test.YtcoblmocoegckaaC6
set_option linter.unusedSimpArgs false
set_option linter.unusedVariables false
namespace Go.Av
set_option linter.unusedSimpArgs false
theorem cmpF_cases (a b c d e f : Int) : (cmpF a b c d e f = -1 ∧ (a < d ∨ a = d ∧ (b < e ∨ b = e ∧ c < f))) ∨ (cmpF a b c d e f = 0 ∧ a = d ∧ b = e ∧ c = f) ∨ (cmpF a b c d e f = 1 ∧ (d < a ∨ a = d ∧ (e < b ∨ b = e ∧ f < c))) := by
  unfold cmpF ordI
  repeat' split
  all_goals omega
theorem cmpF_neg (a b c d e f : Int) : IntKind.i64.wrap (0 - cmpF a b c d e f) = cmpF d e f a b c := by
  rcases cmpF_cases a b c d e f with h | h | h <;> rcases cmpF_cases d e f a b c with h' | h' | h' <;> first | omega | (rw [h.1, h'.1]; decide)
theorem cmpF_zero (a b c d e f : Int) : (decide (a = d) && (decide (b = e) && decide (c = f))) = decide (cmpF a b c d e f = 0) := by
  rw [Bool.eq_iff_iff]
  simp only [Bool.and_eq_true, decide_eq_true_eq]
  rcases cmpF_cases a b c d e f with h | h | h <;> constructor <;> intro h2 <;> omega
theorem cmpF_trans {a b c d e f g h j : Int} (h1 : cmpF a b c d e f ≤ 0) (h2 : cmpF d e f g h j ≤ 0) : ¬ 0 < cmpF a b c g h j := by
  rcases cmpF_cases a b c d e f with q | q | q <;> rcases cmpF_cases d e f g h j with q' | q' | q' <;> rcases cmpF_cases a b c g h j with q2 | q2 | q2 <;> omega
theorem i3 (a b c d e f g h j : Int) (rows : List (List AV)) (i : Int) (hi : i < 2) (hi0 : 0 ≤ i) (hr : rows[i.toNat]? = some [.int .i64 a, .int .i64 b, .int .i64 c, .int .i64 d, .int .i64 e, .int .i64 f, .int .i64 g, .int .i64 h, .int .i64 j])
   (sh : List (List AV)) (u : Bool) : 
   execX G0 L3_0 (ST [(18, .bool u), (33, .sl .full 9 rows), (34, .int .i64 2), (35, .int .i64 i)] [] sh) =
   execX G0 L3_0 (ST [(18, .bool u), (33, .sl .full 9 rows), (34, .int .i64 2), (35, .int .i64 (i + 1))] [] sh) := by
  have e1 := c12 a b c d e f
  have e2 := c13 a b c d e f
  have e3 := c12 d e f a b c
  have e4 := c12 d e f g h j
  have e5 := c12 a b c g h j
  simp only [stA] at e1 e2 e3 e4 e5
  conv => lhs; rw [Y_loop (L := L3_0) rfl]
  by_cases h1 : cmpF a b c d e f ≤ 0
  · by_cases h2 : cmpF d e f g h j ≤ 0
    · have h3 := cmpF_trans h1 h2
      simp only [go_sem, Nat.reduceAdd, Nat.reduceEqDiff, Nat.reduceLT, ↓reduceIte, decide_eq_true_eq, List.take_nil, beq_self_eq_true, bne_self_eq_false, List.take_zero, List.map_cons, List.map_nil, Int.reduceNeg, Bool.and_true, and_self, Bool.true_and, Bool.and_self, ne_eq, not_true_eq_false, decide_false, decide_true, Bool.false_eq_true, Nat.reduceAdd, Option.map_some, Option.map_none, Option.bind_some, Option.bind_none, List.length_nil, List.length_cons, List.append_nil, Bool.and_false, w64, demV_sl, Int.cast_ofNat_Int, Int.reduceLT, Int.reduceAdd, Int.reduceSub, Int.reduceLE, Int.reduceEq, Int.reduceToNat, Int.toNat_natCast, Nat.reduceSub, Nat.reduceMul, Nat.reduceLeDiff, Nat.zero_add, Int.zero_add, not_false_eq_true, Bool.not_true, Bool.not_false, Bool.false_and, List.cons_append, List.nil_append, hr, hi, hi0, e1, e2, e3, e4, e5, cmpF_neg, cmpF_zero, h1, h2, h3, w64 (n := i + 1) (by omega) (by omega)]
    · simp only [go_sem, Nat.reduceAdd, Nat.reduceEqDiff, Nat.reduceLT, ↓reduceIte, decide_eq_true_eq, List.take_nil, beq_self_eq_true, bne_self_eq_false, List.take_zero, List.map_cons, List.map_nil, Int.reduceNeg, Bool.and_true, and_self, Bool.true_and, Bool.and_self, ne_eq, not_true_eq_false, decide_false, decide_true, Bool.false_eq_true, Nat.reduceAdd, Option.map_some, Option.map_none, Option.bind_some, Option.bind_none, List.length_nil, List.length_cons, List.append_nil, Bool.and_false, w64, demV_sl, Int.cast_ofNat_Int, Int.reduceLT, Int.reduceAdd, Int.reduceSub, Int.reduceLE, Int.reduceEq, Int.reduceToNat, Int.toNat_natCast, Nat.reduceSub, Nat.reduceMul, Nat.reduceLeDiff, Nat.zero_add, Int.zero_add, not_false_eq_true, Bool.not_true, Bool.not_false, Bool.false_and, List.cons_append, List.nil_append, hr, hi, hi0, e1, e2, e3, e4, e5, cmpF_neg, cmpF_zero, h1, h2, w64 (n := i + 1) (by omega) (by omega)]
  · simp only [go_sem, Nat.reduceAdd, Nat.reduceEqDiff, Nat.reduceLT, ↓reduceIte, decide_eq_true_eq, List.take_nil, beq_self_eq_true, bne_self_eq_false, List.take_zero, List.map_cons, List.map_nil, Int.reduceNeg, Bool.and_true, and_self, Bool.true_and, Bool.and_self, ne_eq, not_true_eq_false, decide_false, decide_true, Bool.false_eq_true, Nat.reduceAdd, Option.map_some, Option.map_none, Option.bind_some, Option.bind_none, List.length_nil, List.length_cons, List.append_nil, Bool.and_false, w64, demV_sl, Int.cast_ofNat_Int, Int.reduceLT, Int.reduceAdd, Int.reduceSub, Int.reduceLE, Int.reduceEq, Int.reduceToNat, Int.toNat_natCast, Nat.reduceSub, Nat.reduceMul, Nat.reduceLeDiff, Nat.zero_add, Int.zero_add, not_false_eq_true, Bool.not_true, Bool.not_false, Bool.false_and, List.cons_append, List.nil_append, hr, hi, hi0, e1, e2, e3, e4, e5, cmpF_neg, cmpF_zero, h1, w64 (n := i + 1) (by omega) (by omega)]
theorem x3 (rows : List (List AV)) (sh : List (List AV)) (u : Bool) : 
   execX G0 L3_0 (ST [(18, .bool u), (33, .sl .full 9 rows), (34, .int .i64 2), (35, .int .i64 2)] [] sh) =
   some (.ex 0, ST [(18, .bool u), (33, .sl .full 9 rows), (34, .int .i64 2), (35, .int .i64 2), (36, .bool false)] [] sh) := by
  rw [Y_loop (L := L3_0) rfl]
  simp only [go_sem, Nat.reduceAdd, Nat.reduceEqDiff, Nat.reduceLT, ↓reduceIte, decide_eq_true_eq, List.take_nil, beq_self_eq_true, bne_self_eq_false, List.take_zero, List.map_cons, List.map_nil, Int.reduceNeg, Bool.and_true, and_self, Bool.true_and, Bool.and_self, ne_eq, not_true_eq_false, decide_false, decide_true, Bool.false_eq_true, Nat.reduceAdd, Option.map_some, Option.map_none, Option.bind_some, Option.bind_none, List.length_nil, List.length_cons, List.append_nil, Bool.and_false, w64, demV_sl, Int.cast_ofNat_Int, Int.reduceLT, Int.reduceAdd, Int.reduceSub, Int.reduceLE, Int.reduceEq, Int.reduceToNat, Int.toNat_natCast, Nat.reduceSub, Nat.reduceMul, Nat.reduceLeDiff, Nat.zero_add, Int.zero_add, not_false_eq_true, Bool.not_true, Bool.not_false, Bool.false_and, List.cons_append, List.nil_append, Int.lt_irrefl]
theorem mks_9_2 (c1 c2 c3 c4 c5 c6 c7 c8 c9 x0 x1 : AV) : mksA 9 [c1, c2, c3, c4, c5, c6, c7, c8, c9] 2 [0, 1] [x0, x1] = (mkRows 9 [x0, x1]).map fun rs => .sl .full 9 rs := mksA_rows rfl rfl rfl
theorem c3 (a b c d e f g h j : Int) (l : List Int) : G0 3 [stA a b c, stA d e f, stA g h j, .sl .no 1 (ints l)] [] = some (.bool true, []) := by
  refine contract F3 rfl rfl rfl ?_
  by_cases hh : 160 < sumW 0 [l]
  · simp only [F3, go_sem, Nat.reduceAdd, Nat.reduceEqDiff, Nat.reduceLT, ↓reduceIte, decide_eq_true_eq, List.take_nil, beq_self_eq_true, bne_self_eq_false, List.take_zero, List.map_cons, List.map_nil, Int.reduceNeg, Bool.and_true, and_self, Bool.true_and, Bool.and_self, ne_eq, not_true_eq_false, decide_false, decide_true, Bool.false_eq_true, Nat.reduceAdd, Option.map_some, Option.map_none, Option.bind_some, Option.bind_none, List.length_nil, List.length_cons, List.append_nil, Bool.and_false, w64, demV_sl, Int.cast_ofNat_Int, Int.reduceLT, Int.reduceAdd, Int.reduceSub, Int.reduceLE, Int.reduceEq, Int.reduceToNat, Int.toNat_natCast, Nat.reduceSub, Nat.reduceMul, Nat.reduceLeDiff, Nat.zero_add, Int.zero_add, not_false_eq_true, Bool.not_true, Bool.not_false, Bool.false_and, List.cons_append, List.nil_append, stA, lists1 l, hh, c9]
  obtain ⟨t', o', n', e3⟩ := c11 l 0 (by omega)
  obtain ⟨t2, o2, n2, e4⟩ := c11 l 3 (by omega)
  obtain ⟨t3, o3, n3, e5⟩ := c11 l 6 (by omega)
  simp only [stA] at e3 e4 e5
  have s1 := i3 a b c d e f g h j [[.int .i64 a, .int .i64 b, .int .i64 c, .int .i64 d, .int .i64 e, .int .i64 f, .int .i64 g, .int .i64 h, .int .i64 j], [.int .i64 t', .int .i64 o', .int .i64 n', .int .i64 t2, .int .i64 o2, .int .i64 n2, .int .i64 t3, .int .i64 o3, .int .i64 n3]] 0 (by omega) (by omega) rfl (NUM l 9) false
  have s2 := i3 t' o' n' t2 o2 n2 t3 o3 n3 [[.int .i64 a, .int .i64 b, .int .i64 c, .int .i64 d, .int .i64 e, .int .i64 f, .int .i64 g, .int .i64 h, .int .i64 j], [.int .i64 t', .int .i64 o', .int .i64 n', .int .i64 t2, .int .i64 o2, .int .i64 n2, .int .i64 t3, .int .i64 o3, .int .i64 n3]] 1 (by omega) (by omega) rfl (NUM l 9) false
  simp only [F3, go_sem, Nat.reduceAdd, Nat.reduceEqDiff, Nat.reduceLT, ↓reduceIte, decide_eq_true_eq, List.take_nil, beq_self_eq_true, bne_self_eq_false, List.take_zero, List.map_cons, List.map_nil, Int.reduceNeg, Bool.and_true, and_self, Bool.true_and, Bool.and_self, ne_eq, not_true_eq_false, decide_false, decide_true, Bool.false_eq_true, Nat.reduceAdd, Option.map_some, Option.map_none, Option.bind_some, Option.bind_none, List.length_nil, List.length_cons, List.append_nil, Bool.and_false, w64, demV_sl, Int.cast_ofNat_Int, Int.reduceLT, Int.reduceAdd, Int.reduceSub, Int.reduceLE, Int.reduceEq, Int.reduceToNat, Int.toNat_natCast, Nat.reduceSub, Nat.reduceMul, Nat.reduceLeDiff, Nat.zero_add, Int.zero_add, not_false_eq_true, Bool.not_true, Bool.not_false, Bool.false_and, List.cons_append, List.nil_append, stA, lists1 l, hh, c9, c10, e3, e4, e5, mks_9_2]
  rw [s1, Int.zero_add, s2, show (1 : Int) + 1 = 2 from rfl, x3]
  simp only [go_sem, Nat.reduceAdd, Nat.reduceEqDiff, Nat.reduceLT, ↓reduceIte, decide_eq_true_eq, List.take_nil, beq_self_eq_true, bne_self_eq_false, List.take_zero, List.map_cons, List.map_nil, Int.reduceNeg, Bool.and_true, and_self, Bool.true_and, Bool.and_self, ne_eq, not_true_eq_false, decide_false, decide_true, Bool.false_eq_true, Nat.reduceAdd, Option.map_some, Option.map_none, Option.bind_some, Option.bind_none, List.length_nil, List.length_cons, List.append_nil, Bool.and_false, w64, demV_sl, Int.cast_ofNat_Int, Int.reduceLT, Int.reduceAdd, Int.reduceSub, Int.reduceLE, Int.reduceEq, Int.reduceToNat, Int.toNat_natCast, Nat.reduceSub, Nat.reduceMul, Nat.reduceLeDiff, Nat.zero_add, Int.zero_add, not_false_eq_true, Bool.not_true, Bool.not_false, Bool.false_and, List.cons_append, List.nil_append, c9]
end Go.Av
