/- A part of the proof: M5. No conditions. -/
import Derived.Test.YthbgidickbhojaaM4
set_option linter.unusedSimpArgs false
set_option linter.unusedVariables false
namespace Go.Av
set_option linter.unusedSimpArgs false
set_option maxHeartbeats 4000000
theorem c55e (a c : Int) (b : List UInt8) : G0 55 [.sl .full 3 [], .int .i64 0, .sl .full 3 [[.int .i64 a, .str b, .int .i64 c]]] [] = some (.ss 0 0 1 3, [fl [(a, b, c)]]) := by
  refine contract F55 rfl rfl rfl ?_
  simp only [F55, go_sem, List.set_cons_zero, List.set_cons_succ, List.take_succ_cons, and_false, false_and, and_true, true_and, Nat.reduceAdd, Nat.reduceEqDiff, Nat.reduceLT, ↓reduceIte, decide_eq_true_eq, List.take_nil, beq_self_eq_true, bne_self_eq_false, List.take_zero, List.map_cons, List.map_nil, Int.reduceNeg, Bool.and_true, and_self, Bool.true_and, Bool.and_self, ne_eq, not_true_eq_false, decide_false, decide_true, Bool.false_eq_true, Nat.reduceAdd, Option.map_some, Option.map_none, Option.bind_some, Option.bind_none, List.length_nil, List.length_cons, List.append_nil, Bool.and_false, w64, demV_sl, Int.cast_ofNat_Int, Int.reduceLT, Int.reduceAdd, Int.reduceSub, Int.reduceLE, Int.reduceEq, Int.reduceToNat, Int.toNat_natCast, Nat.reduceSub, Nat.reduceMul, Nat.reduceLeDiff, Nat.zero_add, Int.zero_add, not_false_eq_true, Bool.not_true, Bool.not_false, Bool.false_and, List.cons_append, List.nil_append, fl_one]
  rfl
theorem n1 : (([97, 110, 110] : List UInt8) != []) = true := by decide
theorem n2 : (([97, 110, 110] : List UInt8) != [98, 111, 98]) = true := by decide
theorem n3 : (([97, 110, 110] : List UInt8) == [97, 110, 110]) = true := by decide
theorem n4 : (([] : List UInt8) == []) = true := by decide
theorem c25a : G0 25 [.sl .no 3 [], .int .i64 5, .str [97, 110, 110], .int .i64 0, .int .i64 10] [] = some (.tup [.sl .no 3 (tks [(5, [97, 110, 110], 10)]), .int .i64 0], []) := by
  refine contract F25 rfl rfl rfl ?_
  have h28 := c28 []
  have h33 := c33 [] (by decide) 5 0
  have h53 := c53 [] (by decide) 5
  have h54 := c54 .no [] (by decide) []
  have e1 : valF [] = 0 := by decide
  have e2 : isN [97, 110, 110] = true := by decide
  have e3 : hoF [] 5 0 = [] := by decide
  have e4 : plN [] 5 = 0 := by decide
  have e5 : plB [] 5 = false := by decide
  rw [tks_nil] at h28 h33 h53 h54
  rw [e1] at h28
  rw [e3] at h33
  rw [e4, e5] at h53
  have ec : ((0 : Nat) : Int) = 0 := rfl
  rw [ec] at h53
  have hr := rowsC_fl [(5, [97, 110, 110], 10)]
  have hl : [((5 : Int), ([97, 110, 110] : List UInt8), (10 : Int))].length = 1 := rfl
  rw [hl] at hr
  simp only [F25, go_sem, List.set_cons_zero, List.set_cons_succ, List.take_succ_cons, and_false, false_and, and_true, true_and, Nat.reduceAdd, Nat.reduceEqDiff, Nat.reduceLT, ↓reduceIte, decide_eq_true_eq, List.take_nil, beq_self_eq_true, bne_self_eq_false, List.take_zero, List.map_cons, List.map_nil, Int.reduceNeg, Bool.and_true, and_self, Bool.true_and, Bool.and_self, ne_eq, not_true_eq_false, decide_false, decide_true, Bool.false_eq_true, Nat.reduceAdd, Option.map_some, Option.map_none, Option.bind_some, Option.bind_none, List.length_nil, List.length_cons, List.append_nil, Bool.and_false, w64, demV_sl, Int.cast_ofNat_Int, Int.reduceLT, Int.reduceAdd, Int.reduceSub, Int.reduceLE, Int.reduceEq, Int.reduceToNat, Int.toNat_natCast, Nat.reduceSub, Nat.reduceMul, Nat.reduceLeDiff, Nat.zero_add, Int.zero_add, not_false_eq_true, Bool.not_true, Bool.not_false, Bool.false_and, List.cons_append, List.nil_append, h28, h33, h53, h54, c52, e2, cloneR, c55e, hr]
theorem c25b : G0 25 [.sl .no 3 (tks [(5, [97, 110, 110], 10)]), .int .i64 5, .str [98, 111, 98], .int .i64 9, .int .i64 1] [] = some (.tup [.sl .no 3 [], .int .i64 9], []) := by
  refine contract F25 rfl rfl rfl ?_
  have h28 := c28 [(5, [97, 110, 110], 10)]
  have h33 := c33 [(5, [97, 110, 110], 10)] (by decide) 5 9
  have e1 : valF [(5, [97, 110, 110], 10)] = 0 := by decide
  have e2 : isN [98, 111, 98] = true := by decide
  have e3 : hoF [(5, [97, 110, 110], 10)] 5 9 = [97, 110, 110] := by decide
  rw [e1] at h28
  rw [e3] at h33
  simp only [F25, go_sem, List.set_cons_zero, List.set_cons_succ, List.take_succ_cons, and_false, false_and, and_true, true_and, Nat.reduceAdd, Nat.reduceEqDiff, Nat.reduceLT, ↓reduceIte, decide_eq_true_eq, List.take_nil, beq_self_eq_true, bne_self_eq_false, List.take_zero, List.map_cons, List.map_nil, Int.reduceNeg, Bool.and_true, and_self, Bool.true_and, Bool.and_self, ne_eq, not_true_eq_false, decide_false, decide_true, Bool.false_eq_true, Nat.reduceAdd, Option.map_some, Option.map_none, Option.bind_some, Option.bind_none, List.length_nil, List.length_cons, List.append_nil, Bool.and_false, w64, demV_sl, Int.cast_ofNat_Int, Int.reduceLT, Int.reduceAdd, Int.reduceSub, Int.reduceLE, Int.reduceEq, Int.reduceToNat, Int.toNat_natCast, Nat.reduceSub, Nat.reduceMul, Nat.reduceLeDiff, Nat.zero_add, Int.zero_add, not_false_eq_true, Bool.not_true, Bool.not_false, Bool.false_and, List.cons_append, List.nil_append, h28, h33, c52, e2, n1, n2]
theorem c25c : G0 25 [.sl .no 3 (tks [(5, [97, 110, 110], 10)]), .int .i64 5, .str [97, 110, 110], .int .i64 4, .int .i64 2] [] = some (.tup [.sl .no 3 (tks [(5, [97, 110, 110], 10)]), .int .i64 0], []) := by
  refine contract F25 rfl rfl rfl ?_
  have h28 := c28 [(5, [97, 110, 110], 10)]
  have h33 := c33 [(5, [97, 110, 110], 10)] (by decide) 5 4
  have h53 := c53 [(5, [97, 110, 110], 10)] (by decide) 5
  have h54 := c54 .no [(5, [97, 110, 110], 10)] (by decide) []
  have e1 : valF [(5, [97, 110, 110], 10)] = 0 := by decide
  have e2 : isN [97, 110, 110] = true := by decide
  have e3 : hoF [(5, [97, 110, 110], 10)] 5 4 = [97, 110, 110] := by decide
  have e4 : plN [(5, [97, 110, 110], 10)] 5 = 0 := by decide
  have e5 : plB [(5, [97, 110, 110], 10)] 5 = true := by decide
  rw [e1] at h28
  rw [e3] at h33
  rw [e4, e5] at h53
  have ec : ((0 : Nat) : Int) = 0 := rfl
  rw [ec] at h53
  have h54' : G0 54 [.sl .no 3 (tks [(5, [97, 110, 110], 10)])] [] = some (.ss 0 0 1 3, [[.int .i64 5, .str [97, 110, 110], .int .i64 10]]) := h54
  have hr : (tks [(5, [97, 110, 110], 10)])[0]? = some [.int .i64 5, .str [97, 110, 110], .int .i64 10] := rfl
  have hr2 : rowsC 0 1 3 [.int .i64 5, .str [97, 110, 110], .int .i64 10] = some (tks [(5, [97, 110, 110], 10)]) := rowsC_fl [(5, [97, 110, 110], 10)]
  simp only [F25, go_sem, List.set_cons_zero, List.set_cons_succ, List.take_succ_cons, and_false, false_and, and_true, true_and, Nat.reduceAdd, Nat.reduceEqDiff, Nat.reduceLT, ↓reduceIte, decide_eq_true_eq, List.take_nil, beq_self_eq_true, bne_self_eq_false, List.take_zero, List.map_cons, List.map_nil, Int.reduceNeg, Bool.and_true, and_self, Bool.true_and, Bool.and_self, ne_eq, not_true_eq_false, decide_false, decide_true, Bool.false_eq_true, Nat.reduceAdd, Option.map_some, Option.map_none, Option.bind_some, Option.bind_none, List.length_nil, List.length_cons, List.append_nil, Bool.and_false, w64, demV_sl, Int.cast_ofNat_Int, Int.reduceLT, Int.reduceAdd, Int.reduceSub, Int.reduceLE, Int.reduceEq, Int.reduceToNat, Int.toNat_natCast, Nat.reduceSub, Nat.reduceMul, Nat.reduceLeDiff, Nat.zero_add, Int.zero_add, not_false_eq_true, Bool.not_true, Bool.not_false, Bool.false_and, List.cons_append, List.nil_append, h28, h33, h53, h54', c52, e2, hr, hr2, n1, n3, show max (6 : Int) 10 = 10 from rfl]
theorem c30 : G0 30 [] [] = some (.bool true, []) := by
  refine contract F30 rfl rfl rfl ?_
  have h1 := c33 [(5, [97, 110, 110], 10)] (by decide) 5 9
  have h2 := c33 [(5, [97, 110, 110], 10)] (by decide) 5 10
  have e3 : hoF [(5, [97, 110, 110], 10)] 5 9 = [97, 110, 110] := by decide
  have e4 : hoF [(5, [97, 110, 110], 10)] 5 10 = [] := by decide
  rw [e3] at h1
  rw [e4] at h2
  simp only [F30, go_sem, List.set_cons_zero, List.set_cons_succ, List.take_succ_cons, and_false, false_and, and_true, true_and, Nat.reduceAdd, Nat.reduceEqDiff, Nat.reduceLT, ↓reduceIte, decide_eq_true_eq, List.take_nil, beq_self_eq_true, bne_self_eq_false, List.take_zero, List.map_cons, List.map_nil, Int.reduceNeg, Bool.and_true, and_self, Bool.true_and, Bool.and_self, ne_eq, not_true_eq_false, decide_false, decide_true, Bool.false_eq_true, Nat.reduceAdd, Option.map_some, Option.map_none, Option.bind_some, Option.bind_none, List.length_nil, List.length_cons, List.append_nil, Bool.and_false, w64, demV_sl, Int.cast_ofNat_Int, Int.reduceLT, Int.reduceAdd, Int.reduceSub, Int.reduceLE, Int.reduceEq, Int.reduceToNat, Int.toNat_natCast, Nat.reduceSub, Nat.reduceMul, Nat.reduceLeDiff, Nat.zero_add, Int.zero_add, not_false_eq_true, Bool.not_true, Bool.not_false, Bool.false_and, List.cons_append, List.nil_append, c25a, c25b, c25c, h1, h2, n3, n4]
end Go.Av
