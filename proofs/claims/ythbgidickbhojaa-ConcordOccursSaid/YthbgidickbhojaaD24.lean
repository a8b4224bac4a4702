/- A part of the proof: D24. No conditions. -/
import Derived.Test.YthbgidickbhojaaD23
import Derived.Test.YthbgidickbhojaaD16
import Derived.Test.YthbgidickbhojaaD11
set_option linter.unusedSimpArgs false
set_option linter.unusedVariables false
namespace Go.Av
set_option linter.unusedSimpArgs false
set_option maxHeartbeats 4000000
theorem l4a (w : List (List UInt8)) (hw : w.length ≤ 8796093022208) (x1 : List (List AV)) (x2 x3 : List Int) : ∀ (k i : Nat) (s0 : Int), i + k = w.length →
    ∃ s1 : Int, execX G0 L4_0 (ST [(0, .sl .no 1 (strs w)), (1, .sl .no 3 x1), (2, .sl .no 1 (ints x2)), (3, .sl .no 1 (ints x3)), (9, .int .i64 s0), (14, .int .i64 w.length), (15, .int .i64 i)] [] []) = some (.ex 0, ST [(0, .sl .no 1 (strs w)), (1, .sl .no 3 x1), (2, .sl .no 1 (ints x2)), (3, .sl .no 1 (ints x3)), (9, .int .i64 s1), (14, .int .i64 w.length), (15, .int .i64 w.length), (16, .bool false)] [] [])
  | 0, i, s0, h => by
    have : i = w.length := by omega
    subst this
    refine ⟨s0, ?_⟩
    rw [Y_loop (L := L4_0) rfl]
    simp only [go_sem, List.set_cons_zero, List.set_cons_succ, List.take_succ_cons, and_false, false_and, and_true, true_and, Nat.reduceAdd, Nat.reduceEqDiff, Nat.reduceLT, ↓reduceIte, decide_eq_true_eq, List.take_nil, beq_self_eq_true, bne_self_eq_false, List.take_zero, List.map_cons, List.map_nil, Int.reduceNeg, Bool.and_true, and_self, Bool.true_and, Bool.and_self, ne_eq, not_true_eq_false, decide_false, decide_true, Bool.false_eq_true, Nat.reduceAdd, Option.map_some, Option.map_none, Option.bind_some, Option.bind_none, List.length_nil, List.length_cons, List.append_nil, Bool.and_false, w64, demV_sl, Int.cast_ofNat_Int, Int.reduceLT, Int.reduceAdd, Int.reduceSub, Int.reduceLE, Int.reduceEq, Int.reduceToNat, Int.toNat_natCast, Nat.reduceSub, Nat.reduceMul, Nat.reduceLeDiff, Nat.zero_add, Int.zero_add, not_false_eq_true, Bool.not_true, Bool.not_false, Bool.false_and, List.cons_append, List.nil_append, Int.lt_irrefl]
  | k + 1, i, s0, h => by
    have h3 : i < w.length := by omega
    have h4 : (i : Int) < (w.length : Int) := by omega
    have h0 : (0 : Int) ≤ (i : Int) := by omega
    have hwr : IntKind.i64.wrap ((i : Int) + 1) = ((i + 1 : Nat) : Int) := by rw [w64 (by omega) (by omega)]; rfl
    have hr := strs_at (List.getElem?_eq_getElem h3)
    generalize w[i] = x at hr
    obtain ⟨s1, ih⟩ := l4a w hw x1 x2 x3 k (i + 1) (IntKind.i64.wrap (s0 + IntKind.i64.wrap (1 + (x.length : Int)))) (by omega)
    refine ⟨s1, ?_⟩
    rw [Y_loop (L := L4_0) rfl]
    simp only [go_sem, List.set_cons_zero, List.set_cons_succ, List.take_succ_cons, and_false, false_and, and_true, true_and, Nat.reduceAdd, Nat.reduceEqDiff, Nat.reduceLT, ↓reduceIte, decide_eq_true_eq, List.take_nil, beq_self_eq_true, bne_self_eq_false, List.take_zero, List.map_cons, List.map_nil, Int.reduceNeg, Bool.and_true, and_self, Bool.true_and, Bool.and_self, ne_eq, not_true_eq_false, decide_false, decide_true, Bool.false_eq_true, Nat.reduceAdd, Option.map_some, Option.map_none, Option.bind_some, Option.bind_none, List.length_nil, List.length_cons, List.append_nil, Bool.and_false, w64, demV_sl, Int.cast_ofNat_Int, Int.reduceLT, Int.reduceAdd, Int.reduceSub, Int.reduceLE, Int.reduceEq, Int.reduceToNat, Int.toNat_natCast, Nat.reduceSub, Nat.reduceMul, Nat.reduceLeDiff, Nat.zero_add, Int.zero_add, not_false_eq_true, Bool.not_true, Bool.not_false, Bool.false_and, List.cons_append, List.nil_append, h4, h0, hwr, hr]
    exact ih
theorem l4b (T : List Tk) (hT : T.length ≤ 4398046511104) (x0 : List (List AV)) (x2 x3 : List Int) (y : Int) : ∀ (k i : Nat) (s0 : Int), i + k = T.length →
    ∃ s1 : Int, execX G0 L4_1 (ST [(0, .sl .no 1 x0), (1, .sl .no 3 (tks T)), (2, .sl .no 1 (ints x2)), (3, .sl .no 1 (ints x3)), (9, .int .i64 s0), (14, .int .i64 y), (15, .int .i64 y), (16, .bool false), (28, .int .i64 T.length), (29, .int .i64 i)] [] []) = some (.ex 2, ST [(0, .sl .no 1 x0), (1, .sl .no 3 (tks T)), (2, .sl .no 1 (ints x2)), (3, .sl .no 1 (ints x3)), (9, .int .i64 s1), (14, .int .i64 y), (15, .int .i64 y), (16, .bool false), (28, .int .i64 T.length), (29, .int .i64 T.length), (30, .bool false)] [] [])
  | 0, i, s0, h => by
    have : i = T.length := by omega
    subst this
    refine ⟨s0, ?_⟩
    rw [Y_loop (L := L4_1) rfl]
    simp only [go_sem, List.set_cons_zero, List.set_cons_succ, List.take_succ_cons, and_false, false_and, and_true, true_and, Nat.reduceAdd, Nat.reduceEqDiff, Nat.reduceLT, ↓reduceIte, decide_eq_true_eq, List.take_nil, beq_self_eq_true, bne_self_eq_false, List.take_zero, List.map_cons, List.map_nil, Int.reduceNeg, Bool.and_true, and_self, Bool.true_and, Bool.and_self, ne_eq, not_true_eq_false, decide_false, decide_true, Bool.false_eq_true, Nat.reduceAdd, Option.map_some, Option.map_none, Option.bind_some, Option.bind_none, List.length_nil, List.length_cons, List.append_nil, Bool.and_false, w64, demV_sl, Int.cast_ofNat_Int, Int.reduceLT, Int.reduceAdd, Int.reduceSub, Int.reduceLE, Int.reduceEq, Int.reduceToNat, Int.toNat_natCast, Nat.reduceSub, Nat.reduceMul, Nat.reduceLeDiff, Nat.zero_add, Int.zero_add, not_false_eq_true, Bool.not_true, Bool.not_false, Bool.false_and, List.cons_append, List.nil_append, Int.lt_irrefl]
  | k + 1, i, s0, h => by
    have h3 : i < T.length := by omega
    have h4 : (i : Int) < (T.length : Int) := by omega
    have h0 : (0 : Int) ≤ (i : Int) := by omega
    have hwr : IntKind.i64.wrap ((i : Int) + 1) = ((i + 1 : Nat) : Int) := by rw [w64 (by omega) (by omega)]; rfl
    have hr := tks_at (List.getElem?_eq_getElem h3)
    generalize T[i] = x at hr
    obtain ⟨s1, ih⟩ := l4b T hT x0 x2 x3 y k (i + 1) (IntKind.i64.wrap (s0 + IntKind.i64.wrap (1 + (x.2.1.length : Int)))) (by omega)
    refine ⟨s1, ?_⟩
    rw [Y_loop (L := L4_1) rfl]
    simp only [go_sem, List.set_cons_zero, List.set_cons_succ, List.take_succ_cons, and_false, false_and, and_true, true_and, Nat.reduceAdd, Nat.reduceEqDiff, Nat.reduceLT, ↓reduceIte, decide_eq_true_eq, List.take_nil, beq_self_eq_true, bne_self_eq_false, List.take_zero, List.map_cons, List.map_nil, Int.reduceNeg, Bool.and_true, and_self, Bool.true_and, Bool.and_self, ne_eq, not_true_eq_false, decide_false, decide_true, Bool.false_eq_true, Nat.reduceAdd, Option.map_some, Option.map_none, Option.bind_some, Option.bind_none, List.length_nil, List.length_cons, List.append_nil, Bool.and_false, w64, demV_sl, Int.cast_ofNat_Int, Int.reduceLT, Int.reduceAdd, Int.reduceSub, Int.reduceLE, Int.reduceEq, Int.reduceToNat, Int.toNat_natCast, Nat.reduceSub, Nat.reduceMul, Nat.reduceLeDiff, Nat.zero_add, Int.zero_add, not_false_eq_true, Bool.not_true, Bool.not_false, Bool.false_and, List.cons_append, List.nil_append, h4, h0, hwr, hr]
    exact ih
theorem occF_len (w : List (List UInt8)) (T : List Tk) : (occF w T).length ≤ T.length := by
  by_cases h : w.length = 0
  · simp [occF, h]
  · rw [occF_R w (by omega)]; exact occR_len w T 0
theorem c4 (w : List (List UInt8)) (T : List Tk) (m n : List Int) (hw : w.length ≤ 8796093022208) (hT : T.length ≤ 4398046511104) (hT2 : ∀ t ∈ T, t.2.1.length ≤ 140737488355328) :
    G0 4 [.sl .no 1 (strs w), .sl .no 3 (tks T), .sl .no 1 (ints m), .sl .no 1 (ints n)] [] = some (.bool true, []) := by
  refine contract F4 rfl rfl rfl ?_
  obtain ⟨s1, e1⟩ := l4a w hw (tks T) m n w.length 0 0 (by omega)
  obtain ⟨s2, e2⟩ := l4b T hT (strs w) m n w.length T.length 0 s1 (by omega)
  simp only [go_sem, List.set_cons_zero, List.set_cons_succ, List.take_succ_cons, and_false, false_and, and_true, true_and, Nat.reduceAdd, Nat.reduceEqDiff, Nat.reduceLT, ↓reduceIte, decide_eq_true_eq, List.take_nil, beq_self_eq_true, bne_self_eq_false, List.take_zero, List.map_cons, List.map_nil, Int.reduceNeg, Bool.and_true, and_self, Bool.true_and, Bool.and_self, ne_eq, not_true_eq_false, decide_false, decide_true, Bool.false_eq_true, Nat.reduceAdd, Option.map_some, Option.map_none, Option.bind_some, Option.bind_none, List.length_nil, List.length_cons, List.append_nil, Bool.and_false, w64, demV_sl, Int.cast_ofNat_Int, Int.reduceLT, Int.reduceAdd, Int.reduceSub, Int.reduceLE, Int.reduceEq, Int.reduceToNat, Int.toNat_natCast, Nat.reduceSub, Nat.reduceMul, Nat.reduceLeDiff, Nat.zero_add, Int.zero_add, not_false_eq_true, Bool.not_true, Bool.not_false, Bool.false_and, List.cons_append, List.nil_append] at e1 e2
  have hp := phrase_len m
  have h17 := c17 (phrase m) (by omega)
  have hv : (phrF (phrase m)).length ≤ 1000 := by
    have a := phr_le (cutF (phrase m))
    have b : (cutF (phrase m)).length ≤ (phrase m).length := (cutL_len (phrase m).length (phrase m)).1
    show (phr (cutF (phrase m))).length ≤ 1000
    omega
  generalize phrF (phrase m) = v at h17 hv
  obtain ⟨U, u1, u2, u3⟩ := c22 n
  have hU : ∀ t ∈ U, t.2.1.length ≤ 140737488355328 := fun t ht => by have := u2 t ht; omega
  have p1 := c20g w T hw hT hT2
  have p2 := c21 w T hT hw hT2
  have p3 := c20g v U (by omega) (by omega) hU
  have p4 := c21 v U (by omega) (by omega) hU
  have q1 := c19g (occF w T) (by have := occF_len w T; omega)
  have q2 := c19g (occF v U) (by have := occF_len v U; omega)
  by_cases g1 : 400 < s2
  · simp only [F4, go_sem, List.set_cons_zero, List.set_cons_succ, List.take_succ_cons, and_false, false_and, and_true, true_and, Nat.reduceAdd, Nat.reduceEqDiff, Nat.reduceLT, ↓reduceIte, decide_eq_true_eq, List.take_nil, beq_self_eq_true, bne_self_eq_false, List.take_zero, List.map_cons, List.map_nil, Int.reduceNeg, Bool.and_true, and_self, Bool.true_and, Bool.and_self, ne_eq, not_true_eq_false, decide_false, decide_true, Bool.false_eq_true, Nat.reduceAdd, Option.map_some, Option.map_none, Option.bind_some, Option.bind_none, List.length_nil, List.length_cons, List.append_nil, Bool.and_false, w64, demV_sl, Int.cast_ofNat_Int, Int.reduceLT, Int.reduceAdd, Int.reduceSub, Int.reduceLE, Int.reduceEq, Int.reduceToNat, Int.toNat_natCast, Nat.reduceSub, Nat.reduceMul, Nat.reduceLeDiff, Nat.zero_add, Int.zero_add, not_false_eq_true, Bool.not_true, Bool.not_false, Bool.false_and, List.cons_append, List.nil_append, strs_len, tks_len, e1, e2, g1, c14]
  by_cases g2 : 80 < n.length
  · have g2' : (80 : Int) < (n.length : Int) := by omega
    simp only [F4, go_sem, List.set_cons_zero, List.set_cons_succ, List.take_succ_cons, and_false, false_and, and_true, true_and, Nat.reduceAdd, Nat.reduceEqDiff, Nat.reduceLT, ↓reduceIte, decide_eq_true_eq, List.take_nil, beq_self_eq_true, bne_self_eq_false, List.take_zero, List.map_cons, List.map_nil, Int.reduceNeg, Bool.and_true, and_self, Bool.true_and, Bool.and_self, ne_eq, not_true_eq_false, decide_false, decide_true, Bool.false_eq_true, Nat.reduceAdd, Option.map_some, Option.map_none, Option.bind_some, Option.bind_none, List.length_nil, List.length_cons, List.append_nil, Bool.and_false, w64, demV_sl, Int.cast_ofNat_Int, Int.reduceLT, Int.reduceAdd, Int.reduceSub, Int.reduceLE, Int.reduceEq, Int.reduceToNat, Int.toNat_natCast, Nat.reduceSub, Nat.reduceMul, Nat.reduceLeDiff, Nat.zero_add, Int.zero_add, not_false_eq_true, Bool.not_true, Bool.not_false, Bool.false_and, List.cons_append, List.nil_append, strs_len, tks_len, e1, e2, g1, g2', ints_length, c14]
  · have g2' : ¬ (80 : Int) < (n.length : Int) := by omega
    simp only [F4, go_sem, List.set_cons_zero, List.set_cons_succ, List.take_succ_cons, and_false, false_and, and_true, true_and, Nat.reduceAdd, Nat.reduceEqDiff, Nat.reduceLT, ↓reduceIte, decide_eq_true_eq, List.take_nil, beq_self_eq_true, bne_self_eq_false, List.take_zero, List.map_cons, List.map_nil, Int.reduceNeg, Bool.and_true, and_self, Bool.true_and, Bool.and_self, ne_eq, not_true_eq_false, decide_false, decide_true, Bool.false_eq_true, Nat.reduceAdd, Option.map_some, Option.map_none, Option.bind_some, Option.bind_none, List.length_nil, List.length_cons, List.append_nil, Bool.and_false, w64, demV_sl, Int.cast_ofNat_Int, Int.reduceLT, Int.reduceAdd, Int.reduceSub, Int.reduceLE, Int.reduceEq, Int.reduceToNat, Int.toNat_natCast, Nat.reduceSub, Nat.reduceMul, Nat.reduceLeDiff, Nat.zero_add, Int.zero_add, not_false_eq_true, Bool.not_true, Bool.not_false, Bool.false_and, List.cons_append, List.nil_append, strs_len, tks_len, e1, e2, g1, g2', ints_length, c18, h17, p1, p2, p3, p4, q1, q2, u3, c14]
end Go.Av
