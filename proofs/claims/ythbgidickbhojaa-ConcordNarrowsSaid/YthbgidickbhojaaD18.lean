/- A part of the proof: D18. No conditions. -/
import Derived.Test.YthbgidickbhojaaD16
import Derived.Test.YthbgidickbhojaaD17
set_option linter.unusedSimpArgs false
set_option linter.unusedVariables false
namespace Go.Av
set_option linter.unusedSimpArgs false
set_option maxHeartbeats 4000000
theorem c6 (l m : List Int) (more : List UInt8) : G0 6 [.sl .no 1 (ints l), .sl .no 1 (ints m), .str more] [] = some (.bool true, []) := by
  refine contract F6 rfl rfl rfl ?_
  by_cases h1 : 80 < l.length
  · have h1' : (80 : Int) < (l.length : Int) := by omega
    simp only [F6, go_sem, List.set_cons_zero, List.set_cons_succ, List.take_succ_cons, and_false, false_and, and_true, true_and, Nat.reduceAdd, Nat.reduceEqDiff, Nat.reduceLT, ↓reduceIte, decide_eq_true_eq, List.take_nil, beq_self_eq_true, bne_self_eq_false, List.take_zero, List.map_cons, List.map_nil, Int.reduceNeg, Bool.and_true, and_self, Bool.true_and, Bool.and_self, ne_eq, not_true_eq_false, decide_false, decide_true, Bool.false_eq_true, Nat.reduceAdd, Option.map_some, Option.map_none, Option.bind_some, Option.bind_none, List.length_nil, List.length_cons, List.append_nil, Bool.and_false, w64, demV_sl, Int.cast_ofNat_Int, Int.reduceLT, Int.reduceAdd, Int.reduceSub, Int.reduceLE, Int.reduceEq, Int.reduceToNat, Int.toNat_natCast, Nat.reduceSub, Nat.reduceMul, Nat.reduceLeDiff, Nat.zero_add, Int.zero_add, not_false_eq_true, Bool.not_true, Bool.not_false, Bool.false_and, List.cons_append, List.nil_append, ints_length, h1', c14]
  have h1' : ¬ (80 : Int) < (l.length : Int) := by omega
  by_cases h2 : 40 < more.length
  · have h2' : (40 : Int) < (more.length : Int) := by omega
    simp only [F6, go_sem, List.set_cons_zero, List.set_cons_succ, List.take_succ_cons, and_false, false_and, and_true, true_and, Nat.reduceAdd, Nat.reduceEqDiff, Nat.reduceLT, ↓reduceIte, decide_eq_true_eq, List.take_nil, beq_self_eq_true, bne_self_eq_false, List.take_zero, List.map_cons, List.map_nil, Int.reduceNeg, Bool.and_true, and_self, Bool.true_and, Bool.and_self, ne_eq, not_true_eq_false, decide_false, decide_true, Bool.false_eq_true, Nat.reduceAdd, Option.map_some, Option.map_none, Option.bind_some, Option.bind_none, List.length_nil, List.length_cons, List.append_nil, Bool.and_false, w64, demV_sl, Int.cast_ofNat_Int, Int.reduceLT, Int.reduceAdd, Int.reduceSub, Int.reduceLE, Int.reduceEq, Int.reduceToNat, Int.toNat_natCast, Nat.reduceSub, Nat.reduceMul, Nat.reduceLeDiff, Nat.zero_add, Int.zero_add, not_false_eq_true, Bool.not_true, Bool.not_false, Bool.false_and, List.cons_append, List.nil_append, ints_length, h1', h2', c14]
  have h2' : ¬ (40 : Int) < (more.length : Int) := by omega
  obtain ⟨T, t1, t2, t3⟩ := c22 l
  have hp := phrase_len m
  have h17 := c17 (phrase m) (by omega)
  have hw : (phrF (phrase m)).length ≤ 1000 := by
    have a := phr_le (cutF (phrase m))
    have b : (cutF (phrase m)).length ≤ (phrase m).length := (cutL_len (phrase m).length (phrase m)).1
    show (phr (cutF (phrase m))).length ≤ 1000
    omega
  generalize phrF (phrase m) = w at h17 hw
  have h20 := c20 w T (by omega) (by omega) (fun t ht => by have := t2 t ht; omega)
  by_cases h3 : w.length = 0
  · have h3' : ((w.length : Nat) : Int) = 0 := by omega
    have e : occF w T = [] := by simp [occF, h3]
    rw [e, prs_nil] at h20
    simp only [F6, go_sem, List.set_cons_zero, List.set_cons_succ, List.take_succ_cons, and_false, false_and, and_true, true_and, Nat.reduceAdd, Nat.reduceEqDiff, Nat.reduceLT, ↓reduceIte, decide_eq_true_eq, List.take_nil, beq_self_eq_true, bne_self_eq_false, List.take_zero, List.map_cons, List.map_nil, Int.reduceNeg, Bool.and_true, and_self, Bool.true_and, Bool.and_self, ne_eq, not_true_eq_false, decide_false, decide_true, Bool.false_eq_true, Nat.reduceAdd, Option.map_some, Option.map_none, Option.bind_some, Option.bind_none, List.length_nil, List.length_cons, List.append_nil, Bool.and_false, w64, demV_sl, Int.cast_ofNat_Int, Int.reduceLT, Int.reduceAdd, Int.reduceSub, Int.reduceLE, Int.reduceEq, Int.reduceToNat, Int.toNat_natCast, Nat.reduceSub, Nat.reduceMul, Nat.reduceLeDiff, Nat.zero_add, Int.zero_add, not_false_eq_true, Bool.not_true, Bool.not_false, Bool.false_and, List.cons_append, List.nil_append, ints_length, h1', h2', t3, c18, h17, strs_len, h3', h20, c14]
  · have h3' : ¬ ((w.length : Nat) : Int) = 0 := by omega
    have h20b := c20 (w ++ [more]) T (by simp; omega) (by omega) (fun t ht => by have := t2 t ht; omega)
    have hK := phr_le T
    have ho := occ_longer (plc 0 T) (phr T) w more (by omega) (plc_len T 0) (plc_inc T 0) ((phr T).length + 1) 0
    have e1 : occF w T = occ (plc 0 T) (phr T) w ((phr T).length + 1) 0 := by simp [occF, h3]
    have e2 : occF (w ++ [more]) T = occ (plc 0 T) (phr T) (w ++ [more]) ((phr T).length + 1) 0 := by simp [occF]
    rw [← e1, ← e2] at ho
    have hS : (occF w T).length ≤ 1000000 := by rw [e1]; have := occ_len (plc 0 T) (phr T) w ((phr T).length + 1) 0; omega
    have hL := ho.2
    have hb := l6b (occF w T) (occF (w ++ [more]) T) hS (by omega) ho.1 (occF (w ++ [more]) T).length 0 (by omega)
    have ha : appOK 16 w.length = true := appOK_le (by decide) (by omega)
    have ha2 : appOK 16 (w.length + 1) = true := appOK_le (by decide) (by omega)
    have hle : ((occF (w ++ [more]) T).length : Int) ≤ ((occF w T).length : Int) := by omega
    simp only [go_sem, List.set_cons_zero, List.set_cons_succ, List.take_succ_cons, and_false, false_and, and_true, true_and, Nat.reduceAdd, Nat.reduceEqDiff, Nat.reduceLT, ↓reduceIte, decide_eq_true_eq, List.take_nil, beq_self_eq_true, bne_self_eq_false, List.take_zero, List.map_cons, List.map_nil, Int.reduceNeg, Bool.and_true, and_self, Bool.true_and, Bool.and_self, ne_eq, not_true_eq_false, decide_false, decide_true, Bool.false_eq_true, Nat.reduceAdd, Option.map_some, Option.map_none, Option.bind_some, Option.bind_none, List.length_nil, List.length_cons, List.append_nil, Bool.and_false, w64, demV_sl, Int.cast_ofNat_Int, Int.reduceLT, Int.reduceAdd, Int.reduceSub, Int.reduceLE, Int.reduceEq, Int.reduceToNat, Int.toNat_natCast, Nat.reduceSub, Nat.reduceMul, Nat.reduceLeDiff, Nat.zero_add, Int.zero_add, not_false_eq_true, Bool.not_true, Bool.not_false, Bool.false_and, List.cons_append, List.nil_append] at hb
    simp only [F6, go_sem, List.set_cons_zero, List.set_cons_succ, List.take_succ_cons, and_false, false_and, and_true, true_and, Nat.reduceAdd, Nat.reduceEqDiff, Nat.reduceLT, ↓reduceIte, decide_eq_true_eq, List.take_nil, beq_self_eq_true, bne_self_eq_false, List.take_zero, List.map_cons, List.map_nil, Int.reduceNeg, Bool.and_true, and_self, Bool.true_and, Bool.and_self, ne_eq, not_true_eq_false, decide_false, decide_true, Bool.false_eq_true, Nat.reduceAdd, Option.map_some, Option.map_none, Option.bind_some, Option.bind_none, List.length_nil, List.length_cons, List.append_nil, Bool.and_false, w64, demV_sl, Int.cast_ofNat_Int, Int.reduceLT, Int.reduceAdd, Int.reduceSub, Int.reduceLE, Int.reduceEq, Int.reduceToNat, Int.toNat_natCast, Nat.reduceSub, Nat.reduceMul, Nat.reduceLeDiff, Nat.zero_add, Int.zero_add, not_false_eq_true, Bool.not_true, Bool.not_false, Bool.false_and, List.cons_append, List.nil_append, ints_length, h1', h2', t3, c18, h17, strs_len, h3', h20, h20b, appA_gen .full .no (by decide) 1 16 (by decide), appA_gen .own .full (by decide) 1 16 (by decide), ha, ha2, strs_one, strs_app, prs_len, hb, hle, c14]
end Go.Av
