/- A part of the proof: D22. No conditions. -/
import Derived.Test.YthbgidickbhojaaD21
set_option linter.unusedSimpArgs false
set_option linter.unusedVariables false
namespace Go.Av
set_option linter.unusedSimpArgs false
set_option maxHeartbeats 4000000
theorem occR_len (w : List (List UInt8)) : ∀ (T : List Tk) (p : Nat), (occR w p T).length ≤ T.length
  | [], p => by simp [occR]
  | t :: T, p => by
    have := occR_len w T (p + 1)
    simp only [occR]
    split <;> simp only [List.length_cons] <;> omega
theorem l21o (w : List (List UInt8)) (hw0 : 1 ≤ w.length) (T : List Tk) (hT : T.length ≤ 4398046511104) (hw : w.length ≤ 8796093022208) (hT2 : ∀ t ∈ T, t.2.1.length ≤ 140737488355328) :
    ∀ (k i : Nat) (md : Own) (out : List (Int × Int)), md ≠ .no → i + k = T.length → out.length ≤ i →
    ∃ md', execX G0 L21_1 (ST [(0, .sl .no 1 (strs w)), (1, .sl .no 3 (tks T)), (5, .sl md 2 (prs out)), (11, .bool false), (13, .int .i64 T.length), (14, .int .i64 i)] [] []) = some (.ex 0, ST [(0, .sl .no 1 (strs w)), (1, .sl .no 3 (tks T)), (5, .sl md' 2 (prs (out ++ occR w i (T.drop i)))), (11, .bool false), (13, .int .i64 T.length), (14, .int .i64 T.length), (15, .bool false)] [] [])
  | 0, i, md, out, hm, h1, h2 => by
    have : i = T.length := by omega
    subst this
    refine ⟨md, ?_⟩
    rw [Y_loop (L := L21_1) rfl]
    simp only [go_sem, List.set_cons_zero, List.set_cons_succ, List.take_succ_cons, and_false, false_and, and_true, true_and, Nat.reduceAdd, Nat.reduceEqDiff, Nat.reduceLT, ↓reduceIte, decide_eq_true_eq, List.take_nil, beq_self_eq_true, bne_self_eq_false, List.take_zero, List.map_cons, List.map_nil, Int.reduceNeg, Bool.and_true, and_self, Bool.true_and, Bool.and_self, ne_eq, not_true_eq_false, decide_false, decide_true, Bool.false_eq_true, Nat.reduceAdd, Option.map_some, Option.map_none, Option.bind_some, Option.bind_none, List.length_nil, List.length_cons, List.append_nil, Bool.and_false, w64, demV_sl, Int.cast_ofNat_Int, Int.reduceLT, Int.reduceAdd, Int.reduceSub, Int.reduceLE, Int.reduceEq, Int.reduceToNat, Int.toNat_natCast, Nat.reduceSub, Nat.reduceMul, Nat.reduceLeDiff, Nat.zero_add, Int.zero_add, not_false_eq_true, Bool.not_true, Bool.not_false, Bool.false_and, List.cons_append, List.nil_append, Int.lt_irrefl, List.drop_length, occR]
  | k + 1, i, md, out, hm, h1, h2 => by
    have hi : i < T.length := by omega
    have g4 : (i : Int) < (T.length : Int) := by omega
    have g0 : (0 : Int) ≤ (i : Int) := by omega
    have hwr : IntKind.i64.wrap ((i : Int) + 1) = ((i + 1 : Nat) : Int) := by rw [w64 (by omega) (by omega)]; rfl
    have hg : T[i]? = some T[i] := List.getElem?_eq_getElem hi
    have hd : T.drop i = T[i] :: T.drop (i + 1) := List.drop_eq_getElem_cons hi
    generalize T[i] = t at hg hd
    have hr := tks_at hg
    have hwn : w ≠ [] := by intro z; subst z; simp at hw0
    by_cases c : cnt t.1 = true
    · obtain ⟨md1, n', to', q0, q⟩ := l21i w T hT hw hT2 i t hg c (k + 1) i 0 md out hm (by omega) (by omega) (by omega) (by omega)
      rw [List.drop_zero, scn_eq _ _ _ hwn] at q
      have eo : out ++ opt (i : Int) (if (phr (T.drop i)).take w.length = w then some ((plc i (T.drop i)).getD (w.length - 1) 0 + 1) else none) ++ occR w (i + 1) (T.drop (i + 1)) = out ++ occR w i (T.drop i) := by
        rw [hd]
        simp only [occR, c, true_and]
        by_cases z : (phr (t :: T.drop (i + 1))).take w.length = w
        · rw [if_pos z, if_pos z]; simp [opt]
        · rw [if_neg z, if_neg z]; simp [opt]
      have hlo : (out ++ opt (i : Int) (if (phr (T.drop i)).take w.length = w then some ((plc i (T.drop i)).getD (w.length - 1) 0 + 1) else none)).length ≤ i + 1 := by
        split <;> simp [opt] <;> omega
      obtain ⟨md', ih⟩ := l21o w hw0 T hT hw hT2 k (i + 1) md1 _ q0 (by omega) hlo
      rw [eo] at ih
      refine ⟨md', ?_⟩
      generalize hO : out ++ opt (i : Int) (if (phr (T.drop i)).take w.length = w then some ((plc i (T.drop i)).getD (w.length - 1) 0 + 1) else none) = O at q ih
      rcases q with q | q | q
      all_goals
        simp only [go_sem, List.set_cons_zero, List.set_cons_succ, List.take_succ_cons, and_false, false_and, and_true, true_and, Nat.reduceAdd, Nat.reduceEqDiff, Nat.reduceLT, ↓reduceIte, decide_eq_true_eq, List.take_nil, beq_self_eq_true, bne_self_eq_false, List.take_zero, List.map_cons, List.map_nil, Int.reduceNeg, Bool.and_true, and_self, Bool.true_and, Bool.and_self, ne_eq, not_true_eq_false, decide_false, decide_true, Bool.false_eq_true, Nat.reduceAdd, Option.map_some, Option.map_none, Option.bind_some, Option.bind_none, List.length_nil, List.length_cons, List.append_nil, Bool.and_false, w64, demV_sl, Int.cast_ofNat_Int, Int.reduceLT, Int.reduceAdd, Int.reduceSub, Int.reduceLE, Int.reduceEq, Int.reduceToNat, Int.toNat_natCast, Nat.reduceSub, Nat.reduceMul, Nat.reduceLeDiff, Nat.zero_add, Int.zero_add, not_false_eq_true, Bool.not_true, Bool.not_false, Bool.false_and, List.cons_append, List.nil_append] at q
        rw [Y_loop (L := L21_1) rfl]
        simp only [go_sem, List.set_cons_zero, List.set_cons_succ, List.take_succ_cons, and_false, false_and, and_true, true_and, Nat.reduceAdd, Nat.reduceEqDiff, Nat.reduceLT, ↓reduceIte, decide_eq_true_eq, List.take_nil, beq_self_eq_true, bne_self_eq_false, List.take_zero, List.map_cons, List.map_nil, Int.reduceNeg, Bool.and_true, and_self, Bool.true_and, Bool.and_self, ne_eq, not_true_eq_false, decide_false, decide_true, Bool.false_eq_true, Nat.reduceAdd, Option.map_some, Option.map_none, Option.bind_some, Option.bind_none, List.length_nil, List.length_cons, List.append_nil, Bool.and_false, w64, demV_sl, Int.cast_ofNat_Int, Int.reduceLT, Int.reduceAdd, Int.reduceSub, Int.reduceLE, Int.reduceEq, Int.reduceToNat, Int.toNat_natCast, Nat.reduceSub, Nat.reduceMul, Nat.reduceLeDiff, Nat.zero_add, Int.zero_add, not_false_eq_true, Bool.not_true, Bool.not_false, Bool.false_and, List.cons_append, List.nil_append, g4, g0, q, hwr]
        exact ih
    · have c' : cnt t.1 = false := by simpa using c
      obtain ⟨md', ih⟩ := l21o w hw0 T hT hw hT2 k (i + 1) md out hm (by omega) (by omega)
      have eo : occR w i (T.drop i) = occR w (i + 1) (T.drop (i + 1)) := by
        rw [hd]; simp only [occR, c', Bool.false_eq_true, false_and, if_false]
      rw [eo]
      refine ⟨md', ?_⟩
      rw [Y_loop (L := L21_1) rfl]
      simp only [go_sem, List.set_cons_zero, List.set_cons_succ, List.take_succ_cons, and_false, false_and, and_true, true_and, Nat.reduceAdd, Nat.reduceEqDiff, Nat.reduceLT, ↓reduceIte, decide_eq_true_eq, List.take_nil, beq_self_eq_true, bne_self_eq_false, List.take_zero, List.map_cons, List.map_nil, Int.reduceNeg, Bool.and_true, and_self, Bool.true_and, Bool.and_self, ne_eq, not_true_eq_false, decide_false, decide_true, Bool.false_eq_true, Nat.reduceAdd, Option.map_some, Option.map_none, Option.bind_some, Option.bind_none, List.length_nil, List.length_cons, List.append_nil, Bool.and_false, w64, demV_sl, Int.cast_ofNat_Int, Int.reduceLT, Int.reduceAdd, Int.reduceSub, Int.reduceLE, Int.reduceEq, Int.reduceToNat, Int.toNat_natCast, Nat.reduceSub, Nat.reduceMul, Nat.reduceLeDiff, Nat.zero_add, Int.zero_add, not_false_eq_true, Bool.not_true, Bool.not_false, Bool.false_and, List.cons_append, List.nil_append, g4, g0, hwr]
      rw [Y_loop (L := L21_0) rfl]
      simp only [go_sem, List.set_cons_zero, List.set_cons_succ, List.take_succ_cons, and_false, false_and, and_true, true_and, Nat.reduceAdd, Nat.reduceEqDiff, Nat.reduceLT, ↓reduceIte, decide_eq_true_eq, List.take_nil, beq_self_eq_true, bne_self_eq_false, List.take_zero, List.map_cons, List.map_nil, Int.reduceNeg, Bool.and_true, and_self, Bool.true_and, Bool.and_self, ne_eq, not_true_eq_false, decide_false, decide_true, Bool.false_eq_true, Nat.reduceAdd, Option.map_some, Option.map_none, Option.bind_some, Option.bind_none, List.length_nil, List.length_cons, List.append_nil, Bool.and_false, w64, demV_sl, Int.cast_ofNat_Int, Int.reduceLT, Int.reduceAdd, Int.reduceSub, Int.reduceLE, Int.reduceEq, Int.reduceToNat, Int.toNat_natCast, Nat.reduceSub, Nat.reduceMul, Nat.reduceLeDiff, Nat.zero_add, Int.zero_add, not_false_eq_true, Bool.not_true, Bool.not_false, Bool.false_and, List.cons_append, List.nil_append, g4, g0, hwr, tks_len, hr, c47, c']
      exact ih
theorem c21 (w : List (List UInt8)) (T : List Tk) (hT : T.length ≤ 4398046511104) (hw : w.length ≤ 8796093022208) (hT2 : ∀ t ∈ T, t.2.1.length ≤ 140737488355328) : G0 21 [.sl .no 1 (strs w), .sl .no 3 (tks T)] [] = some (.sl .no 2 (prs (occF w T)), []) := by
  refine contract F21 rfl rfl rfl ?_
  by_cases h1 : w.length = 0
  · have h2 : ((w.length : Nat) : Int) = 0 := by omega
    simp only [F21, go_sem, List.set_cons_zero, List.set_cons_succ, List.take_succ_cons, and_false, false_and, and_true, true_and, Nat.reduceAdd, Nat.reduceEqDiff, Nat.reduceLT, ↓reduceIte, decide_eq_true_eq, List.take_nil, beq_self_eq_true, bne_self_eq_false, List.take_zero, List.map_cons, List.map_nil, Int.reduceNeg, Bool.and_true, and_self, Bool.true_and, Bool.and_self, ne_eq, not_true_eq_false, decide_false, decide_true, Bool.false_eq_true, Nat.reduceAdd, Option.map_some, Option.map_none, Option.bind_some, Option.bind_none, List.length_nil, List.length_cons, List.append_nil, Bool.and_false, w64, demV_sl, Int.cast_ofNat_Int, Int.reduceLT, Int.reduceAdd, Int.reduceSub, Int.reduceLE, Int.reduceEq, Int.reduceToNat, Int.toNat_natCast, Nat.reduceSub, Nat.reduceMul, Nat.reduceLeDiff, Nat.zero_add, Int.zero_add, not_false_eq_true, Bool.not_true, Bool.not_false, Bool.false_and, List.cons_append, List.nil_append, strs_len, h2, occF, h1, prs_nil]
  · have h2 : ¬ ((w.length : Nat) : Int) = 0 := by omega
    obtain ⟨md', hx⟩ := l21o w (by omega) T hT hw hT2 T.length 0 .full [] (by decide) (by omega) (by simp)
    rw [List.drop_zero, ← occF_R w (by omega)] at hx
    simp only [go_sem, List.set_cons_zero, List.set_cons_succ, List.take_succ_cons, and_false, false_and, and_true, true_and, Nat.reduceAdd, Nat.reduceEqDiff, Nat.reduceLT, ↓reduceIte, decide_eq_true_eq, List.take_nil, beq_self_eq_true, bne_self_eq_false, List.take_zero, List.map_cons, List.map_nil, Int.reduceNeg, Bool.and_true, and_self, Bool.true_and, Bool.and_self, ne_eq, not_true_eq_false, decide_false, decide_true, Bool.false_eq_true, Nat.reduceAdd, Option.map_some, Option.map_none, Option.bind_some, Option.bind_none, List.length_nil, List.length_cons, List.append_nil, Bool.and_false, w64, demV_sl, Int.cast_ofNat_Int, Int.reduceLT, Int.reduceAdd, Int.reduceSub, Int.reduceLE, Int.reduceEq, Int.reduceToNat, Int.toNat_natCast, Nat.reduceSub, Nat.reduceMul, Nat.reduceLeDiff, Nat.zero_add, Int.zero_add, not_false_eq_true, Bool.not_true, Bool.not_false, Bool.false_and, List.cons_append, List.nil_append, prs_nil] at hx
    simp only [F21, go_sem, List.set_cons_zero, List.set_cons_succ, List.take_succ_cons, and_false, false_and, and_true, true_and, Nat.reduceAdd, Nat.reduceEqDiff, Nat.reduceLT, ↓reduceIte, decide_eq_true_eq, List.take_nil, beq_self_eq_true, bne_self_eq_false, List.take_zero, List.map_cons, List.map_nil, Int.reduceNeg, Bool.and_true, and_self, Bool.true_and, Bool.and_self, ne_eq, not_true_eq_false, decide_false, decide_true, Bool.false_eq_true, Nat.reduceAdd, Option.map_some, Option.map_none, Option.bind_some, Option.bind_none, List.length_nil, List.length_cons, List.append_nil, Bool.and_false, w64, demV_sl, Int.cast_ofNat_Int, Int.reduceLT, Int.reduceAdd, Int.reduceSub, Int.reduceLE, Int.reduceEq, Int.reduceToNat, Int.toNat_natCast, Nat.reduceSub, Nat.reduceMul, Nat.reduceLeDiff, Nat.zero_add, Int.zero_add, not_false_eq_true, Bool.not_true, Bool.not_false, Bool.false_and, List.cons_append, List.nil_append, strs_len, tks_len, h2, hx]
end Go.Av
