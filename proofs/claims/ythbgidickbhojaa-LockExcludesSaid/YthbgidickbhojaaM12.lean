/- A part of the proof: M12. No conditions. -/
import Derived.Test.YthbgidickbhojaaM11
set_option linter.unusedSimpArgs false
set_option linter.unusedVariables false
namespace Go.Av
set_option linter.unusedSimpArgs false
set_option maxHeartbeats 8000000
set_option maxRecDepth 100000
def neF (g : Int) (t : Tk) : Bool := !decide (t.1 = g)
theorem l57 (L : List Tk) (hL : L.length ≤ 1000000) (g : Int) : ∀ (k i : Nat) (md : Own) (out : List Tk), md ≠ .no → i + k = L.length → out.length ≤ i →
    ∃ md', md' ≠ .no ∧ execX G0 L57_0 (ST [(1, .int .i64 g), (5, .sl md 3 (tks out)), (8, .sl .no 3 (tks L)), (9, .int .i64 L.length), (10, .int .i64 i)] [] []) = some (.ex 0, ST [(1, .int .i64 g), (5, .sl md' 3 (tks (out ++ (L.drop i).filter (neF g)))), (8, .sl .no 3 (tks L)), (9, .int .i64 L.length), (10, .int .i64 L.length), (11, .bool false)] [] [])
  | 0, i, md, out, hm, h1, h2 => by
    have : i = L.length := by omega
    subst this
    refine ⟨md, hm, ?_⟩
    rw [Y_loop (L := L57_0) rfl]
    simp only [go_sem, List.set_cons_zero, List.set_cons_succ, List.take_succ_cons, and_false, false_and, and_true, true_and, Nat.reduceAdd, Nat.reduceEqDiff, Nat.reduceLT, ↓reduceIte, decide_eq_true_eq, List.take_nil, beq_self_eq_true, bne_self_eq_false, List.take_zero, List.map_cons, List.map_nil, Int.reduceNeg, Bool.and_true, and_self, Bool.true_and, Bool.and_self, ne_eq, not_true_eq_false, decide_false, decide_true, Bool.false_eq_true, Nat.reduceAdd, Option.map_some, Option.map_none, Option.bind_some, Option.bind_none, List.length_nil, List.length_cons, List.append_nil, Bool.and_false, w64, demV_sl, Int.cast_ofNat_Int, Int.reduceLT, Int.reduceAdd, Int.reduceSub, Int.reduceLE, Int.reduceEq, Int.reduceToNat, Int.toNat_natCast, Nat.reduceSub, Nat.reduceMul, Nat.reduceLeDiff, Nat.zero_add, Int.zero_add, not_false_eq_true, Bool.not_true, Bool.not_false, Bool.false_and, List.cons_append, List.nil_append, Int.lt_irrefl, List.drop_length, List.filter_nil]
  | k + 1, i, md, out, hm, h1, h2 => by
    have h3 : i < L.length := by omega
    have h4 : (i : Int) < (L.length : Int) := by omega
    have h0 : (0 : Int) ≤ (i : Int) := by omega
    have hw : IntKind.i64.wrap ((i : Int) + 1) = ((i + 1 : Nat) : Int) := by rw [w64 (by omega) (by omega)]; rfl
    have hr := tks_d h3
    by_cases a1 : (L.getD i tk0).1 = g
    · obtain ⟨md', hm', ih⟩ := l57 L hL g k (i + 1) md out hm (by omega) (by omega)
      refine ⟨md', hm', ?_⟩
      have a1' : ((L.getD i tk0).1 = g) = True := eq_true a1
      have hk : neF g (L.getD i tk0) = false := by simp only [neF, a1, decide_true, Bool.not_true]
      rw [drop_d h3, List.filter_cons, hk]
      rw [Y_loop (L := L57_0) rfl]
      simp only [go_sem, List.set_cons_zero, List.set_cons_succ, List.take_succ_cons, and_false, false_and, and_true, true_and, Nat.reduceAdd, Nat.reduceEqDiff, Nat.reduceLT, ↓reduceIte, decide_eq_true_eq, List.take_nil, beq_self_eq_true, bne_self_eq_false, List.take_zero, List.map_cons, List.map_nil, Int.reduceNeg, Bool.and_true, and_self, Bool.true_and, Bool.and_self, ne_eq, not_true_eq_false, decide_false, decide_true, Bool.false_eq_true, Nat.reduceAdd, Option.map_some, Option.map_none, Option.bind_some, Option.bind_none, List.length_nil, List.length_cons, List.append_nil, Bool.and_false, w64, demV_sl, Int.cast_ofNat_Int, Int.reduceLT, Int.reduceAdd, Int.reduceSub, Int.reduceLE, Int.reduceEq, Int.reduceToNat, Int.toNat_natCast, Nat.reduceSub, Nat.reduceMul, Nat.reduceLeDiff, Nat.zero_add, Int.zero_add, not_false_eq_true, Bool.not_true, Bool.not_false, Bool.false_and, List.cons_append, List.nil_append, h4, h0, hr, a1', hw]
      exact ih
    · obtain ⟨md', hm', ih⟩ := l57 L hL g k (i + 1) .own (out ++ [L.getD i tk0]) (by decide) (by omega) (by simp; omega)
      refine ⟨md', hm', ?_⟩
      have a1' : ((L.getD i tk0).1 = g) = False := eq_false a1
      have hk : neF g (L.getD i tk0) = true := by simp only [neF, a1, decide_false, Bool.not_false]
      have ha : appOK 32 (out.length + 1) = true := appOK_le (by decide) (by omega)
      have e : tks [L.getD i tk0] = [[.int .i64 (L.getD i tk0).1, .str (L.getD i tk0).2.1, .int .i64 (L.getD i tk0).2.2]] := rfl
      rw [drop_d h3, List.filter_cons, hk, if_pos rfl]
      rw [List.append_assoc] at ih
      rw [Y_loop (L := L57_0) rfl]
      simp only [go_sem, List.set_cons_zero, List.set_cons_succ, List.take_succ_cons, and_false, false_and, and_true, true_and, Nat.reduceAdd, Nat.reduceEqDiff, Nat.reduceLT, ↓reduceIte, decide_eq_true_eq, List.take_nil, beq_self_eq_true, bne_self_eq_false, List.take_zero, List.map_cons, List.map_nil, Int.reduceNeg, Bool.and_true, and_self, Bool.true_and, Bool.and_self, ne_eq, not_true_eq_false, decide_false, decide_true, Bool.false_eq_true, Nat.reduceAdd, Option.map_some, Option.map_none, Option.bind_some, Option.bind_none, List.length_nil, List.length_cons, List.append_nil, Bool.and_false, w64, demV_sl, Int.cast_ofNat_Int, Int.reduceLT, Int.reduceAdd, Int.reduceSub, Int.reduceLE, Int.reduceEq, Int.reduceToNat, Int.toNat_natCast, Nat.reduceSub, Nat.reduceMul, Nat.reduceLeDiff, Nat.zero_add, Int.zero_add, not_false_eq_true, Bool.not_true, Bool.not_false, Bool.false_and, List.cons_append, List.nil_append, h4, h0, hr, a1', hw, appA_gen md _ hm 3 32 (by decide), tks_len, ha, ← e, tks_app]
      exact ih
theorem c57 (L : List Tk) (hL : L.length ≤ 1000000) (g : Int) : G0 57 [.sl .no 3 (tks L), .int .i64 g] [] = some (.sl .no 3 (tks (L.filter (neF g))), []) := by
  refine contract F57 rfl rfl rfl ?_
  obtain ⟨md', hm, hx⟩ := l57 L hL g L.length 0 .full [] (by decide) (by omega) (by simp)
  have ec : ((0 : Nat) : Int) = 0 := rfl
  rw [ec, tks_nil] at hx
  simp only [List.nil_append, List.drop_zero] at hx
  simp only [F57, go_sem, List.set_cons_zero, List.set_cons_succ, List.take_succ_cons, and_false, false_and, and_true, true_and, Nat.reduceAdd, Nat.reduceEqDiff, Nat.reduceLT, ↓reduceIte, decide_eq_true_eq, List.take_nil, beq_self_eq_true, bne_self_eq_false, List.take_zero, List.map_cons, List.map_nil, Int.reduceNeg, Bool.and_true, and_self, Bool.true_and, Bool.and_self, ne_eq, not_true_eq_false, decide_false, decide_true, Bool.false_eq_true, Nat.reduceAdd, Option.map_some, Option.map_none, Option.bind_some, Option.bind_none, List.length_nil, List.length_cons, List.append_nil, Bool.and_false, w64, demV_sl, Int.cast_ofNat_Int, Int.reduceLT, Int.reduceAdd, Int.reduceSub, Int.reduceLE, Int.reduceEq, Int.reduceToNat, Int.toNat_natCast, Nat.reduceSub, Nat.reduceMul, Nat.reduceLeDiff, Nat.zero_add, Int.zero_add, not_false_eq_true, Bool.not_true, Bool.not_false, Bool.false_and, List.cons_append, List.nil_append, tks_len, hx]
theorem l27 (L : List Tk) (hL : L.length ≤ 1000000) : ∀ (k i : Nat), i + k = L.length →
    execX G0 L27_0 (ST [(0, .sl .no 3 (tks L)), (1, .sl .no 3 (tks L)), (10, .bool false), (12, .int .i64 L.length), (13, .int .i64 i)] [] []) = some (.ex 0, ST [(0, .sl .no 3 (tks L)), (1, .sl .no 3 (tks L)), (10, .bool false), (12, .int .i64 L.length), (13, .int .i64 L.length), (14, .bool false)] [] [])
  | 0, i, h1 => by
    have : i = L.length := by omega
    subst this
    rw [Y_loop (L := L27_0) rfl]
    simp only [go_sem, List.set_cons_zero, List.set_cons_succ, List.take_succ_cons, and_false, false_and, and_true, true_and, Nat.reduceAdd, Nat.reduceEqDiff, Nat.reduceLT, ↓reduceIte, decide_eq_true_eq, List.take_nil, beq_self_eq_true, bne_self_eq_false, List.take_zero, List.map_cons, List.map_nil, Int.reduceNeg, Bool.and_true, and_self, Bool.true_and, Bool.and_self, ne_eq, not_true_eq_false, decide_false, decide_true, Bool.false_eq_true, Nat.reduceAdd, Option.map_some, Option.map_none, Option.bind_some, Option.bind_none, List.length_nil, List.length_cons, List.append_nil, Bool.and_false, w64, demV_sl, Int.cast_ofNat_Int, Int.reduceLT, Int.reduceAdd, Int.reduceSub, Int.reduceLE, Int.reduceEq, Int.reduceToNat, Int.toNat_natCast, Nat.reduceSub, Nat.reduceMul, Nat.reduceLeDiff, Nat.zero_add, Int.zero_add, not_false_eq_true, Bool.not_true, Bool.not_false, Bool.false_and, List.cons_append, List.nil_append, Int.lt_irrefl]
  | k + 1, i, h1 => by
    have h3 : i < L.length := by omega
    have h4 : (i : Int) < (L.length : Int) := by omega
    have h0 : (0 : Int) ≤ (i : Int) := by omega
    have hw : IntKind.i64.wrap ((i : Int) + 1) = ((i + 1 : Nat) : Int) := by rw [w64 (by omega) (by omega)]; rfl
    have hr := tks_d h3
    have ih := l27 L hL k (i + 1) (by omega)
    have hq : eqL [0, 2, 0] [.int .i64 (L.getD i tk0).1, .str (L.getD i tk0).2.1, .int .i64 (L.getD i tk0).2.2] [.int .i64 (L.getD i tk0).1, .str (L.getD i tk0).2.1, .int .i64 (L.getD i tk0).2.2] = some true := by simp [eqL]
    rw [Y_loop (L := L27_0) rfl]
    simp only [go_sem, List.set_cons_zero, List.set_cons_succ, List.take_succ_cons, and_false, false_and, and_true, true_and, Nat.reduceAdd, Nat.reduceEqDiff, Nat.reduceLT, ↓reduceIte, decide_eq_true_eq, List.take_nil, beq_self_eq_true, bne_self_eq_false, List.take_zero, List.map_cons, List.map_nil, Int.reduceNeg, Bool.and_true, and_self, Bool.true_and, Bool.and_self, ne_eq, not_true_eq_false, decide_false, decide_true, Bool.false_eq_true, Nat.reduceAdd, Option.map_some, Option.map_none, Option.bind_some, Option.bind_none, List.length_nil, List.length_cons, List.append_nil, Bool.and_false, w64, demV_sl, Int.cast_ofNat_Int, Int.reduceLT, Int.reduceAdd, Int.reduceSub, Int.reduceLE, Int.reduceEq, Int.reduceToNat, Int.toNat_natCast, Nat.reduceSub, Nat.reduceMul, Nat.reduceLeDiff, Nat.zero_add, Int.zero_add, not_false_eq_true, Bool.not_true, Bool.not_false, Bool.false_and, List.cons_append, List.nil_append, h4, h0, hr, hw, hq]
    exact ih
theorem c27 (L : List Tk) (hL : L.length ≤ 1000000) : G0 27 [.sl .no 3 (tks L), .sl .no 3 (tks L)] [] = some (.bool true, []) := by
  refine contract F27 rfl rfl rfl ?_
  have hx := l27 L hL L.length 0 (by omega)
  have ec : ((0 : Nat) : Int) = 0 := rfl
  rw [ec] at hx
  simp only [F27, go_sem, List.set_cons_zero, List.set_cons_succ, List.take_succ_cons, and_false, false_and, and_true, true_and, Nat.reduceAdd, Nat.reduceEqDiff, Nat.reduceLT, ↓reduceIte, decide_eq_true_eq, List.take_nil, beq_self_eq_true, bne_self_eq_false, List.take_zero, List.map_cons, List.map_nil, Int.reduceNeg, Bool.and_true, and_self, Bool.true_and, Bool.and_self, ne_eq, not_true_eq_false, decide_false, decide_true, Bool.false_eq_true, Nat.reduceAdd, Option.map_some, Option.map_none, Option.bind_some, Option.bind_none, List.length_nil, List.length_cons, List.append_nil, Bool.and_false, w64, demV_sl, Int.cast_ofNat_Int, Int.reduceLT, Int.reduceAdd, Int.reduceSub, Int.reduceLE, Int.reduceEq, Int.reduceToNat, Int.toNat_natCast, Nat.reduceSub, Nat.reduceMul, Nat.reduceLeDiff, Nat.zero_add, Int.zero_add, not_false_eq_true, Bool.not_true, Bool.not_false, Bool.false_and, List.cons_append, List.nil_append, tks_len, hx]
end Go.Av
