/- A part of the proof: D21. No conditions. -/
import Derived.Test.YthbgidickbhojaaD20
set_option linter.unusedSimpArgs false
set_option linter.unusedVariables false
namespace Go.Av
set_option linter.unusedSimpArgs false
set_option maxHeartbeats 4000000
theorem l51g (s : List UInt8) (hs : s.length ≤ 140737488355328) : ∀ (k i : Nat), i + k = s.length →
    execX G0 L51_0 (ST [(3, .ss 0 0 s.length 1), (8, .int .i64 s.length), (9, .int .i64 i)] [] [bcells (lowP s i)]) =
    some (.ex 0, ST [(3, .ss 0 0 s.length 1), (8, .int .i64 s.length), (9, .int .i64 s.length), (10, .bool false)] [] [bcells (lowF s)])
  | 0, i, h => by
    have : i = s.length := by omega
    subst this
    rw [Y_loop (L := L51_0) rfl]
    simp only [go_sem, List.set_cons_zero, List.set_cons_succ, List.take_succ_cons, and_false, false_and, and_true, true_and, Nat.reduceAdd, Nat.reduceEqDiff, Nat.reduceLT, ↓reduceIte, decide_eq_true_eq, List.take_nil, beq_self_eq_true, bne_self_eq_false, List.take_zero, List.map_cons, List.map_nil, Int.reduceNeg, Bool.and_true, and_self, Bool.true_and, Bool.and_self, ne_eq, not_true_eq_false, decide_false, decide_true, Bool.false_eq_true, Nat.reduceAdd, Option.map_some, Option.map_none, Option.bind_some, Option.bind_none, List.length_nil, List.length_cons, List.append_nil, Bool.and_false, w64, demV_sl, Int.cast_ofNat_Int, Int.reduceLT, Int.reduceAdd, Int.reduceSub, Int.reduceLE, Int.reduceEq, Int.reduceToNat, Int.toNat_natCast, Nat.reduceSub, Nat.reduceMul, Nat.reduceLeDiff, Nat.zero_add, Int.zero_add, not_false_eq_true, Bool.not_true, Bool.not_false, Bool.false_and, List.cons_append, List.nil_append, Int.lt_irrefl, lowP_end]
  | k + 1, i, h => by
    have h3 : i < s.length := by omega
    have h4 : (i : Int) < (s.length : Int) := by omega
    have h0 : (0 : Int) ≤ (i : Int) := by omega
    have hw : IntKind.i64.wrap ((i : Int) + 1) = ((i + 1 : Nat) : Int) := by rw [w64 (by omega) (by omega)]; rfl
    have ih := l51g s hs k (i + 1) (by omega)
    have ha := bcells_at (lowP_at s i h3)
    by_cases hl : (65 : Int) ≤ ((s.getD i 0).toNat : Int) ∧ ((s.getD i 0).toNat : Int) ≤ 90
    · have hn := low_nat _ hl
      have hw8 : IntKind.u8.wrap (((s.getD i 0).toNat : Int) + 32) = ((low8 (s.getD i 0)).toNat : Int) := by
        rw [hn, IntKind.wrap_u8]; omega
      have hp : ∀ x, putL i [x] (bcells (lowP s i)) = some ((bcells (lowP s i)).set i x) := fun x => putL_one _ _ x (by rw [bcells_len, lowP_len]; exact h3)
      rw [Y_loop (L := L51_0) rfl]
      simp only [go_sem, List.set_cons_zero, List.set_cons_succ, List.take_succ_cons, and_false, false_and, and_true, true_and, Nat.reduceAdd, Nat.reduceEqDiff, Nat.reduceLT, ↓reduceIte, decide_eq_true_eq, List.take_nil, beq_self_eq_true, bne_self_eq_false, List.take_zero, List.map_cons, List.map_nil, Int.reduceNeg, Bool.and_true, and_self, Bool.true_and, Bool.and_self, ne_eq, not_true_eq_false, decide_false, decide_true, Bool.false_eq_true, Nat.reduceAdd, Option.map_some, Option.map_none, Option.bind_some, Option.bind_none, List.length_nil, List.length_cons, List.append_nil, Bool.and_false, w64, demV_sl, Int.cast_ofNat_Int, Int.reduceLT, Int.reduceAdd, Int.reduceSub, Int.reduceLE, Int.reduceEq, Int.reduceToNat, Int.toNat_natCast, Nat.reduceSub, Nat.reduceMul, Nat.reduceLeDiff, Nat.zero_add, Int.zero_add, not_false_eq_true, Bool.not_true, Bool.not_false, Bool.false_and, List.cons_append, List.nil_append, h4, h0, hw, Nat.mul_one, Nat.zero_add, ha, bcells_blk, hl.1, hl.2, hw8, hp, bcells_set, List.set_cons_zero, ← lowP_succ s i h3]
      exact ih
    · have e : lowP s (i + 1) = lowP s i := lowP_same s i h3 (by unfold low8; rw [if_neg hl])
      rw [e] at ih
      rw [Y_loop (L := L51_0) rfl]
      by_cases h6 : (65 : Int) ≤ ((s.getD i 0).toNat : Int)
      · have h7 : ¬ ((s.getD i 0).toNat : Int) ≤ 90 := fun h => hl ⟨h6, h⟩
        simp only [go_sem, List.set_cons_zero, List.set_cons_succ, List.take_succ_cons, and_false, false_and, and_true, true_and, Nat.reduceAdd, Nat.reduceEqDiff, Nat.reduceLT, ↓reduceIte, decide_eq_true_eq, List.take_nil, beq_self_eq_true, bne_self_eq_false, List.take_zero, List.map_cons, List.map_nil, Int.reduceNeg, Bool.and_true, and_self, Bool.true_and, Bool.and_self, ne_eq, not_true_eq_false, decide_false, decide_true, Bool.false_eq_true, Nat.reduceAdd, Option.map_some, Option.map_none, Option.bind_some, Option.bind_none, List.length_nil, List.length_cons, List.append_nil, Bool.and_false, w64, demV_sl, Int.cast_ofNat_Int, Int.reduceLT, Int.reduceAdd, Int.reduceSub, Int.reduceLE, Int.reduceEq, Int.reduceToNat, Int.toNat_natCast, Nat.reduceSub, Nat.reduceMul, Nat.reduceLeDiff, Nat.zero_add, Int.zero_add, not_false_eq_true, Bool.not_true, Bool.not_false, Bool.false_and, List.cons_append, List.nil_append, h4, h0, hw, Nat.mul_one, Nat.zero_add, ha, bcells_blk, h6, h7]
        exact ih
      · simp only [go_sem, List.set_cons_zero, List.set_cons_succ, List.take_succ_cons, and_false, false_and, and_true, true_and, Nat.reduceAdd, Nat.reduceEqDiff, Nat.reduceLT, ↓reduceIte, decide_eq_true_eq, List.take_nil, beq_self_eq_true, bne_self_eq_false, List.take_zero, List.map_cons, List.map_nil, Int.reduceNeg, Bool.and_true, and_self, Bool.true_and, Bool.and_self, ne_eq, not_true_eq_false, decide_false, decide_true, Bool.false_eq_true, Nat.reduceAdd, Option.map_some, Option.map_none, Option.bind_some, Option.bind_none, List.length_nil, List.length_cons, List.append_nil, Bool.and_false, w64, demV_sl, Int.cast_ofNat_Int, Int.reduceLT, Int.reduceAdd, Int.reduceSub, Int.reduceLE, Int.reduceEq, Int.reduceToNat, Int.toNat_natCast, Nat.reduceSub, Nat.reduceMul, Nat.reduceLeDiff, Nat.zero_add, Int.zero_add, not_false_eq_true, Bool.not_true, Bool.not_false, Bool.false_and, List.cons_append, List.nil_append, h4, h0, hw, Nat.mul_one, Nat.zero_add, ha, bcells_blk, h6]
        exact ih
theorem c51g (s : List UInt8) (hs : s.length ≤ 140737488355328) : G0 51 [.str s] [] = some (.str (lowF s), []) := by
  refine contract F51 rfl rfl rfl ?_
  have hx := l51g s hs s.length 0 (by omega)
  rw [lowP_zero] at hx
  have hb : s.length ≤ 140737488355328 := by omega
  have hr := rowsC_b (lowF s)
  have hll : (lowF s).length = s.length := by simp [lowF]
  rw [hll] at hr
  simp only [go_sem, List.set_cons_zero, List.set_cons_succ, List.take_succ_cons, and_false, false_and, and_true, true_and, Nat.reduceAdd, Nat.reduceEqDiff, Nat.reduceLT, ↓reduceIte, decide_eq_true_eq, List.take_nil, beq_self_eq_true, bne_self_eq_false, List.take_zero, List.map_cons, List.map_nil, Int.reduceNeg, Bool.and_true, and_self, Bool.true_and, Bool.and_self, ne_eq, not_true_eq_false, decide_false, decide_true, Bool.false_eq_true, Nat.reduceAdd, Option.map_some, Option.map_none, Option.bind_some, Option.bind_none, List.length_nil, List.length_cons, List.append_nil, Bool.and_false, w64, demV_sl, Int.cast_ofNat_Int, Int.reduceLT, Int.reduceAdd, Int.reduceSub, Int.reduceLE, Int.reduceEq, Int.reduceToNat, Int.toNat_natCast, Nat.reduceSub, Nat.reduceMul, Nat.reduceLeDiff, Nat.zero_add, Int.zero_add, not_false_eq_true, Bool.not_true, Bool.not_false, Bool.false_and, List.cons_append, List.nil_append] at hx
  simp only [F51, go_sem, List.set_cons_zero, List.set_cons_succ, List.take_succ_cons, and_false, false_and, and_true, true_and, Nat.reduceAdd, Nat.reduceEqDiff, Nat.reduceLT, ↓reduceIte, decide_eq_true_eq, List.take_nil, beq_self_eq_true, bne_self_eq_false, List.take_zero, List.map_cons, List.map_nil, Int.reduceNeg, Bool.and_true, and_self, Bool.true_and, Bool.and_self, ne_eq, not_true_eq_false, decide_false, decide_true, Bool.false_eq_true, Nat.reduceAdd, Option.map_some, Option.map_none, Option.bind_some, Option.bind_none, List.length_nil, List.length_cons, List.append_nil, Bool.and_false, w64, demV_sl, Int.cast_ofNat_Int, Int.reduceLT, Int.reduceAdd, Int.reduceSub, Int.reduceLE, Int.reduceEq, Int.reduceToNat, Int.toNat_natCast, Nat.reduceSub, Nat.reduceMul, Nat.reduceLeDiff, Nat.zero_add, Int.zero_add, not_false_eq_true, Bool.not_true, Bool.not_false, Bool.false_and, List.cons_append, List.nil_append, hb, hx, hr]
theorem l62g (s : List UInt8) (hs : s.length ≤ 140737488355328) : ∀ (k i : Nat), i + k = s.length →
    execX G0 L62_0 (ST [(3, .ss 0 0 s.length 1), (8, .ss 0 0 s.length 1), (9, .int .i64 s.length), (10, .int .i64 i)] [] [bcells (lowP s i)]) =
    some (.ex 0, ST [(3, .ss 0 0 s.length 1), (8, .ss 0 0 s.length 1), (9, .int .i64 s.length), (10, .int .i64 s.length), (11, .bool false)] [] [bcells (lowF s)])
  | 0, i, h => by
    have : i = s.length := by omega
    subst this
    rw [Y_loop (L := L62_0) rfl]
    simp only [go_sem, List.set_cons_zero, List.set_cons_succ, List.take_succ_cons, and_false, false_and, and_true, true_and, Nat.reduceAdd, Nat.reduceEqDiff, Nat.reduceLT, ↓reduceIte, decide_eq_true_eq, List.take_nil, beq_self_eq_true, bne_self_eq_false, List.take_zero, List.map_cons, List.map_nil, Int.reduceNeg, Bool.and_true, and_self, Bool.true_and, Bool.and_self, ne_eq, not_true_eq_false, decide_false, decide_true, Bool.false_eq_true, Nat.reduceAdd, Option.map_some, Option.map_none, Option.bind_some, Option.bind_none, List.length_nil, List.length_cons, List.append_nil, Bool.and_false, w64, demV_sl, Int.cast_ofNat_Int, Int.reduceLT, Int.reduceAdd, Int.reduceSub, Int.reduceLE, Int.reduceEq, Int.reduceToNat, Int.toNat_natCast, Nat.reduceSub, Nat.reduceMul, Nat.reduceLeDiff, Nat.zero_add, Int.zero_add, not_false_eq_true, Bool.not_true, Bool.not_false, Bool.false_and, List.cons_append, List.nil_append, Int.lt_irrefl, lowP_end]
  | k + 1, i, h => by
    have h3 : i < s.length := by omega
    have h4 : (i : Int) < (s.length : Int) := by omega
    have h0 : (0 : Int) ≤ (i : Int) := by omega
    have hw : IntKind.i64.wrap ((i : Int) + 1) = ((i + 1 : Nat) : Int) := by rw [w64 (by omega) (by omega)]; rfl
    have ih := l62g s hs k (i + 1) (by omega)
    have ha := bcells_at (lowP_at s i h3)
    by_cases hl : (65 : Int) ≤ ((s.getD i 0).toNat : Int) ∧ ((s.getD i 0).toNat : Int) ≤ 90
    · have hn := low_nat _ hl
      have hw8 : IntKind.u8.wrap (IntKind.u8.wrap (((s.getD i 0).toNat : Int) + 97) - 65) = ((low8 (s.getD i 0)).toNat : Int) := by
        rw [hn, IntKind.wrap_u8, IntKind.wrap_u8]; omega
      have hp : ∀ x, putL i [x] (bcells (lowP s i)) = some ((bcells (lowP s i)).set i x) := fun x => putL_one _ _ x (by rw [bcells_len, lowP_len]; exact h3)
      rw [Y_loop (L := L62_0) rfl]
      simp only [go_sem, List.set_cons_zero, List.set_cons_succ, List.take_succ_cons, and_false, false_and, and_true, true_and, Nat.reduceAdd, Nat.reduceEqDiff, Nat.reduceLT, ↓reduceIte, decide_eq_true_eq, List.take_nil, beq_self_eq_true, bne_self_eq_false, List.take_zero, List.map_cons, List.map_nil, Int.reduceNeg, Bool.and_true, and_self, Bool.true_and, Bool.and_self, ne_eq, not_true_eq_false, decide_false, decide_true, Bool.false_eq_true, Nat.reduceAdd, Option.map_some, Option.map_none, Option.bind_some, Option.bind_none, List.length_nil, List.length_cons, List.append_nil, Bool.and_false, w64, demV_sl, Int.cast_ofNat_Int, Int.reduceLT, Int.reduceAdd, Int.reduceSub, Int.reduceLE, Int.reduceEq, Int.reduceToNat, Int.toNat_natCast, Nat.reduceSub, Nat.reduceMul, Nat.reduceLeDiff, Nat.zero_add, Int.zero_add, not_false_eq_true, Bool.not_true, Bool.not_false, Bool.false_and, List.cons_append, List.nil_append, h4, h0, hw, Nat.mul_one, Nat.zero_add, ha, bcells_blk, hl.1, hl.2, hw8, hp, bcells_set, List.set_cons_zero, ← lowP_succ s i h3]
      exact ih
    · have e : lowP s (i + 1) = lowP s i := lowP_same s i h3 (by unfold low8; rw [if_neg hl])
      rw [e] at ih
      rw [Y_loop (L := L62_0) rfl]
      by_cases h6 : (65 : Int) ≤ ((s.getD i 0).toNat : Int)
      · have h7 : ¬ ((s.getD i 0).toNat : Int) ≤ 90 := fun h => hl ⟨h6, h⟩
        simp only [go_sem, List.set_cons_zero, List.set_cons_succ, List.take_succ_cons, and_false, false_and, and_true, true_and, Nat.reduceAdd, Nat.reduceEqDiff, Nat.reduceLT, ↓reduceIte, decide_eq_true_eq, List.take_nil, beq_self_eq_true, bne_self_eq_false, List.take_zero, List.map_cons, List.map_nil, Int.reduceNeg, Bool.and_true, and_self, Bool.true_and, Bool.and_self, ne_eq, not_true_eq_false, decide_false, decide_true, Bool.false_eq_true, Nat.reduceAdd, Option.map_some, Option.map_none, Option.bind_some, Option.bind_none, List.length_nil, List.length_cons, List.append_nil, Bool.and_false, w64, demV_sl, Int.cast_ofNat_Int, Int.reduceLT, Int.reduceAdd, Int.reduceSub, Int.reduceLE, Int.reduceEq, Int.reduceToNat, Int.toNat_natCast, Nat.reduceSub, Nat.reduceMul, Nat.reduceLeDiff, Nat.zero_add, Int.zero_add, not_false_eq_true, Bool.not_true, Bool.not_false, Bool.false_and, List.cons_append, List.nil_append, h4, h0, hw, Nat.mul_one, Nat.zero_add, ha, bcells_blk, h6, h7]
        exact ih
      · simp only [go_sem, List.set_cons_zero, List.set_cons_succ, List.take_succ_cons, and_false, false_and, and_true, true_and, Nat.reduceAdd, Nat.reduceEqDiff, Nat.reduceLT, ↓reduceIte, decide_eq_true_eq, List.take_nil, beq_self_eq_true, bne_self_eq_false, List.take_zero, List.map_cons, List.map_nil, Int.reduceNeg, Bool.and_true, and_self, Bool.true_and, Bool.and_self, ne_eq, not_true_eq_false, decide_false, decide_true, Bool.false_eq_true, Nat.reduceAdd, Option.map_some, Option.map_none, Option.bind_some, Option.bind_none, List.length_nil, List.length_cons, List.append_nil, Bool.and_false, w64, demV_sl, Int.cast_ofNat_Int, Int.reduceLT, Int.reduceAdd, Int.reduceSub, Int.reduceLE, Int.reduceEq, Int.reduceToNat, Int.toNat_natCast, Nat.reduceSub, Nat.reduceMul, Nat.reduceLeDiff, Nat.zero_add, Int.zero_add, not_false_eq_true, Bool.not_true, Bool.not_false, Bool.false_and, List.cons_append, List.nil_append, h4, h0, hw, Nat.mul_one, Nat.zero_add, ha, bcells_blk, h6]
        exact ih
theorem c62g (s : List UInt8) (hs : s.length ≤ 140737488355328) : G0 62 [.str s] [] = some (.str (lowF s), []) := by
  refine contract F62 rfl rfl rfl ?_
  have hx := l62g s hs s.length 0 (by omega)
  rw [lowP_zero] at hx
  have hb : s.length ≤ 140737488355328 := by omega
  have hr := rowsC_b (lowF s)
  have hll : (lowF s).length = s.length := by simp [lowF]
  rw [hll] at hr
  simp only [go_sem, List.set_cons_zero, List.set_cons_succ, List.take_succ_cons, and_false, false_and, and_true, true_and, Nat.reduceAdd, Nat.reduceEqDiff, Nat.reduceLT, ↓reduceIte, decide_eq_true_eq, List.take_nil, beq_self_eq_true, bne_self_eq_false, List.take_zero, List.map_cons, List.map_nil, Int.reduceNeg, Bool.and_true, and_self, Bool.true_and, Bool.and_self, ne_eq, not_true_eq_false, decide_false, decide_true, Bool.false_eq_true, Nat.reduceAdd, Option.map_some, Option.map_none, Option.bind_some, Option.bind_none, List.length_nil, List.length_cons, List.append_nil, Bool.and_false, w64, demV_sl, Int.cast_ofNat_Int, Int.reduceLT, Int.reduceAdd, Int.reduceSub, Int.reduceLE, Int.reduceEq, Int.reduceToNat, Int.toNat_natCast, Nat.reduceSub, Nat.reduceMul, Nat.reduceLeDiff, Nat.zero_add, Int.zero_add, not_false_eq_true, Bool.not_true, Bool.not_false, Bool.false_and, List.cons_append, List.nil_append] at hx
  simp only [F62, go_sem, List.set_cons_zero, List.set_cons_succ, List.take_succ_cons, and_false, false_and, and_true, true_and, Nat.reduceAdd, Nat.reduceEqDiff, Nat.reduceLT, ↓reduceIte, decide_eq_true_eq, List.take_nil, beq_self_eq_true, bne_self_eq_false, List.take_zero, List.map_cons, List.map_nil, Int.reduceNeg, Bool.and_true, and_self, Bool.true_and, Bool.and_self, ne_eq, not_true_eq_false, decide_false, decide_true, Bool.false_eq_true, Nat.reduceAdd, Option.map_some, Option.map_none, Option.bind_some, Option.bind_none, List.length_nil, List.length_cons, List.append_nil, Bool.and_false, w64, demV_sl, Int.cast_ofNat_Int, Int.reduceLT, Int.reduceAdd, Int.reduceSub, Int.reduceLE, Int.reduceEq, Int.reduceToNat, Int.toNat_natCast, Nat.reduceSub, Nat.reduceMul, Nat.reduceLeDiff, Nat.zero_add, Int.zero_add, not_false_eq_true, Bool.not_true, Bool.not_false, Bool.false_and, List.cons_append, List.nil_append, hb, hx, hr]
theorem c23g (k i : Int) (s : List UInt8) (hs : s.length ≤ 140737488355328) : G0 23 [.agg [.int .i64 k, .str s, .int .i64 i]] [] = some (.str (keyF k s), []) := by
  refine contract F23 rfl rfl rfl ?_
  by_cases h1 : k = 6
  · simp only [F23, go_sem, List.set_cons_zero, List.set_cons_succ, List.take_succ_cons, and_false, false_and, and_true, true_and, Nat.reduceAdd, Nat.reduceEqDiff, Nat.reduceLT, ↓reduceIte, decide_eq_true_eq, List.take_nil, beq_self_eq_true, bne_self_eq_false, List.take_zero, List.map_cons, List.map_nil, Int.reduceNeg, Bool.and_true, and_self, Bool.true_and, Bool.and_self, ne_eq, not_true_eq_false, decide_false, decide_true, Bool.false_eq_true, Nat.reduceAdd, Option.map_some, Option.map_none, Option.bind_some, Option.bind_none, List.length_nil, List.length_cons, List.append_nil, Bool.and_false, w64, demV_sl, Int.cast_ofNat_Int, Int.reduceLT, Int.reduceAdd, Int.reduceSub, Int.reduceLE, Int.reduceEq, Int.reduceToNat, Int.toNat_natCast, Nat.reduceSub, Nat.reduceMul, Nat.reduceLeDiff, Nat.zero_add, Int.zero_add, not_false_eq_true, Bool.not_true, Bool.not_false, Bool.false_and, List.cons_append, List.nil_append, h1, keyF, c51g s hs]
  · simp only [F23, go_sem, List.set_cons_zero, List.set_cons_succ, List.take_succ_cons, and_false, false_and, and_true, true_and, Nat.reduceAdd, Nat.reduceEqDiff, Nat.reduceLT, ↓reduceIte, decide_eq_true_eq, List.take_nil, beq_self_eq_true, bne_self_eq_false, List.take_zero, List.map_cons, List.map_nil, Int.reduceNeg, Bool.and_true, and_self, Bool.true_and, Bool.and_self, ne_eq, not_true_eq_false, decide_false, decide_true, Bool.false_eq_true, Nat.reduceAdd, Option.map_some, Option.map_none, Option.bind_some, Option.bind_none, List.length_nil, List.length_cons, List.append_nil, Bool.and_false, w64, demV_sl, Int.cast_ofNat_Int, Int.reduceLT, Int.reduceAdd, Int.reduceSub, Int.reduceLE, Int.reduceEq, Int.reduceToNat, Int.toNat_natCast, Nat.reduceSub, Nat.reduceMul, Nat.reduceLeDiff, Nat.zero_add, Int.zero_add, not_false_eq_true, Bool.not_true, Bool.not_false, Bool.false_and, List.cons_append, List.nil_append, h1, keyF]
theorem c45g (k i : Int) (s : List UInt8) (hs : s.length ≤ 140737488355328) : G0 45 [.agg [.int .i64 k, .str s, .int .i64 i]] [] = some (.str (keyF k s), []) := by
  refine contract F45 rfl rfl rfl ?_
  by_cases h1 : k = 6
  · simp only [F45, go_sem, List.set_cons_zero, List.set_cons_succ, List.take_succ_cons, and_false, false_and, and_true, true_and, Nat.reduceAdd, Nat.reduceEqDiff, Nat.reduceLT, ↓reduceIte, decide_eq_true_eq, List.take_nil, beq_self_eq_true, bne_self_eq_false, List.take_zero, List.map_cons, List.map_nil, Int.reduceNeg, Bool.and_true, and_self, Bool.true_and, Bool.and_self, ne_eq, not_true_eq_false, decide_false, decide_true, Bool.false_eq_true, Nat.reduceAdd, Option.map_some, Option.map_none, Option.bind_some, Option.bind_none, List.length_nil, List.length_cons, List.append_nil, Bool.and_false, w64, demV_sl, Int.cast_ofNat_Int, Int.reduceLT, Int.reduceAdd, Int.reduceSub, Int.reduceLE, Int.reduceEq, Int.reduceToNat, Int.toNat_natCast, Nat.reduceSub, Nat.reduceMul, Nat.reduceLeDiff, Nat.zero_add, Int.zero_add, not_false_eq_true, Bool.not_true, Bool.not_false, Bool.false_and, List.cons_append, List.nil_append, h1, keyF, c62g s hs]
  · simp only [F45, go_sem, List.set_cons_zero, List.set_cons_succ, List.take_succ_cons, and_false, false_and, and_true, true_and, Nat.reduceAdd, Nat.reduceEqDiff, Nat.reduceLT, ↓reduceIte, decide_eq_true_eq, List.take_nil, beq_self_eq_true, bne_self_eq_false, List.take_zero, List.map_cons, List.map_nil, Int.reduceNeg, Bool.and_true, and_self, Bool.true_and, Bool.and_self, ne_eq, not_true_eq_false, decide_false, decide_true, Bool.false_eq_true, Nat.reduceAdd, Option.map_some, Option.map_none, Option.bind_some, Option.bind_none, List.length_nil, List.length_cons, List.append_nil, Bool.and_false, w64, demV_sl, Int.cast_ofNat_Int, Int.reduceLT, Int.reduceAdd, Int.reduceSub, Int.reduceLE, Int.reduceEq, Int.reduceToNat, Int.toNat_natCast, Nat.reduceSub, Nat.reduceMul, Nat.reduceLeDiff, Nat.zero_add, Int.zero_add, not_false_eq_true, Bool.not_true, Bool.not_false, Bool.false_and, List.cons_append, List.nil_append, h1, keyF]

def scn : List Tk → List (List UInt8) → Nat → Option Int
  | [], _, _ => none
  | t :: D, W, p => if cnt t.1 = true then (match W with
      | [] => none
      | x :: W' => if keyF t.1 t.2.1 = x then (if W' = [] then some ((p : Int) + 1) else scn D W' (p + 1)) else none) else scn D W (p + 1)
theorem scn_eq : ∀ (D : List Tk) (W : List (List UInt8)) (p : Nat), W ≠ [] → scn D W p = if (phr D).take W.length = W then some ((plc p D).getD (W.length - 1) 0 + 1) else none
  | [], W, p, h => by
    rw [if_neg]
    · rfl
    · intro e; apply h; rw [← e]; simp [phr]
  | t :: D, W, p, h => by
    by_cases c : cnt t.1 = true
    · have e1 : plc p (t :: D) = (p : Int) :: plc (p + 1) D := by simp only [plc, c, if_true]
      rw [phr_yes c, e1]
      cases W with
      | nil => exact absurd rfl h
      | cons x W' =>
        simp only [scn, c, if_true, List.length_cons, List.take_succ_cons, List.cons.injEq]
        by_cases d : keyF t.1 t.2.1 = x
        · by_cases n : W' = []
          · subst n
            simp [d]
          · rw [if_pos d, if_neg n, scn_eq D W' (p + 1) n]
            have hl : 1 ≤ W'.length := by cases W' with | nil => exact absurd rfl n | cons => simp
            by_cases q : (phr D).take W'.length = W'
            · rw [if_pos q, if_pos ⟨d, q⟩]
              obtain ⟨m, hm⟩ : ∃ m, W'.length = m + 1 := ⟨W'.length - 1, by omega⟩
              rw [hm]
              simp
            · rw [if_neg q, if_neg (fun z => q z.2)]
        · rw [if_neg d, if_neg (fun z => d z.1)]
    · have e1 : plc p (t :: D) = plc (p + 1) D := by simp [plc, c]
      rw [e1, phr_no (by simpa using c), ← scn_eq D W (p + 1) h]
      cases W <;> simp [scn, c]
def opt (f : Int) : Option Int → List (Int × Int)
  | some e => [(f, e)]
  | none => []
theorem l21i (w : List (List UInt8)) (T : List Tk) (hT : T.length ≤ 4398046511104) (hw : w.length ≤ 8796093022208) (hT2 : ∀ t ∈ T, t.2.1.length ≤ 140737488355328) (f : Nat) (tf : Tk) (hf : T[f]? = some tf) (hfc : cnt tf.1 = true) :
    ∀ (k to n : Nat) (md : Own) (out : List (Int × Int)), md ≠ .no → to + k = T.length → n < w.length → n ≤ to → out.length ≤ T.length →
    ∃ md' n' to', md' ≠ .no ∧
      (execX G0 L21_0 (ST [(0, .sl .no 1 (strs w)), (1, .sl .no 3 (tks T)), (5, .sl md 2 (prs out)), (6, .int .i64 f), (7, .int .i64 n), (8, .int .i64 to), (11, .bool false), (13, .int .i64 T.length), (14, .int .i64 f), (15, .bool true)] [] []) = some (.ex 2, ST [(0, .sl .no 1 (strs w)), (1, .sl .no 3 (tks T)), (5, .sl md' 2 (prs (out ++ opt f (scn (T.drop to) (w.drop n) to)))), (6, .int .i64 f), (7, .int .i64 n'), (8, .int .i64 to'), (11, .bool false), (13, .int .i64 T.length), (14, .int .i64 f), (15, .bool true), (28, .bool false)] [] []) ∨
       execX G0 L21_0 (ST [(0, .sl .no 1 (strs w)), (1, .sl .no 3 (tks T)), (5, .sl md 2 (prs out)), (6, .int .i64 f), (7, .int .i64 n), (8, .int .i64 to), (11, .bool false), (13, .int .i64 T.length), (14, .int .i64 f), (15, .bool true)] [] []) = some (.ex 2, ST [(0, .sl .no 1 (strs w)), (1, .sl .no 3 (tks T)), (5, .sl md' 2 (prs (out ++ opt f (scn (T.drop to) (w.drop n) to)))), (6, .int .i64 f), (7, .int .i64 n'), (8, .int .i64 to'), (11, .bool false), (13, .int .i64 T.length), (14, .int .i64 f), (15, .bool true), (28, .bool true), (36, .bool false), (46, .bool true)] [] []) ∨
       execX G0 L21_0 (ST [(0, .sl .no 1 (strs w)), (1, .sl .no 3 (tks T)), (5, .sl md 2 (prs out)), (6, .int .i64 f), (7, .int .i64 n), (8, .int .i64 to), (11, .bool false), (13, .int .i64 T.length), (14, .int .i64 f), (15, .bool true)] [] []) = some (.ex 2, ST [(0, .sl .no 1 (strs w)), (1, .sl .no 3 (tks T)), (5, .sl md' 2 (prs (out ++ opt f (scn (T.drop to) (w.drop n) to)))), (7, .int .i64 n'), (11, .bool false), (13, .int .i64 T.length), (14, .int .i64 f), (15, .bool true), (28, .bool true), (36, .bool false), (46, .bool false), (52, .bool true)] [] []))
  | 0, to, n, md, out, hm, h1, h2, h3, h4 => by
    have : to = T.length := by omega
    subst this
    refine ⟨md, n, T.length, hm, .inl ?_⟩
    rw [Y_loop (L := L21_0) rfl]
    simp only [go_sem, List.set_cons_zero, List.set_cons_succ, List.take_succ_cons, and_false, false_and, and_true, true_and, Nat.reduceAdd, Nat.reduceEqDiff, Nat.reduceLT, ↓reduceIte, decide_eq_true_eq, List.take_nil, beq_self_eq_true, bne_self_eq_false, List.take_zero, List.map_cons, List.map_nil, Int.reduceNeg, Bool.and_true, and_self, Bool.true_and, Bool.and_self, ne_eq, not_true_eq_false, decide_false, decide_true, Bool.false_eq_true, Nat.reduceAdd, Option.map_some, Option.map_none, Option.bind_some, Option.bind_none, List.length_nil, List.length_cons, List.append_nil, Bool.and_false, w64, demV_sl, Int.cast_ofNat_Int, Int.reduceLT, Int.reduceAdd, Int.reduceSub, Int.reduceLE, Int.reduceEq, Int.reduceToNat, Int.toNat_natCast, Nat.reduceSub, Nat.reduceMul, Nat.reduceLeDiff, Nat.zero_add, Int.zero_add, not_false_eq_true, Bool.not_true, Bool.not_false, Bool.false_and, List.cons_append, List.nil_append, tks_len, Int.lt_irrefl, List.drop_length, scn, opt]
  | k + 1, to, n, md, out, hm, h1, h2, h3, h4 => by
    have hi : to < T.length := by omega
    have g4 : (to : Int) < (T.length : Int) := by omega
    have g0 : (0 : Int) ≤ (to : Int) := by omega
    have f0 : (0 : Int) ≤ (f : Int) := by omega
    have n0 : (0 : Int) ≤ (n : Int) := by omega
    have hwr : IntKind.i64.wrap ((to : Int) + 1) = ((to + 1 : Nat) : Int) := by rw [w64 (by omega) (by omega)]; rfl
    have hwn : IntKind.i64.wrap ((n : Int) + 1) = ((n + 1 : Nat) : Int) := by rw [w64 (by omega) (by omega)]; rfl
    have hg : T[to]? = some T[to] := List.getElem?_eq_getElem hi
    have hd : T.drop to = T[to] :: T.drop (to + 1) := List.drop_eq_getElem_cons hi
    have hl : T[to].2.1.length ≤ 140737488355328 := hT2 _ (List.getElem_mem hi)
    generalize T[to] = t at hg hd hl
    have hr := tks_at hg
    have hrf := tks_at hf
    have hwg : w[n]? = some w[n] := List.getElem?_eq_getElem h2
    have hwd : w.drop n = w[n] :: w.drop (n + 1) := List.drop_eq_getElem_cons h2
    generalize w[n] = x at hwg hwd
    have hws := strs_at hwg
    rw [hd, hwd]
    by_cases c : cnt t.1 = true
    · by_cases d : keyF t.1 t.2.1 = x
      · have dx : (keyF t.1 t.2.1 != x) = false := by simp [d]
        by_cases e : n + 1 = w.length
        · have e' : ((n + 1 : Nat) : Int) = (w.length : Int) := by omega
          have en : w.drop (n + 1) = [] := List.drop_eq_nil_of_le (by omega)
          have es : scn (t :: T.drop (to + 1)) (x :: w.drop (n + 1)) to = some ((to : Int) + 1) := by simp [scn, c, d, en]
          have ha : appOK 16 (out.length + 1) = true := by simp only [appOK, decide_eq_true_eq]; omega
          have hw1 : IntKind.i64.wrap ((to : Int) + 1) = (to : Int) + 1 := w64 (by omega) (by omega)
          rw [es]
          refine ⟨.own, w.length, 0, by decide, .inr (.inr ?_)⟩
          rw [Y_loop (L := L21_0) rfl]
          simp only [go_sem, List.set_cons_zero, List.set_cons_succ, List.take_succ_cons, and_false, false_and, and_true, true_and, Nat.reduceAdd, Nat.reduceEqDiff, Nat.reduceLT, ↓reduceIte, decide_eq_true_eq, List.take_nil, beq_self_eq_true, bne_self_eq_false, List.take_zero, List.map_cons, List.map_nil, Int.reduceNeg, Bool.and_true, and_self, Bool.true_and, Bool.and_self, ne_eq, not_true_eq_false, decide_false, decide_true, Bool.false_eq_true, Nat.reduceAdd, Option.map_some, Option.map_none, Option.bind_some, Option.bind_none, List.length_nil, List.length_cons, List.append_nil, Bool.and_false, w64, demV_sl, Int.cast_ofNat_Int, Int.reduceLT, Int.reduceAdd, Int.reduceSub, Int.reduceLE, Int.reduceEq, Int.reduceToNat, Int.toNat_natCast, Nat.reduceSub, Nat.reduceMul, Nat.reduceLeDiff, Nat.zero_add, Int.zero_add, not_false_eq_true, Bool.not_true, Bool.not_false, Bool.false_and, List.cons_append, List.nil_append, tks_len, g4, g0, f0, n0, hr, hrf, c47, hfc, c, c23g _ _ _ hl, hws, dx, hwn, e', hw1, appA_gen md _ hm 2 16 (by decide), prs_len, strs_len, ha, prs_one, prs_app, opt]
        · have e' : ¬ ((n + 1 : Nat) : Int) = (w.length : Int) := by omega
          have en : w.drop (n + 1) ≠ [] := by intro z; have := congrArg List.length z; simp at this; omega
          have es : scn (t :: T.drop (to + 1)) (x :: w.drop (n + 1)) to = scn (T.drop (to + 1)) (w.drop (n + 1)) (to + 1) := by simp only [scn, c, d, if_true, en, if_false]
          rw [es]
          obtain ⟨md', n', to', q0, q⟩ := l21i w T hT hw hT2 f tf hf hfc k (to + 1) (n + 1) md out hm (by omega) (by omega) (by omega) h4
          refine ⟨md', n', to', q0, ?_⟩
          have step : ∀ r, execX G0 L21_0 (ST [(0, .sl .no 1 (strs w)), (1, .sl .no 3 (tks T)), (5, .sl md 2 (prs out)), (6, .int .i64 f), (7, .int .i64 (n + 1 : Nat)), (8, .int .i64 (to + 1 : Nat)), (11, .bool false), (13, .int .i64 T.length), (14, .int .i64 f), (15, .bool true)] [] []) = r → execX G0 L21_0 (ST [(0, .sl .no 1 (strs w)), (1, .sl .no 3 (tks T)), (5, .sl md 2 (prs out)), (6, .int .i64 f), (7, .int .i64 n), (8, .int .i64 to), (11, .bool false), (13, .int .i64 T.length), (14, .int .i64 f), (15, .bool true)] [] []) = r := by
            intro r hr2
            rw [Y_loop (L := L21_0) rfl]
            simp only [go_sem, List.set_cons_zero, List.set_cons_succ, List.take_succ_cons, and_false, false_and, and_true, true_and, Nat.reduceAdd, Nat.reduceEqDiff, Nat.reduceLT, ↓reduceIte, decide_eq_true_eq, List.take_nil, beq_self_eq_true, bne_self_eq_false, List.take_zero, List.map_cons, List.map_nil, Int.reduceNeg, Bool.and_true, and_self, Bool.true_and, Bool.and_self, ne_eq, not_true_eq_false, decide_false, decide_true, Bool.false_eq_true, Nat.reduceAdd, Option.map_some, Option.map_none, Option.bind_some, Option.bind_none, List.length_nil, List.length_cons, List.append_nil, Bool.and_false, w64, demV_sl, Int.cast_ofNat_Int, Int.reduceLT, Int.reduceAdd, Int.reduceSub, Int.reduceLE, Int.reduceEq, Int.reduceToNat, Int.toNat_natCast, Nat.reduceSub, Nat.reduceMul, Nat.reduceLeDiff, Nat.zero_add, Int.zero_add, not_false_eq_true, Bool.not_true, Bool.not_false, Bool.false_and, List.cons_append, List.nil_append, tks_len, g4, g0, f0, n0, hr, hrf, c47, hfc, c, c23g _ _ _ hl, hws, dx, hwn, e', hwr, strs_len]
            exact hr2
          rcases q with q | q | q
          · exact .inl (step _ q)
          · exact .inr (.inl (step _ q))
          · exact .inr (.inr (step _ q))
      · have dx : (keyF t.1 t.2.1 != x) = true := by simp [d]
        have es : scn (t :: T.drop (to + 1)) (x :: w.drop (n + 1)) to = none := by simp only [scn, c, d, if_true, if_false]
        rw [es]
        refine ⟨md, n, to, hm, .inr (.inl ?_)⟩
        rw [Y_loop (L := L21_0) rfl]
        simp only [go_sem, List.set_cons_zero, List.set_cons_succ, List.take_succ_cons, and_false, false_and, and_true, true_and, Nat.reduceAdd, Nat.reduceEqDiff, Nat.reduceLT, ↓reduceIte, decide_eq_true_eq, List.take_nil, beq_self_eq_true, bne_self_eq_false, List.take_zero, List.map_cons, List.map_nil, Int.reduceNeg, Bool.and_true, and_self, Bool.true_and, Bool.and_self, ne_eq, not_true_eq_false, decide_false, decide_true, Bool.false_eq_true, Nat.reduceAdd, Option.map_some, Option.map_none, Option.bind_some, Option.bind_none, List.length_nil, List.length_cons, List.append_nil, Bool.and_false, w64, demV_sl, Int.cast_ofNat_Int, Int.reduceLT, Int.reduceAdd, Int.reduceSub, Int.reduceLE, Int.reduceEq, Int.reduceToNat, Int.toNat_natCast, Nat.reduceSub, Nat.reduceMul, Nat.reduceLeDiff, Nat.zero_add, Int.zero_add, not_false_eq_true, Bool.not_true, Bool.not_false, Bool.false_and, List.cons_append, List.nil_append, tks_len, g4, g0, f0, n0, hr, hrf, c47, hfc, c, c23g _ _ _ hl, hws, dx, opt]
    · have c' : cnt t.1 = false := by simpa using c
      have es : scn (t :: T.drop (to + 1)) (x :: w.drop (n + 1)) to = scn (T.drop (to + 1)) (x :: w.drop (n + 1)) (to + 1) := by simp only [scn, c', Bool.false_eq_true, if_false]
      rw [es, ← hwd]
      obtain ⟨md', n', to', q0, q⟩ := l21i w T hT hw hT2 f tf hf hfc k (to + 1) n md out hm (by omega) (by omega) (by omega) h4
      refine ⟨md', n', to', q0, ?_⟩
      have step : ∀ r, execX G0 L21_0 (ST [(0, .sl .no 1 (strs w)), (1, .sl .no 3 (tks T)), (5, .sl md 2 (prs out)), (6, .int .i64 f), (7, .int .i64 n), (8, .int .i64 (to + 1 : Nat)), (11, .bool false), (13, .int .i64 T.length), (14, .int .i64 f), (15, .bool true)] [] []) = r → execX G0 L21_0 (ST [(0, .sl .no 1 (strs w)), (1, .sl .no 3 (tks T)), (5, .sl md 2 (prs out)), (6, .int .i64 f), (7, .int .i64 n), (8, .int .i64 to), (11, .bool false), (13, .int .i64 T.length), (14, .int .i64 f), (15, .bool true)] [] []) = r := by
        intro r hr2
        rw [Y_loop (L := L21_0) rfl]
        simp only [go_sem, List.set_cons_zero, List.set_cons_succ, List.take_succ_cons, and_false, false_and, and_true, true_and, Nat.reduceAdd, Nat.reduceEqDiff, Nat.reduceLT, ↓reduceIte, decide_eq_true_eq, List.take_nil, beq_self_eq_true, bne_self_eq_false, List.take_zero, List.map_cons, List.map_nil, Int.reduceNeg, Bool.and_true, and_self, Bool.true_and, Bool.and_self, ne_eq, not_true_eq_false, decide_false, decide_true, Bool.false_eq_true, Nat.reduceAdd, Option.map_some, Option.map_none, Option.bind_some, Option.bind_none, List.length_nil, List.length_cons, List.append_nil, Bool.and_false, w64, demV_sl, Int.cast_ofNat_Int, Int.reduceLT, Int.reduceAdd, Int.reduceSub, Int.reduceLE, Int.reduceEq, Int.reduceToNat, Int.toNat_natCast, Nat.reduceSub, Nat.reduceMul, Nat.reduceLeDiff, Nat.zero_add, Int.zero_add, not_false_eq_true, Bool.not_true, Bool.not_false, Bool.false_and, List.cons_append, List.nil_append, tks_len, g4, g0, f0, n0, hr, hrf, c47, hfc, c', hwr]
        exact hr2
      rcases q with q | q | q
      · exact .inl (step _ q)
      · exact .inr (.inl (step _ q))
      · exact .inr (.inr (step _ q))
end Go.Av
