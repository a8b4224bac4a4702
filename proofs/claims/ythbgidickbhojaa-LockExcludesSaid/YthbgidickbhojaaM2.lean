/- A part of the proof: M2. No conditions. -/
import Derived.Test.YthbgidickbhojaaM1
set_option linter.unusedSimpArgs false
set_option linter.unusedVariables false
namespace Go.Av
set_option linter.unusedSimpArgs false
set_option maxHeartbeats 4000000
/-- the first error of a list of leases, from a place on -/
def valI (L : List Tk) : Nat → Nat → Int
  | 0, _ => 0
  | k + 1, i => if (L.getD i tk0).1 < 1 then 1 else if (L.getD i tk0).2.2 < 1 then 1 else if 1073741824 < (L.getD i tk0).2.2 then 1 else if isN (L.getD i tk0).2.1 = false then 4 else if 0 < i ∧ (L.getD i tk0).1 ≤ (L.getD (i - 1) tk0).1 then 11 else valI L k (i + 1)
def valF (L : List Tk) : Int := if 512 < L.length then 3 else valI L L.length 0

theorem l28 (L : List Tk) (hL : L.length ≤ 512) : ∀ (k i : Nat), i + k = L.length →
    (valI L k i = 0 → execX G0 L28_0 (ST [(0, .sl .no 3 (tks L)), (7, .bool false), (8, .sl .no 3 (tks L)), (9, .int .i64 L.length), (10, .int .i64 i)] [] []) = some (.ex 0, ST [(0, .sl .no 3 (tks L)), (7, .bool false), (8, .sl .no 3 (tks L)), (9, .int .i64 L.length), (10, .int .i64 L.length), (11, .bool false)] [] [])) ∧
    (valI L k i ≠ 0 → ∃ l' m', execX G0 L28_0 (ST [(0, .sl .no 3 (tks L)), (7, .bool false), (8, .sl .no 3 (tks L)), (9, .int .i64 L.length), (10, .int .i64 i)] [] []) = some (.ret, ST l' m' []) ∧ look .any l' 2 = .int .i64 (valI L k i))
  | 0, i, h1 => by
    have : i = L.length := by omega
    subst this
    refine ⟨fun _ => ?_, fun h => (by simp [valI] at h)⟩
    rw [Y_loop (L := L28_0) rfl]
    simp only [go_sem, List.set_cons_zero, List.set_cons_succ, List.take_succ_cons, and_false, false_and, and_true, true_and, Nat.reduceAdd, Nat.reduceEqDiff, Nat.reduceLT, ↓reduceIte, decide_eq_true_eq, List.take_nil, beq_self_eq_true, bne_self_eq_false, List.take_zero, List.map_cons, List.map_nil, Int.reduceNeg, Bool.and_true, and_self, Bool.true_and, Bool.and_self, ne_eq, not_true_eq_false, decide_false, decide_true, Bool.false_eq_true, Nat.reduceAdd, Option.map_some, Option.map_none, Option.bind_some, Option.bind_none, List.length_nil, List.length_cons, List.append_nil, Bool.and_false, w64, demV_sl, Int.cast_ofNat_Int, Int.reduceLT, Int.reduceAdd, Int.reduceSub, Int.reduceLE, Int.reduceEq, Int.reduceToNat, Int.toNat_natCast, Nat.reduceSub, Nat.reduceMul, Nat.reduceLeDiff, Nat.zero_add, Int.zero_add, not_false_eq_true, Bool.not_true, Bool.not_false, Bool.false_and, List.cons_append, List.nil_append, Int.lt_irrefl]
  | k + 1, i, h1 => by
    have h3 : i < L.length := by omega
    have h4 : (i : Int) < (L.length : Int) := by omega
    have h0 : (0 : Int) ≤ (i : Int) := by omega
    have hw : IntKind.i64.wrap ((i : Int) + 1) = ((i + 1 : Nat) : Int) := by rw [w64 (by omega) (by omega)]; rfl
    have hr := tks_d h3
    have ih := l28 L hL k (i + 1) (by omega)
    by_cases a1 : (L.getD i tk0).1 < 1
    · have e : valI L (k + 1) i = 1 := by simp only [valI, a1, if_true]
      rw [e]
      refine ⟨fun h => (by cases h), fun _ => ?_⟩
      refine Exists.intro ?_ (Exists.intro ?_ (And.intro ?_ ?_))
      rotate_left 2
      · rw [Y_loop (L := L28_0) rfl]
        simp only [go_sem, List.set_cons_zero, List.set_cons_succ, List.take_succ_cons, and_false, false_and, and_true, true_and, Nat.reduceAdd, Nat.reduceEqDiff, Nat.reduceLT, ↓reduceIte, decide_eq_true_eq, List.take_nil, beq_self_eq_true, bne_self_eq_false, List.take_zero, List.map_cons, List.map_nil, Int.reduceNeg, Bool.and_true, and_self, Bool.true_and, Bool.and_self, ne_eq, not_true_eq_false, decide_false, decide_true, Bool.false_eq_true, Nat.reduceAdd, Option.map_some, Option.map_none, Option.bind_some, Option.bind_none, List.length_nil, List.length_cons, List.append_nil, Bool.and_false, w64, demV_sl, Int.cast_ofNat_Int, Int.reduceLT, Int.reduceAdd, Int.reduceSub, Int.reduceLE, Int.reduceEq, Int.reduceToNat, Int.toNat_natCast, Nat.reduceSub, Nat.reduceMul, Nat.reduceLeDiff, Nat.zero_add, Int.zero_add, not_false_eq_true, Bool.not_true, Bool.not_false, Bool.false_and, List.cons_append, List.nil_append, h4, h0, hr, a1]
        rfl
      · rfl
    by_cases a2 : (L.getD i tk0).2.2 < 1
    · have e : valI L (k + 1) i = 1 := by simp only [valI, a1, a2, if_true, if_false]
      rw [e]
      refine ⟨fun h => (by cases h), fun _ => ?_⟩
      refine Exists.intro ?_ (Exists.intro ?_ (And.intro ?_ ?_))
      rotate_left 2
      · rw [Y_loop (L := L28_0) rfl]
        simp only [go_sem, List.set_cons_zero, List.set_cons_succ, List.take_succ_cons, and_false, false_and, and_true, true_and, Nat.reduceAdd, Nat.reduceEqDiff, Nat.reduceLT, ↓reduceIte, decide_eq_true_eq, List.take_nil, beq_self_eq_true, bne_self_eq_false, List.take_zero, List.map_cons, List.map_nil, Int.reduceNeg, Bool.and_true, and_self, Bool.true_and, Bool.and_self, ne_eq, not_true_eq_false, decide_false, decide_true, Bool.false_eq_true, Nat.reduceAdd, Option.map_some, Option.map_none, Option.bind_some, Option.bind_none, List.length_nil, List.length_cons, List.append_nil, Bool.and_false, w64, demV_sl, Int.cast_ofNat_Int, Int.reduceLT, Int.reduceAdd, Int.reduceSub, Int.reduceLE, Int.reduceEq, Int.reduceToNat, Int.toNat_natCast, Nat.reduceSub, Nat.reduceMul, Nat.reduceLeDiff, Nat.zero_add, Int.zero_add, not_false_eq_true, Bool.not_true, Bool.not_false, Bool.false_and, List.cons_append, List.nil_append, h4, h0, hr, a1, a2]
        rfl
      · rfl
    by_cases a3 : 1073741824 < (L.getD i tk0).2.2
    · have e : valI L (k + 1) i = 1 := by simp only [valI, a1, a2, a3, if_true, if_false]
      rw [e]
      refine ⟨fun h => (by cases h), fun _ => ?_⟩
      refine Exists.intro ?_ (Exists.intro ?_ (And.intro ?_ ?_))
      rotate_left 2
      · rw [Y_loop (L := L28_0) rfl]
        simp only [go_sem, List.set_cons_zero, List.set_cons_succ, List.take_succ_cons, and_false, false_and, and_true, true_and, Nat.reduceAdd, Nat.reduceEqDiff, Nat.reduceLT, ↓reduceIte, decide_eq_true_eq, List.take_nil, beq_self_eq_true, bne_self_eq_false, List.take_zero, List.map_cons, List.map_nil, Int.reduceNeg, Bool.and_true, and_self, Bool.true_and, Bool.and_self, ne_eq, not_true_eq_false, decide_false, decide_true, Bool.false_eq_true, Nat.reduceAdd, Option.map_some, Option.map_none, Option.bind_some, Option.bind_none, List.length_nil, List.length_cons, List.append_nil, Bool.and_false, w64, demV_sl, Int.cast_ofNat_Int, Int.reduceLT, Int.reduceAdd, Int.reduceSub, Int.reduceLE, Int.reduceEq, Int.reduceToNat, Int.toNat_natCast, Nat.reduceSub, Nat.reduceMul, Nat.reduceLeDiff, Nat.zero_add, Int.zero_add, not_false_eq_true, Bool.not_true, Bool.not_false, Bool.false_and, List.cons_append, List.nil_append, h4, h0, hr, a1, a2, a3]
        rfl
      · rfl
    cases a4 : isN (L.getD i tk0).2.1 with
    | false =>
      have e : valI L (k + 1) i = 4 := by simp only [valI, a1, a2, a3, a4, if_true, if_false]
      rw [e]
      refine ⟨fun h => (by cases h), fun _ => ?_⟩
      refine Exists.intro ?_ (Exists.intro ?_ (And.intro ?_ ?_))
      rotate_left 2
      · rw [Y_loop (L := L28_0) rfl]
        simp only [go_sem, List.set_cons_zero, List.set_cons_succ, List.take_succ_cons, and_false, false_and, and_true, true_and, Nat.reduceAdd, Nat.reduceEqDiff, Nat.reduceLT, ↓reduceIte, decide_eq_true_eq, List.take_nil, beq_self_eq_true, bne_self_eq_false, List.take_zero, List.map_cons, List.map_nil, Int.reduceNeg, Bool.and_true, and_self, Bool.true_and, Bool.and_self, ne_eq, not_true_eq_false, decide_false, decide_true, Bool.false_eq_true, Nat.reduceAdd, Option.map_some, Option.map_none, Option.bind_some, Option.bind_none, List.length_nil, List.length_cons, List.append_nil, Bool.and_false, w64, demV_sl, Int.cast_ofNat_Int, Int.reduceLT, Int.reduceAdd, Int.reduceSub, Int.reduceLE, Int.reduceEq, Int.reduceToNat, Int.toNat_natCast, Nat.reduceSub, Nat.reduceMul, Nat.reduceLeDiff, Nat.zero_add, Int.zero_add, not_false_eq_true, Bool.not_true, Bool.not_false, Bool.false_and, List.cons_append, List.nil_append, h4, h0, hr, a1, a2, a3, c52, a4]
        rfl
      · rfl
    | true =>
    by_cases a5 : 0 < i
    · have a5' : (0 : Int) < (i : Int) := by omega
      have hw2 : IntKind.i64.wrap ((i : Int) - 1) = ((i - 1 : Nat) : Int) := by rw [w64 (by omega) (by omega)]; omega
      have h9 : (0 : Int) ≤ ((i - 1 : Nat) : Int) := by omega
      have hr2 := tks_d (show i - 1 < L.length by omega)
      by_cases a6 : (L.getD i tk0).1 ≤ (L.getD (i - 1) tk0).1
      · have e : valI L (k + 1) i = 11 := by
          simp only [valI, a1, a2, a3, a4, if_false, Bool.true_eq_false]
          rw [if_pos ⟨a5, a6⟩]
        rw [e]
        refine ⟨fun h => (by cases h), fun _ => ?_⟩
        refine Exists.intro ?_ (Exists.intro ?_ (And.intro ?_ ?_))
        rotate_left 2
        · rw [Y_loop (L := L28_0) rfl]
          simp only [go_sem, List.set_cons_zero, List.set_cons_succ, List.take_succ_cons, and_false, false_and, and_true, true_and, Nat.reduceAdd, Nat.reduceEqDiff, Nat.reduceLT, ↓reduceIte, decide_eq_true_eq, List.take_nil, beq_self_eq_true, bne_self_eq_false, List.take_zero, List.map_cons, List.map_nil, Int.reduceNeg, Bool.and_true, and_self, Bool.true_and, Bool.and_self, ne_eq, not_true_eq_false, decide_false, decide_true, Bool.false_eq_true, Nat.reduceAdd, Option.map_some, Option.map_none, Option.bind_some, Option.bind_none, List.length_nil, List.length_cons, List.append_nil, Bool.and_false, w64, demV_sl, Int.cast_ofNat_Int, Int.reduceLT, Int.reduceAdd, Int.reduceSub, Int.reduceLE, Int.reduceEq, Int.reduceToNat, Int.toNat_natCast, Nat.reduceSub, Nat.reduceMul, Nat.reduceLeDiff, Nat.zero_add, Int.zero_add, not_false_eq_true, Bool.not_true, Bool.not_false, Bool.false_and, List.cons_append, List.nil_append, h4, h0, hr, a1, a2, a3, c52, a4, a5', hw2, h9, hr2, a6]
          rfl
        · rfl
      · have e : valI L (k + 1) i = valI L k (i + 1) := by
          simp only [valI, a1, a2, a3, a4, if_false, Bool.true_eq_false]
          rw [if_neg (fun h => a6 h.2)]
        rw [e]
        have step : execX G0 L28_0 (ST [(0, .sl .no 3 (tks L)), (7, .bool false), (8, .sl .no 3 (tks L)), (9, .int .i64 L.length), (10, .int .i64 i)] [] []) = execX G0 L28_0 (ST [(0, .sl .no 3 (tks L)), (7, .bool false), (8, .sl .no 3 (tks L)), (9, .int .i64 L.length), (10, .int .i64 ((i + 1 : Nat) : Int))] [] []) := by
          conv => lhs; rw [Y_loop (L := L28_0) rfl]
          simp only [go_sem, List.set_cons_zero, List.set_cons_succ, List.take_succ_cons, and_false, false_and, and_true, true_and, Nat.reduceAdd, Nat.reduceEqDiff, Nat.reduceLT, ↓reduceIte, decide_eq_true_eq, List.take_nil, beq_self_eq_true, bne_self_eq_false, List.take_zero, List.map_cons, List.map_nil, Int.reduceNeg, Bool.and_true, and_self, Bool.true_and, Bool.and_self, ne_eq, not_true_eq_false, decide_false, decide_true, Bool.false_eq_true, Nat.reduceAdd, Option.map_some, Option.map_none, Option.bind_some, Option.bind_none, List.length_nil, List.length_cons, List.append_nil, Bool.and_false, w64, demV_sl, Int.cast_ofNat_Int, Int.reduceLT, Int.reduceAdd, Int.reduceSub, Int.reduceLE, Int.reduceEq, Int.reduceToNat, Int.toNat_natCast, Nat.reduceSub, Nat.reduceMul, Nat.reduceLeDiff, Nat.zero_add, Int.zero_add, not_false_eq_true, Bool.not_true, Bool.not_false, Bool.false_and, List.cons_append, List.nil_append, h4, h0, hr, a1, a2, a3, c52, a4, a5', hw2, h9, hr2, a6, hw]
        rw [step]
        exact ih
    · have a5' : ¬ (0 : Int) < (i : Int) := by omega
      have e : valI L (k + 1) i = valI L k (i + 1) := by
        simp only [valI, a1, a2, a3, a4, if_false, Bool.true_eq_false]
        rw [if_neg (fun h => a5 h.1)]
      rw [e]
      have step : execX G0 L28_0 (ST [(0, .sl .no 3 (tks L)), (7, .bool false), (8, .sl .no 3 (tks L)), (9, .int .i64 L.length), (10, .int .i64 i)] [] []) = execX G0 L28_0 (ST [(0, .sl .no 3 (tks L)), (7, .bool false), (8, .sl .no 3 (tks L)), (9, .int .i64 L.length), (10, .int .i64 ((i + 1 : Nat) : Int))] [] []) := by
        conv => lhs; rw [Y_loop (L := L28_0) rfl]
        simp only [go_sem, List.set_cons_zero, List.set_cons_succ, List.take_succ_cons, and_false, false_and, and_true, true_and, Nat.reduceAdd, Nat.reduceEqDiff, Nat.reduceLT, ↓reduceIte, decide_eq_true_eq, List.take_nil, beq_self_eq_true, bne_self_eq_false, List.take_zero, List.map_cons, List.map_nil, Int.reduceNeg, Bool.and_true, and_self, Bool.true_and, Bool.and_self, ne_eq, not_true_eq_false, decide_false, decide_true, Bool.false_eq_true, Nat.reduceAdd, Option.map_some, Option.map_none, Option.bind_some, Option.bind_none, List.length_nil, List.length_cons, List.append_nil, Bool.and_false, w64, demV_sl, Int.cast_ofNat_Int, Int.reduceLT, Int.reduceAdd, Int.reduceSub, Int.reduceLE, Int.reduceEq, Int.reduceToNat, Int.toNat_natCast, Nat.reduceSub, Nat.reduceMul, Nat.reduceLeDiff, Nat.zero_add, Int.zero_add, not_false_eq_true, Bool.not_true, Bool.not_false, Bool.false_and, List.cons_append, List.nil_append, h4, h0, hr, a1, a2, a3, c52, a4, a5', hw]
      rw [step]
      exact ih
theorem c28 (L : List Tk) : G0 28 [.sl .no 3 (tks L)] [] = some (.int .i64 (valF L), []) := by
  refine contract F28 rfl rfl rfl ?_
  by_cases h1 : 512 < L.length
  · have h1' : (512 : Int) < (L.length : Int) := by omega
    simp only [F28, go_sem, List.set_cons_zero, List.set_cons_succ, List.take_succ_cons, and_false, false_and, and_true, true_and, Nat.reduceAdd, Nat.reduceEqDiff, Nat.reduceLT, ↓reduceIte, decide_eq_true_eq, List.take_nil, beq_self_eq_true, bne_self_eq_false, List.take_zero, List.map_cons, List.map_nil, Int.reduceNeg, Bool.and_true, and_self, Bool.true_and, Bool.and_self, ne_eq, not_true_eq_false, decide_false, decide_true, Bool.false_eq_true, Nat.reduceAdd, Option.map_some, Option.map_none, Option.bind_some, Option.bind_none, List.length_nil, List.length_cons, List.append_nil, Bool.and_false, w64, demV_sl, Int.cast_ofNat_Int, Int.reduceLT, Int.reduceAdd, Int.reduceSub, Int.reduceLE, Int.reduceEq, Int.reduceToNat, Int.toNat_natCast, Nat.reduceSub, Nat.reduceMul, Nat.reduceLeDiff, Nat.zero_add, Int.zero_add, not_false_eq_true, Bool.not_true, Bool.not_false, Bool.false_and, List.cons_append, List.nil_append, tks_len, h1', valF, h1]
  have h1' : ¬ (512 : Int) < (L.length : Int) := by omega
  obtain ⟨x1, x2⟩ := l28 L (by omega) L.length 0 (by omega)
  have ec : ((0 : Nat) : Int) = 0 := rfl
  rw [ec] at x1 x2
  by_cases hv : valI L L.length 0 = 0
  · simp only [F28, go_sem, List.set_cons_zero, List.set_cons_succ, List.take_succ_cons, and_false, false_and, and_true, true_and, Nat.reduceAdd, Nat.reduceEqDiff, Nat.reduceLT, ↓reduceIte, decide_eq_true_eq, List.take_nil, beq_self_eq_true, bne_self_eq_false, List.take_zero, List.map_cons, List.map_nil, Int.reduceNeg, Bool.and_true, and_self, Bool.true_and, Bool.and_self, ne_eq, not_true_eq_false, decide_false, decide_true, Bool.false_eq_true, Nat.reduceAdd, Option.map_some, Option.map_none, Option.bind_some, Option.bind_none, List.length_nil, List.length_cons, List.append_nil, Bool.and_false, w64, demV_sl, Int.cast_ofNat_Int, Int.reduceLT, Int.reduceAdd, Int.reduceSub, Int.reduceLE, Int.reduceEq, Int.reduceToNat, Int.toNat_natCast, Nat.reduceSub, Nat.reduceMul, Nat.reduceLeDiff, Nat.zero_add, Int.zero_add, not_false_eq_true, Bool.not_true, Bool.not_false, Bool.false_and, List.cons_append, List.nil_append, tks_len, h1', valF, h1, x1 hv, hv]
  · obtain ⟨l', m', y1, y2⟩ := x2 hv
    simp only [F28, go_sem, List.set_cons_zero, List.set_cons_succ, List.take_succ_cons, and_false, false_and, and_true, true_and, Nat.reduceAdd, Nat.reduceEqDiff, Nat.reduceLT, ↓reduceIte, decide_eq_true_eq, List.take_nil, beq_self_eq_true, bne_self_eq_false, List.take_zero, List.map_cons, List.map_nil, Int.reduceNeg, Bool.and_true, and_self, Bool.true_and, Bool.and_self, ne_eq, not_true_eq_false, decide_false, decide_true, Bool.false_eq_true, Nat.reduceAdd, Option.map_some, Option.map_none, Option.bind_some, Option.bind_none, List.length_nil, List.length_cons, List.append_nil, Bool.and_false, w64, demV_sl, Int.cast_ofNat_Int, Int.reduceLT, Int.reduceAdd, Int.reduceSub, Int.reduceLE, Int.reduceEq, Int.reduceToNat, Int.toNat_natCast, Nat.reduceSub, Nat.reduceMul, Nat.reduceLeDiff, Nat.zero_add, Int.zero_add, not_false_eq_true, Bool.not_true, Bool.not_false, Bool.false_and, List.cons_append, List.nil_append, tks_len, h1', valF, h1, y1, y2]

theorem l29 (L : List Tk) (hL : L.length ≤ 512) : ∀ (k i : Nat), i + k = L.length →
    (valI L k i = 0 → execX G0 L29_0 (ST [(0, .sl .no 3 (tks L)), (7, .bool false), (8, .sl .no 3 (tks L)), (9, .int .i64 L.length), (10, .int .i64 i)] [] []) = some (.ex 0, ST [(0, .sl .no 3 (tks L)), (7, .bool false), (8, .sl .no 3 (tks L)), (9, .int .i64 L.length), (10, .int .i64 L.length), (11, .bool false)] [] [])) ∧
    (valI L k i ≠ 0 → ∃ l' m', execX G0 L29_0 (ST [(0, .sl .no 3 (tks L)), (7, .bool false), (8, .sl .no 3 (tks L)), (9, .int .i64 L.length), (10, .int .i64 i)] [] []) = some (.ret, ST l' m' []) ∧ look .any l' 2 = .int .i64 (valI L k i))
  | 0, i, h1 => by
    have : i = L.length := by omega
    subst this
    refine ⟨fun _ => ?_, fun h => (by simp [valI] at h)⟩
    rw [Y_loop (L := L29_0) rfl]
    simp only [go_sem, List.set_cons_zero, List.set_cons_succ, List.take_succ_cons, and_false, false_and, and_true, true_and, Nat.reduceAdd, Nat.reduceEqDiff, Nat.reduceLT, ↓reduceIte, decide_eq_true_eq, List.take_nil, beq_self_eq_true, bne_self_eq_false, List.take_zero, List.map_cons, List.map_nil, Int.reduceNeg, Bool.and_true, and_self, Bool.true_and, Bool.and_self, ne_eq, not_true_eq_false, decide_false, decide_true, Bool.false_eq_true, Nat.reduceAdd, Option.map_some, Option.map_none, Option.bind_some, Option.bind_none, List.length_nil, List.length_cons, List.append_nil, Bool.and_false, w64, demV_sl, Int.cast_ofNat_Int, Int.reduceLT, Int.reduceAdd, Int.reduceSub, Int.reduceLE, Int.reduceEq, Int.reduceToNat, Int.toNat_natCast, Nat.reduceSub, Nat.reduceMul, Nat.reduceLeDiff, Nat.zero_add, Int.zero_add, not_false_eq_true, Bool.not_true, Bool.not_false, Bool.false_and, List.cons_append, List.nil_append, Int.lt_irrefl]
  | k + 1, i, h1 => by
    have h3 : i < L.length := by omega
    have h4 : (i : Int) < (L.length : Int) := by omega
    have h0 : (0 : Int) ≤ (i : Int) := by omega
    have hw : IntKind.i64.wrap ((i : Int) + 1) = ((i + 1 : Nat) : Int) := by rw [w64 (by omega) (by omega)]; rfl
    have hr := tks_d h3
    have ih := l29 L hL k (i + 1) (by omega)
    by_cases a1 : (L.getD i tk0).1 < 1
    · have e : valI L (k + 1) i = 1 := by simp only [valI, a1, if_true]
      rw [e]
      refine ⟨fun h => (by cases h), fun _ => ?_⟩
      refine Exists.intro ?_ (Exists.intro ?_ (And.intro ?_ ?_))
      rotate_left 2
      · rw [Y_loop (L := L29_0) rfl]
        simp only [go_sem, List.set_cons_zero, List.set_cons_succ, List.take_succ_cons, and_false, false_and, and_true, true_and, Nat.reduceAdd, Nat.reduceEqDiff, Nat.reduceLT, ↓reduceIte, decide_eq_true_eq, List.take_nil, beq_self_eq_true, bne_self_eq_false, List.take_zero, List.map_cons, List.map_nil, Int.reduceNeg, Bool.and_true, and_self, Bool.true_and, Bool.and_self, ne_eq, not_true_eq_false, decide_false, decide_true, Bool.false_eq_true, Nat.reduceAdd, Option.map_some, Option.map_none, Option.bind_some, Option.bind_none, List.length_nil, List.length_cons, List.append_nil, Bool.and_false, w64, demV_sl, Int.cast_ofNat_Int, Int.reduceLT, Int.reduceAdd, Int.reduceSub, Int.reduceLE, Int.reduceEq, Int.reduceToNat, Int.toNat_natCast, Nat.reduceSub, Nat.reduceMul, Nat.reduceLeDiff, Nat.zero_add, Int.zero_add, not_false_eq_true, Bool.not_true, Bool.not_false, Bool.false_and, List.cons_append, List.nil_append, h4, h0, hr, a1]
        rfl
      · rfl
    by_cases a2 : (L.getD i tk0).2.2 < 1
    · have e : valI L (k + 1) i = 1 := by simp only [valI, a1, a2, if_true, if_false]
      rw [e]
      refine ⟨fun h => (by cases h), fun _ => ?_⟩
      refine Exists.intro ?_ (Exists.intro ?_ (And.intro ?_ ?_))
      rotate_left 2
      · rw [Y_loop (L := L29_0) rfl]
        simp only [go_sem, List.set_cons_zero, List.set_cons_succ, List.take_succ_cons, and_false, false_and, and_true, true_and, Nat.reduceAdd, Nat.reduceEqDiff, Nat.reduceLT, ↓reduceIte, decide_eq_true_eq, List.take_nil, beq_self_eq_true, bne_self_eq_false, List.take_zero, List.map_cons, List.map_nil, Int.reduceNeg, Bool.and_true, and_self, Bool.true_and, Bool.and_self, ne_eq, not_true_eq_false, decide_false, decide_true, Bool.false_eq_true, Nat.reduceAdd, Option.map_some, Option.map_none, Option.bind_some, Option.bind_none, List.length_nil, List.length_cons, List.append_nil, Bool.and_false, w64, demV_sl, Int.cast_ofNat_Int, Int.reduceLT, Int.reduceAdd, Int.reduceSub, Int.reduceLE, Int.reduceEq, Int.reduceToNat, Int.toNat_natCast, Nat.reduceSub, Nat.reduceMul, Nat.reduceLeDiff, Nat.zero_add, Int.zero_add, not_false_eq_true, Bool.not_true, Bool.not_false, Bool.false_and, List.cons_append, List.nil_append, h4, h0, hr, a1, a2]
        rfl
      · rfl
    by_cases a3 : 1073741824 < (L.getD i tk0).2.2
    · have e : valI L (k + 1) i = 1 := by simp only [valI, a1, a2, a3, if_true, if_false]
      rw [e]
      refine ⟨fun h => (by cases h), fun _ => ?_⟩
      refine Exists.intro ?_ (Exists.intro ?_ (And.intro ?_ ?_))
      rotate_left 2
      · rw [Y_loop (L := L29_0) rfl]
        simp only [go_sem, List.set_cons_zero, List.set_cons_succ, List.take_succ_cons, and_false, false_and, and_true, true_and, Nat.reduceAdd, Nat.reduceEqDiff, Nat.reduceLT, ↓reduceIte, decide_eq_true_eq, List.take_nil, beq_self_eq_true, bne_self_eq_false, List.take_zero, List.map_cons, List.map_nil, Int.reduceNeg, Bool.and_true, and_self, Bool.true_and, Bool.and_self, ne_eq, not_true_eq_false, decide_false, decide_true, Bool.false_eq_true, Nat.reduceAdd, Option.map_some, Option.map_none, Option.bind_some, Option.bind_none, List.length_nil, List.length_cons, List.append_nil, Bool.and_false, w64, demV_sl, Int.cast_ofNat_Int, Int.reduceLT, Int.reduceAdd, Int.reduceSub, Int.reduceLE, Int.reduceEq, Int.reduceToNat, Int.toNat_natCast, Nat.reduceSub, Nat.reduceMul, Nat.reduceLeDiff, Nat.zero_add, Int.zero_add, not_false_eq_true, Bool.not_true, Bool.not_false, Bool.false_and, List.cons_append, List.nil_append, h4, h0, hr, a1, a2, a3]
        rfl
      · rfl
    cases a4 : isN (L.getD i tk0).2.1 with
    | false =>
      have e : valI L (k + 1) i = 4 := by simp only [valI, a1, a2, a3, a4, if_true, if_false]
      rw [e]
      refine ⟨fun h => (by cases h), fun _ => ?_⟩
      refine Exists.intro ?_ (Exists.intro ?_ (And.intro ?_ ?_))
      rotate_left 2
      · rw [Y_loop (L := L29_0) rfl]
        simp only [go_sem, List.set_cons_zero, List.set_cons_succ, List.take_succ_cons, and_false, false_and, and_true, true_and, Nat.reduceAdd, Nat.reduceEqDiff, Nat.reduceLT, ↓reduceIte, decide_eq_true_eq, List.take_nil, beq_self_eq_true, bne_self_eq_false, List.take_zero, List.map_cons, List.map_nil, Int.reduceNeg, Bool.and_true, and_self, Bool.true_and, Bool.and_self, ne_eq, not_true_eq_false, decide_false, decide_true, Bool.false_eq_true, Nat.reduceAdd, Option.map_some, Option.map_none, Option.bind_some, Option.bind_none, List.length_nil, List.length_cons, List.append_nil, Bool.and_false, w64, demV_sl, Int.cast_ofNat_Int, Int.reduceLT, Int.reduceAdd, Int.reduceSub, Int.reduceLE, Int.reduceEq, Int.reduceToNat, Int.toNat_natCast, Nat.reduceSub, Nat.reduceMul, Nat.reduceLeDiff, Nat.zero_add, Int.zero_add, not_false_eq_true, Bool.not_true, Bool.not_false, Bool.false_and, List.cons_append, List.nil_append, h4, h0, hr, a1, a2, a3, c56, a4]
        rfl
      · rfl
    | true =>
    by_cases a5 : 0 < i
    · have a5' : (0 : Int) < (i : Int) := by omega
      have hw2 : IntKind.i64.wrap ((i : Int) - 1) = ((i - 1 : Nat) : Int) := by rw [w64 (by omega) (by omega)]; omega
      have h9 : (0 : Int) ≤ ((i - 1 : Nat) : Int) := by omega
      have hr2 := tks_d (show i - 1 < L.length by omega)
      by_cases a6 : (L.getD i tk0).1 ≤ (L.getD (i - 1) tk0).1
      · have e : valI L (k + 1) i = 11 := by
          simp only [valI, a1, a2, a3, a4, if_false, Bool.true_eq_false]
          rw [if_pos ⟨a5, a6⟩]
        rw [e]
        refine ⟨fun h => (by cases h), fun _ => ?_⟩
        refine Exists.intro ?_ (Exists.intro ?_ (And.intro ?_ ?_))
        rotate_left 2
        · rw [Y_loop (L := L29_0) rfl]
          simp only [go_sem, List.set_cons_zero, List.set_cons_succ, List.take_succ_cons, and_false, false_and, and_true, true_and, Nat.reduceAdd, Nat.reduceEqDiff, Nat.reduceLT, ↓reduceIte, decide_eq_true_eq, List.take_nil, beq_self_eq_true, bne_self_eq_false, List.take_zero, List.map_cons, List.map_nil, Int.reduceNeg, Bool.and_true, and_self, Bool.true_and, Bool.and_self, ne_eq, not_true_eq_false, decide_false, decide_true, Bool.false_eq_true, Nat.reduceAdd, Option.map_some, Option.map_none, Option.bind_some, Option.bind_none, List.length_nil, List.length_cons, List.append_nil, Bool.and_false, w64, demV_sl, Int.cast_ofNat_Int, Int.reduceLT, Int.reduceAdd, Int.reduceSub, Int.reduceLE, Int.reduceEq, Int.reduceToNat, Int.toNat_natCast, Nat.reduceSub, Nat.reduceMul, Nat.reduceLeDiff, Nat.zero_add, Int.zero_add, not_false_eq_true, Bool.not_true, Bool.not_false, Bool.false_and, List.cons_append, List.nil_append, h4, h0, hr, a1, a2, a3, c56, a4, a5', hw2, h9, hr2, a6]
          rfl
        · rfl
      · have e : valI L (k + 1) i = valI L k (i + 1) := by
          simp only [valI, a1, a2, a3, a4, if_false, Bool.true_eq_false]
          rw [if_neg (fun h => a6 h.2)]
        rw [e]
        have step : execX G0 L29_0 (ST [(0, .sl .no 3 (tks L)), (7, .bool false), (8, .sl .no 3 (tks L)), (9, .int .i64 L.length), (10, .int .i64 i)] [] []) = execX G0 L29_0 (ST [(0, .sl .no 3 (tks L)), (7, .bool false), (8, .sl .no 3 (tks L)), (9, .int .i64 L.length), (10, .int .i64 ((i + 1 : Nat) : Int))] [] []) := by
          conv => lhs; rw [Y_loop (L := L29_0) rfl]
          simp only [go_sem, List.set_cons_zero, List.set_cons_succ, List.take_succ_cons, and_false, false_and, and_true, true_and, Nat.reduceAdd, Nat.reduceEqDiff, Nat.reduceLT, ↓reduceIte, decide_eq_true_eq, List.take_nil, beq_self_eq_true, bne_self_eq_false, List.take_zero, List.map_cons, List.map_nil, Int.reduceNeg, Bool.and_true, and_self, Bool.true_and, Bool.and_self, ne_eq, not_true_eq_false, decide_false, decide_true, Bool.false_eq_true, Nat.reduceAdd, Option.map_some, Option.map_none, Option.bind_some, Option.bind_none, List.length_nil, List.length_cons, List.append_nil, Bool.and_false, w64, demV_sl, Int.cast_ofNat_Int, Int.reduceLT, Int.reduceAdd, Int.reduceSub, Int.reduceLE, Int.reduceEq, Int.reduceToNat, Int.toNat_natCast, Nat.reduceSub, Nat.reduceMul, Nat.reduceLeDiff, Nat.zero_add, Int.zero_add, not_false_eq_true, Bool.not_true, Bool.not_false, Bool.false_and, List.cons_append, List.nil_append, h4, h0, hr, a1, a2, a3, c56, a4, a5', hw2, h9, hr2, a6, hw]
        rw [step]
        exact ih
    · have a5' : ¬ (0 : Int) < (i : Int) := by omega
      have e : valI L (k + 1) i = valI L k (i + 1) := by
        simp only [valI, a1, a2, a3, a4, if_false, Bool.true_eq_false]
        rw [if_neg (fun h => a5 h.1)]
      rw [e]
      have step : execX G0 L29_0 (ST [(0, .sl .no 3 (tks L)), (7, .bool false), (8, .sl .no 3 (tks L)), (9, .int .i64 L.length), (10, .int .i64 i)] [] []) = execX G0 L29_0 (ST [(0, .sl .no 3 (tks L)), (7, .bool false), (8, .sl .no 3 (tks L)), (9, .int .i64 L.length), (10, .int .i64 ((i + 1 : Nat) : Int))] [] []) := by
        conv => lhs; rw [Y_loop (L := L29_0) rfl]
        simp only [go_sem, List.set_cons_zero, List.set_cons_succ, List.take_succ_cons, and_false, false_and, and_true, true_and, Nat.reduceAdd, Nat.reduceEqDiff, Nat.reduceLT, ↓reduceIte, decide_eq_true_eq, List.take_nil, beq_self_eq_true, bne_self_eq_false, List.take_zero, List.map_cons, List.map_nil, Int.reduceNeg, Bool.and_true, and_self, Bool.true_and, Bool.and_self, ne_eq, not_true_eq_false, decide_false, decide_true, Bool.false_eq_true, Nat.reduceAdd, Option.map_some, Option.map_none, Option.bind_some, Option.bind_none, List.length_nil, List.length_cons, List.append_nil, Bool.and_false, w64, demV_sl, Int.cast_ofNat_Int, Int.reduceLT, Int.reduceAdd, Int.reduceSub, Int.reduceLE, Int.reduceEq, Int.reduceToNat, Int.toNat_natCast, Nat.reduceSub, Nat.reduceMul, Nat.reduceLeDiff, Nat.zero_add, Int.zero_add, not_false_eq_true, Bool.not_true, Bool.not_false, Bool.false_and, List.cons_append, List.nil_append, h4, h0, hr, a1, a2, a3, c56, a4, a5', hw]
      rw [step]
      exact ih
theorem c29 (L : List Tk) : G0 29 [.sl .no 3 (tks L)] [] = some (.int .i64 (valF L), []) := by
  refine contract F29 rfl rfl rfl ?_
  by_cases h1 : 512 < L.length
  · have h1' : (512 : Int) < (L.length : Int) := by omega
    simp only [F29, go_sem, List.set_cons_zero, List.set_cons_succ, List.take_succ_cons, and_false, false_and, and_true, true_and, Nat.reduceAdd, Nat.reduceEqDiff, Nat.reduceLT, ↓reduceIte, decide_eq_true_eq, List.take_nil, beq_self_eq_true, bne_self_eq_false, List.take_zero, List.map_cons, List.map_nil, Int.reduceNeg, Bool.and_true, and_self, Bool.true_and, Bool.and_self, ne_eq, not_true_eq_false, decide_false, decide_true, Bool.false_eq_true, Nat.reduceAdd, Option.map_some, Option.map_none, Option.bind_some, Option.bind_none, List.length_nil, List.length_cons, List.append_nil, Bool.and_false, w64, demV_sl, Int.cast_ofNat_Int, Int.reduceLT, Int.reduceAdd, Int.reduceSub, Int.reduceLE, Int.reduceEq, Int.reduceToNat, Int.toNat_natCast, Nat.reduceSub, Nat.reduceMul, Nat.reduceLeDiff, Nat.zero_add, Int.zero_add, not_false_eq_true, Bool.not_true, Bool.not_false, Bool.false_and, List.cons_append, List.nil_append, tks_len, h1', valF, h1]
  have h1' : ¬ (512 : Int) < (L.length : Int) := by omega
  obtain ⟨x1, x2⟩ := l29 L (by omega) L.length 0 (by omega)
  have ec : ((0 : Nat) : Int) = 0 := rfl
  rw [ec] at x1 x2
  by_cases hv : valI L L.length 0 = 0
  · simp only [F29, go_sem, List.set_cons_zero, List.set_cons_succ, List.take_succ_cons, and_false, false_and, and_true, true_and, Nat.reduceAdd, Nat.reduceEqDiff, Nat.reduceLT, ↓reduceIte, decide_eq_true_eq, List.take_nil, beq_self_eq_true, bne_self_eq_false, List.take_zero, List.map_cons, List.map_nil, Int.reduceNeg, Bool.and_true, and_self, Bool.true_and, Bool.and_self, ne_eq, not_true_eq_false, decide_false, decide_true, Bool.false_eq_true, Nat.reduceAdd, Option.map_some, Option.map_none, Option.bind_some, Option.bind_none, List.length_nil, List.length_cons, List.append_nil, Bool.and_false, w64, demV_sl, Int.cast_ofNat_Int, Int.reduceLT, Int.reduceAdd, Int.reduceSub, Int.reduceLE, Int.reduceEq, Int.reduceToNat, Int.toNat_natCast, Nat.reduceSub, Nat.reduceMul, Nat.reduceLeDiff, Nat.zero_add, Int.zero_add, not_false_eq_true, Bool.not_true, Bool.not_false, Bool.false_and, List.cons_append, List.nil_append, tks_len, h1', valF, h1, x1 hv, hv]
  · obtain ⟨l', m', y1, y2⟩ := x2 hv
    simp only [F29, go_sem, List.set_cons_zero, List.set_cons_succ, List.take_succ_cons, and_false, false_and, and_true, true_and, Nat.reduceAdd, Nat.reduceEqDiff, Nat.reduceLT, ↓reduceIte, decide_eq_true_eq, List.take_nil, beq_self_eq_true, bne_self_eq_false, List.take_zero, List.map_cons, List.map_nil, Int.reduceNeg, Bool.and_true, and_self, Bool.true_and, Bool.and_self, ne_eq, not_true_eq_false, decide_false, decide_true, Bool.false_eq_true, Nat.reduceAdd, Option.map_some, Option.map_none, Option.bind_some, Option.bind_none, List.length_nil, List.length_cons, List.append_nil, Bool.and_false, w64, demV_sl, Int.cast_ofNat_Int, Int.reduceLT, Int.reduceAdd, Int.reduceSub, Int.reduceLE, Int.reduceEq, Int.reduceToNat, Int.toNat_natCast, Nat.reduceSub, Nat.reduceMul, Nat.reduceLeDiff, Nat.zero_add, Int.zero_add, not_false_eq_true, Bool.not_true, Bool.not_false, Bool.false_and, List.cons_append, List.nil_append, tks_len, h1', valF, h1, y1, y2]

/-- who holds a segment, if anybody does -/
def hoI (L : List Tk) (g n : Int) : Nat → Nat → Option (List UInt8)
  | 0, _ => none
  | k + 1, i => if (L.getD i tk0).1 = g then (if n < (L.getD i tk0).2.2 then some (L.getD i tk0).2.1 else hoI L g n k (i + 1)) else hoI L g n k (i + 1)
def hoF (L : List Tk) (g n : Int) : List UInt8 := (hoI L g n L.length 0).getD []
theorem l33 (L : List Tk) (hL : L.length ≤ 1000000) (g n : Int) : ∀ (k i : Nat), i + k = L.length →
    (hoI L g n k i = none → execX G0 L33_0 (ST [(1, .int .i64 g), (2, .int .i64 n), (9, .sl .no 3 (tks L)), (10, .int .i64 L.length), (11, .int .i64 i)] [] []) = some (.ex 0, ST [(1, .int .i64 g), (2, .int .i64 n), (9, .sl .no 3 (tks L)), (10, .int .i64 L.length), (11, .int .i64 L.length), (12, .bool false)] [] [])) ∧
    (∀ u, hoI L g n k i = some u → ∃ l' m', execX G0 L33_0 (ST [(1, .int .i64 g), (2, .int .i64 n), (9, .sl .no 3 (tks L)), (10, .int .i64 L.length), (11, .int .i64 i)] [] []) = some (.ret, ST l' m' []) ∧ look .any l' 6 = .str u)
  | 0, i, h1 => by
    have : i = L.length := by omega
    subst this
    refine ⟨fun _ => ?_, fun u h => (by simp [hoI] at h)⟩
    rw [Y_loop (L := L33_0) rfl]
    simp only [go_sem, List.set_cons_zero, List.set_cons_succ, List.take_succ_cons, and_false, false_and, and_true, true_and, Nat.reduceAdd, Nat.reduceEqDiff, Nat.reduceLT, ↓reduceIte, decide_eq_true_eq, List.take_nil, beq_self_eq_true, bne_self_eq_false, List.take_zero, List.map_cons, List.map_nil, Int.reduceNeg, Bool.and_true, and_self, Bool.true_and, Bool.and_self, ne_eq, not_true_eq_false, decide_false, decide_true, Bool.false_eq_true, Nat.reduceAdd, Option.map_some, Option.map_none, Option.bind_some, Option.bind_none, List.length_nil, List.length_cons, List.append_nil, Bool.and_false, w64, demV_sl, Int.cast_ofNat_Int, Int.reduceLT, Int.reduceAdd, Int.reduceSub, Int.reduceLE, Int.reduceEq, Int.reduceToNat, Int.toNat_natCast, Nat.reduceSub, Nat.reduceMul, Nat.reduceLeDiff, Nat.zero_add, Int.zero_add, not_false_eq_true, Bool.not_true, Bool.not_false, Bool.false_and, List.cons_append, List.nil_append, Int.lt_irrefl]
  | k + 1, i, h1 => by
    have h3 : i < L.length := by omega
    have h4 : (i : Int) < (L.length : Int) := by omega
    have h0 : (0 : Int) ≤ (i : Int) := by omega
    have hw : IntKind.i64.wrap ((i : Int) + 1) = ((i + 1 : Nat) : Int) := by rw [w64 (by omega) (by omega)]; rfl
    have hr := tks_d h3
    have ih := l33 L hL g n k (i + 1) (by omega)
    by_cases a1 : (L.getD i tk0).1 = g
    · have a1' : ((L.getD i tk0).1 = g) = True := eq_true a1
      by_cases a2 : n < (L.getD i tk0).2.2
      · have e : hoI L g n (k + 1) i = some (L.getD i tk0).2.1 := by simp only [hoI]; rw [if_pos a1, if_pos a2]
        rw [e]
        refine ⟨fun h => (by cases h), fun u hu => ?_⟩
        cases hu
        refine Exists.intro ?_ (Exists.intro ?_ (And.intro ?_ ?_))
        rotate_left 2
        · rw [Y_loop (L := L33_0) rfl]
          simp only [go_sem, List.set_cons_zero, List.set_cons_succ, List.take_succ_cons, and_false, false_and, and_true, true_and, Nat.reduceAdd, Nat.reduceEqDiff, Nat.reduceLT, ↓reduceIte, decide_eq_true_eq, List.take_nil, beq_self_eq_true, bne_self_eq_false, List.take_zero, List.map_cons, List.map_nil, Int.reduceNeg, Bool.and_true, and_self, Bool.true_and, Bool.and_self, ne_eq, not_true_eq_false, decide_false, decide_true, Bool.false_eq_true, Nat.reduceAdd, Option.map_some, Option.map_none, Option.bind_some, Option.bind_none, List.length_nil, List.length_cons, List.append_nil, Bool.and_false, w64, demV_sl, Int.cast_ofNat_Int, Int.reduceLT, Int.reduceAdd, Int.reduceSub, Int.reduceLE, Int.reduceEq, Int.reduceToNat, Int.toNat_natCast, Nat.reduceSub, Nat.reduceMul, Nat.reduceLeDiff, Nat.zero_add, Int.zero_add, not_false_eq_true, Bool.not_true, Bool.not_false, Bool.false_and, List.cons_append, List.nil_append, h4, h0, hr, a1', a2]
          rfl
        · rfl
      · have e : hoI L g n (k + 1) i = hoI L g n k (i + 1) := by simp only [hoI]; rw [if_pos a1, if_neg a2]
        rw [e]
        have step : execX G0 L33_0 (ST [(1, .int .i64 g), (2, .int .i64 n), (9, .sl .no 3 (tks L)), (10, .int .i64 L.length), (11, .int .i64 i)] [] []) = execX G0 L33_0 (ST [(1, .int .i64 g), (2, .int .i64 n), (9, .sl .no 3 (tks L)), (10, .int .i64 L.length), (11, .int .i64 ((i + 1 : Nat) : Int))] [] []) := by
          conv => lhs; rw [Y_loop (L := L33_0) rfl]
          simp only [go_sem, List.set_cons_zero, List.set_cons_succ, List.take_succ_cons, and_false, false_and, and_true, true_and, Nat.reduceAdd, Nat.reduceEqDiff, Nat.reduceLT, ↓reduceIte, decide_eq_true_eq, List.take_nil, beq_self_eq_true, bne_self_eq_false, List.take_zero, List.map_cons, List.map_nil, Int.reduceNeg, Bool.and_true, and_self, Bool.true_and, Bool.and_self, ne_eq, not_true_eq_false, decide_false, decide_true, Bool.false_eq_true, Nat.reduceAdd, Option.map_some, Option.map_none, Option.bind_some, Option.bind_none, List.length_nil, List.length_cons, List.append_nil, Bool.and_false, w64, demV_sl, Int.cast_ofNat_Int, Int.reduceLT, Int.reduceAdd, Int.reduceSub, Int.reduceLE, Int.reduceEq, Int.reduceToNat, Int.toNat_natCast, Nat.reduceSub, Nat.reduceMul, Nat.reduceLeDiff, Nat.zero_add, Int.zero_add, not_false_eq_true, Bool.not_true, Bool.not_false, Bool.false_and, List.cons_append, List.nil_append, h4, h0, hr, a1', a2, hw]
        rw [step]
        exact ih
    · have a1' : ((L.getD i tk0).1 = g) = False := eq_false a1
      have e : hoI L g n (k + 1) i = hoI L g n k (i + 1) := by simp only [hoI]; rw [if_neg a1]
      rw [e]
      have step : execX G0 L33_0 (ST [(1, .int .i64 g), (2, .int .i64 n), (9, .sl .no 3 (tks L)), (10, .int .i64 L.length), (11, .int .i64 i)] [] []) = execX G0 L33_0 (ST [(1, .int .i64 g), (2, .int .i64 n), (9, .sl .no 3 (tks L)), (10, .int .i64 L.length), (11, .int .i64 ((i + 1 : Nat) : Int))] [] []) := by
        conv => lhs; rw [Y_loop (L := L33_0) rfl]
        simp only [go_sem, List.set_cons_zero, List.set_cons_succ, List.take_succ_cons, and_false, false_and, and_true, true_and, Nat.reduceAdd, Nat.reduceEqDiff, Nat.reduceLT, ↓reduceIte, decide_eq_true_eq, List.take_nil, beq_self_eq_true, bne_self_eq_false, List.take_zero, List.map_cons, List.map_nil, Int.reduceNeg, Bool.and_true, and_self, Bool.true_and, Bool.and_self, ne_eq, not_true_eq_false, decide_false, decide_true, Bool.false_eq_true, Nat.reduceAdd, Option.map_some, Option.map_none, Option.bind_some, Option.bind_none, List.length_nil, List.length_cons, List.append_nil, Bool.and_false, w64, demV_sl, Int.cast_ofNat_Int, Int.reduceLT, Int.reduceAdd, Int.reduceSub, Int.reduceLE, Int.reduceEq, Int.reduceToNat, Int.toNat_natCast, Nat.reduceSub, Nat.reduceMul, Nat.reduceLeDiff, Nat.zero_add, Int.zero_add, not_false_eq_true, Bool.not_true, Bool.not_false, Bool.false_and, List.cons_append, List.nil_append, h4, h0, hr, a1', hw]
      rw [step]
      exact ih
theorem c33 (L : List Tk) (hL : L.length ≤ 1000000) (g n : Int) : G0 33 [.sl .no 3 (tks L), .int .i64 g, .int .i64 n] [] = some (.str (hoF L g n), []) := by
  refine contract F33 rfl rfl rfl ?_
  obtain ⟨x1, x2⟩ := l33 L hL g n L.length 0 (by omega)
  have ec : ((0 : Nat) : Int) = 0 := rfl
  rw [ec] at x1 x2
  cases hv : hoI L g n L.length 0 with
  | none => simp only [F33, go_sem, List.set_cons_zero, List.set_cons_succ, List.take_succ_cons, and_false, false_and, and_true, true_and, Nat.reduceAdd, Nat.reduceEqDiff, Nat.reduceLT, ↓reduceIte, decide_eq_true_eq, List.take_nil, beq_self_eq_true, bne_self_eq_false, List.take_zero, List.map_cons, List.map_nil, Int.reduceNeg, Bool.and_true, and_self, Bool.true_and, Bool.and_self, ne_eq, not_true_eq_false, decide_false, decide_true, Bool.false_eq_true, Nat.reduceAdd, Option.map_some, Option.map_none, Option.bind_some, Option.bind_none, List.length_nil, List.length_cons, List.append_nil, Bool.and_false, w64, demV_sl, Int.cast_ofNat_Int, Int.reduceLT, Int.reduceAdd, Int.reduceSub, Int.reduceLE, Int.reduceEq, Int.reduceToNat, Int.toNat_natCast, Nat.reduceSub, Nat.reduceMul, Nat.reduceLeDiff, Nat.zero_add, Int.zero_add, not_false_eq_true, Bool.not_true, Bool.not_false, Bool.false_and, List.cons_append, List.nil_append, tks_len, x1 hv, hoF, hv, Option.getD_none]
  | some u =>
    obtain ⟨l', m', y1, y2⟩ := x2 u hv
    simp only [F33, go_sem, List.set_cons_zero, List.set_cons_succ, List.take_succ_cons, and_false, false_and, and_true, true_and, Nat.reduceAdd, Nat.reduceEqDiff, Nat.reduceLT, ↓reduceIte, decide_eq_true_eq, List.take_nil, beq_self_eq_true, bne_self_eq_false, List.take_zero, List.map_cons, List.map_nil, Int.reduceNeg, Bool.and_true, and_self, Bool.true_and, Bool.and_self, ne_eq, not_true_eq_false, decide_false, decide_true, Bool.false_eq_true, Nat.reduceAdd, Option.map_some, Option.map_none, Option.bind_some, Option.bind_none, List.length_nil, List.length_cons, List.append_nil, Bool.and_false, w64, demV_sl, Int.cast_ofNat_Int, Int.reduceLT, Int.reduceAdd, Int.reduceSub, Int.reduceLE, Int.reduceEq, Int.reduceToNat, Int.toNat_natCast, Nat.reduceSub, Nat.reduceMul, Nat.reduceLeDiff, Nat.zero_add, Int.zero_add, not_false_eq_true, Bool.not_true, Bool.not_false, Bool.false_and, List.cons_append, List.nil_append, tks_len, y1, y2, hoF, hv, Option.getD_some]
theorem c34 (L : List Tk) (hL : L.length ≤ 1000000) (g n : Int) : G0 34 [.sl .no 3 (tks L), .int .i64 g, .int .i64 n] [] = some (.str (hoF L g n), []) := by
  refine contract F34 rfl rfl rfl ?_
  obtain ⟨x1, x2⟩ := l33 L hL g n L.length 0 (by omega)
  have ec : ((0 : Nat) : Int) = 0 := rfl
  have el : L33_0 = L34_0 := rfl
  rw [ec, el] at x1 x2
  cases hv : hoI L g n L.length 0 with
  | none => simp only [F34, go_sem, List.set_cons_zero, List.set_cons_succ, List.take_succ_cons, and_false, false_and, and_true, true_and, Nat.reduceAdd, Nat.reduceEqDiff, Nat.reduceLT, ↓reduceIte, decide_eq_true_eq, List.take_nil, beq_self_eq_true, bne_self_eq_false, List.take_zero, List.map_cons, List.map_nil, Int.reduceNeg, Bool.and_true, and_self, Bool.true_and, Bool.and_self, ne_eq, not_true_eq_false, decide_false, decide_true, Bool.false_eq_true, Nat.reduceAdd, Option.map_some, Option.map_none, Option.bind_some, Option.bind_none, List.length_nil, List.length_cons, List.append_nil, Bool.and_false, w64, demV_sl, Int.cast_ofNat_Int, Int.reduceLT, Int.reduceAdd, Int.reduceSub, Int.reduceLE, Int.reduceEq, Int.reduceToNat, Int.toNat_natCast, Nat.reduceSub, Nat.reduceMul, Nat.reduceLeDiff, Nat.zero_add, Int.zero_add, not_false_eq_true, Bool.not_true, Bool.not_false, Bool.false_and, List.cons_append, List.nil_append, tks_len, x1 hv, hoF, hv, Option.getD_none]
  | some u =>
    obtain ⟨l', m', y1, y2⟩ := x2 u hv
    simp only [F34, go_sem, List.set_cons_zero, List.set_cons_succ, List.take_succ_cons, and_false, false_and, and_true, true_and, Nat.reduceAdd, Nat.reduceEqDiff, Nat.reduceLT, ↓reduceIte, decide_eq_true_eq, List.take_nil, beq_self_eq_true, bne_self_eq_false, List.take_zero, List.map_cons, List.map_nil, Int.reduceNeg, Bool.and_true, and_self, Bool.true_and, Bool.and_self, ne_eq, not_true_eq_false, decide_false, decide_true, Bool.false_eq_true, Nat.reduceAdd, Option.map_some, Option.map_none, Option.bind_some, Option.bind_none, List.length_nil, List.length_cons, List.append_nil, Bool.and_false, w64, demV_sl, Int.cast_ofNat_Int, Int.reduceLT, Int.reduceAdd, Int.reduceSub, Int.reduceLE, Int.reduceEq, Int.reduceToNat, Int.toNat_natCast, Nat.reduceSub, Nat.reduceMul, Nat.reduceLeDiff, Nat.zero_add, Int.zero_add, not_false_eq_true, Bool.not_true, Bool.not_false, Bool.false_and, List.cons_append, List.nil_append, tks_len, y1, y2, hoF, hv, Option.getD_some]
end Go.Av
