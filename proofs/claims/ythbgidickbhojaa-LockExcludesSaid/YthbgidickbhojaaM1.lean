/- A part of the proof: M1. No conditions. -/
import Derived.Test.YthbgidickbhojaaM0
set_option linter.unusedSimpArgs false
set_option linter.unusedVariables false
namespace Go.Av
set_option linter.unusedSimpArgs false
set_option maxHeartbeats 4000000
/-- the bytes of a name behind the first -/
def nmc (b : Int) : Bool := (decide (97 ≤ b) && decide (b ≤ 122)) || (decide (48 ≤ b) && decide (b ≤ 57)) || decide (b = 45)
def nmT (s : List UInt8) : Nat → Nat → Bool
  | 0, _ => true
  | k + 1, i => if nmc (bt s i) = true then nmT s k (i + 1) else false
def isN (s : List UInt8) : Bool := if s.length < 1 then false else if 24 < s.length then false else if bt s 0 < 97 then false else if 122 < bt s 0 then false else nmT s (s.length - 1) 1
theorem l52 (s : List UInt8) (hs : s.length ≤ 24) : ∀ (k i : Nat), i + k = s.length → 1 ≤ i →
    (nmT s k i = true → execX G0 L52_0 (ST [(0, .str s), (3, .int .i64 i), (22, .bool false)] [] []) = some (.ex 0, ST [(0, .str s), (3, .int .i64 s.length), (22, .bool false), (26, .bool false)] [] [])) ∧
    (nmT s k i = false → ∃ l', execX G0 L52_0 (ST [(0, .str s), (3, .int .i64 i), (22, .bool false)] [] []) = some (.ret, ST l' [] []) ∧ look .any l' 2 = .bool false)
  | 0, i, h1, h2 => by
    have : i = s.length := by omega
    subst this
    refine ⟨fun _ => ?_, fun h => (by simp [nmT] at h)⟩
    rw [Y_loop (L := L52_0) rfl]
    simp only [go_sem, List.set_cons_zero, List.set_cons_succ, List.take_succ_cons, and_false, false_and, and_true, true_and, Nat.reduceAdd, Nat.reduceEqDiff, Nat.reduceLT, ↓reduceIte, decide_eq_true_eq, List.take_nil, beq_self_eq_true, bne_self_eq_false, List.take_zero, List.map_cons, List.map_nil, Int.reduceNeg, Bool.and_true, and_self, Bool.true_and, Bool.and_self, ne_eq, not_true_eq_false, decide_false, decide_true, Bool.false_eq_true, Nat.reduceAdd, Option.map_some, Option.map_none, Option.bind_some, Option.bind_none, List.length_nil, List.length_cons, List.append_nil, Bool.and_false, w64, demV_sl, Int.cast_ofNat_Int, Int.reduceLT, Int.reduceAdd, Int.reduceSub, Int.reduceLE, Int.reduceEq, Int.reduceToNat, Int.toNat_natCast, Nat.reduceSub, Nat.reduceMul, Nat.reduceLeDiff, Nat.zero_add, Int.zero_add, not_false_eq_true, Bool.not_true, Bool.not_false, Bool.false_and, List.cons_append, List.nil_append, Int.lt_irrefl]
  | k + 1, i, h1, h2 => by
    have h3 : i < s.length := by omega
    have h4 : (i : Int) < (s.length : Int) := by omega
    have h5 := at_bt h3
    have h0 : (0 : Int) ≤ (i : Int) := by omega
    have hw : IntKind.i64.wrap ((i : Int) + 1) = ((i + 1 : Nat) : Int) := by rw [w64 (by omega) (by omega)]; rfl
    have ih := l52 s hs k (i + 1) (by omega) (by omega)
    by_cases hc : nmc (bt s i) = true
    · have e : nmT s (k + 1) i = nmT s k (i + 1) := by simp only [nmT, hc, if_true]
      rw [e]
      have step : execX G0 L52_0 (ST [(0, .str s), (3, .int .i64 i), (22, .bool false)] [] []) = execX G0 L52_0 (ST [(0, .str s), (3, .int .i64 ((i + 1 : Nat) : Int)), (22, .bool false)] [] []) := by
        conv => lhs; rw [Y_loop (L := L52_0) rfl]
        have hd : (97 ≤ bt s i ∧ bt s i ≤ 122) ∨ (48 ≤ bt s i ∧ bt s i ≤ 57) ∨ bt s i = 45 := by
          simp only [nmc, Bool.or_eq_true, Bool.and_eq_true, decide_eq_true_eq] at hc
          omega
        by_cases a1 : 97 ≤ bt s i <;> by_cases a2 : bt s i ≤ 122 <;> by_cases a3 : 48 ≤ bt s i <;> by_cases a4 : bt s i ≤ 57 <;> by_cases a5 : bt s i = 45 <;> first | (exfalso; omega) | simp only [go_sem, List.set_cons_zero, List.set_cons_succ, List.take_succ_cons, and_false, false_and, and_true, true_and, Nat.reduceAdd, Nat.reduceEqDiff, Nat.reduceLT, ↓reduceIte, decide_eq_true_eq, List.take_nil, beq_self_eq_true, bne_self_eq_false, List.take_zero, List.map_cons, List.map_nil, Int.reduceNeg, Bool.and_true, and_self, Bool.true_and, Bool.and_self, ne_eq, not_true_eq_false, decide_false, decide_true, Bool.false_eq_true, Nat.reduceAdd, Option.map_some, Option.map_none, Option.bind_some, Option.bind_none, List.length_nil, List.length_cons, List.append_nil, Bool.and_false, w64, demV_sl, Int.cast_ofNat_Int, Int.reduceLT, Int.reduceAdd, Int.reduceSub, Int.reduceLE, Int.reduceEq, Int.reduceToNat, Int.toNat_natCast, Nat.reduceSub, Nat.reduceMul, Nat.reduceLeDiff, Nat.zero_add, Int.zero_add, not_false_eq_true, Bool.not_true, Bool.not_false, Bool.false_and, List.cons_append, List.nil_append, h4, h5, h0, btd, hw, a1, a2, a3, a4, a5]
      rw [step]
      exact ih
    · have e : nmT s (k + 1) i = false := by simp only [nmT, hc, if_false, Bool.false_eq_true]
      rw [e]
      refine ⟨fun h => (by cases h), fun _ => ?_⟩
      have hd : ¬ ((97 ≤ bt s i ∧ bt s i ≤ 122) ∨ (48 ≤ bt s i ∧ bt s i ≤ 57) ∨ bt s i = 45) := by
        simp only [nmc, Bool.or_eq_true, Bool.and_eq_true, decide_eq_true_eq] at hc
        omega
      by_cases a1 : 97 ≤ bt s i <;> by_cases a2 : bt s i ≤ 122 <;> by_cases a3 : 48 ≤ bt s i <;> by_cases a4 : bt s i ≤ 57 <;> by_cases a5 : bt s i = 45 <;> first
        | (exfalso; omega)
        | (refine Exists.intro ?_ (And.intro ?_ ?_)
           rotate_left 1
           · rw [Y_loop (L := L52_0) rfl]
             simp only [go_sem, List.set_cons_zero, List.set_cons_succ, List.take_succ_cons, and_false, false_and, and_true, true_and, Nat.reduceAdd, Nat.reduceEqDiff, Nat.reduceLT, ↓reduceIte, decide_eq_true_eq, List.take_nil, beq_self_eq_true, bne_self_eq_false, List.take_zero, List.map_cons, List.map_nil, Int.reduceNeg, Bool.and_true, and_self, Bool.true_and, Bool.and_self, ne_eq, not_true_eq_false, decide_false, decide_true, Bool.false_eq_true, Nat.reduceAdd, Option.map_some, Option.map_none, Option.bind_some, Option.bind_none, List.length_nil, List.length_cons, List.append_nil, Bool.and_false, w64, demV_sl, Int.cast_ofNat_Int, Int.reduceLT, Int.reduceAdd, Int.reduceSub, Int.reduceLE, Int.reduceEq, Int.reduceToNat, Int.toNat_natCast, Nat.reduceSub, Nat.reduceMul, Nat.reduceLeDiff, Nat.zero_add, Int.zero_add, not_false_eq_true, Bool.not_true, Bool.not_false, Bool.false_and, List.cons_append, List.nil_append, h4, h5, h0, btd, hw, a1, a2, a3, a4, a5]
             rfl
           · rfl)
theorem c52 (s : List UInt8) : G0 52 [.str s] [] = some (.bool (isN s), []) := by
  refine contract F52 rfl rfl rfl ?_
  by_cases h1 : s.length < 1
  · have h1' : (s.length : Int) < 1 := by omega
    simp only [F52, go_sem, List.set_cons_zero, List.set_cons_succ, List.take_succ_cons, and_false, false_and, and_true, true_and, Nat.reduceAdd, Nat.reduceEqDiff, Nat.reduceLT, ↓reduceIte, decide_eq_true_eq, List.take_nil, beq_self_eq_true, bne_self_eq_false, List.take_zero, List.map_cons, List.map_nil, Int.reduceNeg, Bool.and_true, and_self, Bool.true_and, Bool.and_self, ne_eq, not_true_eq_false, decide_false, decide_true, Bool.false_eq_true, Nat.reduceAdd, Option.map_some, Option.map_none, Option.bind_some, Option.bind_none, List.length_nil, List.length_cons, List.append_nil, Bool.and_false, w64, demV_sl, Int.cast_ofNat_Int, Int.reduceLT, Int.reduceAdd, Int.reduceSub, Int.reduceLE, Int.reduceEq, Int.reduceToNat, Int.toNat_natCast, Nat.reduceSub, Nat.reduceMul, Nat.reduceLeDiff, Nat.zero_add, Int.zero_add, not_false_eq_true, Bool.not_true, Bool.not_false, Bool.false_and, List.cons_append, List.nil_append, isN, h1, h1']
  have h1' : ¬ (s.length : Int) < 1 := by omega
  by_cases h2 : 24 < s.length
  · have h2' : (24 : Int) < (s.length : Int) := by omega
    simp only [F52, go_sem, List.set_cons_zero, List.set_cons_succ, List.take_succ_cons, and_false, false_and, and_true, true_and, Nat.reduceAdd, Nat.reduceEqDiff, Nat.reduceLT, ↓reduceIte, decide_eq_true_eq, List.take_nil, beq_self_eq_true, bne_self_eq_false, List.take_zero, List.map_cons, List.map_nil, Int.reduceNeg, Bool.and_true, and_self, Bool.true_and, Bool.and_self, ne_eq, not_true_eq_false, decide_false, decide_true, Bool.false_eq_true, Nat.reduceAdd, Option.map_some, Option.map_none, Option.bind_some, Option.bind_none, List.length_nil, List.length_cons, List.append_nil, Bool.and_false, w64, demV_sl, Int.cast_ofNat_Int, Int.reduceLT, Int.reduceAdd, Int.reduceSub, Int.reduceLE, Int.reduceEq, Int.reduceToNat, Int.toNat_natCast, Nat.reduceSub, Nat.reduceMul, Nat.reduceLeDiff, Nat.zero_add, Int.zero_add, not_false_eq_true, Bool.not_true, Bool.not_false, Bool.false_and, List.cons_append, List.nil_append, isN, h1, h1', h2, h2']
  have h2' : ¬ (24 : Int) < (s.length : Int) := by omega
  have h5 := at_bt (s := s) (n := 0) (by omega)
  by_cases h3 : bt s 0 < 97
  · simp only [F52, go_sem, List.set_cons_zero, List.set_cons_succ, List.take_succ_cons, and_false, false_and, and_true, true_and, Nat.reduceAdd, Nat.reduceEqDiff, Nat.reduceLT, ↓reduceIte, decide_eq_true_eq, List.take_nil, beq_self_eq_true, bne_self_eq_false, List.take_zero, List.map_cons, List.map_nil, Int.reduceNeg, Bool.and_true, and_self, Bool.true_and, Bool.and_self, ne_eq, not_true_eq_false, decide_false, decide_true, Bool.false_eq_true, Nat.reduceAdd, Option.map_some, Option.map_none, Option.bind_some, Option.bind_none, List.length_nil, List.length_cons, List.append_nil, Bool.and_false, w64, demV_sl, Int.cast_ofNat_Int, Int.reduceLT, Int.reduceAdd, Int.reduceSub, Int.reduceLE, Int.reduceEq, Int.reduceToNat, Int.toNat_natCast, Nat.reduceSub, Nat.reduceMul, Nat.reduceLeDiff, Nat.zero_add, Int.zero_add, not_false_eq_true, Bool.not_true, Bool.not_false, Bool.false_and, List.cons_append, List.nil_append, isN, h1, h1', h2, h2', h3, h5, btd]
  by_cases h4 : 122 < bt s 0
  · simp only [F52, go_sem, List.set_cons_zero, List.set_cons_succ, List.take_succ_cons, and_false, false_and, and_true, true_and, Nat.reduceAdd, Nat.reduceEqDiff, Nat.reduceLT, ↓reduceIte, decide_eq_true_eq, List.take_nil, beq_self_eq_true, bne_self_eq_false, List.take_zero, List.map_cons, List.map_nil, Int.reduceNeg, Bool.and_true, and_self, Bool.true_and, Bool.and_self, ne_eq, not_true_eq_false, decide_false, decide_true, Bool.false_eq_true, Nat.reduceAdd, Option.map_some, Option.map_none, Option.bind_some, Option.bind_none, List.length_nil, List.length_cons, List.append_nil, Bool.and_false, w64, demV_sl, Int.cast_ofNat_Int, Int.reduceLT, Int.reduceAdd, Int.reduceSub, Int.reduceLE, Int.reduceEq, Int.reduceToNat, Int.toNat_natCast, Nat.reduceSub, Nat.reduceMul, Nat.reduceLeDiff, Nat.zero_add, Int.zero_add, not_false_eq_true, Bool.not_true, Bool.not_false, Bool.false_and, List.cons_append, List.nil_append, isN, h1, h1', h2, h2', h3, h4, h5, btd]
  obtain ⟨x1, x2⟩ := l52 s (by omega) (s.length - 1) 1 (by omega) (by omega)
  have ec : ((1 : Nat) : Int) = 1 := rfl
  rw [ec] at x1 x2
  cases hn : nmT s (s.length - 1) 1 with
  | true => simp only [F52, go_sem, List.set_cons_zero, List.set_cons_succ, List.take_succ_cons, and_false, false_and, and_true, true_and, Nat.reduceAdd, Nat.reduceEqDiff, Nat.reduceLT, ↓reduceIte, decide_eq_true_eq, List.take_nil, beq_self_eq_true, bne_self_eq_false, List.take_zero, List.map_cons, List.map_nil, Int.reduceNeg, Bool.and_true, and_self, Bool.true_and, Bool.and_self, ne_eq, not_true_eq_false, decide_false, decide_true, Bool.false_eq_true, Nat.reduceAdd, Option.map_some, Option.map_none, Option.bind_some, Option.bind_none, List.length_nil, List.length_cons, List.append_nil, Bool.and_false, w64, demV_sl, Int.cast_ofNat_Int, Int.reduceLT, Int.reduceAdd, Int.reduceSub, Int.reduceLE, Int.reduceEq, Int.reduceToNat, Int.toNat_natCast, Nat.reduceSub, Nat.reduceMul, Nat.reduceLeDiff, Nat.zero_add, Int.zero_add, not_false_eq_true, Bool.not_true, Bool.not_false, Bool.false_and, List.cons_append, List.nil_append, isN, h1, h1', h2, h2', h3, h4, h5, btd, x1 hn, hn]
  | false =>
    obtain ⟨l', y1, y2⟩ := x2 hn
    simp only [F52, go_sem, List.set_cons_zero, List.set_cons_succ, List.take_succ_cons, and_false, false_and, and_true, true_and, Nat.reduceAdd, Nat.reduceEqDiff, Nat.reduceLT, ↓reduceIte, decide_eq_true_eq, List.take_nil, beq_self_eq_true, bne_self_eq_false, List.take_zero, List.map_cons, List.map_nil, Int.reduceNeg, Bool.and_true, and_self, Bool.true_and, Bool.and_self, ne_eq, not_true_eq_false, decide_false, decide_true, Bool.false_eq_true, Nat.reduceAdd, Option.map_some, Option.map_none, Option.bind_some, Option.bind_none, List.length_nil, List.length_cons, List.append_nil, Bool.and_false, w64, demV_sl, Int.cast_ofNat_Int, Int.reduceLT, Int.reduceAdd, Int.reduceSub, Int.reduceLE, Int.reduceEq, Int.reduceToNat, Int.toNat_natCast, Nat.reduceSub, Nat.reduceMul, Nat.reduceLeDiff, Nat.zero_add, Int.zero_add, not_false_eq_true, Bool.not_true, Bool.not_false, Bool.false_and, List.cons_append, List.nil_append, isN, h1, h1', h2, h2', h3, h4, h5, btd, y1, y2, hn]
/-- The reference's loop, from its beginning. -/
theorem l56 (s : List UInt8) (hs : s.length ≤ 24) : ∀ (k i : Nat), i + k = s.length → 1 ≤ i →
    (nmT s k i = true → execX G0 L56_0 (ST [(0, .str s), (3, .int .i64 i), (12, .bool false)] [] []) = some (.ex 0, ST [(0, .str s), (3, .int .i64 s.length), (12, .bool false), (16, .bool false)] [] [])) ∧
    (nmT s k i = false → ∃ l', execX G0 L56_0 (ST [(0, .str s), (3, .int .i64 i), (12, .bool false)] [] []) = some (.ret, ST l' [] []) ∧ look .any l' 2 = .bool false)
  | 0, i, h1, h2 => by
    have : i = s.length := by omega
    subst this
    refine ⟨fun _ => ?_, fun h => (by simp [nmT] at h)⟩
    rw [Y_loop (L := L56_0) rfl]
    simp only [go_sem, List.set_cons_zero, List.set_cons_succ, List.take_succ_cons, and_false, false_and, and_true, true_and, Nat.reduceAdd, Nat.reduceEqDiff, Nat.reduceLT, ↓reduceIte, decide_eq_true_eq, List.take_nil, beq_self_eq_true, bne_self_eq_false, List.take_zero, List.map_cons, List.map_nil, Int.reduceNeg, Bool.and_true, and_self, Bool.true_and, Bool.and_self, ne_eq, not_true_eq_false, decide_false, decide_true, Bool.false_eq_true, Nat.reduceAdd, Option.map_some, Option.map_none, Option.bind_some, Option.bind_none, List.length_nil, List.length_cons, List.append_nil, Bool.and_false, w64, demV_sl, Int.cast_ofNat_Int, Int.reduceLT, Int.reduceAdd, Int.reduceSub, Int.reduceLE, Int.reduceEq, Int.reduceToNat, Int.toNat_natCast, Nat.reduceSub, Nat.reduceMul, Nat.reduceLeDiff, Nat.zero_add, Int.zero_add, not_false_eq_true, Bool.not_true, Bool.not_false, Bool.false_and, List.cons_append, List.nil_append, Int.lt_irrefl]
  | k + 1, i, h1, h2 => by
    have h3 : i < s.length := by omega
    have h4 : (i : Int) < (s.length : Int) := by omega
    have h5 := at_bt h3
    have h0 : (0 : Int) ≤ (i : Int) := by omega
    have h6 : (0 : Int) < (i : Int) := by omega
    have hw : IntKind.i64.wrap ((i : Int) + 1) = ((i + 1 : Nat) : Int) := by rw [w64 (by omega) (by omega)]; rfl
    have ih := l56 s hs k (i + 1) (by omega) (by omega)
    by_cases hc : nmc (bt s i) = true
    · have e : nmT s (k + 1) i = nmT s k (i + 1) := by simp only [nmT, hc, if_true]
      rw [e]
      have step : execX G0 L56_0 (ST [(0, .str s), (3, .int .i64 i), (12, .bool false)] [] []) = execX G0 L56_0 (ST [(0, .str s), (3, .int .i64 ((i + 1 : Nat) : Int)), (12, .bool false)] [] []) := by
        conv => lhs; rw [Y_loop (L := L56_0) rfl]
        have hd : (97 ≤ bt s i ∧ bt s i ≤ 122) ∨ (48 ≤ bt s i ∧ bt s i ≤ 57) ∨ bt s i = 45 := by
          simp only [nmc, Bool.or_eq_true, Bool.and_eq_true, decide_eq_true_eq] at hc
          omega
        by_cases a1 : 97 ≤ bt s i <;> by_cases a2 : bt s i ≤ 122 <;> by_cases a3 : 48 ≤ bt s i <;> by_cases a4 : bt s i ≤ 57 <;> by_cases a5 : bt s i = 45 <;> first | (exfalso; omega) | simp only [go_sem, List.set_cons_zero, List.set_cons_succ, List.take_succ_cons, and_false, false_and, and_true, true_and, Nat.reduceAdd, Nat.reduceEqDiff, Nat.reduceLT, ↓reduceIte, decide_eq_true_eq, List.take_nil, beq_self_eq_true, bne_self_eq_false, List.take_zero, List.map_cons, List.map_nil, Int.reduceNeg, Bool.and_true, and_self, Bool.true_and, Bool.and_self, ne_eq, not_true_eq_false, decide_false, decide_true, Bool.false_eq_true, Nat.reduceAdd, Option.map_some, Option.map_none, Option.bind_some, Option.bind_none, List.length_nil, List.length_cons, List.append_nil, Bool.and_false, w64, demV_sl, Int.cast_ofNat_Int, Int.reduceLT, Int.reduceAdd, Int.reduceSub, Int.reduceLE, Int.reduceEq, Int.reduceToNat, Int.toNat_natCast, Nat.reduceSub, Nat.reduceMul, Nat.reduceLeDiff, Nat.zero_add, Int.zero_add, not_false_eq_true, Bool.not_true, Bool.not_false, Bool.false_and, List.cons_append, List.nil_append, h4, h5, h0, h6, btd, hw, a1, a2, a3, a4, a5]
      rw [step]
      exact ih
    · have e : nmT s (k + 1) i = false := by simp only [nmT, hc, if_false, Bool.false_eq_true]
      rw [e]
      refine ⟨fun h => (by cases h), fun _ => ?_⟩
      have hd : ¬ ((97 ≤ bt s i ∧ bt s i ≤ 122) ∨ (48 ≤ bt s i ∧ bt s i ≤ 57) ∨ bt s i = 45) := by
        simp only [nmc, Bool.or_eq_true, Bool.and_eq_true, decide_eq_true_eq] at hc
        omega
      by_cases a1 : 97 ≤ bt s i <;> by_cases a2 : bt s i ≤ 122 <;> by_cases a3 : 48 ≤ bt s i <;> by_cases a4 : bt s i ≤ 57 <;> by_cases a5 : bt s i = 45 <;> first
        | (exfalso; omega)
        | (refine Exists.intro ?_ (And.intro ?_ ?_)
           rotate_left 1
           · rw [Y_loop (L := L56_0) rfl]
             simp only [go_sem, List.set_cons_zero, List.set_cons_succ, List.take_succ_cons, and_false, false_and, and_true, true_and, Nat.reduceAdd, Nat.reduceEqDiff, Nat.reduceLT, ↓reduceIte, decide_eq_true_eq, List.take_nil, beq_self_eq_true, bne_self_eq_false, List.take_zero, List.map_cons, List.map_nil, Int.reduceNeg, Bool.and_true, and_self, Bool.true_and, Bool.and_self, ne_eq, not_true_eq_false, decide_false, decide_true, Bool.false_eq_true, Nat.reduceAdd, Option.map_some, Option.map_none, Option.bind_some, Option.bind_none, List.length_nil, List.length_cons, List.append_nil, Bool.and_false, w64, demV_sl, Int.cast_ofNat_Int, Int.reduceLT, Int.reduceAdd, Int.reduceSub, Int.reduceLE, Int.reduceEq, Int.reduceToNat, Int.toNat_natCast, Nat.reduceSub, Nat.reduceMul, Nat.reduceLeDiff, Nat.zero_add, Int.zero_add, not_false_eq_true, Bool.not_true, Bool.not_false, Bool.false_and, List.cons_append, List.nil_append, h4, h5, h0, h6, btd, hw, a1, a2, a3, a4, a5]
             rfl
           · rfl)
theorem l56s (s : List UInt8) (h1 : 1 ≤ s.length) (hs : s.length ≤ 24) :
    (97 ≤ bt s 0 ∧ bt s 0 ≤ 122 → execX G0 L56_0 (ST [(0, .str s), (3, .int .i64 0), (12, .bool false)] [] []) = execX G0 L56_0 (ST [(0, .str s), (3, .int .i64 1), (12, .bool false)] [] [])) ∧
    (¬ (97 ≤ bt s 0 ∧ bt s 0 ≤ 122) → ∃ l', execX G0 L56_0 (ST [(0, .str s), (3, .int .i64 0), (12, .bool false)] [] []) = some (.ret, ST l' [] []) ∧ look .any l' 2 = .bool false) := by
  have h4 : (0 : Int) < (s.length : Int) := by omega
  have h5 := at_bt (s := s) (n := 0) (by omega)
  refine ⟨fun ⟨a1, a2⟩ => ?_, fun hd => ?_⟩
  · conv => lhs; rw [Y_loop (L := L56_0) rfl]
    simp only [go_sem, List.set_cons_zero, List.set_cons_succ, List.take_succ_cons, and_false, false_and, and_true, true_and, Nat.reduceAdd, Nat.reduceEqDiff, Nat.reduceLT, ↓reduceIte, decide_eq_true_eq, List.take_nil, beq_self_eq_true, bne_self_eq_false, List.take_zero, List.map_cons, List.map_nil, Int.reduceNeg, Bool.and_true, and_self, Bool.true_and, Bool.and_self, ne_eq, not_true_eq_false, decide_false, decide_true, Bool.false_eq_true, Nat.reduceAdd, Option.map_some, Option.map_none, Option.bind_some, Option.bind_none, List.length_nil, List.length_cons, List.append_nil, Bool.and_false, w64, demV_sl, Int.cast_ofNat_Int, Int.reduceLT, Int.reduceAdd, Int.reduceSub, Int.reduceLE, Int.reduceEq, Int.reduceToNat, Int.toNat_natCast, Nat.reduceSub, Nat.reduceMul, Nat.reduceLeDiff, Nat.zero_add, Int.zero_add, not_false_eq_true, Bool.not_true, Bool.not_false, Bool.false_and, List.cons_append, List.nil_append, h4, h5, btd, a1, a2]
  · by_cases a1 : 97 ≤ bt s 0 <;> by_cases a2 : bt s 0 ≤ 122 <;> first
      | (exfalso; omega)
      | (refine Exists.intro ?_ (And.intro ?_ ?_)
         rotate_left 1
         · rw [Y_loop (L := L56_0) rfl]
           simp only [go_sem, List.set_cons_zero, List.set_cons_succ, List.take_succ_cons, and_false, false_and, and_true, true_and, Nat.reduceAdd, Nat.reduceEqDiff, Nat.reduceLT, ↓reduceIte, decide_eq_true_eq, List.take_nil, beq_self_eq_true, bne_self_eq_false, List.take_zero, List.map_cons, List.map_nil, Int.reduceNeg, Bool.and_true, and_self, Bool.true_and, Bool.and_self, ne_eq, not_true_eq_false, decide_false, decide_true, Bool.false_eq_true, Nat.reduceAdd, Option.map_some, Option.map_none, Option.bind_some, Option.bind_none, List.length_nil, List.length_cons, List.append_nil, Bool.and_false, w64, demV_sl, Int.cast_ofNat_Int, Int.reduceLT, Int.reduceAdd, Int.reduceSub, Int.reduceLE, Int.reduceEq, Int.reduceToNat, Int.toNat_natCast, Nat.reduceSub, Nat.reduceMul, Nat.reduceLeDiff, Nat.zero_add, Int.zero_add, not_false_eq_true, Bool.not_true, Bool.not_false, Bool.false_and, List.cons_append, List.nil_append, h4, h5, btd, a1, a2, Int.lt_irrefl]
           rfl
         · rfl)
theorem c56 (s : List UInt8) : G0 56 [.str s] [] = some (.bool (isN s), []) := by
  refine contract F56 rfl rfl rfl ?_
  by_cases h1 : s.length < 1
  · have h1' : (s.length : Int) < 1 := by omega
    simp only [F56, go_sem, List.set_cons_zero, List.set_cons_succ, List.take_succ_cons, and_false, false_and, and_true, true_and, Nat.reduceAdd, Nat.reduceEqDiff, Nat.reduceLT, ↓reduceIte, decide_eq_true_eq, List.take_nil, beq_self_eq_true, bne_self_eq_false, List.take_zero, List.map_cons, List.map_nil, Int.reduceNeg, Bool.and_true, and_self, Bool.true_and, Bool.and_self, ne_eq, not_true_eq_false, decide_false, decide_true, Bool.false_eq_true, Nat.reduceAdd, Option.map_some, Option.map_none, Option.bind_some, Option.bind_none, List.length_nil, List.length_cons, List.append_nil, Bool.and_false, w64, demV_sl, Int.cast_ofNat_Int, Int.reduceLT, Int.reduceAdd, Int.reduceSub, Int.reduceLE, Int.reduceEq, Int.reduceToNat, Int.toNat_natCast, Nat.reduceSub, Nat.reduceMul, Nat.reduceLeDiff, Nat.zero_add, Int.zero_add, not_false_eq_true, Bool.not_true, Bool.not_false, Bool.false_and, List.cons_append, List.nil_append, isN, h1, h1']
  have h1' : ¬ (s.length : Int) < 1 := by omega
  by_cases h2 : 24 < s.length
  · have h2' : (24 : Int) < (s.length : Int) := by omega
    simp only [F56, go_sem, List.set_cons_zero, List.set_cons_succ, List.take_succ_cons, and_false, false_and, and_true, true_and, Nat.reduceAdd, Nat.reduceEqDiff, Nat.reduceLT, ↓reduceIte, decide_eq_true_eq, List.take_nil, beq_self_eq_true, bne_self_eq_false, List.take_zero, List.map_cons, List.map_nil, Int.reduceNeg, Bool.and_true, and_self, Bool.true_and, Bool.and_self, ne_eq, not_true_eq_false, decide_false, decide_true, Bool.false_eq_true, Nat.reduceAdd, Option.map_some, Option.map_none, Option.bind_some, Option.bind_none, List.length_nil, List.length_cons, List.append_nil, Bool.and_false, w64, demV_sl, Int.cast_ofNat_Int, Int.reduceLT, Int.reduceAdd, Int.reduceSub, Int.reduceLE, Int.reduceEq, Int.reduceToNat, Int.toNat_natCast, Nat.reduceSub, Nat.reduceMul, Nat.reduceLeDiff, Nat.zero_add, Int.zero_add, not_false_eq_true, Bool.not_true, Bool.not_false, Bool.false_and, List.cons_append, List.nil_append, isN, h1, h1', h2, h2']
  have h2' : ¬ (24 : Int) < (s.length : Int) := by omega
  obtain ⟨z1, z2⟩ := l56s s (by omega) (by omega)
  by_cases h3 : bt s 0 < 97
  · obtain ⟨l', y1, y2⟩ := z2 (by omega)
    simp only [F56, go_sem, List.set_cons_zero, List.set_cons_succ, List.take_succ_cons, and_false, false_and, and_true, true_and, Nat.reduceAdd, Nat.reduceEqDiff, Nat.reduceLT, ↓reduceIte, decide_eq_true_eq, List.take_nil, beq_self_eq_true, bne_self_eq_false, List.take_zero, List.map_cons, List.map_nil, Int.reduceNeg, Bool.and_true, and_self, Bool.true_and, Bool.and_self, ne_eq, not_true_eq_false, decide_false, decide_true, Bool.false_eq_true, Nat.reduceAdd, Option.map_some, Option.map_none, Option.bind_some, Option.bind_none, List.length_nil, List.length_cons, List.append_nil, Bool.and_false, w64, demV_sl, Int.cast_ofNat_Int, Int.reduceLT, Int.reduceAdd, Int.reduceSub, Int.reduceLE, Int.reduceEq, Int.reduceToNat, Int.toNat_natCast, Nat.reduceSub, Nat.reduceMul, Nat.reduceLeDiff, Nat.zero_add, Int.zero_add, not_false_eq_true, Bool.not_true, Bool.not_false, Bool.false_and, List.cons_append, List.nil_append, isN, h1, h1', h2, h2', h3, y1, y2]
  by_cases h4 : 122 < bt s 0
  · obtain ⟨l', y1, y2⟩ := z2 (by omega)
    simp only [F56, go_sem, List.set_cons_zero, List.set_cons_succ, List.take_succ_cons, and_false, false_and, and_true, true_and, Nat.reduceAdd, Nat.reduceEqDiff, Nat.reduceLT, ↓reduceIte, decide_eq_true_eq, List.take_nil, beq_self_eq_true, bne_self_eq_false, List.take_zero, List.map_cons, List.map_nil, Int.reduceNeg, Bool.and_true, and_self, Bool.true_and, Bool.and_self, ne_eq, not_true_eq_false, decide_false, decide_true, Bool.false_eq_true, Nat.reduceAdd, Option.map_some, Option.map_none, Option.bind_some, Option.bind_none, List.length_nil, List.length_cons, List.append_nil, Bool.and_false, w64, demV_sl, Int.cast_ofNat_Int, Int.reduceLT, Int.reduceAdd, Int.reduceSub, Int.reduceLE, Int.reduceEq, Int.reduceToNat, Int.toNat_natCast, Nat.reduceSub, Nat.reduceMul, Nat.reduceLeDiff, Nat.zero_add, Int.zero_add, not_false_eq_true, Bool.not_true, Bool.not_false, Bool.false_and, List.cons_append, List.nil_append, isN, h1, h1', h2, h2', h3, h4, y1, y2]
  obtain ⟨x1, x2⟩ := l56 s (by omega) (s.length - 1) 1 (by omega) (by omega)
  have ec : ((1 : Nat) : Int) = 1 := rfl
  rw [ec] at x1 x2
  have z := z1 (by omega)
  cases hn : nmT s (s.length - 1) 1 with
  | true => simp only [F56, go_sem, List.set_cons_zero, List.set_cons_succ, List.take_succ_cons, and_false, false_and, and_true, true_and, Nat.reduceAdd, Nat.reduceEqDiff, Nat.reduceLT, ↓reduceIte, decide_eq_true_eq, List.take_nil, beq_self_eq_true, bne_self_eq_false, List.take_zero, List.map_cons, List.map_nil, Int.reduceNeg, Bool.and_true, and_self, Bool.true_and, Bool.and_self, ne_eq, not_true_eq_false, decide_false, decide_true, Bool.false_eq_true, Nat.reduceAdd, Option.map_some, Option.map_none, Option.bind_some, Option.bind_none, List.length_nil, List.length_cons, List.append_nil, Bool.and_false, w64, demV_sl, Int.cast_ofNat_Int, Int.reduceLT, Int.reduceAdd, Int.reduceSub, Int.reduceLE, Int.reduceEq, Int.reduceToNat, Int.toNat_natCast, Nat.reduceSub, Nat.reduceMul, Nat.reduceLeDiff, Nat.zero_add, Int.zero_add, not_false_eq_true, Bool.not_true, Bool.not_false, Bool.false_and, List.cons_append, List.nil_append, isN, h1, h1', h2, h2', h3, h4, z, x1 hn, hn]
  | false =>
    obtain ⟨l', y1, y2⟩ := x2 hn
    simp only [F56, go_sem, List.set_cons_zero, List.set_cons_succ, List.take_succ_cons, and_false, false_and, and_true, true_and, Nat.reduceAdd, Nat.reduceEqDiff, Nat.reduceLT, ↓reduceIte, decide_eq_true_eq, List.take_nil, beq_self_eq_true, bne_self_eq_false, List.take_zero, List.map_cons, List.map_nil, Int.reduceNeg, Bool.and_true, and_self, Bool.true_and, Bool.and_self, ne_eq, not_true_eq_false, decide_false, decide_true, Bool.false_eq_true, Nat.reduceAdd, Option.map_some, Option.map_none, Option.bind_some, Option.bind_none, List.length_nil, List.length_cons, List.append_nil, Bool.and_false, w64, demV_sl, Int.cast_ofNat_Int, Int.reduceLT, Int.reduceAdd, Int.reduceSub, Int.reduceLE, Int.reduceEq, Int.reduceToNat, Int.toNat_natCast, Nat.reduceSub, Nat.reduceMul, Nat.reduceLeDiff, Nat.zero_add, Int.zero_add, not_false_eq_true, Bool.not_true, Bool.not_false, Bool.false_and, List.cons_append, List.nil_append, isN, h1, h1', h2, h2', h3, h4, z, y1, y2, hn]
end Go.Av
