/- A part of the proof: D2. No conditions. -/
import Derived.Test.YthbgidickbhojaaD1
set_option linter.unusedSimpArgs false
set_option linter.unusedVariables false
namespace Go.Av
set_option linter.unusedSimpArgs false
set_option maxHeartbeats 4000000
theorem killl_killl (kl : List Nat) : ∀ l : List (Nat × AV), killl kl (killl kl l) = killl kl l
  | [] => rfl
  | (k, v) :: l => by
    have ih := killl_killl kl l
    rw [killl_cons]
    split
    · exact ih
    · rename_i h
      rw [killl_cons, if_neg h, ih]
      congr 1
      cases v <;> try rfl
      rename_i s o
      show (k, scrubV kl (if s ∈ kl then AV.any else AV.loc s o)) = (k, (if s ∈ kl then AV.any else AV.loc s o))
      by_cases hs : s ∈ kl <;> simp [scrubV, hs]
theorem dropl_dropl {α : Type} (kl : List Nat) : ∀ l : List (Nat × α), dropl kl (dropl kl l) = dropl kl l
  | [] => rfl
  | (k, v) :: l => by
    have ih := dropl_dropl kl l
    rw [dropl_cons]
    split
    · exact ih
    · rename_i h
      rw [dropl_cons, if_neg h, ih]
theorem loop_kill {G : Calls'} {l : List (Nat × AV)} {m : List (Nat × Option (List AV))} {sh : List (List AV)} {L : ACode} {kl : List Nat} {a : ACode} (h : L = .loop kl a) : execX G L (ST l m sh) = execX G L (ST (killl kl l) (dropl kl m) sh) := by
  subst h
  rw [X_loop, X_loop, killl_killl, dropl_dropl]
def jn (inn : Int → Bool) (a b : Int) (s : List UInt8) : Nat → Nat → Nat
  | 0, n => n
  | k + 1, n => if n < s.length then (if inn (bt s n) = true then jn inn a b s k (n + 1) else if (bt s n = a ∨ bt s n = b) ∧ n + 1 < s.length ∧ inn (bt s (n + 1)) = true then jn inn a b s k (n + 2) else n) else n
theorem btd (s : List UInt8) (n : Nat) : (((s.getD n 0).toNat : Nat) : Int) = bt s n := rfl
theorem l76 (g : Nat) (inn : Int → Bool) (hg : ∀ x, G0 g [.int .u8 x] [] = some (.bool (inn x), [])) (a b : UInt8) (s : List UInt8) (hs : s.length ≤ 1000000) : ∀ (k n : Nat), s.length ≤ n + k → n ≤ s.length →
    (s.length ≤ jn inn a.toNat b.toNat s k n → execX G0 L76_0 (ST [(0, .str s), (1, .str [a, b]), (2, .fn g []), (7, .int .i64 n)] [] []) = some (.ex 0, ST [(0, .str s), (1, .str [a, b]), (2, .fn g []), (7, .int .i64 (jn inn a.toNat b.toNat s k n)), (11, .bool false)] [] [])) ∧
    (jn inn a.toNat b.toNat s k n < s.length → execX G0 L76_0 (ST [(0, .str s), (1, .str [a, b]), (2, .fn g []), (7, .int .i64 n)] [] []) = some (.ret, ST [(0, .str s), (1, .str [a, b]), (2, .fn g []), (6, .int .i64 (jn inn a.toNat b.toNat s k n)), (11, .bool true), (13, .bool false), (21, .bool false)] [] []))
  | 0, n, h1, h2 => by
    have h3 : ¬ (n : Int) < (s.length : Int) := by omega
    refine ⟨fun _ => ?_, fun h => absurd h (by simp only [jn]; omega)⟩
    rw [Y_loop (L := L76_0) rfl]
    simp only [go_sem, and_false, false_and, and_true, true_and, Nat.reduceAdd, Nat.reduceEqDiff, Nat.reduceLT, ↓reduceIte, decide_eq_true_eq, List.take_nil, beq_self_eq_true, bne_self_eq_false, List.take_zero, List.map_cons, List.map_nil, Int.reduceNeg, Bool.and_true, and_self, Bool.true_and, Bool.and_self, ne_eq, not_true_eq_false, decide_false, decide_true, Bool.false_eq_true, Nat.reduceAdd, Option.map_some, Option.map_none, Option.bind_some, Option.bind_none, List.length_nil, List.length_cons, List.append_nil, Bool.and_false, w64, demV_sl, Int.cast_ofNat_Int, Int.reduceLT, Int.reduceAdd, Int.reduceSub, Int.reduceLE, Int.reduceEq, Int.reduceToNat, Int.toNat_natCast, Nat.reduceSub, Nat.reduceMul, Nat.reduceLeDiff, Nat.zero_add, Int.zero_add, not_false_eq_true, Bool.not_true, Bool.not_false, Bool.false_and, List.cons_append, List.nil_append, h3, jn]
  | k + 1, n, h1, h2 => by
    by_cases h3 : n < s.length
    · have h4 : (n : Int) < (s.length : Int) := by omega
      have h5 := at_bt h3
      have h0 : (0 : Int) ≤ (n : Int) := by omega
      by_cases h6 : inn (bt s n) = true
      · have ih := l76 g inn hg a b s hs k (n + 1) (by omega) (by omega)
        have e : jn inn a.toNat b.toNat s (k + 1) n = jn inn a.toNat b.toNat s k (n + 1) := by simp only [jn, h3, h6, if_true]
        have hw : IntKind.i64.wrap ((n : Int) + 1) = ((n + 1 : Nat) : Int) := by rw [w64 (by omega) (by omega)]; rfl
        rw [e]
        constructor <;> intro h7
        · rw [Y_loop (L := L76_0) rfl]
          simp only [go_sem, and_false, false_and, and_true, true_and, Nat.reduceAdd, Nat.reduceEqDiff, Nat.reduceLT, ↓reduceIte, decide_eq_true_eq, List.take_nil, beq_self_eq_true, bne_self_eq_false, List.take_zero, List.map_cons, List.map_nil, Int.reduceNeg, Bool.and_true, and_self, Bool.true_and, Bool.and_self, ne_eq, not_true_eq_false, decide_false, decide_true, Bool.false_eq_true, Nat.reduceAdd, Option.map_some, Option.map_none, Option.bind_some, Option.bind_none, List.length_nil, List.length_cons, List.append_nil, Bool.and_false, w64, demV_sl, Int.cast_ofNat_Int, Int.reduceLT, Int.reduceAdd, Int.reduceSub, Int.reduceLE, Int.reduceEq, Int.reduceToNat, Int.toNat_natCast, Nat.reduceSub, Nat.reduceMul, Nat.reduceLeDiff, Nat.zero_add, Int.zero_add, not_false_eq_true, Bool.not_true, Bool.not_false, Bool.false_and, List.cons_append, List.nil_append, h4, h5, h0, btd, hg, h6, hw]
          rw [ih.1 h7]
        · rw [Y_loop (L := L76_0) rfl]
          simp only [go_sem, and_false, false_and, and_true, true_and, Nat.reduceAdd, Nat.reduceEqDiff, Nat.reduceLT, ↓reduceIte, decide_eq_true_eq, List.take_nil, beq_self_eq_true, bne_self_eq_false, List.take_zero, List.map_cons, List.map_nil, Int.reduceNeg, Bool.and_true, and_self, Bool.true_and, Bool.and_self, ne_eq, not_true_eq_false, decide_false, decide_true, Bool.false_eq_true, Nat.reduceAdd, Option.map_some, Option.map_none, Option.bind_some, Option.bind_none, List.length_nil, List.length_cons, List.append_nil, Bool.and_false, w64, demV_sl, Int.cast_ofNat_Int, Int.reduceLT, Int.reduceAdd, Int.reduceSub, Int.reduceLE, Int.reduceEq, Int.reduceToNat, Int.toNat_natCast, Nat.reduceSub, Nat.reduceMul, Nat.reduceLeDiff, Nat.zero_add, Int.zero_add, not_false_eq_true, Bool.not_true, Bool.not_false, Bool.false_and, List.cons_append, List.nil_append, h4, h5, h0, btd, hg, h6, hw]
          rw [ih.2 h7]
      · have h6' : inn (bt s n) = false := by simpa using h6
        have hw : IntKind.i64.wrap ((n : Int) + 1) = ((n + 1 : Nat) : Int) := by rw [w64 (by omega) (by omega)]; rfl
        have hw2 : IntKind.i64.wrap ((n : Int) + 2) = ((n + 2 : Nat) : Int) := by rw [w64 (by omega) (by omega)]; rfl
        have h9 : (0 : Int) ≤ ((n + 1 : Nat) : Int) := by omega
        have ab0 : ∀ x y : UInt8, ([x, y] : List UInt8)[(0 : Nat)]? = some x := fun _ _ => rfl
        have ab1 : ∀ x y : UInt8, ([x, y] : List UInt8)[(1 : Nat)]? = some y := fun _ _ => rfl
        by_cases h8 : n + 1 < s.length
        · have h8' : ((n + 1 : Nat) : Int) < (s.length : Int) := by omega
          have h10 := at_bt h8
          have ih := l76 g inn hg a b s hs k (n + 2) (by omega) (by omega)
          have e : jn inn a.toNat b.toNat s (k + 1) n = if (bt s n = a.toNat ∨ bt s n = b.toNat) ∧ inn (bt s (n + 1)) = true then jn inn a.toNat b.toNat s k (n + 2) else n := by
            simp only [jn, h3, h6', h8, if_true, Bool.false_eq_true, if_false, true_and]
          rw [e]
          by_cases h11 : inn (bt s (n + 1)) = true <;> by_cases h12 : bt s n = (a.toNat : Int) <;> by_cases h13 : bt s n = (b.toNat : Int) 
          all_goals try replace h11 : inn (bt s (n + 1)) = false := eq_false_of_ne_true h11
          all_goals first | replace h12 := eq_false h12 | replace h12 := eq_true h12
          all_goals first | replace h13 := eq_false h13 | replace h13 := eq_true h13
          all_goals try simp only [h11, h12, h13, or_true, true_or, or_self, and_self, and_true, and_false, if_true, if_false, Bool.false_eq_true, eq_self]
          all_goals
            constructor <;> intro h7
            all_goals try exact absurd h7 (by omega)
            all_goals
              rw [Y_loop (L := L76_0) rfl]
              simp only [go_sem, and_false, false_and, and_true, true_and, Nat.reduceAdd, Nat.reduceEqDiff, Nat.reduceLT, ↓reduceIte, decide_eq_true_eq, List.take_nil, beq_self_eq_true, bne_self_eq_false, List.take_zero, List.map_cons, List.map_nil, Int.reduceNeg, Bool.and_true, and_self, Bool.true_and, Bool.and_self, ne_eq, not_true_eq_false, decide_false, decide_true, Bool.false_eq_true, Nat.reduceAdd, Option.map_some, Option.map_none, Option.bind_some, Option.bind_none, List.length_nil, List.length_cons, List.append_nil, Bool.and_false, w64, demV_sl, Int.cast_ofNat_Int, Int.reduceLT, Int.reduceAdd, Int.reduceSub, Int.reduceLE, Int.reduceEq, Int.reduceToNat, Int.toNat_natCast, Nat.reduceSub, Nat.reduceMul, Nat.reduceLeDiff, Nat.zero_add, Int.zero_add, not_false_eq_true, Bool.not_true, Bool.not_false, Bool.false_and, List.cons_append, List.nil_append, h4, h5, h0, btd, hg, h6', hw, hw2, ab0, ab1, h12, h13, h8', h9, h10, h11, Int.reduceLE, Int.le_refl]
              try first | rw [ih.1 h7] | rw [ih.2 h7]
        · have h8' : ¬ ((n + 1 : Nat) : Int) < (s.length : Int) := by omega
          have e : jn inn a.toNat b.toNat s (k + 1) n = n := by
            simp only [jn, h3, h6', h8, if_true, Bool.false_eq_true, if_false, false_and, and_false]
          rw [e]
          by_cases h12 : bt s n = (a.toNat : Int) <;> by_cases h13 : bt s n = (b.toNat : Int)
          all_goals first | replace h12 := eq_false h12 | replace h12 := eq_true h12
          all_goals first | replace h13 := eq_false h13 | replace h13 := eq_true h13
          all_goals
            refine ⟨fun h => absurd h (by omega), fun _ => ?_⟩
            rw [Y_loop (L := L76_0) rfl]
            simp only [go_sem, and_false, false_and, and_true, true_and, Nat.reduceAdd, Nat.reduceEqDiff, Nat.reduceLT, ↓reduceIte, decide_eq_true_eq, List.take_nil, beq_self_eq_true, bne_self_eq_false, List.take_zero, List.map_cons, List.map_nil, Int.reduceNeg, Bool.and_true, and_self, Bool.true_and, Bool.and_self, ne_eq, not_true_eq_false, decide_false, decide_true, Bool.false_eq_true, Nat.reduceAdd, Option.map_some, Option.map_none, Option.bind_some, Option.bind_none, List.length_nil, List.length_cons, List.append_nil, Bool.and_false, w64, demV_sl, Int.cast_ofNat_Int, Int.reduceLT, Int.reduceAdd, Int.reduceSub, Int.reduceLE, Int.reduceEq, Int.reduceToNat, Int.toNat_natCast, Nat.reduceSub, Nat.reduceMul, Nat.reduceLeDiff, Nat.zero_add, Int.zero_add, not_false_eq_true, Bool.not_true, Bool.not_false, Bool.false_and, List.cons_append, List.nil_append, h4, h5, h0, btd, hg, h6', hw, hw2, ab0, ab1, h12, h13, h8', Int.reduceLE, Int.le_refl]
    · have h4 : ¬ (n : Int) < (s.length : Int) := by omega
      have e : jn inn a.toNat b.toNat s (k + 1) n = n := by simp only [jn, h3, if_false]
      rw [e]
      refine ⟨fun _ => ?_, fun h => absurd h h3⟩
      rw [Y_loop (L := L76_0) rfl]
      simp only [go_sem, and_false, false_and, and_true, true_and, Nat.reduceAdd, Nat.reduceEqDiff, Nat.reduceLT, ↓reduceIte, decide_eq_true_eq, List.take_nil, beq_self_eq_true, bne_self_eq_false, List.take_zero, List.map_cons, List.map_nil, Int.reduceNeg, Bool.and_true, and_self, Bool.true_and, Bool.and_self, ne_eq, not_true_eq_false, decide_false, decide_true, Bool.false_eq_true, Nat.reduceAdd, Option.map_some, Option.map_none, Option.bind_some, Option.bind_none, List.length_nil, List.length_cons, List.append_nil, Bool.and_false, w64, demV_sl, Int.cast_ofNat_Int, Int.reduceLT, Int.reduceAdd, Int.reduceSub, Int.reduceLE, Int.reduceEq, Int.reduceToNat, Int.toNat_natCast, Nat.reduceSub, Nat.reduceMul, Nat.reduceLeDiff, Nat.zero_add, Int.zero_add, not_false_eq_true, Bool.not_true, Bool.not_false, Bool.false_and, List.cons_append, List.nil_append, h4]
end Go.Av
