/- A part of the proof: D4. No conditions. -/
import Derived.Test.YthbgidickbhojaaD3
set_option linter.unusedSimpArgs false
set_option linter.unusedVariables false
namespace Go.Av
set_option linter.unusedSimpArgs false
set_option maxHeartbeats 4000000
theorem l63 (s : List UInt8) (hs : s.length ≤ 1000000) : ∀ (k n : Nat), s.length ≤ n + k → n ≤ s.length →
    ∃ l', execX G0 L63_0 (ST [(0, .str s), (3, .int .i64 n), (13, .bool false)] [] []) = some (.ex 0, ST l' [] []) ∧ look .any l' 3 = .int .i64 (jn wdI 39 45 s k n)
  | 0, n, h1, h2 => by
    have h3 : ¬ (n : Int) < (s.length : Int) := by omega
    refine Exists.intro ?_ (And.intro ?_ ?_)
    rotate_left 1
    · rw [Y_loop (L := L63_0) rfl]
      simp only [go_sem, and_false, false_and, and_true, true_and, Nat.reduceAdd, Nat.reduceEqDiff, Nat.reduceLT, ↓reduceIte, decide_eq_true_eq, List.take_nil, beq_self_eq_true, bne_self_eq_false, List.take_zero, List.map_cons, List.map_nil, Int.reduceNeg, Bool.and_true, and_self, Bool.true_and, Bool.and_self, ne_eq, not_true_eq_false, decide_false, decide_true, Bool.false_eq_true, Nat.reduceAdd, Option.map_some, Option.map_none, Option.bind_some, Option.bind_none, List.length_nil, List.length_cons, List.append_nil, Bool.and_false, w64, demV_sl, Int.cast_ofNat_Int, Int.reduceLT, Int.reduceAdd, Int.reduceSub, Int.reduceLE, Int.reduceEq, Int.reduceToNat, Int.toNat_natCast, Nat.reduceSub, Nat.reduceMul, Nat.reduceLeDiff, Nat.zero_add, Int.zero_add, not_false_eq_true, Bool.not_true, Bool.not_false, Bool.false_and, List.cons_append, List.nil_append, h3, jn]
      rfl
    · rfl
  | k + 1, n, h1, h2 => by
    by_cases h3 : n < s.length
    · have h4 : (n : Int) < (s.length : Int) := by omega
      have h5 := at_bt h3
      have h0 : (0 : Int) ≤ (n : Int) := by omega
      have hw : IntKind.i64.wrap ((n : Int) + 1) = ((n + 1 : Nat) : Int) := by rw [w64 (by omega) (by omega)]; rfl
      have hw2 : IntKind.i64.wrap ((n : Int) + 2) = ((n + 2 : Nat) : Int) := by rw [w64 (by omega) (by omega)]; rfl
      by_cases h6 : wdI (bt s n) = true
      · obtain ⟨l', ih, ih2⟩ := l63 s hs k (n + 1) (by omega) (by omega)
        have e : jn wdI 39 45 s (k + 1) n = jn wdI 39 45 s k (n + 1) := by simp only [jn, h3, h6, if_true]
        rw [e]
        refine ⟨l', ?_, ih2⟩
        rw [Y_loop (L := L63_0) rfl]
        by_cases c4 : clsI (bt s n) = 4
        · simp only [go_sem, and_false, false_and, and_true, true_and, Nat.reduceAdd, Nat.reduceEqDiff, Nat.reduceLT, ↓reduceIte, decide_eq_true_eq, List.take_nil, beq_self_eq_true, bne_self_eq_false, List.take_zero, List.map_cons, List.map_nil, Int.reduceNeg, Bool.and_true, and_self, Bool.true_and, Bool.and_self, ne_eq, not_true_eq_false, decide_false, decide_true, Bool.false_eq_true, Nat.reduceAdd, Option.map_some, Option.map_none, Option.bind_some, Option.bind_none, List.length_nil, List.length_cons, List.append_nil, Bool.and_false, w64, demV_sl, Int.cast_ofNat_Int, Int.reduceLT, Int.reduceAdd, Int.reduceSub, Int.reduceLE, Int.reduceEq, Int.reduceToNat, Int.toNat_natCast, Nat.reduceSub, Nat.reduceMul, Nat.reduceLeDiff, Nat.zero_add, Int.zero_add, not_false_eq_true, Bool.not_true, Bool.not_false, Bool.false_and, List.cons_append, List.nil_append, h4, h5, h0, btd, c79, c4, hw]
          exact ih
        · have c3 : clsI (bt s n) = 3 := by simpa [wdI, c4] using h6
          simp only [go_sem, and_false, false_and, and_true, true_and, Nat.reduceAdd, Nat.reduceEqDiff, Nat.reduceLT, ↓reduceIte, decide_eq_true_eq, List.take_nil, beq_self_eq_true, bne_self_eq_false, List.take_zero, List.map_cons, List.map_nil, Int.reduceNeg, Bool.and_true, and_self, Bool.true_and, Bool.and_self, ne_eq, not_true_eq_false, decide_false, decide_true, Bool.false_eq_true, Nat.reduceAdd, Option.map_some, Option.map_none, Option.bind_some, Option.bind_none, List.length_nil, List.length_cons, List.append_nil, Bool.and_false, w64, demV_sl, Int.cast_ofNat_Int, Int.reduceLT, Int.reduceAdd, Int.reduceSub, Int.reduceLE, Int.reduceEq, Int.reduceToNat, Int.toNat_natCast, Nat.reduceSub, Nat.reduceMul, Nat.reduceLeDiff, Nat.zero_add, Int.zero_add, not_false_eq_true, Bool.not_true, Bool.not_false, Bool.false_and, List.cons_append, List.nil_append, h4, h5, h0, btd, c79, c4, c3, hw]
          exact ih
      · have c4 : ¬ clsI (bt s n) = 4 := by intro h; simp [wdI, h] at h6
        have c3 : ¬ clsI (bt s n) = 3 := by intro h; simp [wdI, h] at h6
        have h6' : wdI (bt s n) = false := by simpa using h6
        have h9 : (0 : Int) ≤ ((n + 1 : Nat) : Int) := by omega
        by_cases h12 : bt s n = 39 ∨ bt s n = 45
        · by_cases h8 : n + 1 < s.length
          · have h8' : ((n + 1 : Nat) : Int) < (s.length : Int) := by omega
            have h10 := at_bt h8
            by_cases h11 : wdI (bt s (n + 1)) = true
            · obtain ⟨l', ih, ih2⟩ := l63 s hs k (n + 2) (by omega) (by omega)
              have e : jn wdI 39 45 s (k + 1) n = jn wdI 39 45 s k (n + 2) := by
                simp only [jn]
                rw [if_pos h3, if_neg h6, if_pos ⟨h12, h8, h11⟩]
              rw [e]
              refine ⟨l', ?_, ih2⟩
              rw [Y_loop (L := L63_0) rfl]
              have d : (bt s n = 39) = True ∨ ((bt s n = 39) = False ∧ (bt s n = 45) = True) := by
                by_cases hq : bt s n = 39
                · exact .inl (eq_true hq)
                · exact .inr ⟨eq_false hq, eq_true (h12.resolve_left hq)⟩
              by_cases d4 : clsI (bt s (n + 1)) = 4
              · rcases d with d | ⟨d, d'⟩
                · simp only [go_sem, and_false, false_and, and_true, true_and, Nat.reduceAdd, Nat.reduceEqDiff, Nat.reduceLT, ↓reduceIte, decide_eq_true_eq, List.take_nil, beq_self_eq_true, bne_self_eq_false, List.take_zero, List.map_cons, List.map_nil, Int.reduceNeg, Bool.and_true, and_self, Bool.true_and, Bool.and_self, ne_eq, not_true_eq_false, decide_false, decide_true, Bool.false_eq_true, Nat.reduceAdd, Option.map_some, Option.map_none, Option.bind_some, Option.bind_none, List.length_nil, List.length_cons, List.append_nil, Bool.and_false, w64, demV_sl, Int.cast_ofNat_Int, Int.reduceLT, Int.reduceAdd, Int.reduceSub, Int.reduceLE, Int.reduceEq, Int.reduceToNat, Int.toNat_natCast, Nat.reduceSub, Nat.reduceMul, Nat.reduceLeDiff, Nat.zero_add, Int.zero_add, not_false_eq_true, Bool.not_true, Bool.not_false, Bool.false_and, List.cons_append, List.nil_append, h4, h5, h0, btd, c79, c4, c3, hw, hw2, d, h8', h9, h10, d4]
                  exact ih
                · simp only [go_sem, and_false, false_and, and_true, true_and, Nat.reduceAdd, Nat.reduceEqDiff, Nat.reduceLT, ↓reduceIte, decide_eq_true_eq, List.take_nil, beq_self_eq_true, bne_self_eq_false, List.take_zero, List.map_cons, List.map_nil, Int.reduceNeg, Bool.and_true, and_self, Bool.true_and, Bool.and_self, ne_eq, not_true_eq_false, decide_false, decide_true, Bool.false_eq_true, Nat.reduceAdd, Option.map_some, Option.map_none, Option.bind_some, Option.bind_none, List.length_nil, List.length_cons, List.append_nil, Bool.and_false, w64, demV_sl, Int.cast_ofNat_Int, Int.reduceLT, Int.reduceAdd, Int.reduceSub, Int.reduceLE, Int.reduceEq, Int.reduceToNat, Int.toNat_natCast, Nat.reduceSub, Nat.reduceMul, Nat.reduceLeDiff, Nat.zero_add, Int.zero_add, not_false_eq_true, Bool.not_true, Bool.not_false, Bool.false_and, List.cons_append, List.nil_append, h4, h5, h0, btd, c79, c4, c3, hw, hw2, d, d', h8', h9, h10, d4]
                  exact ih
              · have d3 : clsI (bt s (n + 1)) = 3 := by simpa [wdI, d4] using h11
                rcases d with d | ⟨d, d'⟩
                · simp only [go_sem, and_false, false_and, and_true, true_and, Nat.reduceAdd, Nat.reduceEqDiff, Nat.reduceLT, ↓reduceIte, decide_eq_true_eq, List.take_nil, beq_self_eq_true, bne_self_eq_false, List.take_zero, List.map_cons, List.map_nil, Int.reduceNeg, Bool.and_true, and_self, Bool.true_and, Bool.and_self, ne_eq, not_true_eq_false, decide_false, decide_true, Bool.false_eq_true, Nat.reduceAdd, Option.map_some, Option.map_none, Option.bind_some, Option.bind_none, List.length_nil, List.length_cons, List.append_nil, Bool.and_false, w64, demV_sl, Int.cast_ofNat_Int, Int.reduceLT, Int.reduceAdd, Int.reduceSub, Int.reduceLE, Int.reduceEq, Int.reduceToNat, Int.toNat_natCast, Nat.reduceSub, Nat.reduceMul, Nat.reduceLeDiff, Nat.zero_add, Int.zero_add, not_false_eq_true, Bool.not_true, Bool.not_false, Bool.false_and, List.cons_append, List.nil_append, h4, h5, h0, btd, c79, c4, c3, hw, hw2, d, h8', h9, h10, d4, d3]
                  exact ih
                · simp only [go_sem, and_false, false_and, and_true, true_and, Nat.reduceAdd, Nat.reduceEqDiff, Nat.reduceLT, ↓reduceIte, decide_eq_true_eq, List.take_nil, beq_self_eq_true, bne_self_eq_false, List.take_zero, List.map_cons, List.map_nil, Int.reduceNeg, Bool.and_true, and_self, Bool.true_and, Bool.and_self, ne_eq, not_true_eq_false, decide_false, decide_true, Bool.false_eq_true, Nat.reduceAdd, Option.map_some, Option.map_none, Option.bind_some, Option.bind_none, List.length_nil, List.length_cons, List.append_nil, Bool.and_false, w64, demV_sl, Int.cast_ofNat_Int, Int.reduceLT, Int.reduceAdd, Int.reduceSub, Int.reduceLE, Int.reduceEq, Int.reduceToNat, Int.toNat_natCast, Nat.reduceSub, Nat.reduceMul, Nat.reduceLeDiff, Nat.zero_add, Int.zero_add, not_false_eq_true, Bool.not_true, Bool.not_false, Bool.false_and, List.cons_append, List.nil_append, h4, h5, h0, btd, c79, c4, c3, hw, hw2, d, d', h8', h9, h10, d4, d3]
                  exact ih
            · have e : jn wdI 39 45 s (k + 1) n = n := by
                simp only [jn]
                rw [if_pos h3, if_neg h6, if_neg (fun h => h11 h.2.2)]
              have d4 : ¬ clsI (bt s (n + 1)) = 4 := by intro h; simp [wdI, h] at h11
              have d3 : ¬ clsI (bt s (n + 1)) = 3 := by intro h; simp [wdI, h] at h11
              rw [e]
              have d : (bt s n = 39) = True ∨ ((bt s n = 39) = False ∧ (bt s n = 45) = True) := by
                by_cases hq : bt s n = 39
                · exact .inl (eq_true hq)
                · exact .inr ⟨eq_false hq, eq_true (h12.resolve_left hq)⟩
              rcases d with d | ⟨d, d'⟩
              · refine Exists.intro ?_ (And.intro ?_ ?_)
                rotate_left 1
                · rw [Y_loop (L := L63_0) rfl]
                  simp only [go_sem, and_false, false_and, and_true, true_and, Nat.reduceAdd, Nat.reduceEqDiff, Nat.reduceLT, ↓reduceIte, decide_eq_true_eq, List.take_nil, beq_self_eq_true, bne_self_eq_false, List.take_zero, List.map_cons, List.map_nil, Int.reduceNeg, Bool.and_true, and_self, Bool.true_and, Bool.and_self, ne_eq, not_true_eq_false, decide_false, decide_true, Bool.false_eq_true, Nat.reduceAdd, Option.map_some, Option.map_none, Option.bind_some, Option.bind_none, List.length_nil, List.length_cons, List.append_nil, Bool.and_false, w64, demV_sl, Int.cast_ofNat_Int, Int.reduceLT, Int.reduceAdd, Int.reduceSub, Int.reduceLE, Int.reduceEq, Int.reduceToNat, Int.toNat_natCast, Nat.reduceSub, Nat.reduceMul, Nat.reduceLeDiff, Nat.zero_add, Int.zero_add, not_false_eq_true, Bool.not_true, Bool.not_false, Bool.false_and, List.cons_append, List.nil_append, h4, h5, h0, btd, c79, c4, c3, hw, hw2, d, h8', h9, h10, d4, d3]
                  rfl
                · rfl
              · refine Exists.intro ?_ (And.intro ?_ ?_)
                rotate_left 1
                · rw [Y_loop (L := L63_0) rfl]
                  simp only [go_sem, and_false, false_and, and_true, true_and, Nat.reduceAdd, Nat.reduceEqDiff, Nat.reduceLT, ↓reduceIte, decide_eq_true_eq, List.take_nil, beq_self_eq_true, bne_self_eq_false, List.take_zero, List.map_cons, List.map_nil, Int.reduceNeg, Bool.and_true, and_self, Bool.true_and, Bool.and_self, ne_eq, not_true_eq_false, decide_false, decide_true, Bool.false_eq_true, Nat.reduceAdd, Option.map_some, Option.map_none, Option.bind_some, Option.bind_none, List.length_nil, List.length_cons, List.append_nil, Bool.and_false, w64, demV_sl, Int.cast_ofNat_Int, Int.reduceLT, Int.reduceAdd, Int.reduceSub, Int.reduceLE, Int.reduceEq, Int.reduceToNat, Int.toNat_natCast, Nat.reduceSub, Nat.reduceMul, Nat.reduceLeDiff, Nat.zero_add, Int.zero_add, not_false_eq_true, Bool.not_true, Bool.not_false, Bool.false_and, List.cons_append, List.nil_append, h4, h5, h0, btd, c79, c4, c3, hw, hw2, d, d', h8', h9, h10, d4, d3]
                  rfl
                · rfl
          · have h8' : ¬ ((n + 1 : Nat) : Int) < (s.length : Int) := by omega
            have e : jn wdI 39 45 s (k + 1) n = n := by
              simp only [jn]
              rw [if_pos h3, if_neg h6, if_neg (fun h => h8 h.2.1)]
            rw [e]
            have d : (bt s n = 39) = True ∨ ((bt s n = 39) = False ∧ (bt s n = 45) = True) := by
              by_cases hq : bt s n = 39
              · exact .inl (eq_true hq)
              · exact .inr ⟨eq_false hq, eq_true (h12.resolve_left hq)⟩
            rcases d with d | ⟨d, d'⟩
            · refine Exists.intro ?_ (And.intro ?_ ?_)
              rotate_left 1
              · rw [Y_loop (L := L63_0) rfl]
                simp only [go_sem, and_false, false_and, and_true, true_and, Nat.reduceAdd, Nat.reduceEqDiff, Nat.reduceLT, ↓reduceIte, decide_eq_true_eq, List.take_nil, beq_self_eq_true, bne_self_eq_false, List.take_zero, List.map_cons, List.map_nil, Int.reduceNeg, Bool.and_true, and_self, Bool.true_and, Bool.and_self, ne_eq, not_true_eq_false, decide_false, decide_true, Bool.false_eq_true, Nat.reduceAdd, Option.map_some, Option.map_none, Option.bind_some, Option.bind_none, List.length_nil, List.length_cons, List.append_nil, Bool.and_false, w64, demV_sl, Int.cast_ofNat_Int, Int.reduceLT, Int.reduceAdd, Int.reduceSub, Int.reduceLE, Int.reduceEq, Int.reduceToNat, Int.toNat_natCast, Nat.reduceSub, Nat.reduceMul, Nat.reduceLeDiff, Nat.zero_add, Int.zero_add, not_false_eq_true, Bool.not_true, Bool.not_false, Bool.false_and, List.cons_append, List.nil_append, h4, h5, h0, btd, c79, c4, c3, hw, hw2, d, h8', h9]
                rfl
              · rfl
            · refine Exists.intro ?_ (And.intro ?_ ?_)
              rotate_left 1
              · rw [Y_loop (L := L63_0) rfl]
                simp only [go_sem, and_false, false_and, and_true, true_and, Nat.reduceAdd, Nat.reduceEqDiff, Nat.reduceLT, ↓reduceIte, decide_eq_true_eq, List.take_nil, beq_self_eq_true, bne_self_eq_false, List.take_zero, List.map_cons, List.map_nil, Int.reduceNeg, Bool.and_true, and_self, Bool.true_and, Bool.and_self, ne_eq, not_true_eq_false, decide_false, decide_true, Bool.false_eq_true, Nat.reduceAdd, Option.map_some, Option.map_none, Option.bind_some, Option.bind_none, List.length_nil, List.length_cons, List.append_nil, Bool.and_false, w64, demV_sl, Int.cast_ofNat_Int, Int.reduceLT, Int.reduceAdd, Int.reduceSub, Int.reduceLE, Int.reduceEq, Int.reduceToNat, Int.toNat_natCast, Nat.reduceSub, Nat.reduceMul, Nat.reduceLeDiff, Nat.zero_add, Int.zero_add, not_false_eq_true, Bool.not_true, Bool.not_false, Bool.false_and, List.cons_append, List.nil_append, h4, h5, h0, btd, c79, c4, c3, hw, hw2, d, d', h8', h9]
                rfl
              · rfl
        · have e : jn wdI 39 45 s (k + 1) n = n := by
            simp only [jn]
            rw [if_pos h3, if_neg h6, if_neg (fun h => h12 h.1)]
          rw [e]
          have d : (bt s n = 39) = False := eq_false (fun h => h12 (.inl h))
          have d' : (bt s n = 45) = False := eq_false (fun h => h12 (.inr h))
          refine Exists.intro ?_ (And.intro ?_ ?_)
          rotate_left 1
          · rw [Y_loop (L := L63_0) rfl]
            simp only [go_sem, and_false, false_and, and_true, true_and, Nat.reduceAdd, Nat.reduceEqDiff, Nat.reduceLT, ↓reduceIte, decide_eq_true_eq, List.take_nil, beq_self_eq_true, bne_self_eq_false, List.take_zero, List.map_cons, List.map_nil, Int.reduceNeg, Bool.and_true, and_self, Bool.true_and, Bool.and_self, ne_eq, not_true_eq_false, decide_false, decide_true, Bool.false_eq_true, Nat.reduceAdd, Option.map_some, Option.map_none, Option.bind_some, Option.bind_none, List.length_nil, List.length_cons, List.append_nil, Bool.and_false, w64, demV_sl, Int.cast_ofNat_Int, Int.reduceLT, Int.reduceAdd, Int.reduceSub, Int.reduceLE, Int.reduceEq, Int.reduceToNat, Int.toNat_natCast, Nat.reduceSub, Nat.reduceMul, Nat.reduceLeDiff, Nat.zero_add, Int.zero_add, not_false_eq_true, Bool.not_true, Bool.not_false, Bool.false_and, List.cons_append, List.nil_append, h4, h5, h0, btd, c79, c4, c3, hw, hw2, d, d', h9]
            rfl
          · rfl
    · have h4 : ¬ (n : Int) < (s.length : Int) := by omega
      have e : jn wdI 39 45 s (k + 1) n = n := by simp only [jn, h3, if_false]
      rw [e]
      refine Exists.intro ?_ (And.intro ?_ ?_)
      rotate_left 1
      · rw [Y_loop (L := L63_0) rfl]
        simp only [go_sem, and_false, false_and, and_true, true_and, Nat.reduceAdd, Nat.reduceEqDiff, Nat.reduceLT, ↓reduceIte, decide_eq_true_eq, List.take_nil, beq_self_eq_true, bne_self_eq_false, List.take_zero, List.map_cons, List.map_nil, Int.reduceNeg, Bool.and_true, and_self, Bool.true_and, Bool.and_self, ne_eq, not_true_eq_false, decide_false, decide_true, Bool.false_eq_true, Nat.reduceAdd, Option.map_some, Option.map_none, Option.bind_some, Option.bind_none, List.length_nil, List.length_cons, List.append_nil, Bool.and_false, w64, demV_sl, Int.cast_ofNat_Int, Int.reduceLT, Int.reduceAdd, Int.reduceSub, Int.reduceLE, Int.reduceEq, Int.reduceToNat, Int.toNat_natCast, Nat.reduceSub, Nat.reduceMul, Nat.reduceLeDiff, Nat.zero_add, Int.zero_add, not_false_eq_true, Bool.not_true, Bool.not_false, Bool.false_and, List.cons_append, List.nil_append, h4]
        rfl
      · rfl
end Go.Av
