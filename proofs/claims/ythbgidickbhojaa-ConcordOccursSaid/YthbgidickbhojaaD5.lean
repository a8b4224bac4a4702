/- A part of the proof: D5. No conditions. -/
import Derived.Test.YthbgidickbhojaaD4
set_option linter.unusedSimpArgs false
set_option linter.unusedVariables false
namespace Go.Av
set_option linter.unusedSimpArgs false
set_option maxHeartbeats 4000000
theorem l64 (s : List UInt8) (hs : s.length ≤ 1000000) : ∀ (k n : Nat), s.length ≤ n + k → n ≤ s.length →
    ∃ l', execX G0 L64_0 (ST [(0, .str s), (3, .int .i64 n), (11, .bool false)] [] []) = some (.ex 0, ST l' [] []) ∧ look .any l' 3 = .int .i64 (jn dgI 46 44 s k n)
  | 0, n, h1, h2 => by
    have h3 : ¬ (n : Int) < (s.length : Int) := by omega
    refine Exists.intro ?_ (And.intro ?_ ?_)
    rotate_left 1
    · rw [Y_loop (L := L64_0) rfl]
      simp only [go_sem, and_false, false_and, and_true, true_and, Nat.reduceAdd, Nat.reduceEqDiff, Nat.reduceLT, ↓reduceIte, decide_eq_true_eq, List.take_nil, beq_self_eq_true, bne_self_eq_false, List.take_zero, List.map_cons, List.map_nil, Int.reduceNeg, Bool.and_true, and_self, Bool.true_and, Bool.and_self, ne_eq, not_true_eq_false, decide_false, decide_true, Bool.false_eq_true, Nat.reduceAdd, Option.map_some, Option.map_none, Option.bind_some, Option.bind_none, List.length_nil, List.length_cons, List.append_nil, Bool.and_false, w64, demV_sl, Int.cast_ofNat_Int, Int.reduceLT, Int.reduceAdd, Int.reduceSub, Int.reduceLE, Int.reduceEq, Int.reduceToNat, Int.toNat_natCast, Nat.reduceSub, Nat.reduceMul, Nat.reduceLeDiff, Nat.zero_add, Int.zero_add, not_false_eq_true, Bool.not_true, Bool.not_false, Bool.false_and, List.cons_append, List.nil_append, h3, jn]
      rfl
    · rfl
  | k + 1, n, h1, h2 => by
    by_cases h3 : n < s.length
    · have h4 : (n : Int) < (s.length : Int) := by omega
      have h5 := at_bt h3
      have h0 : (0 : Int) ≤ (n : Int) := by omega
      have hw : IntKind.i64.wrap ((n : Int) + 1) = ((n + 1 : Nat) : Int) := by rw [w64 (by omega) (by omega)]; rfl
      have hw2 : IntKind.i64.wrap ((n : Int) + 2) = ((n + 2 : Nat) : Int) := by rw [w64 (by omega) (by omega)]; rfl
      by_cases h6 : dgI (bt s n) = true
      · obtain ⟨l', ih, ih2⟩ := l64 s hs k (n + 1) (by omega) (by omega)
        have e : jn dgI 46 44 s (k + 1) n = jn dgI 46 44 s k (n + 1) := by simp only [jn, h3, h6, if_true]
        rw [e]
        refine ⟨l', ?_, ih2⟩
        rw [Y_loop (L := L64_0) rfl]
        have c3 : clsI (bt s n) = 3 := by simpa [dgI] using h6
        simp only [go_sem, and_false, false_and, and_true, true_and, Nat.reduceAdd, Nat.reduceEqDiff, Nat.reduceLT, ↓reduceIte, decide_eq_true_eq, List.take_nil, beq_self_eq_true, bne_self_eq_false, List.take_zero, List.map_cons, List.map_nil, Int.reduceNeg, Bool.and_true, and_self, Bool.true_and, Bool.and_self, ne_eq, not_true_eq_false, decide_false, decide_true, Bool.false_eq_true, Nat.reduceAdd, Option.map_some, Option.map_none, Option.bind_some, Option.bind_none, List.length_nil, List.length_cons, List.append_nil, Bool.and_false, w64, demV_sl, Int.cast_ofNat_Int, Int.reduceLT, Int.reduceAdd, Int.reduceSub, Int.reduceLE, Int.reduceEq, Int.reduceToNat, Int.toNat_natCast, Nat.reduceSub, Nat.reduceMul, Nat.reduceLeDiff, Nat.zero_add, Int.zero_add, not_false_eq_true, Bool.not_true, Bool.not_false, Bool.false_and, List.cons_append, List.nil_append, h4, h5, h0, btd, c79, c3, hw]
        exact ih
      · have c3 : ¬ clsI (bt s n) = 3 := by intro h; simp [dgI, h] at h6
        have h9 : (0 : Int) ≤ ((n + 1 : Nat) : Int) := by omega
        by_cases h12 : bt s n = 46 ∨ bt s n = 44
        · have d : (bt s n = 46) = True ∨ ((bt s n = 46) = False ∧ (bt s n = 44) = True) := by
            by_cases hq : bt s n = 46
            · exact .inl (eq_true hq)
            · exact .inr ⟨eq_false hq, eq_true (h12.resolve_left hq)⟩
          by_cases h8 : n + 1 < s.length
          · have h8' : ((n + 1 : Nat) : Int) < (s.length : Int) := by omega
            have h10 := at_bt h8
            by_cases h11 : dgI (bt s (n + 1)) = true
            · obtain ⟨l', ih, ih2⟩ := l64 s hs k (n + 2) (by omega) (by omega)
              have e : jn dgI 46 44 s (k + 1) n = jn dgI 46 44 s k (n + 2) := by
                simp only [jn]
                rw [if_pos h3, if_neg h6, if_pos ⟨h12, h8, h11⟩]
              rw [e]
              refine ⟨l', ?_, ih2⟩
              rw [Y_loop (L := L64_0) rfl]
              have d3 : clsI (bt s (n + 1)) = 3 := by simpa [dgI] using h11
              rcases d with d | ⟨d, d'⟩
              · simp only [go_sem, and_false, false_and, and_true, true_and, Nat.reduceAdd, Nat.reduceEqDiff, Nat.reduceLT, ↓reduceIte, decide_eq_true_eq, List.take_nil, beq_self_eq_true, bne_self_eq_false, List.take_zero, List.map_cons, List.map_nil, Int.reduceNeg, Bool.and_true, and_self, Bool.true_and, Bool.and_self, ne_eq, not_true_eq_false, decide_false, decide_true, Bool.false_eq_true, Nat.reduceAdd, Option.map_some, Option.map_none, Option.bind_some, Option.bind_none, List.length_nil, List.length_cons, List.append_nil, Bool.and_false, w64, demV_sl, Int.cast_ofNat_Int, Int.reduceLT, Int.reduceAdd, Int.reduceSub, Int.reduceLE, Int.reduceEq, Int.reduceToNat, Int.toNat_natCast, Nat.reduceSub, Nat.reduceMul, Nat.reduceLeDiff, Nat.zero_add, Int.zero_add, not_false_eq_true, Bool.not_true, Bool.not_false, Bool.false_and, List.cons_append, List.nil_append, h4, h5, h0, btd, c79, c3, hw, hw2, d, h8', h9, h10, d3]
                exact ih
              · simp only [go_sem, and_false, false_and, and_true, true_and, Nat.reduceAdd, Nat.reduceEqDiff, Nat.reduceLT, ↓reduceIte, decide_eq_true_eq, List.take_nil, beq_self_eq_true, bne_self_eq_false, List.take_zero, List.map_cons, List.map_nil, Int.reduceNeg, Bool.and_true, and_self, Bool.true_and, Bool.and_self, ne_eq, not_true_eq_false, decide_false, decide_true, Bool.false_eq_true, Nat.reduceAdd, Option.map_some, Option.map_none, Option.bind_some, Option.bind_none, List.length_nil, List.length_cons, List.append_nil, Bool.and_false, w64, demV_sl, Int.cast_ofNat_Int, Int.reduceLT, Int.reduceAdd, Int.reduceSub, Int.reduceLE, Int.reduceEq, Int.reduceToNat, Int.toNat_natCast, Nat.reduceSub, Nat.reduceMul, Nat.reduceLeDiff, Nat.zero_add, Int.zero_add, not_false_eq_true, Bool.not_true, Bool.not_false, Bool.false_and, List.cons_append, List.nil_append, h4, h5, h0, btd, c79, c3, hw, hw2, d, d', h8', h9, h10, d3]
                exact ih
            · have e : jn dgI 46 44 s (k + 1) n = n := by
                simp only [jn]
                rw [if_pos h3, if_neg h6, if_neg (fun h => h11 h.2.2)]
              have d3 : ¬ clsI (bt s (n + 1)) = 3 := by intro h; simp [dgI, h] at h11
              rw [e]
              rcases d with d | ⟨d, d'⟩
              · refine Exists.intro ?_ (And.intro ?_ ?_)
                rotate_left 1
                · rw [Y_loop (L := L64_0) rfl]
                  simp only [go_sem, and_false, false_and, and_true, true_and, Nat.reduceAdd, Nat.reduceEqDiff, Nat.reduceLT, ↓reduceIte, decide_eq_true_eq, List.take_nil, beq_self_eq_true, bne_self_eq_false, List.take_zero, List.map_cons, List.map_nil, Int.reduceNeg, Bool.and_true, and_self, Bool.true_and, Bool.and_self, ne_eq, not_true_eq_false, decide_false, decide_true, Bool.false_eq_true, Nat.reduceAdd, Option.map_some, Option.map_none, Option.bind_some, Option.bind_none, List.length_nil, List.length_cons, List.append_nil, Bool.and_false, w64, demV_sl, Int.cast_ofNat_Int, Int.reduceLT, Int.reduceAdd, Int.reduceSub, Int.reduceLE, Int.reduceEq, Int.reduceToNat, Int.toNat_natCast, Nat.reduceSub, Nat.reduceMul, Nat.reduceLeDiff, Nat.zero_add, Int.zero_add, not_false_eq_true, Bool.not_true, Bool.not_false, Bool.false_and, List.cons_append, List.nil_append, h4, h5, h0, btd, c79, c3, hw, hw2, d, h8', h9, h10, d3]
                  rfl
                · rfl
              · refine Exists.intro ?_ (And.intro ?_ ?_)
                rotate_left 1
                · rw [Y_loop (L := L64_0) rfl]
                  simp only [go_sem, and_false, false_and, and_true, true_and, Nat.reduceAdd, Nat.reduceEqDiff, Nat.reduceLT, ↓reduceIte, decide_eq_true_eq, List.take_nil, beq_self_eq_true, bne_self_eq_false, List.take_zero, List.map_cons, List.map_nil, Int.reduceNeg, Bool.and_true, and_self, Bool.true_and, Bool.and_self, ne_eq, not_true_eq_false, decide_false, decide_true, Bool.false_eq_true, Nat.reduceAdd, Option.map_some, Option.map_none, Option.bind_some, Option.bind_none, List.length_nil, List.length_cons, List.append_nil, Bool.and_false, w64, demV_sl, Int.cast_ofNat_Int, Int.reduceLT, Int.reduceAdd, Int.reduceSub, Int.reduceLE, Int.reduceEq, Int.reduceToNat, Int.toNat_natCast, Nat.reduceSub, Nat.reduceMul, Nat.reduceLeDiff, Nat.zero_add, Int.zero_add, not_false_eq_true, Bool.not_true, Bool.not_false, Bool.false_and, List.cons_append, List.nil_append, h4, h5, h0, btd, c79, c3, hw, hw2, d, d', h8', h9, h10, d3]
                  rfl
                · rfl
          · have h8' : ¬ ((n + 1 : Nat) : Int) < (s.length : Int) := by omega
            have e : jn dgI 46 44 s (k + 1) n = n := by
              simp only [jn]
              rw [if_pos h3, if_neg h6, if_neg (fun h => h8 h.2.1)]
            rw [e]
            rcases d with d | ⟨d, d'⟩
            · refine Exists.intro ?_ (And.intro ?_ ?_)
              rotate_left 1
              · rw [Y_loop (L := L64_0) rfl]
                simp only [go_sem, and_false, false_and, and_true, true_and, Nat.reduceAdd, Nat.reduceEqDiff, Nat.reduceLT, ↓reduceIte, decide_eq_true_eq, List.take_nil, beq_self_eq_true, bne_self_eq_false, List.take_zero, List.map_cons, List.map_nil, Int.reduceNeg, Bool.and_true, and_self, Bool.true_and, Bool.and_self, ne_eq, not_true_eq_false, decide_false, decide_true, Bool.false_eq_true, Nat.reduceAdd, Option.map_some, Option.map_none, Option.bind_some, Option.bind_none, List.length_nil, List.length_cons, List.append_nil, Bool.and_false, w64, demV_sl, Int.cast_ofNat_Int, Int.reduceLT, Int.reduceAdd, Int.reduceSub, Int.reduceLE, Int.reduceEq, Int.reduceToNat, Int.toNat_natCast, Nat.reduceSub, Nat.reduceMul, Nat.reduceLeDiff, Nat.zero_add, Int.zero_add, not_false_eq_true, Bool.not_true, Bool.not_false, Bool.false_and, List.cons_append, List.nil_append, h4, h5, h0, btd, c79, c3, hw, hw2, d, h8', h9]
                rfl
              · rfl
            · refine Exists.intro ?_ (And.intro ?_ ?_)
              rotate_left 1
              · rw [Y_loop (L := L64_0) rfl]
                simp only [go_sem, and_false, false_and, and_true, true_and, Nat.reduceAdd, Nat.reduceEqDiff, Nat.reduceLT, ↓reduceIte, decide_eq_true_eq, List.take_nil, beq_self_eq_true, bne_self_eq_false, List.take_zero, List.map_cons, List.map_nil, Int.reduceNeg, Bool.and_true, and_self, Bool.true_and, Bool.and_self, ne_eq, not_true_eq_false, decide_false, decide_true, Bool.false_eq_true, Nat.reduceAdd, Option.map_some, Option.map_none, Option.bind_some, Option.bind_none, List.length_nil, List.length_cons, List.append_nil, Bool.and_false, w64, demV_sl, Int.cast_ofNat_Int, Int.reduceLT, Int.reduceAdd, Int.reduceSub, Int.reduceLE, Int.reduceEq, Int.reduceToNat, Int.toNat_natCast, Nat.reduceSub, Nat.reduceMul, Nat.reduceLeDiff, Nat.zero_add, Int.zero_add, not_false_eq_true, Bool.not_true, Bool.not_false, Bool.false_and, List.cons_append, List.nil_append, h4, h5, h0, btd, c79, c3, hw, hw2, d, d', h8', h9]
                rfl
              · rfl
        · have e : jn dgI 46 44 s (k + 1) n = n := by
            simp only [jn]
            rw [if_pos h3, if_neg h6, if_neg (fun h => h12 h.1)]
          rw [e]
          have d : (bt s n = 46) = False := eq_false (fun h => h12 (.inl h))
          have d' : (bt s n = 44) = False := eq_false (fun h => h12 (.inr h))
          refine Exists.intro ?_ (And.intro ?_ ?_)
          rotate_left 1
          · rw [Y_loop (L := L64_0) rfl]
            simp only [go_sem, and_false, false_and, and_true, true_and, Nat.reduceAdd, Nat.reduceEqDiff, Nat.reduceLT, ↓reduceIte, decide_eq_true_eq, List.take_nil, beq_self_eq_true, bne_self_eq_false, List.take_zero, List.map_cons, List.map_nil, Int.reduceNeg, Bool.and_true, and_self, Bool.true_and, Bool.and_self, ne_eq, not_true_eq_false, decide_false, decide_true, Bool.false_eq_true, Nat.reduceAdd, Option.map_some, Option.map_none, Option.bind_some, Option.bind_none, List.length_nil, List.length_cons, List.append_nil, Bool.and_false, w64, demV_sl, Int.cast_ofNat_Int, Int.reduceLT, Int.reduceAdd, Int.reduceSub, Int.reduceLE, Int.reduceEq, Int.reduceToNat, Int.toNat_natCast, Nat.reduceSub, Nat.reduceMul, Nat.reduceLeDiff, Nat.zero_add, Int.zero_add, not_false_eq_true, Bool.not_true, Bool.not_false, Bool.false_and, List.cons_append, List.nil_append, h4, h5, h0, btd, c79, c3, hw, hw2, d, d', h9]
            rfl
          · rfl
    · have h4 : ¬ (n : Int) < (s.length : Int) := by omega
      have e : jn dgI 46 44 s (k + 1) n = n := by simp only [jn, h3, if_false]
      rw [e]
      refine Exists.intro ?_ (And.intro ?_ ?_)
      rotate_left 1
      · rw [Y_loop (L := L64_0) rfl]
        simp only [go_sem, and_false, false_and, and_true, true_and, Nat.reduceAdd, Nat.reduceEqDiff, Nat.reduceLT, ↓reduceIte, decide_eq_true_eq, List.take_nil, beq_self_eq_true, bne_self_eq_false, List.take_zero, List.map_cons, List.map_nil, Int.reduceNeg, Bool.and_true, and_self, Bool.true_and, Bool.and_self, ne_eq, not_true_eq_false, decide_false, decide_true, Bool.false_eq_true, Nat.reduceAdd, Option.map_some, Option.map_none, Option.bind_some, Option.bind_none, List.length_nil, List.length_cons, List.append_nil, Bool.and_false, w64, demV_sl, Int.cast_ofNat_Int, Int.reduceLT, Int.reduceAdd, Int.reduceSub, Int.reduceLE, Int.reduceEq, Int.reduceToNat, Int.toNat_natCast, Nat.reduceSub, Nat.reduceMul, Nat.reduceLeDiff, Nat.zero_add, Int.zero_add, not_false_eq_true, Bool.not_true, Bool.not_false, Bool.false_and, List.cons_append, List.nil_append, h4]
        rfl
      · rfl
theorem beq_nil {s : List UInt8} (h : 1 ≤ s.length) : (s == []) = false := by
  cases s with
  | nil => simp at h
  | cons a l => rfl
theorem c63 (s : List UInt8) (hs : s.length ≤ 1000000) (h1 : 1 ≤ s.length) (a : clsI (bt s 0) = 4) : G0 63 [.str s] [] = some (.int .i64 (nxN s), []) := by
  refine contract F63 rfl rfl rfl ?_
  have h5 := at_bt (s := s) (n := 0) (by omega)
  obtain ⟨l', hx, hx2⟩ := l63 s hs s.length 1 (by omega) h1
  simp only [go_sem, and_false, false_and, and_true, true_and, Nat.reduceAdd, Nat.reduceEqDiff, Nat.reduceLT, ↓reduceIte, decide_eq_true_eq, List.take_nil, beq_self_eq_true, bne_self_eq_false, List.take_zero, List.map_cons, List.map_nil, Int.reduceNeg, Bool.and_true, and_self, Bool.true_and, Bool.and_self, ne_eq, not_true_eq_false, decide_false, decide_true, Bool.false_eq_true, Nat.reduceAdd, Option.map_some, Option.map_none, Option.bind_some, Option.bind_none, List.length_nil, List.length_cons, List.append_nil, Bool.and_false, w64, demV_sl, Int.cast_ofNat_Int, Int.reduceLT, Int.reduceAdd, Int.reduceSub, Int.reduceLE, Int.reduceEq, Int.reduceToNat, Int.toNat_natCast, Nat.reduceSub, Nat.reduceMul, Nat.reduceLeDiff, Nat.zero_add, Int.zero_add, not_false_eq_true, Bool.not_true, Bool.not_false, Bool.false_and, List.cons_append, List.nil_append] at hx
  simp only [F63, go_sem, and_false, false_and, and_true, true_and, Nat.reduceAdd, Nat.reduceEqDiff, Nat.reduceLT, ↓reduceIte, decide_eq_true_eq, List.take_nil, beq_self_eq_true, bne_self_eq_false, List.take_zero, List.map_cons, List.map_nil, Int.reduceNeg, Bool.and_true, and_self, Bool.true_and, Bool.and_self, ne_eq, not_true_eq_false, decide_false, decide_true, Bool.false_eq_true, Nat.reduceAdd, Option.map_some, Option.map_none, Option.bind_some, Option.bind_none, List.length_nil, List.length_cons, List.append_nil, Bool.and_false, w64, demV_sl, Int.cast_ofNat_Int, Int.reduceLT, Int.reduceAdd, Int.reduceSub, Int.reduceLE, Int.reduceEq, Int.reduceToNat, Int.toNat_natCast, Nat.reduceSub, Nat.reduceMul, Nat.reduceLeDiff, Nat.zero_add, Int.zero_add, not_false_eq_true, Bool.not_true, Bool.not_false, Bool.false_and, List.cons_append, List.nil_append, Int.le_refl, beq_nil h1, h5, btd, c79, a, hx, hx2, look_setl, look_kill, nxN]
theorem c63n (s : List UInt8) (h1 : 1 ≤ s.length) (a : ¬ clsI (bt s 0) = 4) : G0 63 [.str s] [] = some (.int .i64 0, []) := by
  refine contract F63 rfl rfl rfl ?_
  have h5 := at_bt (s := s) (n := 0) (by omega)
  simp only [F63, go_sem, and_false, false_and, and_true, true_and, Nat.reduceAdd, Nat.reduceEqDiff, Nat.reduceLT, ↓reduceIte, decide_eq_true_eq, List.take_nil, beq_self_eq_true, bne_self_eq_false, List.take_zero, List.map_cons, List.map_nil, Int.reduceNeg, Bool.and_true, and_self, Bool.true_and, Bool.and_self, ne_eq, not_true_eq_false, decide_false, decide_true, Bool.false_eq_true, Nat.reduceAdd, Option.map_some, Option.map_none, Option.bind_some, Option.bind_none, List.length_nil, List.length_cons, List.append_nil, Bool.and_false, w64, demV_sl, Int.cast_ofNat_Int, Int.reduceLT, Int.reduceAdd, Int.reduceSub, Int.reduceLE, Int.reduceEq, Int.reduceToNat, Int.toNat_natCast, Nat.reduceSub, Nat.reduceMul, Nat.reduceLeDiff, Nat.zero_add, Int.zero_add, not_false_eq_true, Bool.not_true, Bool.not_false, Bool.false_and, List.cons_append, List.nil_append, Int.le_refl, beq_nil h1, h5, btd, c79, a]
theorem c64 (s : List UInt8) (hs : s.length ≤ 1000000) (h1 : 1 ≤ s.length) (a : clsI (bt s 0) = 3) : G0 64 [.str s] [] = some (.int .i64 (nxN s), []) := by
  refine contract F64 rfl rfl rfl ?_
  have h5 := at_bt (s := s) (n := 0) (by omega)
  obtain ⟨l', hx, hx2⟩ := l64 s hs s.length 1 (by omega) h1
  simp only [go_sem, and_false, false_and, and_true, true_and, Nat.reduceAdd, Nat.reduceEqDiff, Nat.reduceLT, ↓reduceIte, decide_eq_true_eq, List.take_nil, beq_self_eq_true, bne_self_eq_false, List.take_zero, List.map_cons, List.map_nil, Int.reduceNeg, Bool.and_true, and_self, Bool.true_and, Bool.and_self, ne_eq, not_true_eq_false, decide_false, decide_true, Bool.false_eq_true, Nat.reduceAdd, Option.map_some, Option.map_none, Option.bind_some, Option.bind_none, List.length_nil, List.length_cons, List.append_nil, Bool.and_false, w64, demV_sl, Int.cast_ofNat_Int, Int.reduceLT, Int.reduceAdd, Int.reduceSub, Int.reduceLE, Int.reduceEq, Int.reduceToNat, Int.toNat_natCast, Nat.reduceSub, Nat.reduceMul, Nat.reduceLeDiff, Nat.zero_add, Int.zero_add, not_false_eq_true, Bool.not_true, Bool.not_false, Bool.false_and, List.cons_append, List.nil_append] at hx
  simp only [F64, go_sem, and_false, false_and, and_true, true_and, Nat.reduceAdd, Nat.reduceEqDiff, Nat.reduceLT, ↓reduceIte, decide_eq_true_eq, List.take_nil, beq_self_eq_true, bne_self_eq_false, List.take_zero, List.map_cons, List.map_nil, Int.reduceNeg, Bool.and_true, and_self, Bool.true_and, Bool.and_self, ne_eq, not_true_eq_false, decide_false, decide_true, Bool.false_eq_true, Nat.reduceAdd, Option.map_some, Option.map_none, Option.bind_some, Option.bind_none, List.length_nil, List.length_cons, List.append_nil, Bool.and_false, w64, demV_sl, Int.cast_ofNat_Int, Int.reduceLT, Int.reduceAdd, Int.reduceSub, Int.reduceLE, Int.reduceEq, Int.reduceToNat, Int.toNat_natCast, Nat.reduceSub, Nat.reduceMul, Nat.reduceLeDiff, Nat.zero_add, Int.zero_add, not_false_eq_true, Bool.not_true, Bool.not_false, Bool.false_and, List.cons_append, List.nil_append, Int.le_refl, beq_nil h1, h5, btd, c79, a, hx, hx2, look_setl, look_kill, nxN]
theorem c64n (s : List UInt8) (h1 : 1 ≤ s.length) (a : ¬ clsI (bt s 0) = 3) : G0 64 [.str s] [] = some (.int .i64 0, []) := by
  refine contract F64 rfl rfl rfl ?_
  have h5 := at_bt (s := s) (n := 0) (by omega)
  simp only [F64, go_sem, and_false, false_and, and_true, true_and, Nat.reduceAdd, Nat.reduceEqDiff, Nat.reduceLT, ↓reduceIte, decide_eq_true_eq, List.take_nil, beq_self_eq_true, bne_self_eq_false, List.take_zero, List.map_cons, List.map_nil, Int.reduceNeg, Bool.and_true, and_self, Bool.true_and, Bool.and_self, ne_eq, not_true_eq_false, decide_false, decide_true, Bool.false_eq_true, Nat.reduceAdd, Option.map_some, Option.map_none, Option.bind_some, Option.bind_none, List.length_nil, List.length_cons, List.append_nil, Bool.and_false, w64, demV_sl, Int.cast_ofNat_Int, Int.reduceLT, Int.reduceAdd, Int.reduceSub, Int.reduceLE, Int.reduceEq, Int.reduceToNat, Int.toNat_natCast, Nat.reduceSub, Nat.reduceMul, Nat.reduceLeDiff, Nat.zero_add, Int.zero_add, not_false_eq_true, Bool.not_true, Bool.not_false, Bool.false_and, List.cons_append, List.nil_append, Int.le_refl, beq_nil h1, h5, btd, c79, a]
theorem bl_fuel (s : List UInt8) : ∀ k k' n : Nat, s.length ≤ n + k → s.length ≤ n + k' → bl s k n = bl s k' n
  | 0, 0, _, _, _ => rfl
  | 0, k' + 1, n, h, _ => by simp only [bl]; rw [if_neg (by omega)]
  | k + 1, 0, n, _, h => by simp only [bl]; rw [if_neg (by omega)]
  | k + 1, k' + 1, n, h, h' => by simp only [bl]; rw [bl_fuel s k k' (n + 1) (by omega) (by omega)]
theorem c65y (s : List UInt8) (hs : s.length ≤ 1000000) (h1 : 1 ≤ s.length) (a : clsI (bt s 0) = 2) : G0 65 [.str s] [] = some (.int .i64 (nxN s), []) := by
  rw [c65 s hs]
  have : bl s s.length 0 = nxN s := by
    obtain ⟨k, hk⟩ : ∃ k, s.length = k + 1 := ⟨s.length - 1, by omega⟩
    simp only [nxN, a, Int.reduceEq, if_false, if_true]
    rw [show bl s s.length 0 = bl s k 1 by rw [hk]; simp only [bl]; rw [if_pos ⟨by omega, a⟩]]
    exact bl_fuel s _ _ _ (by omega) (by omega)
  rw [this]
theorem c65n (s : List UInt8) (hs : s.length ≤ 1000000) (h1 : 1 ≤ s.length) (a : ¬ clsI (bt s 0) = 2) : G0 65 [.str s] [] = some (.int .i64 0, []) := by
  rw [c65 s hs]
  have : bl s s.length 0 = 0 := by
    obtain ⟨k, hk⟩ : ∃ k, s.length = k + 1 := ⟨s.length - 1, by omega⟩
    rw [hk]; simp only [bl]; rw [if_neg (fun h => a h.2)]
  rw [this]; rfl
end Go.Av
