/- A part of the proof: D14. No conditions. -/
import Derived.Test.YthbgidickbhojaaD13
set_option linter.unusedSimpArgs false
set_option linter.unusedVariables false
namespace Go.Av
set_option linter.unusedSimpArgs false
set_option maxHeartbeats 4000000
theorem l67 (s : List UInt8) (hs : s.length ≤ 1000000) : ∀ (k n : Nat), s.length ≤ n + k → n ≤ s.length →
    (∃ l', execX G0 L67_0 (ST [(0, .str s), (3, .int .i64 n)] [] []) = some (.ex 0, ST l' [] []) ∧ look .any l' 0 = .str s) ∨
    (∃ l' m, m ≤ s.length ∧ execX G0 L67_0 (ST [(0, .str s), (3, .int .i64 n)] [] []) = some (.ret, ST l' [] []) ∧ look .any l' 2 = .str (s.take m))
  | 0, n, h1, h2 => by
    have h3 : ¬ (n : Int) < (s.length : Int) := by omega
    refine .inl (Exists.intro ?_ (And.intro ?_ ?_))
    rotate_left 1
    · rw [Y_loop (L := L67_0) rfl]
      simp only [go_sem, List.set_cons_zero, List.set_cons_succ, List.take_succ_cons, and_false, false_and, and_true, true_and, Nat.reduceAdd, Nat.reduceEqDiff, Nat.reduceLT, ↓reduceIte, decide_eq_true_eq, List.take_nil, beq_self_eq_true, bne_self_eq_false, List.take_zero, List.map_cons, List.map_nil, Int.reduceNeg, Bool.and_true, and_self, Bool.true_and, Bool.and_self, ne_eq, not_true_eq_false, decide_false, decide_true, Bool.false_eq_true, Nat.reduceAdd, Option.map_some, Option.map_none, Option.bind_some, Option.bind_none, List.length_nil, List.length_cons, List.append_nil, Bool.and_false, w64, demV_sl, Int.cast_ofNat_Int, Int.reduceLT, Int.reduceAdd, Int.reduceSub, Int.reduceLE, Int.reduceEq, Int.reduceToNat, Int.toNat_natCast, Nat.reduceSub, Nat.reduceMul, Nat.reduceLeDiff, Nat.zero_add, Int.zero_add, not_false_eq_true, Bool.not_true, Bool.not_false, Bool.false_and, List.cons_append, List.nil_append, h3]
      rfl
    · rfl
  | k + 1, n, h1, h2 => by
    by_cases h3 : n < s.length
    · have h4 : (n : Int) < (s.length : Int) := by omega
      have h4' : (n : Int) ≤ (s.length : Int) := by omega
      have h5 := at_bt h3
      have h0 : (0 : Int) ≤ (n : Int) := by omega
      have hw : IntKind.i64.wrap ((n : Int) + 1) = ((n + 1 : Nat) : Int) := by rw [w64 (by omega) (by omega)]; rfl
      by_cases h6 : bt s n = 32
      · have h6' := eq_true h6
        refine .inr (Exists.intro ?_ (Exists.intro n (And.intro (by omega) (And.intro ?_ ?_))))
        rotate_left 1
        · rw [Y_loop (L := L67_0) rfl]
          simp only [go_sem, List.set_cons_zero, List.set_cons_succ, List.take_succ_cons, and_false, false_and, and_true, true_and, Nat.reduceAdd, Nat.reduceEqDiff, Nat.reduceLT, ↓reduceIte, decide_eq_true_eq, List.take_nil, beq_self_eq_true, bne_self_eq_false, List.take_zero, List.map_cons, List.map_nil, Int.reduceNeg, Bool.and_true, and_self, Bool.true_and, Bool.and_self, ne_eq, not_true_eq_false, decide_false, decide_true, Bool.false_eq_true, Nat.reduceAdd, Option.map_some, Option.map_none, Option.bind_some, Option.bind_none, List.length_nil, List.length_cons, List.append_nil, Bool.and_false, w64, demV_sl, Int.cast_ofNat_Int, Int.reduceLT, Int.reduceAdd, Int.reduceSub, Int.reduceLE, Int.reduceEq, Int.reduceToNat, Int.toNat_natCast, Nat.reduceSub, Nat.reduceMul, Nat.reduceLeDiff, Nat.zero_add, Int.zero_add, not_false_eq_true, Bool.not_true, Bool.not_false, Bool.false_and, List.cons_append, List.nil_append, h4, h4', h5, h0, btd, h6', hw]
          rfl
        · rfl
      · have e : execX G0 L67_0 (ST [(0, .str s), (3, .int .i64 n)] [] []) = execX G0 L67_0 (ST [(0, .str s), (3, .int .i64 (n + 1 : Nat))] [] []) := by
          rw [Y_loop (L := L67_0) rfl]
          simp only [go_sem, List.set_cons_zero, List.set_cons_succ, List.take_succ_cons, and_false, false_and, and_true, true_and, Nat.reduceAdd, Nat.reduceEqDiff, Nat.reduceLT, ↓reduceIte, decide_eq_true_eq, List.take_nil, beq_self_eq_true, bne_self_eq_false, List.take_zero, List.map_cons, List.map_nil, Int.reduceNeg, Bool.and_true, and_self, Bool.true_and, Bool.and_self, ne_eq, not_true_eq_false, decide_false, decide_true, Bool.false_eq_true, Nat.reduceAdd, Option.map_some, Option.map_none, Option.bind_some, Option.bind_none, List.length_nil, List.length_cons, List.append_nil, Bool.and_false, w64, demV_sl, Int.cast_ofNat_Int, Int.reduceLT, Int.reduceAdd, Int.reduceSub, Int.reduceLE, Int.reduceEq, Int.reduceToNat, Int.toNat_natCast, Nat.reduceSub, Nat.reduceMul, Nat.reduceLeDiff, Nat.zero_add, Int.zero_add, not_false_eq_true, Bool.not_true, Bool.not_false, Bool.false_and, List.cons_append, List.nil_append, h4, h4', h5, h0, btd, h6, hw]
        rw [e]
        exact l67 s hs k (n + 1) (by omega) (by omega)
    · have h4 : ¬ (n : Int) < (s.length : Int) := by omega
      refine .inl (Exists.intro ?_ (And.intro ?_ ?_))
      rotate_left 1
      · rw [Y_loop (L := L67_0) rfl]
        simp only [go_sem, List.set_cons_zero, List.set_cons_succ, List.take_succ_cons, and_false, false_and, and_true, true_and, Nat.reduceAdd, Nat.reduceEqDiff, Nat.reduceLT, ↓reduceIte, decide_eq_true_eq, List.take_nil, beq_self_eq_true, bne_self_eq_false, List.take_zero, List.map_cons, List.map_nil, Int.reduceNeg, Bool.and_true, and_self, Bool.true_and, Bool.and_self, ne_eq, not_true_eq_false, decide_false, decide_true, Bool.false_eq_true, Nat.reduceAdd, Option.map_some, Option.map_none, Option.bind_some, Option.bind_none, List.length_nil, List.length_cons, List.append_nil, Bool.and_false, w64, demV_sl, Int.cast_ofNat_Int, Int.reduceLT, Int.reduceAdd, Int.reduceSub, Int.reduceLE, Int.reduceEq, Int.reduceToNat, Int.toNat_natCast, Nat.reduceSub, Nat.reduceMul, Nat.reduceLeDiff, Nat.zero_add, Int.zero_add, not_false_eq_true, Bool.not_true, Bool.not_false, Bool.false_and, List.cons_append, List.nil_append, h4]
        rfl
      · rfl
theorem c67 (s : List UInt8) (hs : s.length ≤ 1000000) : ∃ r : List UInt8, r.length ≤ s.length ∧ G0 67 [.str s] [] = some (.str r, []) := by
  rcases l67 s hs s.length 0 (by omega) (by omega) with ⟨l', e, e2⟩ | ⟨l', m, hm, e, e2⟩
  · refine ⟨s, Nat.le_refl _, ?_⟩
    refine contract F67 rfl rfl rfl ?_
    simp only [go_sem, List.set_cons_zero, List.set_cons_succ, List.take_succ_cons, and_false, false_and, and_true, true_and, Nat.reduceAdd, Nat.reduceEqDiff, Nat.reduceLT, ↓reduceIte, decide_eq_true_eq, List.take_nil, beq_self_eq_true, bne_self_eq_false, List.take_zero, List.map_cons, List.map_nil, Int.reduceNeg, Bool.and_true, and_self, Bool.true_and, Bool.and_self, ne_eq, not_true_eq_false, decide_false, decide_true, Bool.false_eq_true, Nat.reduceAdd, Option.map_some, Option.map_none, Option.bind_some, Option.bind_none, List.length_nil, List.length_cons, List.append_nil, Bool.and_false, w64, demV_sl, Int.cast_ofNat_Int, Int.reduceLT, Int.reduceAdd, Int.reduceSub, Int.reduceLE, Int.reduceEq, Int.reduceToNat, Int.toNat_natCast, Nat.reduceSub, Nat.reduceMul, Nat.reduceLeDiff, Nat.zero_add, Int.zero_add, not_false_eq_true, Bool.not_true, Bool.not_false, Bool.false_and, List.cons_append, List.nil_append] at e
    simp only [F67, go_sem, List.set_cons_zero, List.set_cons_succ, List.take_succ_cons, and_false, false_and, and_true, true_and, Nat.reduceAdd, Nat.reduceEqDiff, Nat.reduceLT, ↓reduceIte, decide_eq_true_eq, List.take_nil, beq_self_eq_true, bne_self_eq_false, List.take_zero, List.map_cons, List.map_nil, Int.reduceNeg, Bool.and_true, and_self, Bool.true_and, Bool.and_self, ne_eq, not_true_eq_false, decide_false, decide_true, Bool.false_eq_true, Nat.reduceAdd, Option.map_some, Option.map_none, Option.bind_some, Option.bind_none, List.length_nil, List.length_cons, List.append_nil, Bool.and_false, w64, demV_sl, Int.cast_ofNat_Int, Int.reduceLT, Int.reduceAdd, Int.reduceSub, Int.reduceLE, Int.reduceEq, Int.reduceToNat, Int.toNat_natCast, Nat.reduceSub, Nat.reduceMul, Nat.reduceLeDiff, Nat.zero_add, Int.zero_add, not_false_eq_true, Bool.not_true, Bool.not_false, Bool.false_and, List.cons_append, List.nil_append, e, e2, look_setl, look_kill]
  · refine ⟨s.take m, by simp; omega, ?_⟩
    refine contract F67 rfl rfl rfl ?_
    simp only [go_sem, List.set_cons_zero, List.set_cons_succ, List.take_succ_cons, and_false, false_and, and_true, true_and, Nat.reduceAdd, Nat.reduceEqDiff, Nat.reduceLT, ↓reduceIte, decide_eq_true_eq, List.take_nil, beq_self_eq_true, bne_self_eq_false, List.take_zero, List.map_cons, List.map_nil, Int.reduceNeg, Bool.and_true, and_self, Bool.true_and, Bool.and_self, ne_eq, not_true_eq_false, decide_false, decide_true, Bool.false_eq_true, Nat.reduceAdd, Option.map_some, Option.map_none, Option.bind_some, Option.bind_none, List.length_nil, List.length_cons, List.append_nil, Bool.and_false, w64, demV_sl, Int.cast_ofNat_Int, Int.reduceLT, Int.reduceAdd, Int.reduceSub, Int.reduceLE, Int.reduceEq, Int.reduceToNat, Int.toNat_natCast, Nat.reduceSub, Nat.reduceMul, Nat.reduceLeDiff, Nat.zero_add, Int.zero_add, not_false_eq_true, Bool.not_true, Bool.not_false, Bool.false_and, List.cons_append, List.nil_append] at e
    simp only [F67, go_sem, List.set_cons_zero, List.set_cons_succ, List.take_succ_cons, and_false, false_and, and_true, true_and, Nat.reduceAdd, Nat.reduceEqDiff, Nat.reduceLT, ↓reduceIte, decide_eq_true_eq, List.take_nil, beq_self_eq_true, bne_self_eq_false, List.take_zero, List.map_cons, List.map_nil, Int.reduceNeg, Bool.and_true, and_self, Bool.true_and, Bool.and_self, ne_eq, not_true_eq_false, decide_false, decide_true, Bool.false_eq_true, Nat.reduceAdd, Option.map_some, Option.map_none, Option.bind_some, Option.bind_none, List.length_nil, List.length_cons, List.append_nil, Bool.and_false, w64, demV_sl, Int.cast_ofNat_Int, Int.reduceLT, Int.reduceAdd, Int.reduceSub, Int.reduceLE, Int.reduceEq, Int.reduceToNat, Int.toNat_natCast, Nat.reduceSub, Nat.reduceMul, Nat.reduceLeDiff, Nat.zero_add, Int.zero_add, not_false_eq_true, Bool.not_true, Bool.not_false, Bool.false_and, List.cons_append, List.nil_append, e, e2, look_setl, look_kill]
theorem tot_at {l : List Tk} {i : Nat} {t : Tk} (h : l[i]? = some t) : t.2.1.length ≤ tot l := by
  induction l generalizing i with
  | nil => simp at h
  | cons a l ih =>
    cases i with
    | zero => simp at h; subst h; simp [tot]
    | succ i => have := ih (i := i) (by simpa using h); simp only [tot]; omega
theorem tot_drop (l : List Tk) (i : Nat) : tot (l.drop i) ≤ tot l := by
  induction l generalizing i with
  | nil => simp [tot]
  | cons a l ih =>
    cases i with
    | zero => simp
    | succ i => have := ih i; simp only [List.drop_succ_cons, tot]; omega
theorem tot_take (l : List Tk) (i : Nat) : tot (l.take i) ≤ tot l := by
  induction l generalizing i with
  | nil => simp [tot]
  | cons a l ih =>
    cases i with
    | zero => simp [tot]
    | succ i => have := ih i; simp only [List.take_succ_cons, tot]; omega
theorem tot_mem {l : List Tk} {t : Tk} (h : t ∈ l) : t.2.1.length ≤ tot l := by
  obtain ⟨i, hi⟩ := List.mem_iff_getElem?.1 h
  exact tot_at hi
theorem l42 (f : List Tk) (hf : f.length ≤ 1000) (ht : tot f ≤ 50000) : ∀ (k i : Nat) (md : Own) (out : List Tk), md ≠ .no → i + k = f.length → out.length + (f.drop i).length + tot (f.drop i) ≤ 90000 →
    ∃ md' T, T.length ≤ (f.drop i).length + tot (f.drop i) ∧ (∀ t ∈ T, t.2.1.length ≤ 50000) ∧ execX G0 L42_0 (ST [(3, .sl md 3 (tks out)), (6, .sl .no 3 (tks f)), (7, .int .i64 f.length), (8, .int .i64 i)] [] []) = some (.ex 0, ST [(3, .sl md' 3 (tks (out ++ T))), (6, .sl .no 3 (tks f)), (7, .int .i64 f.length), (8, .int .i64 f.length), (9, .bool false)] [] [])
  | 0, i, md, out, hm, h1, h2 => by
    have : i = f.length := by omega
    subst this
    refine ⟨md, [], by simp, by simp, ?_⟩
    rw [Y_loop (L := L42_0) rfl]
    simp only [go_sem, List.set_cons_zero, List.set_cons_succ, List.take_succ_cons, and_false, false_and, and_true, true_and, Nat.reduceAdd, Nat.reduceEqDiff, Nat.reduceLT, ↓reduceIte, decide_eq_true_eq, List.take_nil, beq_self_eq_true, bne_self_eq_false, List.take_zero, List.map_cons, List.map_nil, Int.reduceNeg, Bool.and_true, and_self, Bool.true_and, Bool.and_self, ne_eq, not_true_eq_false, decide_false, decide_true, Bool.false_eq_true, Nat.reduceAdd, Option.map_some, Option.map_none, Option.bind_some, Option.bind_none, List.length_nil, List.length_cons, List.append_nil, Bool.and_false, w64, demV_sl, Int.cast_ofNat_Int, Int.reduceLT, Int.reduceAdd, Int.reduceSub, Int.reduceLE, Int.reduceEq, Int.reduceToNat, Int.toNat_natCast, Nat.reduceSub, Nat.reduceMul, Nat.reduceLeDiff, Nat.zero_add, Int.zero_add, not_false_eq_true, Bool.not_true, Bool.not_false, Bool.false_and, List.cons_append, List.nil_append, Int.lt_irrefl]
  | k + 1, i, md, out, hm, h1, h2 => by
    have hi : i < f.length := by omega
    have h4 : (i : Int) < (f.length : Int) := by omega
    have h0 : (0 : Int) ≤ (i : Int) := by omega
    have hw : IntKind.i64.wrap ((i : Int) + 1) = ((i + 1 : Nat) : Int) := by rw [w64 (by omega) (by omega)]; rfl
    have hg : f[i]? = some f[i] := List.getElem?_eq_getElem hi
    have hd : f.drop i = f[i] :: f.drop (i + 1) := List.drop_eq_getElem_cons hi
    generalize f[i] = T at hg hd
    have hr := tks_at hg
    have htt := tot_at hg
    obtain ⟨kk, s, id⟩ := T
    simp only at htt
    rw [hd] at h2 ⊢
    simp only [tot, List.length_cons] at h2 ⊢
    by_cases c1 : kk = 1
    · subst c1
      have hc := cutL_len s.length s
      have hcl : (cutF s).length ≤ s.length := hc.1
      obtain ⟨md', T, q1, q2, q3⟩ := l42 f hf ht k (i + 1) .own (out ++ cutF s) (by decide) (by omega) (by rw [List.length_append]; omega)
      have ha : appOK 32 (out.length + (cutF s).length) = true := appOK_le (by decide) (by omega)
      refine ⟨md', cutF s ++ T, by rw [List.length_append]; omega, fun t h => ?_, ?_⟩
      · rcases List.mem_append.1 h with h | h
        · have := hc.2 t h; omega
        · exact q2 t h
      · rw [List.append_assoc] at q3
        rw [Y_loop (L := L42_0) rfl]
        simp only [go_sem, List.set_cons_zero, List.set_cons_succ, List.take_succ_cons, and_false, false_and, and_true, true_and, Nat.reduceAdd, Nat.reduceEqDiff, Nat.reduceLT, ↓reduceIte, decide_eq_true_eq, List.take_nil, beq_self_eq_true, bne_self_eq_false, List.take_zero, List.map_cons, List.map_nil, Int.reduceNeg, Bool.and_true, and_self, Bool.true_and, Bool.and_self, ne_eq, not_true_eq_false, decide_false, decide_true, Bool.false_eq_true, Nat.reduceAdd, Option.map_some, Option.map_none, Option.bind_some, Option.bind_none, List.length_nil, List.length_cons, List.append_nil, Bool.and_false, w64, demV_sl, Int.cast_ofNat_Int, Int.reduceLT, Int.reduceAdd, Int.reduceSub, Int.reduceLE, Int.reduceEq, Int.reduceToNat, Int.toNat_natCast, Nat.reduceSub, Nat.reduceMul, Nat.reduceLeDiff, Nat.zero_add, Int.zero_add, not_false_eq_true, Bool.not_true, Bool.not_false, Bool.false_and, List.cons_append, List.nil_append, h4, h0, hr, hw, c46 s (by omega), appA_gen md .no hm 3 32 (by decide), tks_len, ha, tks_app]
        exact q3
    · by_cases c2 : kk = 2 ∨ kk = 3 ∨ kk = 4 ∨ kk = 5
      · obtain ⟨md', T, q1, q2, q3⟩ := l42 f hf ht k (i + 1) .own (out ++ [(kk, s, id)]) (by decide) (by omega) (by simp only [List.length_append, List.length_cons, List.length_nil]; omega)
        have ha : appOK 32 (out.length + 1) = true := appOK_le (by decide) (by omega)
        refine ⟨md', (kk, s, id) :: T, by simp only [List.length_cons]; omega, fun t h => ?_, ?_⟩
        · rcases List.mem_cons.1 h with h | h
          · subst h; simp only; omega
          · exact q2 t h
        · rw [List.append_assoc] at q3
          rcases c2 with rfl | rfl | rfl | rfl
          all_goals
            rw [Y_loop (L := L42_0) rfl]
            simp only [go_sem, List.set_cons_zero, List.set_cons_succ, List.take_succ_cons, and_false, false_and, and_true, true_and, Nat.reduceAdd, Nat.reduceEqDiff, Nat.reduceLT, ↓reduceIte, decide_eq_true_eq, List.take_nil, beq_self_eq_true, bne_self_eq_false, List.take_zero, List.map_cons, List.map_nil, Int.reduceNeg, Bool.and_true, and_self, Bool.true_and, Bool.and_self, ne_eq, not_true_eq_false, decide_false, decide_true, Bool.false_eq_true, Nat.reduceAdd, Option.map_some, Option.map_none, Option.bind_some, Option.bind_none, List.length_nil, List.length_cons, List.append_nil, Bool.and_false, w64, demV_sl, Int.cast_ofNat_Int, Int.reduceLT, Int.reduceAdd, Int.reduceSub, Int.reduceLE, Int.reduceEq, Int.reduceToNat, Int.toNat_natCast, Nat.reduceSub, Nat.reduceMul, Nat.reduceLeDiff, Nat.zero_add, Int.zero_add, not_false_eq_true, Bool.not_true, Bool.not_false, Bool.false_and, List.cons_append, List.nil_append, h4, h0, hr, hw, appA_gen md .full hm 3 32 (by decide), tks_len, ha, tks_one, tks_app]
            exact q3
      · obtain ⟨md', T, q1, q2, q3⟩ := l42 f hf ht k (i + 1) md out hm (by omega) (by omega)
        have d2 : ¬ kk = 2 := fun h => c2 (.inl h)
        have d3 : ¬ kk = 3 := fun h => c2 (.inr (.inl h))
        have d4 : ¬ kk = 4 := fun h => c2 (.inr (.inr (.inl h)))
        have d5 : ¬ kk = 5 := fun h => c2 (.inr (.inr (.inr h)))
        refine ⟨md', T, by omega, q2, ?_⟩
        rw [Y_loop (L := L42_0) rfl]
        simp only [go_sem, List.set_cons_zero, List.set_cons_succ, List.take_succ_cons, and_false, false_and, and_true, true_and, Nat.reduceAdd, Nat.reduceEqDiff, Nat.reduceLT, ↓reduceIte, decide_eq_true_eq, List.take_nil, beq_self_eq_true, bne_self_eq_false, List.take_zero, List.map_cons, List.map_nil, Int.reduceNeg, Bool.and_true, and_self, Bool.true_and, Bool.and_self, ne_eq, not_true_eq_false, decide_false, decide_true, Bool.false_eq_true, Nat.reduceAdd, Option.map_some, Option.map_none, Option.bind_some, Option.bind_none, List.length_nil, List.length_cons, List.append_nil, Bool.and_false, w64, demV_sl, Int.cast_ofNat_Int, Int.reduceLT, Int.reduceAdd, Int.reduceSub, Int.reduceLE, Int.reduceEq, Int.reduceToNat, Int.toNat_natCast, Nat.reduceSub, Nat.reduceMul, Nat.reduceLeDiff, Nat.zero_add, Int.zero_add, not_false_eq_true, Bool.not_true, Bool.not_false, Bool.false_and, List.cons_append, List.nil_append, h4, h0, hr, hw, c1, d2, d3, d4, d5]
        exact q3
theorem c42 (f : List Tk) (hf : f.length ≤ 1000) (ht : tot f ≤ 50000) : ∃ T, T.length ≤ 51000 ∧ (∀ t ∈ T, t.2.1.length ≤ 50000) ∧ G0 42 [.sl .no 3 (tks f)] [] = some (.sl .no 3 (tks T), []) := by
  obtain ⟨md', T, q1, q2, q3⟩ := l42 f hf ht f.length 0 .full [] (by decide) (by omega) (by rw [List.drop_zero]; simp only [List.length_nil]; omega)
  rw [List.drop_zero] at q1
  refine ⟨T, by omega, q2, ?_⟩
  refine contract F42 rfl rfl rfl ?_
  simp only [go_sem, List.set_cons_zero, List.set_cons_succ, List.take_succ_cons, and_false, false_and, and_true, true_and, Nat.reduceAdd, Nat.reduceEqDiff, Nat.reduceLT, ↓reduceIte, decide_eq_true_eq, List.take_nil, beq_self_eq_true, bne_self_eq_false, List.take_zero, List.map_cons, List.map_nil, Int.reduceNeg, Bool.and_true, and_self, Bool.true_and, Bool.and_self, ne_eq, not_true_eq_false, decide_false, decide_true, Bool.false_eq_true, Nat.reduceAdd, Option.map_some, Option.map_none, Option.bind_some, Option.bind_none, List.length_nil, List.length_cons, List.append_nil, Bool.and_false, w64, demV_sl, Int.cast_ofNat_Int, Int.reduceLT, Int.reduceAdd, Int.reduceSub, Int.reduceLE, Int.reduceEq, Int.reduceToNat, Int.toNat_natCast, Nat.reduceSub, Nat.reduceMul, Nat.reduceLeDiff, Nat.zero_add, Int.zero_add, not_false_eq_true, Bool.not_true, Bool.not_false, Bool.false_and, List.cons_append, List.nil_append, tks_nil] at q3
  simp only [F42, go_sem, List.set_cons_zero, List.set_cons_succ, List.take_succ_cons, and_false, false_and, and_true, true_and, Nat.reduceAdd, Nat.reduceEqDiff, Nat.reduceLT, ↓reduceIte, decide_eq_true_eq, List.take_nil, beq_self_eq_true, bne_self_eq_false, List.take_zero, List.map_cons, List.map_nil, Int.reduceNeg, Bool.and_true, and_self, Bool.true_and, Bool.and_self, ne_eq, not_true_eq_false, decide_false, decide_true, Bool.false_eq_true, Nat.reduceAdd, Option.map_some, Option.map_none, Option.bind_some, Option.bind_none, List.length_nil, List.length_cons, List.append_nil, Bool.and_false, w64, demV_sl, Int.cast_ofNat_Int, Int.reduceLT, Int.reduceAdd, Int.reduceSub, Int.reduceLE, Int.reduceEq, Int.reduceToNat, Int.toNat_natCast, Nat.reduceSub, Nat.reduceMul, Nat.reduceLeDiff, Nat.zero_add, Int.zero_add, not_false_eq_true, Bool.not_true, Bool.not_false, Bool.false_and, List.cons_append, List.nil_append, tks_len, q3]
end Go.Av
