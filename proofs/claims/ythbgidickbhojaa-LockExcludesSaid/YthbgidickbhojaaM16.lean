/- A part of the proof: M16. No conditions. -/
import Derived.Test.YthbgidickbhojaaM15
set_option linter.unusedSimpArgs false
set_option linter.unusedVariables false
namespace Go.Av
set_option linter.unusedSimpArgs false
set_option maxHeartbeats 16000000
set_option maxRecDepth 100000
theorem c55 (L : List Tk) (hL : L.length ≤ 1000000) (hne : L ≠ []) (i : Nat) (hi : i ≤ L.length) (a b : Int) (s : List UInt8) : G0 55 [.ss 0 0 L.length 3, .int .i64 (i : Int), .sl .full 3 [[.int .i64 a, .str s, .int .i64 b]]] [fl L] = some (.ss 1 0 (L.length + 1) 3, [dead, fl (L.take i ++ [(a, s, b)] ++ L.drop i)]) := by
  rcases Nat.lt_or_ge i L.length with h | h
  · exact c55i L hL i h (a, s, b)
  · have : i = L.length := by omega
    subst this
    have := c55n L hL (a, s, b)
    rw [List.take_length, List.drop_length, List.append_nil]
    exact this
theorem c25 (L : List Tk) (hL : L.length ≤ 1000000) (g : Int) (u : List UInt8) (n t : Int) : G0 25 [.sl .no 3 (tks L), .int .i64 g, .str u, .int .i64 n, .int .i64 t] [] = some (.tup [.sl .no 3 (tks (acqL L g u n t)), .int .i64 (acqE L g u n t)], []) := by
  refine contract F25 rfl rfl rfl ?_
  by_cases h0 : ¬ valF L = 0
  · have e : acqE L g u n t = valF L := by unfold acqE; rw [if_pos h0]
    rw [acq_err e h0, e, tks_nil]
    have h1' : (valF L = 0) = False := eq_false h0
    simp only [F25, go_sem, List.set_cons_zero, List.set_cons_succ, List.take_succ_cons, and_false, false_and, and_true, true_and, Nat.reduceAdd, Nat.reduceEqDiff, Nat.reduceLT, ↓reduceIte, decide_eq_true_eq, List.take_nil, beq_self_eq_true, bne_self_eq_false, List.take_zero, List.map_cons, List.map_nil, Int.reduceNeg, Bool.and_true, and_self, Bool.true_and, Bool.and_self, ne_eq, not_true_eq_false, decide_false, decide_true, Bool.false_eq_true, Nat.reduceAdd, Option.map_some, Option.map_none, Option.bind_some, Option.bind_none, List.length_nil, List.length_cons, List.append_nil, Bool.and_false, w64, demV_sl, Int.cast_ofNat_Int, Int.reduceLT, Int.reduceAdd, Int.reduceSub, Int.reduceLE, Int.reduceEq, Int.reduceToNat, Int.toNat_natCast, Nat.reduceSub, Nat.reduceMul, Nat.reduceLeDiff, Nat.zero_add, Int.zero_add, not_false_eq_true, Bool.not_true, Bool.not_false, Bool.false_and, List.cons_append, List.nil_append, c28, h1']
  have h1 : valF L = 0 := Classical.byContradiction h0
  by_cases h2 : g < 1
  · have e : acqE L g u n t = 1 := by unfold acqE; rw [if_neg (fun q => q h1), if_pos h2]
    rw [acq_err e (by decide), e, tks_nil]
    simp only [F25, go_sem, List.set_cons_zero, List.set_cons_succ, List.take_succ_cons, and_false, false_and, and_true, true_and, Nat.reduceAdd, Nat.reduceEqDiff, Nat.reduceLT, ↓reduceIte, decide_eq_true_eq, List.take_nil, beq_self_eq_true, bne_self_eq_false, List.take_zero, List.map_cons, List.map_nil, Int.reduceNeg, Bool.and_true, and_self, Bool.true_and, Bool.and_self, ne_eq, not_true_eq_false, decide_false, decide_true, Bool.false_eq_true, Nat.reduceAdd, Option.map_some, Option.map_none, Option.bind_some, Option.bind_none, List.length_nil, List.length_cons, List.append_nil, Bool.and_false, w64, demV_sl, Int.cast_ofNat_Int, Int.reduceLT, Int.reduceAdd, Int.reduceSub, Int.reduceLE, Int.reduceEq, Int.reduceToNat, Int.toNat_natCast, Nat.reduceSub, Nat.reduceMul, Nat.reduceLeDiff, Nat.zero_add, Int.zero_add, not_false_eq_true, Bool.not_true, Bool.not_false, Bool.false_and, List.cons_append, List.nil_append, c28, h1, h2]
  by_cases h3 : n < 0
  · have e : acqE L g u n t = 1 := by unfold acqE; rw [if_neg (fun q => q h1), if_neg h2, if_pos h3]
    rw [acq_err e (by decide), e, tks_nil]
    simp only [F25, go_sem, List.set_cons_zero, List.set_cons_succ, List.take_succ_cons, and_false, false_and, and_true, true_and, Nat.reduceAdd, Nat.reduceEqDiff, Nat.reduceLT, ↓reduceIte, decide_eq_true_eq, List.take_nil, beq_self_eq_true, bne_self_eq_false, List.take_zero, List.map_cons, List.map_nil, Int.reduceNeg, Bool.and_true, and_self, Bool.true_and, Bool.and_self, ne_eq, not_true_eq_false, decide_false, decide_true, Bool.false_eq_true, Nat.reduceAdd, Option.map_some, Option.map_none, Option.bind_some, Option.bind_none, List.length_nil, List.length_cons, List.append_nil, Bool.and_false, w64, demV_sl, Int.cast_ofNat_Int, Int.reduceLT, Int.reduceAdd, Int.reduceSub, Int.reduceLE, Int.reduceEq, Int.reduceToNat, Int.toNat_natCast, Nat.reduceSub, Nat.reduceMul, Nat.reduceLeDiff, Nat.zero_add, Int.zero_add, not_false_eq_true, Bool.not_true, Bool.not_false, Bool.false_and, List.cons_append, List.nil_append, c28, h1, h2, h3]
  by_cases h4 : 1073741824 < n
  · have e : acqE L g u n t = 1 := by unfold acqE; rw [if_neg (fun q => q h1), if_neg h2, if_neg h3, if_pos h4]
    rw [acq_err e (by decide), e, tks_nil]
    simp only [F25, go_sem, List.set_cons_zero, List.set_cons_succ, List.take_succ_cons, and_false, false_and, and_true, true_and, Nat.reduceAdd, Nat.reduceEqDiff, Nat.reduceLT, ↓reduceIte, decide_eq_true_eq, List.take_nil, beq_self_eq_true, bne_self_eq_false, List.take_zero, List.map_cons, List.map_nil, Int.reduceNeg, Bool.and_true, and_self, Bool.true_and, Bool.and_self, ne_eq, not_true_eq_false, decide_false, decide_true, Bool.false_eq_true, Nat.reduceAdd, Option.map_some, Option.map_none, Option.bind_some, Option.bind_none, List.length_nil, List.length_cons, List.append_nil, Bool.and_false, w64, demV_sl, Int.cast_ofNat_Int, Int.reduceLT, Int.reduceAdd, Int.reduceSub, Int.reduceLE, Int.reduceEq, Int.reduceToNat, Int.toNat_natCast, Nat.reduceSub, Nat.reduceMul, Nat.reduceLeDiff, Nat.zero_add, Int.zero_add, not_false_eq_true, Bool.not_true, Bool.not_false, Bool.false_and, List.cons_append, List.nil_append, c28, h1, h2, h3, h4]
  by_cases h5 : t < 1
  · have e : acqE L g u n t = 1 := by unfold acqE; rw [if_neg (fun q => q h1), if_neg h2, if_neg h3, if_neg h4, if_pos h5]
    rw [acq_err e (by decide), e, tks_nil]
    simp only [F25, go_sem, List.set_cons_zero, List.set_cons_succ, List.take_succ_cons, and_false, false_and, and_true, true_and, Nat.reduceAdd, Nat.reduceEqDiff, Nat.reduceLT, ↓reduceIte, decide_eq_true_eq, List.take_nil, beq_self_eq_true, bne_self_eq_false, List.take_zero, List.map_cons, List.map_nil, Int.reduceNeg, Bool.and_true, and_self, Bool.true_and, Bool.and_self, ne_eq, not_true_eq_false, decide_false, decide_true, Bool.false_eq_true, Nat.reduceAdd, Option.map_some, Option.map_none, Option.bind_some, Option.bind_none, List.length_nil, List.length_cons, List.append_nil, Bool.and_false, w64, demV_sl, Int.cast_ofNat_Int, Int.reduceLT, Int.reduceAdd, Int.reduceSub, Int.reduceLE, Int.reduceEq, Int.reduceToNat, Int.toNat_natCast, Nat.reduceSub, Nat.reduceMul, Nat.reduceLeDiff, Nat.zero_add, Int.zero_add, not_false_eq_true, Bool.not_true, Bool.not_false, Bool.false_and, List.cons_append, List.nil_append, c28, h1, h2, h3, h4, h5]
  have hws : IntKind.i64.wrap (1073741824 - n) = 1073741824 - n := w64 (by omega) (by omega)
  by_cases h6 : 1073741824 - n < t
  · have e : acqE L g u n t = 1 := by unfold acqE; rw [if_neg (fun q => q h1), if_neg h2, if_neg h3, if_neg h4, if_neg h5, if_pos h6]
    rw [acq_err e (by decide), e, tks_nil]
    simp only [F25, go_sem, List.set_cons_zero, List.set_cons_succ, List.take_succ_cons, and_false, false_and, and_true, true_and, Nat.reduceAdd, Nat.reduceEqDiff, Nat.reduceLT, ↓reduceIte, decide_eq_true_eq, List.take_nil, beq_self_eq_true, bne_self_eq_false, List.take_zero, List.map_cons, List.map_nil, Int.reduceNeg, Bool.and_true, and_self, Bool.true_and, Bool.and_self, ne_eq, not_true_eq_false, decide_false, decide_true, Bool.false_eq_true, Nat.reduceAdd, Option.map_some, Option.map_none, Option.bind_some, Option.bind_none, List.length_nil, List.length_cons, List.append_nil, Bool.and_false, w64, demV_sl, Int.cast_ofNat_Int, Int.reduceLT, Int.reduceAdd, Int.reduceSub, Int.reduceLE, Int.reduceEq, Int.reduceToNat, Int.toNat_natCast, Nat.reduceSub, Nat.reduceMul, Nat.reduceLeDiff, Nat.zero_add, Int.zero_add, not_false_eq_true, Bool.not_true, Bool.not_false, Bool.false_and, List.cons_append, List.nil_append, c28, h1, h2, h3, h4, h5, hws, h6]
  cases h7 : isN u with
  | false =>
    have e : acqE L g u n t = 4 := by unfold acqE; rw [if_neg (fun q => q h1), if_neg h2, if_neg h3, if_neg h4, if_neg h5, if_neg h6, if_pos h7]
    rw [acq_err e (by decide), e, tks_nil]
    simp only [F25, go_sem, List.set_cons_zero, List.set_cons_succ, List.take_succ_cons, and_false, false_and, and_true, true_and, Nat.reduceAdd, Nat.reduceEqDiff, Nat.reduceLT, ↓reduceIte, decide_eq_true_eq, List.take_nil, beq_self_eq_true, bne_self_eq_false, List.take_zero, List.map_cons, List.map_nil, Int.reduceNeg, Bool.and_true, and_self, Bool.true_and, Bool.and_self, ne_eq, not_true_eq_false, decide_false, decide_true, Bool.false_eq_true, Nat.reduceAdd, Option.map_some, Option.map_none, Option.bind_some, Option.bind_none, List.length_nil, List.length_cons, List.append_nil, Bool.and_false, w64, demV_sl, Int.cast_ofNat_Int, Int.reduceLT, Int.reduceAdd, Int.reduceSub, Int.reduceLE, Int.reduceEq, Int.reduceToNat, Int.toNat_natCast, Nat.reduceSub, Nat.reduceMul, Nat.reduceLeDiff, Nat.zero_add, Int.zero_add, not_false_eq_true, Bool.not_true, Bool.not_false, Bool.false_and, List.cons_append, List.nil_append, c28, h1, h2, h3, h4, h5, hws, h6, c52, h7]
  | true =>
  have h7' : ¬ isN u = false := by rw [h7]; decide
  have hwa : IntKind.i64.wrap (n + t) = n + t := w64 (by omega) (by omega)
  by_cases h8 : hoF L g n ≠ [] ∧ hoF L g n ≠ u
  · have e : acqE L g u n t = 9 := by unfold acqE; rw [if_neg (fun q => q h1), if_neg h2, if_neg h3, if_neg h4, if_neg h5, if_neg h6, if_neg h7', if_pos h8]
    rw [acq_err e (by decide), e, tks_nil]
    have q1 := bne_t h8.1
    have q2 := bne_t h8.2
    simp only [F25, go_sem, List.set_cons_zero, List.set_cons_succ, List.take_succ_cons, and_false, false_and, and_true, true_and, Nat.reduceAdd, Nat.reduceEqDiff, Nat.reduceLT, ↓reduceIte, decide_eq_true_eq, List.take_nil, beq_self_eq_true, bne_self_eq_false, List.take_zero, List.map_cons, List.map_nil, Int.reduceNeg, Bool.and_true, and_self, Bool.true_and, Bool.and_self, ne_eq, not_true_eq_false, decide_false, decide_true, Bool.false_eq_true, Nat.reduceAdd, Option.map_some, Option.map_none, Option.bind_some, Option.bind_none, List.length_nil, List.length_cons, List.append_nil, Bool.and_false, w64, demV_sl, Int.cast_ofNat_Int, Int.reduceLT, Int.reduceAdd, Int.reduceSub, Int.reduceLE, Int.reduceEq, Int.reduceToNat, Int.toNat_natCast, Nat.reduceSub, Nat.reduceMul, Nat.reduceLeDiff, Nat.zero_add, Int.zero_add, not_false_eq_true, Bool.not_true, Bool.not_false, Bool.false_and, List.cons_append, List.nil_append, c28, h1, h2, h3, h4, h5, hws, h6, c52, h7, c33 L hL g n, q1, q2]
  have hg9 : (hoF L g n != []) = false ∨ ((hoF L g n != []) = true ∧ (hoF L g n != u) = false) := by
    by_cases q : hoF L g n = []
    · exact .inl (bne_f q)
    · exact .inr ⟨bne_t q, bne_f (Classical.byContradiction fun q2 => h8 ⟨q, q2⟩)⟩
  obtain ⟨v1, _, hsrt⟩ := val_srt h1
  obtain ⟨pl, _, _, p4⟩ := pl_facts L g hsrt
  have hE : acqE L g u n t = if (L.filter (neF g)).length = L.length ∧ 512 ≤ L.length then 3 else 0 := by
    unfold acqE; rw [if_neg (fun q => q h1), if_neg h2, if_neg h3, if_neg h4, if_neg h5, if_neg h6, if_neg h7', if_neg h8]
  cases hb : plB L g with
  | false =>
    have hno : (L.filter (neF g)).length = L.length := by
      obtain ⟨_, p2, p3, _⟩ := pl_facts L g hsrt
      have hL2 : L.take (plN L g) ++ L.drop (plN L g) = L := List.take_append_drop _ _
      have : L.filter (neF g) = L := by
        conv => lhs; rw [← hL2]
        rw [List.filter_append, (fil_lt p2).1, (fil_gt (p3 hb)).1, hL2]
      rw [this]
    by_cases h9 : L.length = 512
    · have e : acqE L g u n t = 3 := by rw [hE, if_pos ⟨hno, by omega⟩]
      rw [acq_err e (by decide), e, tks_nil]
      have q9 : ((L.length : Int) = 512) = True := eq_true (by omega)
      rcases hg9 with q1 | ⟨q1, q2⟩
      · simp only [F25, go_sem, List.set_cons_zero, List.set_cons_succ, List.take_succ_cons, and_false, false_and, and_true, true_and, Nat.reduceAdd, Nat.reduceEqDiff, Nat.reduceLT, ↓reduceIte, decide_eq_true_eq, List.take_nil, beq_self_eq_true, bne_self_eq_false, List.take_zero, List.map_cons, List.map_nil, Int.reduceNeg, Bool.and_true, and_self, Bool.true_and, Bool.and_self, ne_eq, not_true_eq_false, decide_false, decide_true, Bool.false_eq_true, Nat.reduceAdd, Option.map_some, Option.map_none, Option.bind_some, Option.bind_none, List.length_nil, List.length_cons, List.append_nil, Bool.and_false, w64, demV_sl, Int.cast_ofNat_Int, Int.reduceLT, Int.reduceAdd, Int.reduceSub, Int.reduceLE, Int.reduceEq, Int.reduceToNat, Int.toNat_natCast, Nat.reduceSub, Nat.reduceMul, Nat.reduceLeDiff, Nat.zero_add, Int.zero_add, not_false_eq_true, Bool.not_true, Bool.not_false, Bool.false_and, List.cons_append, List.nil_append, c28, h1, h2, h3, h4, h5, hws, h6, c52, h7, c33 L hL g n, q1, c53 L hL g, hb, tks_len, q9]
      · simp only [F25, go_sem, List.set_cons_zero, List.set_cons_succ, List.take_succ_cons, and_false, false_and, and_true, true_and, Nat.reduceAdd, Nat.reduceEqDiff, Nat.reduceLT, ↓reduceIte, decide_eq_true_eq, List.take_nil, beq_self_eq_true, bne_self_eq_false, List.take_zero, List.map_cons, List.map_nil, Int.reduceNeg, Bool.and_true, and_self, Bool.true_and, Bool.and_self, ne_eq, not_true_eq_false, decide_false, decide_true, Bool.false_eq_true, Nat.reduceAdd, Option.map_some, Option.map_none, Option.bind_some, Option.bind_none, List.length_nil, List.length_cons, List.append_nil, Bool.and_false, w64, demV_sl, Int.cast_ofNat_Int, Int.reduceLT, Int.reduceAdd, Int.reduceSub, Int.reduceLE, Int.reduceEq, Int.reduceToNat, Int.toNat_natCast, Nat.reduceSub, Nat.reduceMul, Nat.reduceLeDiff, Nat.zero_add, Int.zero_add, not_false_eq_true, Bool.not_true, Bool.not_false, Bool.false_and, List.cons_append, List.nil_append, c28, h1, h2, h3, h4, h5, hws, h6, c52, h7, c33 L hL g n, q1, q2, c53 L hL g, hb, tks_len, q9]
    have e : acqE L g u n t = 0 := by rw [hE, if_neg (fun q => h9 (by omega))]
    obtain ⟨el, _⟩ := acq_ins h1 hb e
    rw [el, e]
    have q9 : ((L.length : Int) = 512) = False := eq_false (by omega)
    by_cases hne : L = []
    · subst hne
      have e4 : plN [] g = 0 := by
        have := pl
        simp at this
        exact this
      have h54 := c54 .no [] (by decide) []
      rw [tks_nil] at h54
      have hr := rowsC_fl [(g, u, n + t)]
      have hl : [(g, u, n + t)].length = 1 := rfl
      rw [hl] at hr
      have hx : List.take 0 ([] : List Tk) ++ [(g, u, n + t)] ++ List.drop 0 [] = [(g, u, n + t)] := rfl
      rw [e4, hx]
      have h28 := c28 []
      have h33 := c33 [] (by decide) g n
      have h53 := c53 [] (by decide) g
      rw [e4, hb] at h53
      rw [tks_nil] at h28 h33 h53 ⊢
      rw [h1] at h28
      have ec : ((0 : Nat) : Int) = 0 := rfl
      rw [ec] at h53
      have hl0 : (([] : List Tk).length : Int) = 0 := rfl
      have q10 : ((0 : Int) = 512) = False := eq_false (by decide)
      rcases hg9 with q1 | ⟨q1, q2⟩
      · simp only [F25, go_sem, List.set_cons_zero, List.set_cons_succ, List.take_succ_cons, and_false, false_and, and_true, true_and, Nat.reduceAdd, Nat.reduceEqDiff, Nat.reduceLT, ↓reduceIte, decide_eq_true_eq, List.take_nil, beq_self_eq_true, bne_self_eq_false, List.take_zero, List.map_cons, List.map_nil, Int.reduceNeg, Bool.and_true, and_self, Bool.true_and, Bool.and_self, ne_eq, not_true_eq_false, decide_false, decide_true, Bool.false_eq_true, Nat.reduceAdd, Option.map_some, Option.map_none, Option.bind_some, Option.bind_none, List.length_nil, List.length_cons, List.append_nil, Bool.and_false, w64, demV_sl, Int.cast_ofNat_Int, Int.reduceLT, Int.reduceAdd, Int.reduceSub, Int.reduceLE, Int.reduceEq, Int.reduceToNat, Int.toNat_natCast, Nat.reduceSub, Nat.reduceMul, Nat.reduceLeDiff, Nat.zero_add, Int.zero_add, not_false_eq_true, Bool.not_true, Bool.not_false, Bool.false_and, List.cons_append, List.nil_append, h28, h2, h3, h4, h5, hws, h6, c52, h7, h33, q1, h53, q10, hwa, h54, cloneR, c55e, hr]
      · simp only [F25, go_sem, List.set_cons_zero, List.set_cons_succ, List.take_succ_cons, and_false, false_and, and_true, true_and, Nat.reduceAdd, Nat.reduceEqDiff, Nat.reduceLT, ↓reduceIte, decide_eq_true_eq, List.take_nil, beq_self_eq_true, bne_self_eq_false, List.take_zero, List.map_cons, List.map_nil, Int.reduceNeg, Bool.and_true, and_self, Bool.true_and, Bool.and_self, ne_eq, not_true_eq_false, decide_false, decide_true, Bool.false_eq_true, Nat.reduceAdd, Option.map_some, Option.map_none, Option.bind_some, Option.bind_none, List.length_nil, List.length_cons, List.append_nil, Bool.and_false, w64, demV_sl, Int.cast_ofNat_Int, Int.reduceLT, Int.reduceAdd, Int.reduceSub, Int.reduceLE, Int.reduceEq, Int.reduceToNat, Int.toNat_natCast, Nat.reduceSub, Nat.reduceMul, Nat.reduceLeDiff, Nat.zero_add, Int.zero_add, not_false_eq_true, Bool.not_true, Bool.not_false, Bool.false_and, List.cons_append, List.nil_append, h28, h2, h3, h4, h5, hws, h6, c52, h7, h33, q1, q2, h53, q10, hwa, h54, cloneR, c55e, hr]
    have h54 := c54s .no L hL hne []
    simp only [List.length_nil, List.nil_append] at h54
    have hr := rowsC_fl (L.take (plN L g) ++ [(g, u, n + t)] ++ L.drop (plN L g))
    have hl : (L.take (plN L g) ++ [(g, u, n + t)] ++ L.drop (plN L g)).length = L.length + 1 := by
      simp only [List.length_append, List.length_take, List.length_drop, List.length_cons, List.length_nil]; omega
    rw [hl] at hr
    have h55 := c55 L hL hne (plN L g) pl g (n + t) u
    rcases hg9 with q1 | ⟨q1, q2⟩
    · simp only [F25, go_sem, List.set_cons_zero, List.set_cons_succ, List.take_succ_cons, and_false, false_and, and_true, true_and, Nat.reduceAdd, Nat.reduceEqDiff, Nat.reduceLT, ↓reduceIte, decide_eq_true_eq, List.take_nil, beq_self_eq_true, bne_self_eq_false, List.take_zero, List.map_cons, List.map_nil, Int.reduceNeg, Bool.and_true, and_self, Bool.true_and, Bool.and_self, ne_eq, not_true_eq_false, decide_false, decide_true, Bool.false_eq_true, Nat.reduceAdd, Option.map_some, Option.map_none, Option.bind_some, Option.bind_none, List.length_nil, List.length_cons, List.append_nil, Bool.and_false, w64, demV_sl, Int.cast_ofNat_Int, Int.reduceLT, Int.reduceAdd, Int.reduceSub, Int.reduceLE, Int.reduceEq, Int.reduceToNat, Int.toNat_natCast, Nat.reduceSub, Nat.reduceMul, Nat.reduceLeDiff, Nat.zero_add, Int.zero_add, not_false_eq_true, Bool.not_true, Bool.not_false, Bool.false_and, List.cons_append, List.nil_append, c28, h1, h2, h3, h4, h5, hws, h6, c52, h7, c33 L hL g n, q1, c53 L hL g, hb, tks_len, q9, hwa, h54, h55, hr]
    · simp only [F25, go_sem, List.set_cons_zero, List.set_cons_succ, List.take_succ_cons, and_false, false_and, and_true, true_and, Nat.reduceAdd, Nat.reduceEqDiff, Nat.reduceLT, ↓reduceIte, decide_eq_true_eq, List.take_nil, beq_self_eq_true, bne_self_eq_false, List.take_zero, List.map_cons, List.map_nil, Int.reduceNeg, Bool.and_true, and_self, Bool.true_and, Bool.and_self, ne_eq, not_true_eq_false, decide_false, decide_true, Bool.false_eq_true, Nat.reduceAdd, Option.map_some, Option.map_none, Option.bind_some, Option.bind_none, List.length_nil, List.length_cons, List.append_nil, Bool.and_false, w64, demV_sl, Int.cast_ofNat_Int, Int.reduceLT, Int.reduceAdd, Int.reduceSub, Int.reduceLE, Int.reduceEq, Int.reduceToNat, Int.toNat_natCast, Nat.reduceSub, Nat.reduceMul, Nat.reduceLeDiff, Nat.zero_add, Int.zero_add, not_false_eq_true, Bool.not_true, Bool.not_false, Bool.false_and, List.cons_append, List.nil_append, c28, h1, h2, h3, h4, h5, hws, h6, c52, h7, c33 L hL g n, q1, q2, c53 L hL g, hb, tks_len, q9, hwa, h54, h55, hr]
  | true =>
    obtain ⟨pi, _, _⟩ := p4 hb
    have hyes : (L.filter (neF g)).length ≠ L.length := by
      obtain ⟨_, p2, _, p4⟩ := pl_facts L g hsrt
      obtain ⟨q1, q2, q3⟩ := p4 hb
      have hL2 : L.take (plN L g) ++ L.getD (plN L g) tk0 :: L.drop (plN L g + 1) = L := by rw [← drop_d q1, List.take_append_drop]
      have hnt : neF g (L.getD (plN L g) tk0) = false := by simp only [neF, q2, decide_true, Bool.not_true]
      have : L.filter (neF g) = L.take (plN L g) ++ L.drop (plN L g + 1) := by
        conv => lhs; rw [← hL2]
        rw [List.filter_append, List.filter_cons, hnt, (fil_lt p2).1, (fil_gt q3).1]
        rfl
      rw [this, List.length_append, List.length_take, List.length_drop]; omega
    have e : acqE L g u n t = 0 := by rw [hE, if_neg (fun q => hyes q.1)]
    obtain ⟨el, _⟩ := acq_set h1 hb e
    rw [el, e]
    have hne : L ≠ [] := by
      intro h
      rw [h] at pi
      simp at pi
    have h54 := c54s .no L hL hne []
    simp only [List.length_nil, List.nil_append] at h54
    have hr1 := tks_d pi
    have i0 : (0 : Int) ≤ (plN L g : Int) := by omega
    have i1 : (plN L g : Int) < (L.length : Int) := by omega
    have hset : ∀ x : Int, putL (plN L g * 3) [.int .i64 g, .str u, .int .i64 x] (fl L) = some (fl (L.set (plN L g) (g, u, x))) := fun x => fl_setp L (plN L g) (g, u, x) pi
    have hr : ∀ x : Int, rowsC 0 L.length 3 (fl (L.set (plN L g) (g, u, x))) = some (tks (L.set (plN L g) (g, u, x))) := fun x => by
      have := rowsC_fl (L.set (plN L g) (g, u, x))
      rwa [List.length_set] at this
    cases hq : (hoF L g n == u) with
    | true =>
      have hif : (if true = true then max (n + t) (L.getD (plN L g) tk0).2.2 else n + t) = max (n + t) (L.getD (plN L g) tk0).2.2 := rfl
      rw [hif]
      rcases hg9 with q1 | ⟨q1, q2⟩
      · simp only [F25, go_sem, List.set_cons_zero, List.set_cons_succ, List.take_succ_cons, and_false, false_and, and_true, true_and, Nat.reduceAdd, Nat.reduceEqDiff, Nat.reduceLT, ↓reduceIte, decide_eq_true_eq, List.take_nil, beq_self_eq_true, bne_self_eq_false, List.take_zero, List.map_cons, List.map_nil, Int.reduceNeg, Bool.and_true, and_self, Bool.true_and, Bool.and_self, ne_eq, not_true_eq_false, decide_false, decide_true, Bool.false_eq_true, Nat.reduceAdd, Option.map_some, Option.map_none, Option.bind_some, Option.bind_none, List.length_nil, List.length_cons, List.append_nil, Bool.and_false, w64, demV_sl, Int.cast_ofNat_Int, Int.reduceLT, Int.reduceAdd, Int.reduceSub, Int.reduceLE, Int.reduceEq, Int.reduceToNat, Int.toNat_natCast, Nat.reduceSub, Nat.reduceMul, Nat.reduceLeDiff, Nat.zero_add, Int.zero_add, not_false_eq_true, Bool.not_true, Bool.not_false, Bool.false_and, List.cons_append, List.nil_append, c28, h1, h2, h3, h4, h5, hws, h6, c52, h7, c33 L hL g n, q1, c53 L hL g, hb, tks_len, hwa, h54, hq, i0, i1, pi, hr1, hset, hr, fl_blk]
      · simp only [F25, go_sem, List.set_cons_zero, List.set_cons_succ, List.take_succ_cons, and_false, false_and, and_true, true_and, Nat.reduceAdd, Nat.reduceEqDiff, Nat.reduceLT, ↓reduceIte, decide_eq_true_eq, List.take_nil, beq_self_eq_true, bne_self_eq_false, List.take_zero, List.map_cons, List.map_nil, Int.reduceNeg, Bool.and_true, and_self, Bool.true_and, Bool.and_self, ne_eq, not_true_eq_false, decide_false, decide_true, Bool.false_eq_true, Nat.reduceAdd, Option.map_some, Option.map_none, Option.bind_some, Option.bind_none, List.length_nil, List.length_cons, List.append_nil, Bool.and_false, w64, demV_sl, Int.cast_ofNat_Int, Int.reduceLT, Int.reduceAdd, Int.reduceSub, Int.reduceLE, Int.reduceEq, Int.reduceToNat, Int.toNat_natCast, Nat.reduceSub, Nat.reduceMul, Nat.reduceLeDiff, Nat.zero_add, Int.zero_add, not_false_eq_true, Bool.not_true, Bool.not_false, Bool.false_and, List.cons_append, List.nil_append, c28, h1, h2, h3, h4, h5, hws, h6, c52, h7, c33 L hL g n, q1, q2, c53 L hL g, hb, tks_len, hwa, h54, hq, i0, i1, pi, hr1, hset, hr, fl_blk]
    | false =>
      have hif : (if false = true then max (n + t) (L.getD (plN L g) tk0).2.2 else n + t) = n + t := rfl
      rw [hif]
      rcases hg9 with q1 | ⟨q1, q2⟩
      · simp only [F25, go_sem, List.set_cons_zero, List.set_cons_succ, List.take_succ_cons, and_false, false_and, and_true, true_and, Nat.reduceAdd, Nat.reduceEqDiff, Nat.reduceLT, ↓reduceIte, decide_eq_true_eq, List.take_nil, beq_self_eq_true, bne_self_eq_false, List.take_zero, List.map_cons, List.map_nil, Int.reduceNeg, Bool.and_true, and_self, Bool.true_and, Bool.and_self, ne_eq, not_true_eq_false, decide_false, decide_true, Bool.false_eq_true, Nat.reduceAdd, Option.map_some, Option.map_none, Option.bind_some, Option.bind_none, List.length_nil, List.length_cons, List.append_nil, Bool.and_false, w64, demV_sl, Int.cast_ofNat_Int, Int.reduceLT, Int.reduceAdd, Int.reduceSub, Int.reduceLE, Int.reduceEq, Int.reduceToNat, Int.toNat_natCast, Nat.reduceSub, Nat.reduceMul, Nat.reduceLeDiff, Nat.zero_add, Int.zero_add, not_false_eq_true, Bool.not_true, Bool.not_false, Bool.false_and, List.cons_append, List.nil_append, c28, h1, h2, h3, h4, h5, hws, h6, c52, h7, c33 L hL g n, q1, c53 L hL g, hb, tks_len, hwa, h54, hq, i0, i1, pi, hr1, hset, hr, fl_blk]
      · simp only [F25, go_sem, List.set_cons_zero, List.set_cons_succ, List.take_succ_cons, and_false, false_and, and_true, true_and, Nat.reduceAdd, Nat.reduceEqDiff, Nat.reduceLT, ↓reduceIte, decide_eq_true_eq, List.take_nil, beq_self_eq_true, bne_self_eq_false, List.take_zero, List.map_cons, List.map_nil, Int.reduceNeg, Bool.and_true, and_self, Bool.true_and, Bool.and_self, ne_eq, not_true_eq_false, decide_false, decide_true, Bool.false_eq_true, Nat.reduceAdd, Option.map_some, Option.map_none, Option.bind_some, Option.bind_none, List.length_nil, List.length_cons, List.append_nil, Bool.and_false, w64, demV_sl, Int.cast_ofNat_Int, Int.reduceLT, Int.reduceAdd, Int.reduceSub, Int.reduceLE, Int.reduceEq, Int.reduceToNat, Int.toNat_natCast, Nat.reduceSub, Nat.reduceMul, Nat.reduceLeDiff, Nat.zero_add, Int.zero_add, not_false_eq_true, Bool.not_true, Bool.not_false, Bool.false_and, List.cons_append, List.nil_append, c28, h1, h2, h3, h4, h5, hws, h6, c52, h7, c33 L hL g n, q1, q2, c53 L hL g, hb, tks_len, hwa, h54, hq, i0, i1, pi, hr1, hset, hr, fl_blk]
end Go.Av
