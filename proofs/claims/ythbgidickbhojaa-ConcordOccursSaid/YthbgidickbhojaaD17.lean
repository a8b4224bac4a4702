/- A part of the proof: D17. No conditions. -/
import Derived.Test.YthbgidickbhojaaD12
import Derived.Test.YthbgidickbhojaaD11
set_option linter.unusedSimpArgs false
set_option linter.unusedVariables false
namespace Go.Av
set_option linter.unusedSimpArgs false
set_option maxHeartbeats 4000000
def hit (a b : Int) (p : Int × Int) : Bool := decide (p.1 = a) && decide (p.2 < b)
theorem l6a (S L : List (Int × Int)) (hS : S.length ≤ 1000000) (a b i : Int) : ∀ (k j : Nat) (fd : Bool), j + k = S.length →
    execX G0 L6_0 (ST [(9, .sl .no 2 (prs S)), (10, .sl .no 2 (prs L)), (12, .loc 12 0), (13, .bool fd), (23, .bool false), (32, .bool false), (51, .sl .no 2 (prs L)), (52, .int .i64 L.length), (53, .int .i64 i), (54, .bool true), (57, .sl .no 2 (prs S)), (58, .int .i64 S.length), (59, .int .i64 j)] [(12, some [.int .i64 a, .int .i64 b])] []) =
    some (.ex 2, ST [(9, .sl .no 2 (prs S)), (10, .sl .no 2 (prs L)), (12, .loc 12 0), (13, .bool (fd || (S.drop j).any (hit a b))), (23, .bool false), (32, .bool false), (51, .sl .no 2 (prs L)), (52, .int .i64 L.length), (53, .int .i64 i), (54, .bool true), (57, .sl .no 2 (prs S)), (58, .int .i64 S.length), (59, .int .i64 S.length), (60, .bool false)] [(12, some [.int .i64 a, .int .i64 b])] [])
  | 0, j, fd, h => by
    have : j = S.length := by omega
    subst this
    rw [Y_loop (L := L6_0) rfl]
    simp only [go_sem, List.set_cons_zero, List.set_cons_succ, List.take_succ_cons, and_false, false_and, and_true, true_and, Nat.reduceAdd, Nat.reduceEqDiff, Nat.reduceLT, ↓reduceIte, decide_eq_true_eq, List.take_nil, beq_self_eq_true, bne_self_eq_false, List.take_zero, List.map_cons, List.map_nil, Int.reduceNeg, Bool.and_true, and_self, Bool.true_and, Bool.and_self, ne_eq, not_true_eq_false, decide_false, decide_true, Bool.false_eq_true, Nat.reduceAdd, Option.map_some, Option.map_none, Option.bind_some, Option.bind_none, List.length_nil, List.length_cons, List.append_nil, Bool.and_false, w64, demV_sl, Int.cast_ofNat_Int, Int.reduceLT, Int.reduceAdd, Int.reduceSub, Int.reduceLE, Int.reduceEq, Int.reduceToNat, Int.toNat_natCast, Nat.reduceSub, Nat.reduceMul, Nat.reduceLeDiff, Nat.zero_add, Int.zero_add, not_false_eq_true, Bool.not_true, Bool.not_false, Bool.false_and, List.cons_append, List.nil_append, Int.lt_irrefl, List.drop_length, List.any_nil, Bool.or_false]
  | k + 1, j, fd, h => by
    have hi : j < S.length := by omega
    have h4 : (j : Int) < (S.length : Int) := by omega
    have h0 : (0 : Int) ≤ (j : Int) := by omega
    have hw : IntKind.i64.wrap ((j : Int) + 1) = ((j + 1 : Nat) : Int) := by rw [w64 (by omega) (by omega)]; rfl
    have hg : S[j]? = some S[j] := List.getElem?_eq_getElem hi
    have hd : S.drop j = S[j] :: S.drop (j + 1) := List.drop_eq_getElem_cons hi
    generalize S[j] = p at hg hd
    have hr := prs_at hg
    have ih := fun fd => l6a S L hS a b i k (j + 1) fd (by omega)
    rw [hd, List.any_cons]
    cases fd with
    | true =>
      rw [Y_loop (L := L6_0) rfl]
      simp only [go_sem, List.set_cons_zero, List.set_cons_succ, List.take_succ_cons, and_false, false_and, and_true, true_and, Nat.reduceAdd, Nat.reduceEqDiff, Nat.reduceLT, ↓reduceIte, decide_eq_true_eq, List.take_nil, beq_self_eq_true, bne_self_eq_false, List.take_zero, List.map_cons, List.map_nil, Int.reduceNeg, Bool.and_true, and_self, Bool.true_and, Bool.and_self, ne_eq, not_true_eq_false, decide_false, decide_true, Bool.false_eq_true, Nat.reduceAdd, Option.map_some, Option.map_none, Option.bind_some, Option.bind_none, List.length_nil, List.length_cons, List.append_nil, Bool.and_false, w64, demV_sl, Int.cast_ofNat_Int, Int.reduceLT, Int.reduceAdd, Int.reduceSub, Int.reduceLE, Int.reduceEq, Int.reduceToNat, Int.toNat_natCast, Nat.reduceSub, Nat.reduceMul, Nat.reduceLeDiff, Nat.zero_add, Int.zero_add, not_false_eq_true, Bool.not_true, Bool.not_false, Bool.false_and, List.cons_append, List.nil_append, h4, h0, hw, hr, Bool.true_or]
      have e := ih true
      simp only [Bool.true_or] at e
      exact e
    | false =>
      by_cases c1 : p.1 = a
      · by_cases c2 : p.2 < b
        · have hh : hit a b p = true := by simp [hit, c1, c2]
          rw [hh]
          rw [Y_loop (L := L6_0) rfl]
          simp only [go_sem, List.set_cons_zero, List.set_cons_succ, List.take_succ_cons, and_false, false_and, and_true, true_and, Nat.reduceAdd, Nat.reduceEqDiff, Nat.reduceLT, ↓reduceIte, decide_eq_true_eq, List.take_nil, beq_self_eq_true, bne_self_eq_false, List.take_zero, List.map_cons, List.map_nil, Int.reduceNeg, Bool.and_true, and_self, Bool.true_and, Bool.and_self, ne_eq, not_true_eq_false, decide_false, decide_true, Bool.false_eq_true, Nat.reduceAdd, Option.map_some, Option.map_none, Option.bind_some, Option.bind_none, List.length_nil, List.length_cons, List.append_nil, Bool.and_false, w64, demV_sl, Int.cast_ofNat_Int, Int.reduceLT, Int.reduceAdd, Int.reduceSub, Int.reduceLE, Int.reduceEq, Int.reduceToNat, Int.toNat_natCast, Nat.reduceSub, Nat.reduceMul, Nat.reduceLeDiff, Nat.zero_add, Int.zero_add, not_false_eq_true, Bool.not_true, Bool.not_false, Bool.false_and, List.cons_append, List.nil_append, h4, h0, hw, hr, c1, c2, Bool.true_or, Bool.or_true]
          have e := ih true
          simp only [Bool.true_or] at e
          exact e
        · have hh : hit a b p = false := by simp [hit, c2]
          rw [hh]
          rw [Y_loop (L := L6_0) rfl]
          simp only [go_sem, List.set_cons_zero, List.set_cons_succ, List.take_succ_cons, and_false, false_and, and_true, true_and, Nat.reduceAdd, Nat.reduceEqDiff, Nat.reduceLT, ↓reduceIte, decide_eq_true_eq, List.take_nil, beq_self_eq_true, bne_self_eq_false, List.take_zero, List.map_cons, List.map_nil, Int.reduceNeg, Bool.and_true, and_self, Bool.true_and, Bool.and_self, ne_eq, not_true_eq_false, decide_false, decide_true, Bool.false_eq_true, Nat.reduceAdd, Option.map_some, Option.map_none, Option.bind_some, Option.bind_none, List.length_nil, List.length_cons, List.append_nil, Bool.and_false, w64, demV_sl, Int.cast_ofNat_Int, Int.reduceLT, Int.reduceAdd, Int.reduceSub, Int.reduceLE, Int.reduceEq, Int.reduceToNat, Int.toNat_natCast, Nat.reduceSub, Nat.reduceMul, Nat.reduceLeDiff, Nat.zero_add, Int.zero_add, not_false_eq_true, Bool.not_true, Bool.not_false, Bool.false_and, List.cons_append, List.nil_append, h4, h0, hw, hr, c1, c2, Bool.false_or]
          have e := ih false
          simp only [Bool.false_or] at e
          exact e
      · have hh : hit a b p = false := by simp [hit, c1]
        rw [hh]
        rw [Y_loop (L := L6_0) rfl]
        simp only [go_sem, List.set_cons_zero, List.set_cons_succ, List.take_succ_cons, and_false, false_and, and_true, true_and, Nat.reduceAdd, Nat.reduceEqDiff, Nat.reduceLT, ↓reduceIte, decide_eq_true_eq, List.take_nil, beq_self_eq_true, bne_self_eq_false, List.take_zero, List.map_cons, List.map_nil, Int.reduceNeg, Bool.and_true, and_self, Bool.true_and, Bool.and_self, ne_eq, not_true_eq_false, decide_false, decide_true, Bool.false_eq_true, Nat.reduceAdd, Option.map_some, Option.map_none, Option.bind_some, Option.bind_none, List.length_nil, List.length_cons, List.append_nil, Bool.and_false, w64, demV_sl, Int.cast_ofNat_Int, Int.reduceLT, Int.reduceAdd, Int.reduceSub, Int.reduceLE, Int.reduceEq, Int.reduceToNat, Int.toNat_natCast, Nat.reduceSub, Nat.reduceMul, Nat.reduceLeDiff, Nat.zero_add, Int.zero_add, not_false_eq_true, Bool.not_true, Bool.not_false, Bool.false_and, List.cons_append, List.nil_append, h4, h0, hw, hr, c1, Bool.false_or]
        have e := ih false
        simp only [Bool.false_or] at e
        exact e
theorem l6b (S L : List (Int × Int)) (hS : S.length ≤ 1000000) (hL : L.length ≤ 1000000) (hall : ∀ q ∈ L, S.any (hit q.1 q.2) = true) : ∀ (k i : Nat), i + k = L.length →
    execX G0 L6_1 (ST [(9, .sl .no 2 (prs S)), (10, .sl .no 2 (prs L)), (23, .bool false), (32, .bool false), (51, .sl .no 2 (prs L)), (52, .int .i64 L.length), (53, .int .i64 i)] [] []) =
    some (.ex 0, ST [(9, .sl .no 2 (prs S)), (10, .sl .no 2 (prs L)), (23, .bool false), (32, .bool false), (51, .sl .no 2 (prs L)), (52, .int .i64 L.length), (53, .int .i64 L.length), (54, .bool false)] [] [])
  | 0, i, h => by
    have : i = L.length := by omega
    subst this
    rw [Y_loop (L := L6_1) rfl]
    simp only [go_sem, List.set_cons_zero, List.set_cons_succ, List.take_succ_cons, and_false, false_and, and_true, true_and, Nat.reduceAdd, Nat.reduceEqDiff, Nat.reduceLT, ↓reduceIte, decide_eq_true_eq, List.take_nil, beq_self_eq_true, bne_self_eq_false, List.take_zero, List.map_cons, List.map_nil, Int.reduceNeg, Bool.and_true, and_self, Bool.true_and, Bool.and_self, ne_eq, not_true_eq_false, decide_false, decide_true, Bool.false_eq_true, Nat.reduceAdd, Option.map_some, Option.map_none, Option.bind_some, Option.bind_none, List.length_nil, List.length_cons, List.append_nil, Bool.and_false, w64, demV_sl, Int.cast_ofNat_Int, Int.reduceLT, Int.reduceAdd, Int.reduceSub, Int.reduceLE, Int.reduceEq, Int.reduceToNat, Int.toNat_natCast, Nat.reduceSub, Nat.reduceMul, Nat.reduceLeDiff, Nat.zero_add, Int.zero_add, not_false_eq_true, Bool.not_true, Bool.not_false, Bool.false_and, List.cons_append, List.nil_append, Int.lt_irrefl]
  | k + 1, i, h => by
    have hi : i < L.length := by omega
    have h4 : (i : Int) < (L.length : Int) := by omega
    have h0 : (0 : Int) ≤ (i : Int) := by omega
    have hw : IntKind.i64.wrap ((i : Int) + 1) = ((i + 1 : Nat) : Int) := by rw [w64 (by omega) (by omega)]; rfl
    have hg : L[i]? = some L[i] := List.getElem?_eq_getElem hi
    have hq := hall _ (List.getElem_mem hi)
    generalize L[i] = q at hg hq
    have hr := prs_at hg
    have ha := l6a S L hS q.1 q.2 i S.length 0 false (by omega)
    rw [List.drop_zero, hq] at ha
    simp only [go_sem, List.set_cons_zero, List.set_cons_succ, List.take_succ_cons, and_false, false_and, and_true, true_and, Nat.reduceAdd, Nat.reduceEqDiff, Nat.reduceLT, ↓reduceIte, decide_eq_true_eq, List.take_nil, beq_self_eq_true, bne_self_eq_false, List.take_zero, List.map_cons, List.map_nil, Int.reduceNeg, Bool.and_true, and_self, Bool.true_and, Bool.and_self, ne_eq, not_true_eq_false, decide_false, decide_true, Bool.false_eq_true, Nat.reduceAdd, Option.map_some, Option.map_none, Option.bind_some, Option.bind_none, List.length_nil, List.length_cons, List.append_nil, Bool.and_false, w64, demV_sl, Int.cast_ofNat_Int, Int.reduceLT, Int.reduceAdd, Int.reduceSub, Int.reduceLE, Int.reduceEq, Int.reduceToNat, Int.toNat_natCast, Nat.reduceSub, Nat.reduceMul, Nat.reduceLeDiff, Nat.zero_add, Int.zero_add, not_false_eq_true, Bool.not_true, Bool.not_false, Bool.false_and, List.cons_append, List.nil_append, Bool.or_true] at ha
    have ih := l6b S L hS hL hall k (i + 1) (by omega)
    rw [Y_loop (L := L6_1) rfl]
    simp only [go_sem, List.set_cons_zero, List.set_cons_succ, List.take_succ_cons, and_false, false_and, and_true, true_and, Nat.reduceAdd, Nat.reduceEqDiff, Nat.reduceLT, ↓reduceIte, decide_eq_true_eq, List.take_nil, beq_self_eq_true, bne_self_eq_false, List.take_zero, List.map_cons, List.map_nil, Int.reduceNeg, Bool.and_true, and_self, Bool.true_and, Bool.and_self, ne_eq, not_true_eq_false, decide_false, decide_true, Bool.false_eq_true, Nat.reduceAdd, Option.map_some, Option.map_none, Option.bind_some, Option.bind_none, List.length_nil, List.length_cons, List.append_nil, Bool.and_false, w64, demV_sl, Int.cast_ofNat_Int, Int.reduceLT, Int.reduceAdd, Int.reduceSub, Int.reduceLE, Int.reduceEq, Int.reduceToNat, Int.toNat_natCast, Nat.reduceSub, Nat.reduceMul, Nat.reduceLeDiff, Nat.zero_add, Int.zero_add, not_false_eq_true, Bool.not_true, Bool.not_false, Bool.false_and, List.cons_append, List.nil_append, h4, h0, hw, hr, prs_len, ha]
    exact ih
theorem plc_inc : ∀ (T : List Tk) (p : Nat), List.Pairwise (· < ·) (plc p T)
  | [], _ => List.Pairwise.nil
  | t :: T, p => by
    simp only [plc]
    split
    · refine List.Pairwise.cons (fun x hx => ?_) (plc_inc T (p + 1))
      have := plc_bd T (p + 1) x hx
      omega
    · exact plc_inc T (p + 1)
theorem occ_longer (P : List Int) (K w : List (List UInt8)) (x : List UInt8) (hw : 1 ≤ w.length) (hPK : P.length = K.length) (hP : List.Pairwise (· < ·) P) : ∀ (k i : Nat),
    (∀ q ∈ occ P K (w ++ [x]) k i, (occ P K w k i).any (hit q.1 q.2) = true) ∧ (occ P K (w ++ [x]) k i).length ≤ (occ P K w k i).length
  | 0, i => by simp [occ]
  | k + 1, i => by
    have ih := occ_longer P K w x hw hPK hP k (i + 1)
    have hl : (w ++ [x]).length = w.length + 1 := by simp
    simp only [occ, hl]
    by_cases h1 : i + (w.length + 1) ≤ K.length
    · rw [if_pos h1, if_pos (by omega : i + w.length ≤ K.length)]
      by_cases h2 : (K.take (i + (w.length + 1))).drop i = w ++ [x]
      · have h3 : (K.take (i + w.length)).drop i = w := by
          rw [List.drop_take] at h2 ⊢
          have e1 : i + (w.length + 1) - i = w.length + 1 := by omega
          have e2 : i + w.length - i = w.length := by omega
          rw [e1] at h2
          rw [e2]
          have := congrArg (List.take w.length) h2
          rw [List.take_take, Nat.min_eq_left (by omega)] at this
          rw [this]; simp
        have h4 : P.getD (i + w.length - 1) 0 < P.getD (i + w.length) 0 := by
          have a1 : i + w.length - 1 < P.length := by omega
          have a2 : i + w.length < P.length := by omega
          have := List.pairwise_iff_getElem.1 hP (i + w.length - 1) (i + w.length) a1 a2 (by omega)
          simpa [List.getD_eq_getElem?_getD, a1, a2] using this
        rw [if_pos h2, if_pos h3]
        have e3 : i + (w.length + 1) - 1 = i + w.length := by omega
        rw [e3]
        refine ⟨fun q hq => ?_, by simp only [List.length_cons]; omega⟩
        rw [List.any_cons]
        rcases List.mem_cons.1 hq with h | h
        · subst h
          have hh : hit (P.getD i 0) (P.getD (i + w.length) 0 + 1) (P.getD i 0, P.getD (i + w.length - 1) 0 + 1) = true := by
            unfold hit
            rw [decide_eq_true rfl, Bool.true_and]
            exact decide_eq_true (by show P.getD (i + w.length - 1) 0 + 1 < P.getD (i + w.length) 0 + 1; omega)
          rw [hh, Bool.true_or]
        · rw [ih.1 q h, Bool.or_true]
      · rw [if_neg h2]
        split
        · refine ⟨fun q hq => ?_, by simp only [List.length_cons]; omega⟩
          rw [List.any_cons, ih.1 q hq, Bool.or_true]
        · exact ih
    · rw [if_neg h1]
      exact ⟨fun q hq => by simp at hq, by simp⟩
theorem occ_len (P : List Int) (K w : List (List UInt8)) : ∀ (k i : Nat), (occ P K w k i).length ≤ k
  | 0, i => by simp [occ]
  | k + 1, i => by
    have ih := occ_len P K w k (i + 1)
    simp only [occ]
    split
    · split
      · simp only [List.length_cons]; omega
      · omega
    · simp
end Go.Av
