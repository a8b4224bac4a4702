/- A part of the proof: M13. No conditions. -/
import Derived.Test.YthbgidickbhojaaM12
set_option linter.unusedSimpArgs false
set_option linter.unusedVariables false
namespace Go.Av
set_option linter.unusedSimpArgs false
set_option maxHeartbeats 8000000
set_option maxRecDepth 100000
/-- the latest end, where the holder asks again -/
def mxF (g : Int) (b : Bool) : List Tk → Int → Int
  | [], x => x
  | t :: r, x => mxF g b r (if b = true ∧ t.1 = g then max x t.2.2 else x)
def ltF (g : Int) (t : Tk) : Bool := decide (t.1 < g)
def gtF (g : Int) (t : Tk) : Bool := decide (g < t.1)
theorem l26a (L R : List Tk) (hL : L.length ≤ 1000000) (g : Int) (u h : List UInt8) : ∀ (k i : Nat) (x : Int), i + k = L.length →
    execX G0 L26_0 (ST [(1, .int .i64 g), (2, .str u), (12, .int .i64 0), (13, .str h), (14, .sl .no 3 (tks R)), (15, .loc 15 0), (26, .bool false), (47, .bool false), (50, .bool false), (61, .bool false), (74, .bool false), (81, .sl .no 3 (tks L)), (82, .int .i64 L.length), (83, .int .i64 i)] [(15, some [.int .i64 g, .str u, .int .i64 x])] []) = some (.ex 0, ST [(1, .int .i64 g), (2, .str u), (12, .int .i64 0), (13, .str h), (14, .sl .no 3 (tks R)), (15, .loc 15 0), (26, .bool false), (47, .bool false), (50, .bool false), (61, .bool false), (74, .bool false), (81, .sl .no 3 (tks L)), (82, .int .i64 L.length), (83, .int .i64 L.length), (84, .bool false)] [(15, some [.int .i64 g, .str u, .int .i64 (mxF g (h == u) (L.drop i) x)])] [])
  | 0, i, x, h1 => by
    have : i = L.length := by omega
    subst this
    rw [Y_loop (L := L26_0) rfl]
    simp only [go_sem, List.set_cons_zero, List.set_cons_succ, List.take_succ_cons, and_false, false_and, and_true, true_and, Nat.reduceAdd, Nat.reduceEqDiff, Nat.reduceLT, ↓reduceIte, decide_eq_true_eq, List.take_nil, beq_self_eq_true, bne_self_eq_false, List.take_zero, List.map_cons, List.map_nil, Int.reduceNeg, Bool.and_true, and_self, Bool.true_and, Bool.and_self, ne_eq, not_true_eq_false, decide_false, decide_true, Bool.false_eq_true, Nat.reduceAdd, Option.map_some, Option.map_none, Option.bind_some, Option.bind_none, List.length_nil, List.length_cons, List.append_nil, Bool.and_false, w64, demV_sl, Int.cast_ofNat_Int, Int.reduceLT, Int.reduceAdd, Int.reduceSub, Int.reduceLE, Int.reduceEq, Int.reduceToNat, Int.toNat_natCast, Nat.reduceSub, Nat.reduceMul, Nat.reduceLeDiff, Nat.zero_add, Int.zero_add, not_false_eq_true, Bool.not_true, Bool.not_false, Bool.false_and, List.cons_append, List.nil_append, Int.lt_irrefl, List.drop_length, mxF]
  | k + 1, i, x, h1 => by
    have h3 : i < L.length := by omega
    have h4 : (i : Int) < (L.length : Int) := by omega
    have h0 : (0 : Int) ≤ (i : Int) := by omega
    have hw : IntKind.i64.wrap ((i : Int) + 1) = ((i + 1 : Nat) : Int) := by rw [w64 (by omega) (by omega)]; rfl
    have hr := tks_d h3
    rw [drop_d h3]
    simp only [mxF]
    cases hb : (h == u) with
    | true =>
      by_cases a1 : (L.getD i tk0).1 = g
      · have a1' : ((L.getD i tk0).1 = g) = True := eq_true a1
        have ih := l26a L R hL g u h k (i + 1) (max x (L.getD i tk0).2.2) (by omega)
        rw [hb] at ih
        rw [if_pos ⟨rfl, a1⟩]
        rw [Y_loop (L := L26_0) rfl]
        simp only [go_sem, List.set_cons_zero, List.set_cons_succ, List.take_succ_cons, and_false, false_and, and_true, true_and, Nat.reduceAdd, Nat.reduceEqDiff, Nat.reduceLT, ↓reduceIte, decide_eq_true_eq, List.take_nil, beq_self_eq_true, bne_self_eq_false, List.take_zero, List.map_cons, List.map_nil, Int.reduceNeg, Bool.and_true, and_self, Bool.true_and, Bool.and_self, ne_eq, not_true_eq_false, decide_false, decide_true, Bool.false_eq_true, Nat.reduceAdd, Option.map_some, Option.map_none, Option.bind_some, Option.bind_none, List.length_nil, List.length_cons, List.append_nil, Bool.and_false, w64, demV_sl, Int.cast_ofNat_Int, Int.reduceLT, Int.reduceAdd, Int.reduceSub, Int.reduceLE, Int.reduceEq, Int.reduceToNat, Int.toNat_natCast, Nat.reduceSub, Nat.reduceMul, Nat.reduceLeDiff, Nat.zero_add, Int.zero_add, not_false_eq_true, Bool.not_true, Bool.not_false, Bool.false_and, List.cons_append, List.nil_append, h4, h0, hr, a1', hw, hb]
        exact ih
      · have a1' : ((L.getD i tk0).1 = g) = False := eq_false a1
        have ih := l26a L R hL g u h k (i + 1) x (by omega)
        rw [hb] at ih
        rw [if_neg (fun q => a1 q.2)]
        rw [Y_loop (L := L26_0) rfl]
        simp only [go_sem, List.set_cons_zero, List.set_cons_succ, List.take_succ_cons, and_false, false_and, and_true, true_and, Nat.reduceAdd, Nat.reduceEqDiff, Nat.reduceLT, ↓reduceIte, decide_eq_true_eq, List.take_nil, beq_self_eq_true, bne_self_eq_false, List.take_zero, List.map_cons, List.map_nil, Int.reduceNeg, Bool.and_true, and_self, Bool.true_and, Bool.and_self, ne_eq, not_true_eq_false, decide_false, decide_true, Bool.false_eq_true, Nat.reduceAdd, Option.map_some, Option.map_none, Option.bind_some, Option.bind_none, List.length_nil, List.length_cons, List.append_nil, Bool.and_false, w64, demV_sl, Int.cast_ofNat_Int, Int.reduceLT, Int.reduceAdd, Int.reduceSub, Int.reduceLE, Int.reduceEq, Int.reduceToNat, Int.toNat_natCast, Nat.reduceSub, Nat.reduceMul, Nat.reduceLeDiff, Nat.zero_add, Int.zero_add, not_false_eq_true, Bool.not_true, Bool.not_false, Bool.false_and, List.cons_append, List.nil_append, h4, h0, hr, a1', hw, hb]
        exact ih
    | false =>
      have ih := l26a L R hL g u h k (i + 1) x (by omega)
      rw [hb] at ih
      rw [if_neg (fun q => by cases q.1)]
      rw [Y_loop (L := L26_0) rfl]
      simp only [go_sem, List.set_cons_zero, List.set_cons_succ, List.take_succ_cons, and_false, false_and, and_true, true_and, Nat.reduceAdd, Nat.reduceEqDiff, Nat.reduceLT, ↓reduceIte, decide_eq_true_eq, List.take_nil, beq_self_eq_true, bne_self_eq_false, List.take_zero, List.map_cons, List.map_nil, Int.reduceNeg, Bool.and_true, and_self, Bool.true_and, Bool.and_self, ne_eq, not_true_eq_false, decide_false, decide_true, Bool.false_eq_true, Nat.reduceAdd, Option.map_some, Option.map_none, Option.bind_some, Option.bind_none, List.length_nil, List.length_cons, List.append_nil, Bool.and_false, w64, demV_sl, Int.cast_ofNat_Int, Int.reduceLT, Int.reduceAdd, Int.reduceSub, Int.reduceLE, Int.reduceEq, Int.reduceToNat, Int.toNat_natCast, Nat.reduceSub, Nat.reduceMul, Nat.reduceLeDiff, Nat.zero_add, Int.zero_add, not_false_eq_true, Bool.not_true, Bool.not_false, Bool.false_and, List.cons_append, List.nil_append, h4, h0, hr, hw, hb]
      exact ih

theorem l26b (L R : List Tk) (hR : R.length ≤ 1000000) (g : Int) (u h : List UInt8) (x : Int) : ∀ (k i : Nat) (md : Own) (out : List Tk), md ≠ .no → i + k = R.length → out.length ≤ i + 1 + R.length →
    ∃ md', md' ≠ .no ∧ execX G0 L26_1 (ST [(1, .int .i64 g), (2, .str u), (12, .int .i64 0), (13, .str h), (14, .sl .no 3 (tks R)), (15, .loc 15 0), (18, .sl md 3 (tks out)), (26, .bool false), (47, .bool false), (50, .bool false), (61, .bool false), (74, .bool false), (81, .sl .no 3 (tks L)), (82, .int .i64 L.length), (83, .int .i64 L.length), (84, .bool false), (103, .sl .no 3 (tks R)), (104, .int .i64 R.length), (105, .int .i64 i)] [(15, some [.int .i64 g, .str u, .int .i64 x])] []) = some (.ex 2, ST [(1, .int .i64 g), (2, .str u), (12, .int .i64 0), (13, .str h), (14, .sl .no 3 (tks R)), (15, .loc 15 0), (18, .sl md' 3 (tks (out ++ (R.drop i).filter (ltF g)))), (26, .bool false), (47, .bool false), (50, .bool false), (61, .bool false), (74, .bool false), (81, .sl .no 3 (tks L)), (82, .int .i64 L.length), (83, .int .i64 L.length), (84, .bool false), (103, .sl .no 3 (tks R)), (104, .int .i64 R.length), (105, .int .i64 R.length), (106, .bool false)] [(15, some [.int .i64 g, .str u, .int .i64 x])] [])
  | 0, i, md, out, hm, h1, h2 => by
    have : i = R.length := by omega
    subst this
    refine ⟨md, hm, ?_⟩
    rw [Y_loop (L := L26_1) rfl]
    simp only [go_sem, List.set_cons_zero, List.set_cons_succ, List.take_succ_cons, and_false, false_and, and_true, true_and, Nat.reduceAdd, Nat.reduceEqDiff, Nat.reduceLT, ↓reduceIte, decide_eq_true_eq, List.take_nil, beq_self_eq_true, bne_self_eq_false, List.take_zero, List.map_cons, List.map_nil, Int.reduceNeg, Bool.and_true, and_self, Bool.true_and, Bool.and_self, ne_eq, not_true_eq_false, decide_false, decide_true, Bool.false_eq_true, Nat.reduceAdd, Option.map_some, Option.map_none, Option.bind_some, Option.bind_none, List.length_nil, List.length_cons, List.append_nil, Bool.and_false, w64, demV_sl, Int.cast_ofNat_Int, Int.reduceLT, Int.reduceAdd, Int.reduceSub, Int.reduceLE, Int.reduceEq, Int.reduceToNat, Int.toNat_natCast, Nat.reduceSub, Nat.reduceMul, Nat.reduceLeDiff, Nat.zero_add, Int.zero_add, not_false_eq_true, Bool.not_true, Bool.not_false, Bool.false_and, List.cons_append, List.nil_append, Int.lt_irrefl, List.drop_length, List.filter_nil]
  | k + 1, i, md, out, hm, h1, h2 => by
    have h3 : i < R.length := by omega
    have h4 : (i : Int) < (R.length : Int) := by omega
    have h0 : (0 : Int) ≤ (i : Int) := by omega
    have hw : IntKind.i64.wrap ((i : Int) + 1) = ((i + 1 : Nat) : Int) := by rw [w64 (by omega) (by omega)]; rfl
    have hr := tks_d h3
    by_cases a1 : (R.getD i tk0).1 < g
    · obtain ⟨md', hm', ih⟩ := l26b L R hR g u h x k (i + 1) .own (out ++ [R.getD i tk0]) (by decide) (by omega) (by simp; omega)
      refine ⟨md', hm', ?_⟩
      have hk : ltF g (R.getD i tk0) = true := by simp only [ltF, a1, decide_true]
      have ha : appOK 32 (out.length + 1) = true := appOK_le (by decide) (by omega)
      have e : tks [R.getD i tk0] = [[.int .i64 (R.getD i tk0).1, .str (R.getD i tk0).2.1, .int .i64 (R.getD i tk0).2.2]] := rfl
      rw [drop_d h3, List.filter_cons, hk, if_pos rfl]
      rw [List.append_assoc] at ih
      rw [Y_loop (L := L26_1) rfl]
      simp only [go_sem, List.set_cons_zero, List.set_cons_succ, List.take_succ_cons, and_false, false_and, and_true, true_and, Nat.reduceAdd, Nat.reduceEqDiff, Nat.reduceLT, ↓reduceIte, decide_eq_true_eq, List.take_nil, beq_self_eq_true, bne_self_eq_false, List.take_zero, List.map_cons, List.map_nil, Int.reduceNeg, Bool.and_true, and_self, Bool.true_and, Bool.and_self, ne_eq, not_true_eq_false, decide_false, decide_true, Bool.false_eq_true, Nat.reduceAdd, Option.map_some, Option.map_none, Option.bind_some, Option.bind_none, List.length_nil, List.length_cons, List.append_nil, Bool.and_false, w64, demV_sl, Int.cast_ofNat_Int, Int.reduceLT, Int.reduceAdd, Int.reduceSub, Int.reduceLE, Int.reduceEq, Int.reduceToNat, Int.toNat_natCast, Nat.reduceSub, Nat.reduceMul, Nat.reduceLeDiff, Nat.zero_add, Int.zero_add, not_false_eq_true, Bool.not_true, Bool.not_false, Bool.false_and, List.cons_append, List.nil_append, h4, h0, hr, a1, hw, appA_gen md _ hm 3 32 (by decide), tks_len, ha, ← e, tks_app]
      exact ih
    · obtain ⟨md', hm', ih⟩ := l26b L R hR g u h x k (i + 1) md out hm (by omega) (by omega)
      refine ⟨md', hm', ?_⟩
      have hk : ltF g (R.getD i tk0) = false := by simp only [ltF, a1, decide_false]
      rw [drop_d h3, List.filter_cons, hk]
      rw [Y_loop (L := L26_1) rfl]
      simp only [go_sem, List.set_cons_zero, List.set_cons_succ, List.take_succ_cons, and_false, false_and, and_true, true_and, Nat.reduceAdd, Nat.reduceEqDiff, Nat.reduceLT, ↓reduceIte, decide_eq_true_eq, List.take_nil, beq_self_eq_true, bne_self_eq_false, List.take_zero, List.map_cons, List.map_nil, Int.reduceNeg, Bool.and_true, and_self, Bool.true_and, Bool.and_self, ne_eq, not_true_eq_false, decide_false, decide_true, Bool.false_eq_true, Nat.reduceAdd, Option.map_some, Option.map_none, Option.bind_some, Option.bind_none, List.length_nil, List.length_cons, List.append_nil, Bool.and_false, w64, demV_sl, Int.cast_ofNat_Int, Int.reduceLT, Int.reduceAdd, Int.reduceSub, Int.reduceLE, Int.reduceEq, Int.reduceToNat, Int.toNat_natCast, Nat.reduceSub, Nat.reduceMul, Nat.reduceLeDiff, Nat.zero_add, Int.zero_add, not_false_eq_true, Bool.not_true, Bool.not_false, Bool.false_and, List.cons_append, List.nil_append, h4, h0, hr, a1, hw]
      exact ih

theorem l26c (L R : List Tk) (hR : R.length ≤ 1000000) (g : Int) (u h : List UInt8) : ∀ (k i : Nat) (md : Own) (out : List Tk), md ≠ .no → i + k = R.length → out.length ≤ i + 1 + R.length →
    ∃ md', md' ≠ .no ∧ execX G0 L26_2 (ST [(1, .int .i64 g), (2, .str u), (12, .int .i64 0), (13, .str h), (18, .sl md 3 (tks out)), (26, .bool false), (47, .bool false), (50, .bool false), (61, .bool false), (74, .bool false), (81, .sl .no 3 (tks L)), (82, .int .i64 L.length), (83, .int .i64 L.length), (84, .bool false), (103, .sl .no 3 (tks R)), (104, .int .i64 R.length), (105, .int .i64 R.length), (106, .bool false), (122, .sl .no 3 (tks R)), (123, .int .i64 R.length), (124, .int .i64 i)] [] []) = some (.ex 4, ST [(1, .int .i64 g), (2, .str u), (12, .int .i64 0), (13, .str h), (18, .sl md' 3 (tks (out ++ (R.drop i).filter (gtF g)))), (26, .bool false), (47, .bool false), (50, .bool false), (61, .bool false), (74, .bool false), (81, .sl .no 3 (tks L)), (82, .int .i64 L.length), (83, .int .i64 L.length), (84, .bool false), (103, .sl .no 3 (tks R)), (104, .int .i64 R.length), (105, .int .i64 R.length), (106, .bool false), (122, .sl .no 3 (tks R)), (123, .int .i64 R.length), (124, .int .i64 R.length), (125, .bool false)] [] [])
  | 0, i, md, out, hm, h1, h2 => by
    have : i = R.length := by omega
    subst this
    refine ⟨md, hm, ?_⟩
    rw [Y_loop (L := L26_2) rfl]
    simp only [go_sem, List.set_cons_zero, List.set_cons_succ, List.take_succ_cons, and_false, false_and, and_true, true_and, Nat.reduceAdd, Nat.reduceEqDiff, Nat.reduceLT, ↓reduceIte, decide_eq_true_eq, List.take_nil, beq_self_eq_true, bne_self_eq_false, List.take_zero, List.map_cons, List.map_nil, Int.reduceNeg, Bool.and_true, and_self, Bool.true_and, Bool.and_self, ne_eq, not_true_eq_false, decide_false, decide_true, Bool.false_eq_true, Nat.reduceAdd, Option.map_some, Option.map_none, Option.bind_some, Option.bind_none, List.length_nil, List.length_cons, List.append_nil, Bool.and_false, w64, demV_sl, Int.cast_ofNat_Int, Int.reduceLT, Int.reduceAdd, Int.reduceSub, Int.reduceLE, Int.reduceEq, Int.reduceToNat, Int.toNat_natCast, Nat.reduceSub, Nat.reduceMul, Nat.reduceLeDiff, Nat.zero_add, Int.zero_add, not_false_eq_true, Bool.not_true, Bool.not_false, Bool.false_and, List.cons_append, List.nil_append, Int.lt_irrefl, List.drop_length, List.filter_nil]
  | k + 1, i, md, out, hm, h1, h2 => by
    have h3 : i < R.length := by omega
    have h4 : (i : Int) < (R.length : Int) := by omega
    have h0 : (0 : Int) ≤ (i : Int) := by omega
    have hw : IntKind.i64.wrap ((i : Int) + 1) = ((i + 1 : Nat) : Int) := by rw [w64 (by omega) (by omega)]; rfl
    have hr := tks_d h3
    by_cases a1 : g < (R.getD i tk0).1
    · obtain ⟨md', hm', ih⟩ := l26c L R hR g u h k (i + 1) .own (out ++ [R.getD i tk0]) (by decide) (by omega) (by simp; omega)
      refine ⟨md', hm', ?_⟩
      have hk : gtF g (R.getD i tk0) = true := by simp only [gtF, a1, decide_true]
      have ha : appOK 32 (out.length + 1) = true := appOK_le (by decide) (by omega)
      have e : tks [R.getD i tk0] = [[.int .i64 (R.getD i tk0).1, .str (R.getD i tk0).2.1, .int .i64 (R.getD i tk0).2.2]] := rfl
      rw [drop_d h3, List.filter_cons, hk, if_pos rfl]
      rw [List.append_assoc] at ih
      rw [Y_loop (L := L26_2) rfl]
      simp only [go_sem, List.set_cons_zero, List.set_cons_succ, List.take_succ_cons, and_false, false_and, and_true, true_and, Nat.reduceAdd, Nat.reduceEqDiff, Nat.reduceLT, ↓reduceIte, decide_eq_true_eq, List.take_nil, beq_self_eq_true, bne_self_eq_false, List.take_zero, List.map_cons, List.map_nil, Int.reduceNeg, Bool.and_true, and_self, Bool.true_and, Bool.and_self, ne_eq, not_true_eq_false, decide_false, decide_true, Bool.false_eq_true, Nat.reduceAdd, Option.map_some, Option.map_none, Option.bind_some, Option.bind_none, List.length_nil, List.length_cons, List.append_nil, Bool.and_false, w64, demV_sl, Int.cast_ofNat_Int, Int.reduceLT, Int.reduceAdd, Int.reduceSub, Int.reduceLE, Int.reduceEq, Int.reduceToNat, Int.toNat_natCast, Nat.reduceSub, Nat.reduceMul, Nat.reduceLeDiff, Nat.zero_add, Int.zero_add, not_false_eq_true, Bool.not_true, Bool.not_false, Bool.false_and, List.cons_append, List.nil_append, h4, h0, hr, a1, hw, appA_gen md _ hm 3 32 (by decide), tks_len, ha, ← e, tks_app]
      exact ih
    · obtain ⟨md', hm', ih⟩ := l26c L R hR g u h k (i + 1) md out hm (by omega) (by omega)
      refine ⟨md', hm', ?_⟩
      have hk : gtF g (R.getD i tk0) = false := by simp only [gtF, a1, decide_false]
      rw [drop_d h3, List.filter_cons, hk]
      rw [Y_loop (L := L26_2) rfl]
      simp only [go_sem, List.set_cons_zero, List.set_cons_succ, List.take_succ_cons, and_false, false_and, and_true, true_and, Nat.reduceAdd, Nat.reduceEqDiff, Nat.reduceLT, ↓reduceIte, decide_eq_true_eq, List.take_nil, beq_self_eq_true, bne_self_eq_false, List.take_zero, List.map_cons, List.map_nil, Int.reduceNeg, Bool.and_true, and_self, Bool.true_and, Bool.and_self, ne_eq, not_true_eq_false, decide_false, decide_true, Bool.false_eq_true, Nat.reduceAdd, Option.map_some, Option.map_none, Option.bind_some, Option.bind_none, List.length_nil, List.length_cons, List.append_nil, Bool.and_false, w64, demV_sl, Int.cast_ofNat_Int, Int.reduceLT, Int.reduceAdd, Int.reduceSub, Int.reduceLE, Int.reduceEq, Int.reduceToNat, Int.toNat_natCast, Nat.reduceSub, Nat.reduceMul, Nat.reduceLeDiff, Nat.zero_add, Int.zero_add, not_false_eq_true, Bool.not_true, Bool.not_false, Bool.false_and, List.cons_append, List.nil_append, h4, h0, hr, a1, hw]
      exact ih

/-- the first error of an acquisition -/
def acqE (L : List Tk) (g : Int) (u : List UInt8) (n t : Int) : Int :=
  if valF L ≠ 0 then valF L else if g < 1 then 1 else if n < 0 then 1 else if 1073741824 < n then 1 else if t < 1 then 1 else if 1073741824 - n < t then 1 else if isN u = false then 4
  else if hoF L g n ≠ [] ∧ hoF L g n ≠ u then 9 else if (L.filter (neF g)).length = L.length ∧ 512 ≤ L.length then 3 else 0
/-- the leases behind it -/
def acqL (L : List Tk) (g : Int) (u : List UInt8) (n t : Int) : List Tk :=
  if acqE L g u n t = 0 then (L.filter (neF g)).filter (ltF g) ++ [(g, u, mxF g (hoF L g n == u) L (n + t))] ++ (L.filter (neF g)).filter (gtF g) else []
theorem bne_t {x y : List UInt8} (h : x ≠ y) : (x != y) = true := by simp [h]
theorem bne_f {x y : List UInt8} (h : x = y) : (x != y) = false := by simp [h]
theorem acq_err {L : List Tk} {g : Int} {u : List UInt8} {n t e : Int} (h : acqE L g u n t = e) (he : e ≠ 0) : acqL L g u n t = [] := by
  unfold acqL
  rw [if_neg (by rw [h]; exact he)]
theorem c26 (L : List Tk) (hL : L.length ≤ 1000000) (g : Int) (u : List UInt8) (n t : Int) : G0 26 [.sl .no 3 (tks L), .int .i64 g, .str u, .int .i64 n, .int .i64 t] [] = some (.tup [.sl .no 3 (tks (acqL L g u n t)), .int .i64 (acqE L g u n t)], []) := by
  refine contract F26 rfl rfl rfl ?_
  by_cases h1 : ¬ valF L = 0
  · have e : acqE L g u n t = valF L := by unfold acqE; rw [if_pos h1]
    rw [acq_err e h1, e, tks_nil]
    have h1' : (valF L = 0) = False := eq_false h1
    simp only [F26, go_sem, List.set_cons_zero, List.set_cons_succ, List.take_succ_cons, and_false, false_and, and_true, true_and, Nat.reduceAdd, Nat.reduceEqDiff, Nat.reduceLT, ↓reduceIte, decide_eq_true_eq, List.take_nil, beq_self_eq_true, bne_self_eq_false, List.take_zero, List.map_cons, List.map_nil, Int.reduceNeg, Bool.and_true, and_self, Bool.true_and, Bool.and_self, ne_eq, not_true_eq_false, decide_false, decide_true, Bool.false_eq_true, Nat.reduceAdd, Option.map_some, Option.map_none, Option.bind_some, Option.bind_none, List.length_nil, List.length_cons, List.append_nil, Bool.and_false, w64, demV_sl, Int.cast_ofNat_Int, Int.reduceLT, Int.reduceAdd, Int.reduceSub, Int.reduceLE, Int.reduceEq, Int.reduceToNat, Int.toNat_natCast, Nat.reduceSub, Nat.reduceMul, Nat.reduceLeDiff, Nat.zero_add, Int.zero_add, not_false_eq_true, Bool.not_true, Bool.not_false, Bool.false_and, List.cons_append, List.nil_append, c29, h1']
  have h1 : valF L = 0 := Classical.byContradiction h1
  by_cases h2 : g < 1
  · have e : acqE L g u n t = 1 := by unfold acqE; rw [if_neg (fun q => q h1), if_pos h2]
    rw [acq_err e (by decide), e, tks_nil]
    simp only [F26, go_sem, List.set_cons_zero, List.set_cons_succ, List.take_succ_cons, and_false, false_and, and_true, true_and, Nat.reduceAdd, Nat.reduceEqDiff, Nat.reduceLT, ↓reduceIte, decide_eq_true_eq, List.take_nil, beq_self_eq_true, bne_self_eq_false, List.take_zero, List.map_cons, List.map_nil, Int.reduceNeg, Bool.and_true, and_self, Bool.true_and, Bool.and_self, ne_eq, not_true_eq_false, decide_false, decide_true, Bool.false_eq_true, Nat.reduceAdd, Option.map_some, Option.map_none, Option.bind_some, Option.bind_none, List.length_nil, List.length_cons, List.append_nil, Bool.and_false, w64, demV_sl, Int.cast_ofNat_Int, Int.reduceLT, Int.reduceAdd, Int.reduceSub, Int.reduceLE, Int.reduceEq, Int.reduceToNat, Int.toNat_natCast, Nat.reduceSub, Nat.reduceMul, Nat.reduceLeDiff, Nat.zero_add, Int.zero_add, not_false_eq_true, Bool.not_true, Bool.not_false, Bool.false_and, List.cons_append, List.nil_append, c29, h1, h2]
  by_cases h3 : n < 0
  · have e : acqE L g u n t = 1 := by unfold acqE; rw [if_neg (fun q => q h1), if_neg h2, if_pos h3]
    rw [acq_err e (by decide), e, tks_nil]
    simp only [F26, go_sem, List.set_cons_zero, List.set_cons_succ, List.take_succ_cons, and_false, false_and, and_true, true_and, Nat.reduceAdd, Nat.reduceEqDiff, Nat.reduceLT, ↓reduceIte, decide_eq_true_eq, List.take_nil, beq_self_eq_true, bne_self_eq_false, List.take_zero, List.map_cons, List.map_nil, Int.reduceNeg, Bool.and_true, and_self, Bool.true_and, Bool.and_self, ne_eq, not_true_eq_false, decide_false, decide_true, Bool.false_eq_true, Nat.reduceAdd, Option.map_some, Option.map_none, Option.bind_some, Option.bind_none, List.length_nil, List.length_cons, List.append_nil, Bool.and_false, w64, demV_sl, Int.cast_ofNat_Int, Int.reduceLT, Int.reduceAdd, Int.reduceSub, Int.reduceLE, Int.reduceEq, Int.reduceToNat, Int.toNat_natCast, Nat.reduceSub, Nat.reduceMul, Nat.reduceLeDiff, Nat.zero_add, Int.zero_add, not_false_eq_true, Bool.not_true, Bool.not_false, Bool.false_and, List.cons_append, List.nil_append, c29, h1, h2, h3]
  by_cases h4 : 1073741824 < n
  · have e : acqE L g u n t = 1 := by unfold acqE; rw [if_neg (fun q => q h1), if_neg h2, if_neg h3, if_pos h4]
    rw [acq_err e (by decide), e, tks_nil]
    simp only [F26, go_sem, List.set_cons_zero, List.set_cons_succ, List.take_succ_cons, and_false, false_and, and_true, true_and, Nat.reduceAdd, Nat.reduceEqDiff, Nat.reduceLT, ↓reduceIte, decide_eq_true_eq, List.take_nil, beq_self_eq_true, bne_self_eq_false, List.take_zero, List.map_cons, List.map_nil, Int.reduceNeg, Bool.and_true, and_self, Bool.true_and, Bool.and_self, ne_eq, not_true_eq_false, decide_false, decide_true, Bool.false_eq_true, Nat.reduceAdd, Option.map_some, Option.map_none, Option.bind_some, Option.bind_none, List.length_nil, List.length_cons, List.append_nil, Bool.and_false, w64, demV_sl, Int.cast_ofNat_Int, Int.reduceLT, Int.reduceAdd, Int.reduceSub, Int.reduceLE, Int.reduceEq, Int.reduceToNat, Int.toNat_natCast, Nat.reduceSub, Nat.reduceMul, Nat.reduceLeDiff, Nat.zero_add, Int.zero_add, not_false_eq_true, Bool.not_true, Bool.not_false, Bool.false_and, List.cons_append, List.nil_append, c29, h1, h2, h3, h4]
  by_cases h5 : t < 1
  · have e : acqE L g u n t = 1 := by unfold acqE; rw [if_neg (fun q => q h1), if_neg h2, if_neg h3, if_neg h4, if_pos h5]
    rw [acq_err e (by decide), e, tks_nil]
    simp only [F26, go_sem, List.set_cons_zero, List.set_cons_succ, List.take_succ_cons, and_false, false_and, and_true, true_and, Nat.reduceAdd, Nat.reduceEqDiff, Nat.reduceLT, ↓reduceIte, decide_eq_true_eq, List.take_nil, beq_self_eq_true, bne_self_eq_false, List.take_zero, List.map_cons, List.map_nil, Int.reduceNeg, Bool.and_true, and_self, Bool.true_and, Bool.and_self, ne_eq, not_true_eq_false, decide_false, decide_true, Bool.false_eq_true, Nat.reduceAdd, Option.map_some, Option.map_none, Option.bind_some, Option.bind_none, List.length_nil, List.length_cons, List.append_nil, Bool.and_false, w64, demV_sl, Int.cast_ofNat_Int, Int.reduceLT, Int.reduceAdd, Int.reduceSub, Int.reduceLE, Int.reduceEq, Int.reduceToNat, Int.toNat_natCast, Nat.reduceSub, Nat.reduceMul, Nat.reduceLeDiff, Nat.zero_add, Int.zero_add, not_false_eq_true, Bool.not_true, Bool.not_false, Bool.false_and, List.cons_append, List.nil_append, c29, h1, h2, h3, h4, h5]
  have hws : IntKind.i64.wrap (1073741824 - n) = 1073741824 - n := w64 (by omega) (by omega)
  by_cases h6 : 1073741824 - n < t
  · have e : acqE L g u n t = 1 := by unfold acqE; rw [if_neg (fun q => q h1), if_neg h2, if_neg h3, if_neg h4, if_neg h5, if_pos h6]
    rw [acq_err e (by decide), e, tks_nil]
    simp only [F26, go_sem, List.set_cons_zero, List.set_cons_succ, List.take_succ_cons, and_false, false_and, and_true, true_and, Nat.reduceAdd, Nat.reduceEqDiff, Nat.reduceLT, ↓reduceIte, decide_eq_true_eq, List.take_nil, beq_self_eq_true, bne_self_eq_false, List.take_zero, List.map_cons, List.map_nil, Int.reduceNeg, Bool.and_true, and_self, Bool.true_and, Bool.and_self, ne_eq, not_true_eq_false, decide_false, decide_true, Bool.false_eq_true, Nat.reduceAdd, Option.map_some, Option.map_none, Option.bind_some, Option.bind_none, List.length_nil, List.length_cons, List.append_nil, Bool.and_false, w64, demV_sl, Int.cast_ofNat_Int, Int.reduceLT, Int.reduceAdd, Int.reduceSub, Int.reduceLE, Int.reduceEq, Int.reduceToNat, Int.toNat_natCast, Nat.reduceSub, Nat.reduceMul, Nat.reduceLeDiff, Nat.zero_add, Int.zero_add, not_false_eq_true, Bool.not_true, Bool.not_false, Bool.false_and, List.cons_append, List.nil_append, c29, h1, h2, h3, h4, h5, hws, h6]
  cases h7 : isN u with
  | false =>
    have e : acqE L g u n t = 4 := by unfold acqE; rw [if_neg (fun q => q h1), if_neg h2, if_neg h3, if_neg h4, if_neg h5, if_neg h6, if_pos h7]
    rw [acq_err e (by decide), e, tks_nil]
    simp only [F26, go_sem, List.set_cons_zero, List.set_cons_succ, List.take_succ_cons, and_false, false_and, and_true, true_and, Nat.reduceAdd, Nat.reduceEqDiff, Nat.reduceLT, ↓reduceIte, decide_eq_true_eq, List.take_nil, beq_self_eq_true, bne_self_eq_false, List.take_zero, List.map_cons, List.map_nil, Int.reduceNeg, Bool.and_true, and_self, Bool.true_and, Bool.and_self, ne_eq, not_true_eq_false, decide_false, decide_true, Bool.false_eq_true, Nat.reduceAdd, Option.map_some, Option.map_none, Option.bind_some, Option.bind_none, List.length_nil, List.length_cons, List.append_nil, Bool.and_false, w64, demV_sl, Int.cast_ofNat_Int, Int.reduceLT, Int.reduceAdd, Int.reduceSub, Int.reduceLE, Int.reduceEq, Int.reduceToNat, Int.toNat_natCast, Nat.reduceSub, Nat.reduceMul, Nat.reduceLeDiff, Nat.zero_add, Int.zero_add, not_false_eq_true, Bool.not_true, Bool.not_false, Bool.false_and, List.cons_append, List.nil_append, c29, h1, h2, h3, h4, h5, hws, h6, c56, h7]
  | true =>
  have h7' : ¬ isN u = false := by rw [h7]; decide
  have hwa : IntKind.i64.wrap (n + t) = n + t := w64 (by omega) (by omega)
  by_cases h8 : hoF L g n ≠ [] ∧ hoF L g n ≠ u
  · have e : acqE L g u n t = 9 := by unfold acqE; rw [if_neg (fun q => q h1), if_neg h2, if_neg h3, if_neg h4, if_neg h5, if_neg h6, if_neg h7', if_pos h8]
    rw [acq_err e (by decide), e, tks_nil]
    have q1 := bne_t h8.1
    have q2 := bne_t h8.2
    simp only [F26, go_sem, List.set_cons_zero, List.set_cons_succ, List.take_succ_cons, and_false, false_and, and_true, true_and, Nat.reduceAdd, Nat.reduceEqDiff, Nat.reduceLT, ↓reduceIte, decide_eq_true_eq, List.take_nil, beq_self_eq_true, bne_self_eq_false, List.take_zero, List.map_cons, List.map_nil, Int.reduceNeg, Bool.and_true, and_self, Bool.true_and, Bool.and_self, ne_eq, not_true_eq_false, decide_false, decide_true, Bool.false_eq_true, Nat.reduceAdd, Option.map_some, Option.map_none, Option.bind_some, Option.bind_none, List.length_nil, List.length_cons, List.append_nil, Bool.and_false, w64, demV_sl, Int.cast_ofNat_Int, Int.reduceLT, Int.reduceAdd, Int.reduceSub, Int.reduceLE, Int.reduceEq, Int.reduceToNat, Int.toNat_natCast, Nat.reduceSub, Nat.reduceMul, Nat.reduceLeDiff, Nat.zero_add, Int.zero_add, not_false_eq_true, Bool.not_true, Bool.not_false, Bool.false_and, List.cons_append, List.nil_append, c29, h1, h2, h3, h4, h5, hws, h6, c56, h7, c34 L hL g n, q1, q2]
  have hRl : (L.filter (neF g)).length ≤ L.length := List.length_filter_le _ _
  have hg9 : (hoF L g n != []) = false ∨ ((hoF L g n != []) = true ∧ (hoF L g n != u) = false) := by
    by_cases q : hoF L g n = []
    · exact .inl (bne_f q)
    · exact .inr ⟨bne_t q, bne_f (Classical.byContradiction fun q2 => h8 ⟨q, q2⟩)⟩
  by_cases h9 : (L.filter (neF g)).length = L.length ∧ 512 ≤ L.length
  · have e : acqE L g u n t = 3 := by unfold acqE; rw [if_neg (fun q => q h1), if_neg h2, if_neg h3, if_neg h4, if_neg h5, if_neg h6, if_neg h7', if_neg h8, if_pos h9]
    rw [acq_err e (by decide), e, tks_nil]
    have q3 : (((L.filter (neF g)).length : Int) = (L.length : Int)) = True := eq_true (by rw [h9.1])
    have q4 : (512 : Int) ≤ (L.length : Int) := by omega
    rcases hg9 with q1 | ⟨q1, q2⟩
    · simp only [F26, go_sem, List.set_cons_zero, List.set_cons_succ, List.take_succ_cons, and_false, false_and, and_true, true_and, Nat.reduceAdd, Nat.reduceEqDiff, Nat.reduceLT, ↓reduceIte, decide_eq_true_eq, List.take_nil, beq_self_eq_true, bne_self_eq_false, List.take_zero, List.map_cons, List.map_nil, Int.reduceNeg, Bool.and_true, and_self, Bool.true_and, Bool.and_self, ne_eq, not_true_eq_false, decide_false, decide_true, Bool.false_eq_true, Nat.reduceAdd, Option.map_some, Option.map_none, Option.bind_some, Option.bind_none, List.length_nil, List.length_cons, List.append_nil, Bool.and_false, w64, demV_sl, Int.cast_ofNat_Int, Int.reduceLT, Int.reduceAdd, Int.reduceSub, Int.reduceLE, Int.reduceEq, Int.reduceToNat, Int.toNat_natCast, Nat.reduceSub, Nat.reduceMul, Nat.reduceLeDiff, Nat.zero_add, Int.zero_add, not_false_eq_true, Bool.not_true, Bool.not_false, Bool.false_and, List.cons_append, List.nil_append, c29, h1, h2, h3, h4, h5, hws, h6, c56, h7, c34 L hL g n, q1, c57 L hL g, tks_len, q3, q4]
    · simp only [F26, go_sem, List.set_cons_zero, List.set_cons_succ, List.take_succ_cons, and_false, false_and, and_true, true_and, Nat.reduceAdd, Nat.reduceEqDiff, Nat.reduceLT, ↓reduceIte, decide_eq_true_eq, List.take_nil, beq_self_eq_true, bne_self_eq_false, List.take_zero, List.map_cons, List.map_nil, Int.reduceNeg, Bool.and_true, and_self, Bool.true_and, Bool.and_self, ne_eq, not_true_eq_false, decide_false, decide_true, Bool.false_eq_true, Nat.reduceAdd, Option.map_some, Option.map_none, Option.bind_some, Option.bind_none, List.length_nil, List.length_cons, List.append_nil, Bool.and_false, w64, demV_sl, Int.cast_ofNat_Int, Int.reduceLT, Int.reduceAdd, Int.reduceSub, Int.reduceLE, Int.reduceEq, Int.reduceToNat, Int.toNat_natCast, Nat.reduceSub, Nat.reduceMul, Nat.reduceLeDiff, Nat.zero_add, Int.zero_add, not_false_eq_true, Bool.not_true, Bool.not_false, Bool.false_and, List.cons_append, List.nil_append, c29, h1, h2, h3, h4, h5, hws, h6, c56, h7, c34 L hL g n, q1, q2, c57 L hL g, tks_len, q3, q4]
  have e : acqE L g u n t = 0 := by unfold acqE; rw [if_neg (fun q => q h1), if_neg h2, if_neg h3, if_neg h4, if_neg h5, if_neg h6, if_neg h7', if_neg h8, if_neg h9]
  have el : acqL L g u n t = (L.filter (neF g)).filter (ltF g) ++ [(g, u, mxF g (hoF L g n == u) L (n + t))] ++ (L.filter (neF g)).filter (gtF g) := by unfold acqL; rw [if_pos e]
  rw [el, e]
  have hg10 : (((L.filter (neF g)).length : Int) = (L.length : Int)) = False ∨ ((((L.filter (neF g)).length : Int) = (L.length : Int)) = True ∧ ¬ (512 : Int) ≤ (L.length : Int)) := by
    by_cases q : (L.filter (neF g)).length = L.length
    · exact .inr ⟨eq_true (by rw [q]), fun q2 => h9 ⟨q, by omega⟩⟩
    · exact .inl (eq_false (by omega))
  have xa := l26a L (L.filter (neF g)) hL g u (hoF L g n) L.length 0 (n + t) (by omega)
  obtain ⟨md1, hm1, xb⟩ := l26b L (L.filter (neF g)) (by omega) g u (hoF L g n) (mxF g (hoF L g n == u) L (n + t)) (L.filter (neF g)).length 0 .full [] (by decide) (by omega) (by simp)
  have hlt := List.length_filter_le (ltF g) (L.filter (neF g))
  obtain ⟨md2, hm2, xc⟩ := l26c L (L.filter (neF g)) (by omega) g u (hoF L g n) (L.filter (neF g)).length 0 .own ((L.filter (neF g)).filter (ltF g) ++ [(g, u, mxF g (hoF L g n == u) L (n + t))]) (by decide) (by omega) (by simp only [List.length_append, List.length_cons, List.length_nil]; omega)
  have ec : ((0 : Nat) : Int) = 0 := rfl
  rw [ec] at xa xb xc
  rw [List.drop_zero] at xa xb xc
  rw [tks_nil, List.nil_append] at xb
  have ha : appOK 32 (((L.filter (neF g)).filter (ltF g)).length + 1) = true := appOK_le (by decide) (by omega)
  have e1 : tks [(g, u, mxF g (hoF L g n == u) L (n + t))] = [[.int .i64 g, .str u, .int .i64 (mxF g (hoF L g n == u) L (n + t))]] := rfl
  rcases hg9 with q1 | ⟨q1, q2⟩
  · rcases hg10 with q3 | ⟨q3, q4⟩
    · simp only [F26, go_sem, List.set_cons_zero, List.set_cons_succ, List.take_succ_cons, and_false, false_and, and_true, true_and, Nat.reduceAdd, Nat.reduceEqDiff, Nat.reduceLT, ↓reduceIte, decide_eq_true_eq, List.take_nil, beq_self_eq_true, bne_self_eq_false, List.take_zero, List.map_cons, List.map_nil, Int.reduceNeg, Bool.and_true, and_self, Bool.true_and, Bool.and_self, ne_eq, not_true_eq_false, decide_false, decide_true, Bool.false_eq_true, Nat.reduceAdd, Option.map_some, Option.map_none, Option.bind_some, Option.bind_none, List.length_nil, List.length_cons, List.append_nil, Bool.and_false, w64, demV_sl, Int.cast_ofNat_Int, Int.reduceLT, Int.reduceAdd, Int.reduceSub, Int.reduceLE, Int.reduceEq, Int.reduceToNat, Int.toNat_natCast, Nat.reduceSub, Nat.reduceMul, Nat.reduceLeDiff, Nat.zero_add, Int.zero_add, not_false_eq_true, Bool.not_true, Bool.not_false, Bool.false_and, List.cons_append, List.nil_append, c29, h1, h2, h3, h4, h5, hws, h6, c56, h7, c34 L hL g n, q1, c57 L hL g, tks_len, q3, hwa, xa, xb, appA_gen md1 _ hm1 3 32 (by decide), ha, ← e1, tks_app, xc]
    · simp only [F26, go_sem, List.set_cons_zero, List.set_cons_succ, List.take_succ_cons, and_false, false_and, and_true, true_and, Nat.reduceAdd, Nat.reduceEqDiff, Nat.reduceLT, ↓reduceIte, decide_eq_true_eq, List.take_nil, beq_self_eq_true, bne_self_eq_false, List.take_zero, List.map_cons, List.map_nil, Int.reduceNeg, Bool.and_true, and_self, Bool.true_and, Bool.and_self, ne_eq, not_true_eq_false, decide_false, decide_true, Bool.false_eq_true, Nat.reduceAdd, Option.map_some, Option.map_none, Option.bind_some, Option.bind_none, List.length_nil, List.length_cons, List.append_nil, Bool.and_false, w64, demV_sl, Int.cast_ofNat_Int, Int.reduceLT, Int.reduceAdd, Int.reduceSub, Int.reduceLE, Int.reduceEq, Int.reduceToNat, Int.toNat_natCast, Nat.reduceSub, Nat.reduceMul, Nat.reduceLeDiff, Nat.zero_add, Int.zero_add, not_false_eq_true, Bool.not_true, Bool.not_false, Bool.false_and, List.cons_append, List.nil_append, c29, h1, h2, h3, h4, h5, hws, h6, c56, h7, c34 L hL g n, q1, c57 L hL g, tks_len, q3, q4, hwa, xa, xb, appA_gen md1 _ hm1 3 32 (by decide), ha, ← e1, tks_app, xc]
  · rcases hg10 with q3 | ⟨q3, q4⟩
    · simp only [F26, go_sem, List.set_cons_zero, List.set_cons_succ, List.take_succ_cons, and_false, false_and, and_true, true_and, Nat.reduceAdd, Nat.reduceEqDiff, Nat.reduceLT, ↓reduceIte, decide_eq_true_eq, List.take_nil, beq_self_eq_true, bne_self_eq_false, List.take_zero, List.map_cons, List.map_nil, Int.reduceNeg, Bool.and_true, and_self, Bool.true_and, Bool.and_self, ne_eq, not_true_eq_false, decide_false, decide_true, Bool.false_eq_true, Nat.reduceAdd, Option.map_some, Option.map_none, Option.bind_some, Option.bind_none, List.length_nil, List.length_cons, List.append_nil, Bool.and_false, w64, demV_sl, Int.cast_ofNat_Int, Int.reduceLT, Int.reduceAdd, Int.reduceSub, Int.reduceLE, Int.reduceEq, Int.reduceToNat, Int.toNat_natCast, Nat.reduceSub, Nat.reduceMul, Nat.reduceLeDiff, Nat.zero_add, Int.zero_add, not_false_eq_true, Bool.not_true, Bool.not_false, Bool.false_and, List.cons_append, List.nil_append, c29, h1, h2, h3, h4, h5, hws, h6, c56, h7, c34 L hL g n, q1, q2, c57 L hL g, tks_len, q3, hwa, xa, xb, appA_gen md1 _ hm1 3 32 (by decide), ha, ← e1, tks_app, xc]
    · simp only [F26, go_sem, List.set_cons_zero, List.set_cons_succ, List.take_succ_cons, and_false, false_and, and_true, true_and, Nat.reduceAdd, Nat.reduceEqDiff, Nat.reduceLT, ↓reduceIte, decide_eq_true_eq, List.take_nil, beq_self_eq_true, bne_self_eq_false, List.take_zero, List.map_cons, List.map_nil, Int.reduceNeg, Bool.and_true, and_self, Bool.true_and, Bool.and_self, ne_eq, not_true_eq_false, decide_false, decide_true, Bool.false_eq_true, Nat.reduceAdd, Option.map_some, Option.map_none, Option.bind_some, Option.bind_none, List.length_nil, List.length_cons, List.append_nil, Bool.and_false, w64, demV_sl, Int.cast_ofNat_Int, Int.reduceLT, Int.reduceAdd, Int.reduceSub, Int.reduceLE, Int.reduceEq, Int.reduceToNat, Int.toNat_natCast, Nat.reduceSub, Nat.reduceMul, Nat.reduceLeDiff, Nat.zero_add, Int.zero_add, not_false_eq_true, Bool.not_true, Bool.not_false, Bool.false_and, List.cons_append, List.nil_append, c29, h1, h2, h3, h4, h5, hws, h6, c56, h7, c34 L hL g n, q1, q2, c57 L hL g, tks_len, q3, q4, hwa, xa, xb, appA_gen md1 _ hm1 3 32 (by decide), ha, ← e1, tks_app, xc]
end Go.Av
