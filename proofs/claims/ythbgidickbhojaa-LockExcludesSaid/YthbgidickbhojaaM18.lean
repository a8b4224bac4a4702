/- A part of the proof: M18. No conditions. -/
import Derived.Test.YthbgidickbhojaaM17
set_option linter.unusedSimpArgs false
set_option linter.unusedVariables false
namespace Go.Av
set_option linter.unusedSimpArgs false
set_option maxHeartbeats 16000000
set_option maxRecDepth 100000
theorem l41 (L : List Tk) (hL : L.length ≤ 1000000) (n : Int) : ∀ (k i : Nat) (md : Own) (out : List Tk), md ≠ .no → i + k = L.length → out.length ≤ i →
    ∃ md', md' ≠ .no ∧ execX G0 L41_0 (ST [(1, .int .i64 n), (5, .sl md 3 (tks out)), (8, .sl .no 3 (tks L)), (9, .int .i64 L.length), (10, .int .i64 i)] [] []) = some (.ex 0, ST [(1, .int .i64 n), (5, .sl md' 3 (tks (out ++ (L.drop i).filter (keepF n)))), (8, .sl .no 3 (tks L)), (9, .int .i64 L.length), (10, .int .i64 L.length), (11, .bool false)] [] [])
  | 0, i, md, out, hm, h1, h2 => by
    have : i = L.length := by omega
    subst this
    refine ⟨md, hm, ?_⟩
    rw [Y_loop (L := L41_0) rfl]
    simp only [go_sem, List.set_cons_zero, List.set_cons_succ, List.take_succ_cons, and_false, false_and, and_true, true_and, Nat.reduceAdd, Nat.reduceEqDiff, Nat.reduceLT, ↓reduceIte, decide_eq_true_eq, List.take_nil, beq_self_eq_true, bne_self_eq_false, List.take_zero, List.map_cons, List.map_nil, Int.reduceNeg, Bool.and_true, and_self, Bool.true_and, Bool.and_self, ne_eq, not_true_eq_false, decide_false, decide_true, Bool.false_eq_true, Nat.reduceAdd, Option.map_some, Option.map_none, Option.bind_some, Option.bind_none, List.length_nil, List.length_cons, List.append_nil, Bool.and_false, w64, demV_sl, Int.cast_ofNat_Int, Int.reduceLT, Int.reduceAdd, Int.reduceSub, Int.reduceLE, Int.reduceEq, Int.reduceToNat, Int.toNat_natCast, Nat.reduceSub, Nat.reduceMul, Nat.reduceLeDiff, Nat.zero_add, Int.zero_add, not_false_eq_true, Bool.not_true, Bool.not_false, Bool.false_and, List.cons_append, List.nil_append, Int.lt_irrefl, List.drop_length, List.filter_nil]
  | k + 1, i, md, out, hm, h1, h2 => by
    have h3 : i < L.length := by omega
    have h4 : (i : Int) < (L.length : Int) := by omega
    have h0 : (0 : Int) ≤ (i : Int) := by omega
    have hw : IntKind.i64.wrap ((i : Int) + 1) = ((i + 1 : Nat) : Int) := by rw [w64 (by omega) (by omega)]; rfl
    have hr := tks_d h3
    by_cases a1 : n < (L.getD i tk0).2.2
    · obtain ⟨md', hm', ih⟩ := l41 L hL n k (i + 1) .own (out ++ [L.getD i tk0]) (by decide) (by omega) (by simp; omega)
      refine ⟨md', hm', ?_⟩
      have hk : keepF n (L.getD i tk0) = true := by simp only [keepF, a1, decide_true]
      have ha : appOK 32 (out.length + 1) = true := appOK_le (by decide) (by omega)
      have e : tks [L.getD i tk0] = [[.int .i64 (L.getD i tk0).1, .str (L.getD i tk0).2.1, .int .i64 (L.getD i tk0).2.2]] := rfl
      rw [drop_d h3, List.filter_cons, hk, if_pos rfl]
      rw [List.append_assoc] at ih
      rw [Y_loop (L := L41_0) rfl]
      simp only [go_sem, List.set_cons_zero, List.set_cons_succ, List.take_succ_cons, and_false, false_and, and_true, true_and, Nat.reduceAdd, Nat.reduceEqDiff, Nat.reduceLT, ↓reduceIte, decide_eq_true_eq, List.take_nil, beq_self_eq_true, bne_self_eq_false, List.take_zero, List.map_cons, List.map_nil, Int.reduceNeg, Bool.and_true, and_self, Bool.true_and, Bool.and_self, ne_eq, not_true_eq_false, decide_false, decide_true, Bool.false_eq_true, Nat.reduceAdd, Option.map_some, Option.map_none, Option.bind_some, Option.bind_none, List.length_nil, List.length_cons, List.append_nil, Bool.and_false, w64, demV_sl, Int.cast_ofNat_Int, Int.reduceLT, Int.reduceAdd, Int.reduceSub, Int.reduceLE, Int.reduceEq, Int.reduceToNat, Int.toNat_natCast, Nat.reduceSub, Nat.reduceMul, Nat.reduceLeDiff, Nat.zero_add, Int.zero_add, not_false_eq_true, Bool.not_true, Bool.not_false, Bool.false_and, List.cons_append, List.nil_append, h4, h0, hr, a1, hw, appA_gen md _ hm 3 32 (by decide), tks_len, ha, ← e, tks_app]
      exact ih
    · obtain ⟨md', hm', ih⟩ := l41 L hL n k (i + 1) md out hm (by omega) (by omega)
      refine ⟨md', hm', ?_⟩
      have hk : keepF n (L.getD i tk0) = false := by simp only [keepF, a1, decide_false]
      rw [drop_d h3, List.filter_cons, hk]
      rw [Y_loop (L := L41_0) rfl]
      simp only [go_sem, List.set_cons_zero, List.set_cons_succ, List.take_succ_cons, and_false, false_and, and_true, true_and, Nat.reduceAdd, Nat.reduceEqDiff, Nat.reduceLT, ↓reduceIte, decide_eq_true_eq, List.take_nil, beq_self_eq_true, bne_self_eq_false, List.take_zero, List.map_cons, List.map_nil, Int.reduceNeg, Bool.and_true, and_self, Bool.true_and, Bool.and_self, ne_eq, not_true_eq_false, decide_false, decide_true, Bool.false_eq_true, Nat.reduceAdd, Option.map_some, Option.map_none, Option.bind_some, Option.bind_none, List.length_nil, List.length_cons, List.append_nil, Bool.and_false, w64, demV_sl, Int.cast_ofNat_Int, Int.reduceLT, Int.reduceAdd, Int.reduceSub, Int.reduceLE, Int.reduceEq, Int.reduceToNat, Int.toNat_natCast, Nat.reduceSub, Nat.reduceMul, Nat.reduceLeDiff, Nat.zero_add, Int.zero_add, not_false_eq_true, Bool.not_true, Bool.not_false, Bool.false_and, List.cons_append, List.nil_append, h4, h0, hr, a1, hw]
      exact ih
theorem c41 (L : List Tk) (hL : L.length ≤ 1000000) (n : Int) : G0 41 [.sl .no 3 (tks L), .int .i64 n] [] = some (.sl .no 3 (tks (expF L n)), []) := by
  refine contract F41 rfl rfl rfl ?_
  obtain ⟨md', hm, hx⟩ := l41 L hL n L.length 0 .full [] (by decide) (by omega) (by simp)
  have ec : ((0 : Nat) : Int) = 0 := rfl
  rw [ec, tks_nil] at hx
  simp only [List.nil_append, List.drop_zero] at hx
  simp only [F41, go_sem, List.set_cons_zero, List.set_cons_succ, List.take_succ_cons, and_false, false_and, and_true, true_and, Nat.reduceAdd, Nat.reduceEqDiff, Nat.reduceLT, ↓reduceIte, decide_eq_true_eq, List.take_nil, beq_self_eq_true, bne_self_eq_false, List.take_zero, List.map_cons, List.map_nil, Int.reduceNeg, Bool.and_true, and_self, Bool.true_and, Bool.and_self, ne_eq, not_true_eq_false, decide_false, decide_true, Bool.false_eq_true, Nat.reduceAdd, Option.map_some, Option.map_none, Option.bind_some, Option.bind_none, List.length_nil, List.length_cons, List.append_nil, Bool.and_false, w64, demV_sl, Int.cast_ofNat_Int, Int.reduceLT, Int.reduceAdd, Int.reduceSub, Int.reduceLE, Int.reduceEq, Int.reduceToNat, Int.toNat_natCast, Nat.reduceSub, Nat.reduceMul, Nat.reduceLeDiff, Nat.zero_add, Int.zero_add, not_false_eq_true, Bool.not_true, Bool.not_false, Bool.false_and, List.cons_append, List.nil_append, tks_len, hx, expF]
theorem rowsC_flm (L : List Tk) (i : Nat) (h : i ≤ L.length) : rowsC (i * 3) (L.length - i) 3 (fl L) = some (tks (L.drop i)) := by
  have h1 := rowsC_fl (L.drop i)
  have hl : (L.drop i).length = L.length - i := List.length_drop
  rw [hl] at h1
  rw [← h1]
  unfold rowsC
  have e : ((fl L).drop (i * 3)).take ((L.length - i) * 3) = fl (L.drop i) := by
    rw [fl_drop]; exact List.take_of_length_le (by rw [fl_len, hl]; exact Nat.le_refl _)
  have e2 : ((fl (L.drop i)).drop 0).take ((L.length - i) * 3) = fl (L.drop i) := by
    rw [List.drop_zero]; exact List.take_of_length_le (by rw [fl_len, hl]; exact Nat.le_refl _)
  rw [e, e2, fl_len, fl_len, hl]
  have c1 : i * 3 + (L.length - i) * 3 ≤ L.length * 3 := by omega
  have c2 : 0 + (L.length - i) * 3 ≤ (L.length - i) * 3 := by omega
  simp only [c1, c2]
theorem c58 (L : List Tk) (hL : L.length ≤ 1000000) (i : Nat) (hi : i < L.length) : ∃ W, L.length - 1 ≤ W.length ∧ W.take (L.length - 1) = L.take i ++ L.drop (i + 1) ∧
    G0 58 [.ss 0 0 L.length 3, .int .i64 (i : Int), .int .i64 ((i + 1 : Nat) : Int)] [fl L] = some (.ss 0 0 (L.length - 1) 3, [fl W]) := by
  have hW1l : (L.take i ++ L.drop (i + 1) ++ L.drop (L.length - 1)).length = L.length := by
    simp only [List.length_append, List.length_take, List.length_drop]; omega
  have hln : (L.take i ++ L.drop (i + 1)).length = L.length - 1 := by
    simp only [List.length_append, List.length_take, List.length_drop]; omega
  have hW2 : ((L.take i ++ L.drop (i + 1) ++ L.drop (L.length - 1)).take (L.length - 1) ++ List.replicate (L.length - (L.length - 1)) tk0).take (L.length - 1) = L.take i ++ L.drop (i + 1) := by
    rw [List.take_append_of_le_length (by rw [List.length_take]; omega), List.take_take, Nat.min_self, ← hln, List.take_left]
  refine ⟨_, ?_, hW2, ?_⟩
  · simp only [List.length_append, List.length_take, List.length_drop, List.length_replicate]; omega
  refine contract F58 rfl rfl rfl ?_
  have a0 : (0 : Int) ≤ (i : Int) := by omega
  have a1 : (i : Int) ≤ ((i + 1 : Nat) : Int) := by omega
  have a2 : ((i + 1 : Nat) : Int) ≤ (L.length : Int) := by omega
  have a3 : ((i : Int) = ((i + 1 : Nat) : Int)) = False := eq_false (by omega)
  have a4 : (i : Int) ≤ (L.length : Int) := by omega
  have a5 : (0 : Int) ≤ ((i + 1 : Nat) : Int) := by omega
  have a6 : (((i + 1 : Nat) : Int) = 0) = False := eq_false (by omega)
  have hsum : i + (L.length - (i + 1)) = L.length - 1 := by omega
  have hput : putC (i * 3) (tks (L.drop (i + 1))).flatten (fl L) = some (fl (L.take i ++ L.drop (i + 1) ++ L.drop (L.length - 1))) := by
    have hp := putC_app (fl (L.take i)) (fl (L.drop i)) (fl (L.drop (i + 1))) (by rw [fl_len, fl_len, List.length_drop, List.length_drop]; omega)
    have e1 : (fl (L.take i)).length = i * 3 := by rw [fl_len, List.length_take]; omega
    have e2 : fl (L.take i) ++ fl (L.drop i) = fl L := by rw [← fl_app, List.take_append_drop]
    have e3 : (fl (L.drop i)).drop (fl (L.drop (i + 1))).length = fl (L.drop (L.length - 1)) := by
      rw [fl_len, fl_drop, List.drop_drop, List.length_drop]
      congr 2
      try omega
    rw [e1, e2, e3] at hp
    rw [fl_app, fl_app]
    exact hp
  have happ : ∀ y, y = tks (L.drop (i + 1)) → appCA 3 [fl L] (some y) (.ss 0 0 i 3) = some (.ss 0 0 (L.length - 1) 3, [fl (L.take i ++ L.drop (i + 1) ++ L.drop (L.length - 1))]) := by
    rintro y rfl
    have := appCA_some (sh := [fl L]) (o := 0) (n := i) (l2 := tks (L.drop (i + 1))) (z := 3) (by decide) (cells := fl L) rfl (fl_blk L) (by rw [tks_len, List.length_drop, fl_len]; omega) hput
    rw [this, tks_len, List.length_drop, hsum]
    rfl
  have hslx := slxA_both (sh := [fl (L.take i ++ L.drop (i + 1) ++ L.drop (L.length - 1))]) (z := 3) (by decide) (o := 0) (off := 0) (n := L.length - 1) (k := .i64) (k' := .i64) (i := L.length - 1) (j := L.length) (cells := fl (L.take i ++ L.drop (i + 1) ++ L.drop (L.length - 1))) rfl (fl_blk _) (by rw [fl_len, hW1l]; omega) (by omega)
  have hclr := fl_clrC (L.take i ++ L.drop (i + 1) ++ L.drop (L.length - 1)) (L.length - 1) (by omega)
  rw [hW1l] at hclr
  rw [Nat.zero_add] at hslx
  by_cases hlast : ((i + 1 : Nat) : Int) < (L.length : Int)
  · have hrow := rowsC_flm L (i + 1) (by omega)
    simp only [F58, go_sem, List.set_cons_zero, List.set_cons_succ, List.take_succ_cons, and_false, false_and, and_true, true_and, Nat.reduceAdd, Nat.reduceEqDiff, Nat.reduceLT, ↓reduceIte, decide_eq_true_eq, List.take_nil, beq_self_eq_true, bne_self_eq_false, List.take_zero, List.map_cons, List.map_nil, Int.reduceNeg, Bool.and_true, and_self, Bool.true_and, Bool.and_self, ne_eq, not_true_eq_false, decide_false, decide_true, Bool.false_eq_true, Nat.reduceAdd, Option.map_some, Option.map_none, Option.bind_some, Option.bind_none, List.length_nil, List.length_cons, List.append_nil, Bool.and_false, w64, demV_sl, Int.cast_ofNat_Int, Int.reduceLT, Int.reduceAdd, Int.reduceSub, Int.reduceLE, Int.reduceEq, Int.reduceToNat, Int.toNat_natCast, Nat.reduceSub, Nat.reduceMul, Nat.reduceLeDiff, Nat.zero_add, Int.zero_add, not_false_eq_true, Bool.not_true, Bool.not_false, Bool.false_and, List.cons_append, List.nil_append, a0, a1, a2, a3, a4, a5, a6, hlast, or_true, or_false, Int.le_refl, hrow, happ _ rfl, hslx, clrX_ss, fl_blk, hclr]
  · have hdn : tks (L.drop (i + 1)) = [] := by rw [List.drop_eq_nil_of_le (by omega)]; rfl
    have happ' := happ [] hdn.symm
    simp only [F58, go_sem, List.set_cons_zero, List.set_cons_succ, List.take_succ_cons, and_false, false_and, and_true, true_and, Nat.reduceAdd, Nat.reduceEqDiff, Nat.reduceLT, ↓reduceIte, decide_eq_true_eq, List.take_nil, beq_self_eq_true, bne_self_eq_false, List.take_zero, List.map_cons, List.map_nil, Int.reduceNeg, Bool.and_true, and_self, Bool.true_and, Bool.and_self, ne_eq, not_true_eq_false, decide_false, decide_true, Bool.false_eq_true, Nat.reduceAdd, Option.map_some, Option.map_none, Option.bind_some, Option.bind_none, List.length_nil, List.length_cons, List.append_nil, Bool.and_false, w64, demV_sl, Int.cast_ofNat_Int, Int.reduceLT, Int.reduceAdd, Int.reduceSub, Int.reduceLE, Int.reduceEq, Int.reduceToNat, Int.toNat_natCast, Nat.reduceSub, Nat.reduceMul, Nat.reduceLeDiff, Nat.zero_add, Int.zero_add, not_false_eq_true, Bool.not_true, Bool.not_false, Bool.false_and, List.cons_append, List.nil_append, a0, a1, a2, a3, a4, a5, a6, hlast, or_false, Int.le_refl, happ', hslx, clrX_ss, fl_blk, hclr]
def relE (L : List Tk) (g : Int) (u : List UInt8) (n : Int) : Int := if valF L ≠ 0 then valF L else if hoF L g n = [] then 6 else if hoF L g n = u then 0 else 9
def relL (L : List Tk) (g : Int) (u : List UInt8) (n : Int) : List Tk := if relE L g u n = 0 then L.filter (neF g) else []
theorem rel_err {L : List Tk} {g : Int} {u : List UInt8} {n e : Int} (h : relE L g u n = e) (he : e ≠ 0) : relL L g u n = [] := by
  unfold relL
  rw [if_neg (by rw [h]; exact he)]
theorem beq_t {x y : List UInt8} (h : x = y) : (x == y) = true := by simp [h]
theorem beq_f {x y : List UInt8} (h : x ≠ y) : (x == y) = false := by simp [h]
theorem c40 (L : List Tk) (hL : L.length ≤ 1000000) (g : Int) (u : List UInt8) (n : Int) : G0 40 [.sl .no 3 (tks L), .int .i64 g, .str u, .int .i64 n] [] = some (.tup [.sl .no 3 (tks (relL L g u n)), .int .i64 (relE L g u n)], []) := by
  refine contract F40 rfl rfl rfl ?_
  by_cases h0 : ¬ valF L = 0
  · have e : relE L g u n = valF L := by unfold relE; rw [if_pos h0]
    rw [rel_err e h0, e, tks_nil]
    have h1' : (valF L = 0) = False := eq_false h0
    simp only [F40, go_sem, List.set_cons_zero, List.set_cons_succ, List.take_succ_cons, and_false, false_and, and_true, true_and, Nat.reduceAdd, Nat.reduceEqDiff, Nat.reduceLT, ↓reduceIte, decide_eq_true_eq, List.take_nil, beq_self_eq_true, bne_self_eq_false, List.take_zero, List.map_cons, List.map_nil, Int.reduceNeg, Bool.and_true, and_self, Bool.true_and, Bool.and_self, ne_eq, not_true_eq_false, decide_false, decide_true, Bool.false_eq_true, Nat.reduceAdd, Option.map_some, Option.map_none, Option.bind_some, Option.bind_none, List.length_nil, List.length_cons, List.append_nil, Bool.and_false, w64, demV_sl, Int.cast_ofNat_Int, Int.reduceLT, Int.reduceAdd, Int.reduceSub, Int.reduceLE, Int.reduceEq, Int.reduceToNat, Int.toNat_natCast, Nat.reduceSub, Nat.reduceMul, Nat.reduceLeDiff, Nat.zero_add, Int.zero_add, not_false_eq_true, Bool.not_true, Bool.not_false, Bool.false_and, List.cons_append, List.nil_append, c29, h1']
  have h1 : valF L = 0 := Classical.byContradiction h0
  by_cases h2 : hoF L g n = []
  · have e : relE L g u n = 6 := by unfold relE; rw [if_neg h0, if_pos h2]
    rw [rel_err e (by decide), e, tks_nil]
    simp only [F40, go_sem, List.set_cons_zero, List.set_cons_succ, List.take_succ_cons, and_false, false_and, and_true, true_and, Nat.reduceAdd, Nat.reduceEqDiff, Nat.reduceLT, ↓reduceIte, decide_eq_true_eq, List.take_nil, beq_self_eq_true, bne_self_eq_false, List.take_zero, List.map_cons, List.map_nil, Int.reduceNeg, Bool.and_true, and_self, Bool.true_and, Bool.and_self, ne_eq, not_true_eq_false, decide_false, decide_true, Bool.false_eq_true, Nat.reduceAdd, Option.map_some, Option.map_none, Option.bind_some, Option.bind_none, List.length_nil, List.length_cons, List.append_nil, Bool.and_false, w64, demV_sl, Int.cast_ofNat_Int, Int.reduceLT, Int.reduceAdd, Int.reduceSub, Int.reduceLE, Int.reduceEq, Int.reduceToNat, Int.toNat_natCast, Nat.reduceSub, Nat.reduceMul, Nat.reduceLeDiff, Nat.zero_add, Int.zero_add, not_false_eq_true, Bool.not_true, Bool.not_false, Bool.false_and, List.cons_append, List.nil_append, c29, h1, c34 L hL g n, beq_t h2]
  by_cases h3 : hoF L g n = u
  · have e : relE L g u n = 0 := by unfold relE; rw [if_neg h0, if_neg h2, if_pos h3]
    have el : relL L g u n = L.filter (neF g) := by unfold relL; rw [if_pos e]
    rw [el, e]
    simp only [F40, go_sem, List.set_cons_zero, List.set_cons_succ, List.take_succ_cons, and_false, false_and, and_true, true_and, Nat.reduceAdd, Nat.reduceEqDiff, Nat.reduceLT, ↓reduceIte, decide_eq_true_eq, List.take_nil, beq_self_eq_true, bne_self_eq_false, List.take_zero, List.map_cons, List.map_nil, Int.reduceNeg, Bool.and_true, and_self, Bool.true_and, Bool.and_self, ne_eq, not_true_eq_false, decide_false, decide_true, Bool.false_eq_true, Nat.reduceAdd, Option.map_some, Option.map_none, Option.bind_some, Option.bind_none, List.length_nil, List.length_cons, List.append_nil, Bool.and_false, w64, demV_sl, Int.cast_ofNat_Int, Int.reduceLT, Int.reduceAdd, Int.reduceSub, Int.reduceLE, Int.reduceEq, Int.reduceToNat, Int.toNat_natCast, Nat.reduceSub, Nat.reduceMul, Nat.reduceLeDiff, Nat.zero_add, Int.zero_add, not_false_eq_true, Bool.not_true, Bool.not_false, Bool.false_and, List.cons_append, List.nil_append, c29, h1, c34 L hL g n, beq_f h2, beq_t h3, c57 L hL g]
  · have e : relE L g u n = 9 := by unfold relE; rw [if_neg h0, if_neg h2, if_neg h3]
    rw [rel_err e (by decide), e, tks_nil]
    simp only [F40, go_sem, List.set_cons_zero, List.set_cons_succ, List.take_succ_cons, and_false, false_and, and_true, true_and, Nat.reduceAdd, Nat.reduceEqDiff, Nat.reduceLT, ↓reduceIte, decide_eq_true_eq, List.take_nil, beq_self_eq_true, bne_self_eq_false, List.take_zero, List.map_cons, List.map_nil, Int.reduceNeg, Bool.and_true, and_self, Bool.true_and, Bool.and_self, ne_eq, not_true_eq_false, decide_false, decide_true, Bool.false_eq_true, Nat.reduceAdd, Option.map_some, Option.map_none, Option.bind_some, Option.bind_none, List.length_nil, List.length_cons, List.append_nil, Bool.and_false, w64, demV_sl, Int.cast_ofNat_Int, Int.reduceLT, Int.reduceAdd, Int.reduceSub, Int.reduceLE, Int.reduceEq, Int.reduceToNat, Int.toNat_natCast, Nat.reduceSub, Nat.reduceMul, Nat.reduceLeDiff, Nat.zero_add, Int.zero_add, not_false_eq_true, Bool.not_true, Bool.not_false, Bool.false_and, List.cons_append, List.nil_append, c29, h1, c34 L hL g n, beq_f h2, beq_f h3]
theorem hoL_mem {g n : Int} : ∀ {L : List Tk}, (∀ t ∈ L, t.1 ≠ g) → hoL g n L = none
  | [], _ => rfl
  | t :: L, h => by
    simp only [hoL]
    rw [if_neg (h t (by simp))]
    exact hoL_mem fun t ht => h t (by simp [ht])
theorem c38 (L : List Tk) (hL : L.length ≤ 1000000) (g : Int) (u : List UInt8) (n : Int) : G0 38 [.sl .no 3 (tks L), .int .i64 g, .str u, .int .i64 n] [] = some (.tup [.sl .no 3 (tks (relL L g u n)), .int .i64 (relE L g u n)], []) := by
  refine contract F38 rfl rfl rfl ?_
  by_cases h0 : ¬ valF L = 0
  · have e : relE L g u n = valF L := by unfold relE; rw [if_pos h0]
    rw [rel_err e h0, e, tks_nil]
    have h1' : (valF L = 0) = False := eq_false h0
    simp only [F38, go_sem, List.set_cons_zero, List.set_cons_succ, List.take_succ_cons, and_false, false_and, and_true, true_and, Nat.reduceAdd, Nat.reduceEqDiff, Nat.reduceLT, ↓reduceIte, decide_eq_true_eq, List.take_nil, beq_self_eq_true, bne_self_eq_false, List.take_zero, List.map_cons, List.map_nil, Int.reduceNeg, Bool.and_true, and_self, Bool.true_and, Bool.and_self, ne_eq, not_true_eq_false, decide_false, decide_true, Bool.false_eq_true, Nat.reduceAdd, Option.map_some, Option.map_none, Option.bind_some, Option.bind_none, List.length_nil, List.length_cons, List.append_nil, Bool.and_false, w64, demV_sl, Int.cast_ofNat_Int, Int.reduceLT, Int.reduceAdd, Int.reduceSub, Int.reduceLE, Int.reduceEq, Int.reduceToNat, Int.toNat_natCast, Nat.reduceSub, Nat.reduceMul, Nat.reduceLeDiff, Nat.zero_add, Int.zero_add, not_false_eq_true, Bool.not_true, Bool.not_false, Bool.false_and, List.cons_append, List.nil_append, c28, h1']
  have h1 : valF L = 0 := Classical.byContradiction h0
  by_cases h2 : hoF L g n = []
  · have e : relE L g u n = 6 := by unfold relE; rw [if_neg h0, if_pos h2]
    rw [rel_err e (by decide), e, tks_nil]
    simp only [F38, go_sem, List.set_cons_zero, List.set_cons_succ, List.take_succ_cons, and_false, false_and, and_true, true_and, Nat.reduceAdd, Nat.reduceEqDiff, Nat.reduceLT, ↓reduceIte, decide_eq_true_eq, List.take_nil, beq_self_eq_true, bne_self_eq_false, List.take_zero, List.map_cons, List.map_nil, Int.reduceNeg, Bool.and_true, and_self, Bool.true_and, Bool.and_self, ne_eq, not_true_eq_false, decide_false, decide_true, Bool.false_eq_true, Nat.reduceAdd, Option.map_some, Option.map_none, Option.bind_some, Option.bind_none, List.length_nil, List.length_cons, List.append_nil, Bool.and_false, w64, demV_sl, Int.cast_ofNat_Int, Int.reduceLT, Int.reduceAdd, Int.reduceSub, Int.reduceLE, Int.reduceEq, Int.reduceToNat, Int.toNat_natCast, Nat.reduceSub, Nat.reduceMul, Nat.reduceLeDiff, Nat.zero_add, Int.zero_add, not_false_eq_true, Bool.not_true, Bool.not_false, Bool.false_and, List.cons_append, List.nil_append, c28, h1, c33 L hL g n, beq_t h2]
  by_cases h3 : hoF L g n = u
  · have e : relE L g u n = 0 := by unfold relE; rw [if_neg h0, if_neg h2, if_pos h3]
    have el : relL L g u n = L.filter (neF g) := by unfold relL; rw [if_pos e]
    rw [el, e]
    obtain ⟨_, _, hsrt⟩ := val_srt h1
    obtain ⟨_, p2, p3, p4⟩ := pl_facts L g hsrt
    have hb : plB L g = true := by
      cases hb : plB L g with
      | true => rfl
      | false =>
        exfalso
        refine h2 ?_
        rw [hoF_L, hoL_mem]
        · rfl
        · intro t ht
          rw [← List.take_append_drop (plN L g) L] at ht
          rcases List.mem_append.1 ht with h | h
          · have := p2 t h; omega
          · have := p3 hb t h; omega
    obtain ⟨q1, q2, q3⟩ := p4 hb
    have hn : L.filter (neF g) = L.take (plN L g) ++ L.drop (plN L g + 1) := by
      have hL2 : L.take (plN L g) ++ L.getD (plN L g) tk0 :: L.drop (plN L g + 1) = L := by rw [← drop_d q1, List.take_append_drop]
      have hnt : neF g (L.getD (plN L g) tk0) = false := by simp only [neF, q2, decide_true, Bool.not_true]
      conv => lhs; rw [← hL2]
      rw [List.filter_append, List.filter_cons, hnt, (fil_lt p2).1, (fil_gt q3).1]
      rfl
    have hne : L ≠ [] := by
      intro h
      rw [h] at q1
      simp at q1
    have h54 := c54s .no L hL hne []
    simp only [List.length_nil, List.nil_append] at h54
    obtain ⟨W, w1, w2, w3⟩ := c58 L hL (plN L g) q1
    have hr := rowsC_flp W (L.length - 1) w1
    rw [w2, ← hn] at hr
    have hw : IntKind.i64.wrap ((plN L g : Int) + 1) = ((plN L g + 1 : Nat) : Int) := by rw [w64 (by omega) (by omega)]; rfl
    simp only [F38, go_sem, List.set_cons_zero, List.set_cons_succ, List.take_succ_cons, and_false, false_and, and_true, true_and, Nat.reduceAdd, Nat.reduceEqDiff, Nat.reduceLT, ↓reduceIte, decide_eq_true_eq, List.take_nil, beq_self_eq_true, bne_self_eq_false, List.take_zero, List.map_cons, List.map_nil, Int.reduceNeg, Bool.and_true, and_self, Bool.true_and, Bool.and_self, ne_eq, not_true_eq_false, decide_false, decide_true, Bool.false_eq_true, Nat.reduceAdd, Option.map_some, Option.map_none, Option.bind_some, Option.bind_none, List.length_nil, List.length_cons, List.append_nil, Bool.and_false, w64, demV_sl, Int.cast_ofNat_Int, Int.reduceLT, Int.reduceAdd, Int.reduceSub, Int.reduceLE, Int.reduceEq, Int.reduceToNat, Int.toNat_natCast, Nat.reduceSub, Nat.reduceMul, Nat.reduceLeDiff, Nat.zero_add, Int.zero_add, not_false_eq_true, Bool.not_true, Bool.not_false, Bool.false_and, List.cons_append, List.nil_append, c28, h1, c33 L hL g n, beq_f h2, beq_t h3, c53 L hL g, hb, hw, h54, w3, hr]
  · have e : relE L g u n = 9 := by unfold relE; rw [if_neg h0, if_neg h2, if_neg h3]
    rw [rel_err e (by decide), e, tks_nil]
    simp only [F38, go_sem, List.set_cons_zero, List.set_cons_succ, List.take_succ_cons, and_false, false_and, and_true, true_and, Nat.reduceAdd, Nat.reduceEqDiff, Nat.reduceLT, ↓reduceIte, decide_eq_true_eq, List.take_nil, beq_self_eq_true, bne_self_eq_false, List.take_zero, List.map_cons, List.map_nil, Int.reduceNeg, Bool.and_true, and_self, Bool.true_and, Bool.and_self, ne_eq, not_true_eq_false, decide_false, decide_true, Bool.false_eq_true, Nat.reduceAdd, Option.map_some, Option.map_none, Option.bind_some, Option.bind_none, List.length_nil, List.length_cons, List.append_nil, Bool.and_false, w64, demV_sl, Int.cast_ofNat_Int, Int.reduceLT, Int.reduceAdd, Int.reduceSub, Int.reduceLE, Int.reduceEq, Int.reduceToNat, Int.toNat_natCast, Nat.reduceSub, Nat.reduceMul, Nat.reduceLeDiff, Nat.zero_add, Int.zero_add, not_false_eq_true, Bool.not_true, Bool.not_false, Bool.false_and, List.cons_append, List.nil_append, c28, h1, c33 L hL g n, beq_f h2, beq_f h3]
end Go.Av
