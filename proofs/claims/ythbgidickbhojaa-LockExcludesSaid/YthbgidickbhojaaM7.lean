/- A part of the proof: M7. No conditions. -/
import Derived.Test.YthbgidickbhojaaM6
set_option linter.unusedSimpArgs false
set_option linter.unusedVariables false
namespace Go.Av
set_option linter.unusedSimpArgs false
set_option maxHeartbeats 4000000
theorem tks_take (l : List Tk) (n : Nat) : (tks l).take n = tks (l.take n) := by simp [tks, List.map_take]
theorem tks_drop (l : List Tk) (n : Nat) : (tks l).drop n = tks (l.drop n) := by simp [tks, List.map_drop]
theorem c8 (L : List Tk) (k : List Int) (a c : Int) (b : List UInt8) (at' : Int) : G0 8 [.sl .no 3 (tks L), .sl .no 1 (ints k), .agg [.int .i64 a, .str b, .int .i64 c], .int .i64 at'] [] = some (.bool true, []) := by
  refine contract F8 rfl rfl rfl ?_
  cases h1 : lng k with
  | true => simp only [F8, go_sem, List.set_cons_zero, List.set_cons_succ, List.take_succ_cons, and_false, false_and, and_true, true_and, Nat.reduceAdd, Nat.reduceEqDiff, Nat.reduceLT, ↓reduceIte, decide_eq_true_eq, List.take_nil, beq_self_eq_true, bne_self_eq_false, List.take_zero, List.map_cons, List.map_nil, Int.reduceNeg, Bool.and_true, and_self, Bool.true_and, Bool.and_self, ne_eq, not_true_eq_false, decide_false, decide_true, Bool.false_eq_true, Nat.reduceAdd, Option.map_some, Option.map_none, Option.bind_some, Option.bind_none, List.length_nil, List.length_cons, List.append_nil, Bool.and_false, w64, demV_sl, Int.cast_ofNat_Int, Int.reduceLT, Int.reduceAdd, Int.reduceSub, Int.reduceLE, Int.reduceEq, Int.reduceToNat, Int.toNat_natCast, Nat.reduceSub, Nat.reduceMul, Nat.reduceLeDiff, Nat.zero_add, Int.zero_add, not_false_eq_true, Bool.not_true, Bool.not_false, Bool.false_and, List.cons_append, List.nil_append, mks1 (.sl .no 1 (ints k)) 1 (ints k) rfl, c31, h1, c30]
  | false =>
    by_cases h2 : 60 < L.length
    · have h2' : (60 : Int) < (L.length : Int) := by omega
      simp only [F8, go_sem, List.set_cons_zero, List.set_cons_succ, List.take_succ_cons, and_false, false_and, and_true, true_and, Nat.reduceAdd, Nat.reduceEqDiff, Nat.reduceLT, ↓reduceIte, decide_eq_true_eq, List.take_nil, beq_self_eq_true, bne_self_eq_false, List.take_zero, List.map_cons, List.map_nil, Int.reduceNeg, Bool.and_true, and_self, Bool.true_and, Bool.and_self, ne_eq, not_true_eq_false, decide_false, decide_true, Bool.false_eq_true, Nat.reduceAdd, Option.map_some, Option.map_none, Option.bind_some, Option.bind_none, List.length_nil, List.length_cons, List.append_nil, Bool.and_false, w64, demV_sl, Int.cast_ofNat_Int, Int.reduceLT, Int.reduceAdd, Int.reduceSub, Int.reduceLE, Int.reduceEq, Int.reduceToNat, Int.toNat_natCast, Nat.reduceSub, Nat.reduceMul, Nat.reduceLeDiff, Nat.zero_add, Int.zero_add, not_false_eq_true, Bool.not_true, Bool.not_false, Bool.false_and, List.cons_append, List.nil_append, mks1 (.sl .no 1 (ints k)) 1 (ints k) rfl, c31, h1, tks_len, h2', c30]
    · have h2' : ¬ (60 : Int) < (L.length : Int) := by omega
      have hl := lsF_len k
      have hw : IntKind.i64.wrap (((lsF k).length : Int) + 1) = ((lsF k).length : Int) + 1 := w64 (by omega) (by omega)
      have hb := Int.emod_nonneg at' (show ((lsF k).length : Int) + 1 ≠ 0 by omega)
      have hb2 := Int.emod_lt_of_pos at' (show (0 : Int) < ((lsF k).length : Int) + 1 by omega)
      obtain ⟨p, hp⟩ : ∃ p : Nat, at' % (((lsF k).length : Int) + 1) = (p : Int) := ⟨(at' % (((lsF k).length : Int) + 1)).toNat, by omega⟩
      have h24 := c24 at' (((lsF k).length : Int) + 1) (by omega) (by omega)
      rw [hp] at h24 hb hb2
      have hp2 : (p : Int) ≤ ((lsF k).length : Int) := by omega
      have hv := val_ls k
      have hn : (((lsF k).take p).length + 1 + ((lsF k).drop p).length) ≤ 1000 := by simp; omega
      have ha1 : appOK 32 ((lsF k).take p).length = true := appOK_le (by decide) (by omega)
      have ha2 : appOK 32 (((lsF k).take p).length + 1) = true := appOK_le (by decide) (by omega)
      have ha3 : appOK 32 (((lsF k).take p).length + 1 + ((lsF k).drop p).length) = true := appOK_le (by decide) (by omega)
      simp only [F8, go_sem, List.set_cons_zero, List.set_cons_succ, List.take_succ_cons, and_false, false_and, and_true, true_and, Nat.reduceAdd, Nat.reduceEqDiff, Nat.reduceLT, ↓reduceIte, decide_eq_true_eq, List.take_nil, beq_self_eq_true, bne_self_eq_false, List.take_zero, List.map_cons, List.map_nil, Int.reduceNeg, Bool.and_true, and_self, Bool.true_and, Bool.and_self, ne_eq, not_true_eq_false, decide_false, decide_true, Bool.false_eq_true, Nat.reduceAdd, Option.map_some, Option.map_none, Option.bind_some, Option.bind_none, List.length_nil, List.length_cons, List.append_nil, Bool.and_false, w64, demV_sl, Int.cast_ofNat_Int, Int.reduceLT, Int.reduceAdd, Int.reduceSub, Int.reduceLE, Int.reduceEq, Int.reduceToNat, Int.toNat_natCast, Nat.reduceSub, Nat.reduceMul, Nat.reduceLeDiff, Nat.zero_add, Int.zero_add, not_false_eq_true, Bool.not_true, Bool.not_false, Bool.false_and, List.cons_append, List.nil_append, mks1 (.sl .no 1 (ints k)) 1 (ints k) rfl, c31, h1, tks_len, h2', c30, c32, hw, h24, hb, hp2, mks0, appA_gen .full _ (by decide) 3 32 (by decide), appA_gen .own _ (by decide) 3 32 (by decide), tks_take, tks_drop, tks_one, tks_app, tks_nil, ha1, ha2, ha3, c28, c29, hv, List.drop_zero, List.take_length, List.length_append]
end Go.Av
