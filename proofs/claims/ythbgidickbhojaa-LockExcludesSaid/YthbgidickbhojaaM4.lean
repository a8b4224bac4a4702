/- A part of the proof: M4. No conditions. -/
import Derived.Test.YthbgidickbhojaaM3
set_option linter.unusedSimpArgs false
set_option linter.unusedVariables false
namespace Go.Av
set_option linter.unusedSimpArgs false
set_option maxHeartbeats 4000000
theorem c81 (x : Int) : G0 81 [.int .i64 x] [] = some (.bool false, []) := by
  refine contract F81 rfl rfl rfl ?_
  simp only [F81, go_sem, List.set_cons_zero, List.set_cons_succ, List.take_succ_cons, and_false, false_and, and_true, true_and, Nat.reduceAdd, Nat.reduceEqDiff, Nat.reduceLT, ↓reduceIte, decide_eq_true_eq, List.take_nil, beq_self_eq_true, bne_self_eq_false, List.take_zero, List.map_cons, List.map_nil, Int.reduceNeg, Bool.and_true, and_self, Bool.true_and, Bool.and_self, ne_eq, not_true_eq_false, decide_false, decide_true, Bool.false_eq_true, Nat.reduceAdd, Option.map_some, Option.map_none, Option.bind_some, Option.bind_none, List.length_nil, List.length_cons, List.append_nil, Bool.and_false, w64, demV_sl, Int.cast_ofNat_Int, Int.reduceLT, Int.reduceAdd, Int.reduceSub, Int.reduceLE, Int.reduceEq, Int.reduceToNat, Int.toNat_natCast, Nat.reduceSub, Nat.reduceMul, Nat.reduceLeDiff, Nat.zero_add, Int.zero_add, not_false_eq_true, Bool.not_true, Bool.not_false, Bool.false_and, List.cons_append, List.nil_append]
def cmpI (x y : Int) : Int := if x < y then -1 else if y < x then 1 else 0
theorem c71 (x y : Int) : G0 71 [.int .i64 x, .int .i64 y] [] = some (.int .i64 (cmpI x y), []) := by
  refine contract F71 rfl rfl rfl ?_
  by_cases h1 : x < y
  · simp only [F71, go_sem, List.set_cons_zero, List.set_cons_succ, List.take_succ_cons, and_false, false_and, and_true, true_and, Nat.reduceAdd, Nat.reduceEqDiff, Nat.reduceLT, ↓reduceIte, decide_eq_true_eq, List.take_nil, beq_self_eq_true, bne_self_eq_false, List.take_zero, List.map_cons, List.map_nil, Int.reduceNeg, Bool.and_true, and_self, Bool.true_and, Bool.and_self, ne_eq, not_true_eq_false, decide_false, decide_true, Bool.false_eq_true, Nat.reduceAdd, Option.map_some, Option.map_none, Option.bind_some, Option.bind_none, List.length_nil, List.length_cons, List.append_nil, Bool.and_false, w64, demV_sl, Int.cast_ofNat_Int, Int.reduceLT, Int.reduceAdd, Int.reduceSub, Int.reduceLE, Int.reduceEq, Int.reduceToNat, Int.toNat_natCast, Nat.reduceSub, Nat.reduceMul, Nat.reduceLeDiff, Nat.zero_add, Int.zero_add, not_false_eq_true, Bool.not_true, Bool.not_false, Bool.false_and, List.cons_append, List.nil_append, c81, h1, cmpI]
  by_cases h2 : y < x
  · simp only [F71, go_sem, List.set_cons_zero, List.set_cons_succ, List.take_succ_cons, and_false, false_and, and_true, true_and, Nat.reduceAdd, Nat.reduceEqDiff, Nat.reduceLT, ↓reduceIte, decide_eq_true_eq, List.take_nil, beq_self_eq_true, bne_self_eq_false, List.take_zero, List.map_cons, List.map_nil, Int.reduceNeg, Bool.and_true, and_self, Bool.true_and, Bool.and_self, ne_eq, not_true_eq_false, decide_false, decide_true, Bool.false_eq_true, Nat.reduceAdd, Option.map_some, Option.map_none, Option.bind_some, Option.bind_none, List.length_nil, List.length_cons, List.append_nil, Bool.and_false, w64, demV_sl, Int.cast_ofNat_Int, Int.reduceLT, Int.reduceAdd, Int.reduceSub, Int.reduceLE, Int.reduceEq, Int.reduceToNat, Int.toNat_natCast, Nat.reduceSub, Nat.reduceMul, Nat.reduceLeDiff, Nat.zero_add, Int.zero_add, not_false_eq_true, Bool.not_true, Bool.not_false, Bool.false_and, List.cons_append, List.nil_append, c81, h1, h2, cmpI]
  · simp only [F71, go_sem, List.set_cons_zero, List.set_cons_succ, List.take_succ_cons, and_false, false_and, and_true, true_and, Nat.reduceAdd, Nat.reduceEqDiff, Nat.reduceLT, ↓reduceIte, decide_eq_true_eq, List.take_nil, beq_self_eq_true, bne_self_eq_false, List.take_zero, List.map_cons, List.map_nil, Int.reduceNeg, Bool.and_true, and_self, Bool.true_and, Bool.and_self, ne_eq, not_true_eq_false, decide_false, decide_true, Bool.false_eq_true, Nat.reduceAdd, Option.map_some, Option.map_none, Option.bind_some, Option.bind_none, List.length_nil, List.length_cons, List.append_nil, Bool.and_false, w64, demV_sl, Int.cast_ofNat_Int, Int.reduceLT, Int.reduceAdd, Int.reduceSub, Int.reduceLE, Int.reduceEq, Int.reduceToNat, Int.toNat_natCast, Nat.reduceSub, Nat.reduceMul, Nat.reduceLeDiff, Nat.zero_add, Int.zero_add, not_false_eq_true, Bool.not_true, Bool.not_false, Bool.false_and, List.cons_append, List.nil_append, c81, h1, h2, cmpI]
theorem c70 (k i n : Int) (s : List UInt8) : G0 70 [.agg [.int .i64 k, .str s, .int .i64 i], .int .i64 n] [] = some (.int .i64 (cmpI k n), []) := by
  refine contract F70 rfl rfl rfl ?_
  simp only [F70, go_sem, List.set_cons_zero, List.set_cons_succ, List.take_succ_cons, and_false, false_and, and_true, true_and, Nat.reduceAdd, Nat.reduceEqDiff, Nat.reduceLT, ↓reduceIte, decide_eq_true_eq, List.take_nil, beq_self_eq_true, bne_self_eq_false, List.take_zero, List.map_cons, List.map_nil, Int.reduceNeg, Bool.and_true, and_self, Bool.true_and, Bool.and_self, ne_eq, not_true_eq_false, decide_false, decide_true, Bool.false_eq_true, Nat.reduceAdd, Option.map_some, Option.map_none, Option.bind_some, Option.bind_none, List.length_nil, List.length_cons, List.append_nil, Bool.and_false, w64, demV_sl, Int.cast_ofNat_Int, Int.reduceLT, Int.reduceAdd, Int.reduceSub, Int.reduceLE, Int.reduceEq, Int.reduceToNat, Int.toNat_natCast, Nat.reduceSub, Nat.reduceMul, Nat.reduceLeDiff, Nat.zero_add, Int.zero_add, not_false_eq_true, Bool.not_true, Bool.not_false, Bool.false_and, List.cons_append, List.nil_append, c71]
/-- the binary search -/
def bsI (L : List Tk) (g : Int) : Nat → Nat → Nat → Nat
  | 0, i, _ => i
  | k + 1, i, j => if i < j then (if (L.getD ((i + j) / 2) tk0).1 < g then bsI L g k ((i + j) / 2 + 1) j else bsI L g k i ((i + j) / 2)) else i
theorem half (i j : Nat) (h : i + j ≤ 10000000) : IntKind.i64.wrap ((IntKind.u64.wrap (IntKind.i64.wrap ((i : Int) + (j : Int)))).fdiv (2 ^ min 1 64)) = (((i + j) / 2 : Nat) : Int) := by
  have e0 : IntKind.i64.wrap ((i : Int) + (j : Int)) = (i : Int) + (j : Int) := w64 (by omega) (by omega)
  rw [e0]
  have e1 : IntKind.u64.wrap ((i : Int) + (j : Int)) = (i : Int) + (j : Int) := by
    show ((i : Int) + j) % 18446744073709551616 = _
    omega
  rw [e1]
  have e2 : (2 : Int) ^ (min 1 64) = 2 := rfl
  rw [e2, Int.fdiv_eq_ediv_of_nonneg _ (by decide)]
  have e3 : ((i : Int) + (j : Int)) / 2 = (((i + j) / 2 : Nat) : Int) := by omega
  rw [e3, w64 (by omega) (by omega)]
theorem cmpI_lt (x y : Int) : cmpI x y < 0 ↔ x < y := by
  unfold cmpI
  split
  · constructor
    · intro _; assumption
    · intro _; decide
  · split
    · constructor
      · intro h; exact absurd h (by decide)
      · intro h; omega
    · constructor
      · intro h; exact absurd h (by decide)
      · intro h; omega
theorem l69 (L : List Tk) (hL : L.length ≤ 1000000) (g : Int) : ∀ (k i j : Nat), j ≤ L.length → j - i < k → i ≤ j →
    execX G0 L69_0 (ST [(0, .sl .no 3 (tks L)), (1, .int .i64 g), (2, .fn 70 []), (8, .int .i64 L.length), (9, .int .i64 i), (10, .int .i64 j)] [] []) = some (.ex 0, ST [(0, .sl .no 3 (tks L)), (1, .int .i64 g), (2, .fn 70 []), (8, .int .i64 L.length), (9, .int .i64 (bsI L g k i j)), (10, .int .i64 (bsI L g k i j)), (17, .bool false)] [] [])
  | 0, i, j, _, h, _ => by omega
  | k + 1, i, j, h1, h2, h3 => by
    by_cases h4 : i < j
    · have h4' : (i : Int) < (j : Int) := by omega
      have h5 : (i + j) / 2 < L.length := by omega
      have hr := tks_d h5
      have h0 : (0 : Int) ≤ (((i + j) / 2 : Nat) : Int) := by omega
      have hf := half i j (by omega)
      have hw : IntKind.i64.wrap ((((i + j) / 2 : Nat) : Int) + 1) = (((i + j) / 2 + 1 : Nat) : Int) := by rw [w64 (by omega) (by omega)]; rfl
      by_cases h6 : (L.getD ((i + j) / 2) tk0).1 < g
      · have ih := l69 L hL g k ((i + j) / 2 + 1) j h1 (by omega) (by omega)
        have e : bsI L g (k + 1) i j = bsI L g k ((i + j) / 2 + 1) j := by simp only [bsI, h4, h6, if_true]
        have h7 := (cmpI_lt (L.getD ((i + j) / 2) tk0).1 g).2 h6
        rw [e]
        rw [Y_loop (L := L69_0) rfl]
        simp only [go_sem, List.set_cons_zero, List.set_cons_succ, List.take_succ_cons, and_false, false_and, and_true, true_and, Nat.reduceAdd, Nat.reduceEqDiff, Nat.reduceLT, ↓reduceIte, decide_eq_true_eq, List.take_nil, beq_self_eq_true, bne_self_eq_false, List.take_zero, List.map_cons, List.map_nil, Int.reduceNeg, Bool.and_true, and_self, Bool.true_and, Bool.and_self, ne_eq, not_true_eq_false, decide_false, decide_true, Bool.false_eq_true, Nat.reduceAdd, Option.map_some, Option.map_none, Option.bind_some, Option.bind_none, List.length_nil, List.length_cons, List.append_nil, Bool.and_false, w64, demV_sl, Int.cast_ofNat_Int, Int.reduceLT, Int.reduceAdd, Int.reduceSub, Int.reduceLE, Int.reduceEq, Int.reduceToNat, Int.toNat_natCast, Nat.reduceSub, Nat.reduceMul, Nat.reduceLeDiff, Nat.zero_add, Int.zero_add, not_false_eq_true, Bool.not_true, Bool.not_false, Bool.false_and, List.cons_append, List.nil_append, h4', shA, hf, h0, hr, c70, h7, hw]
        exact ih
      · have ih := l69 L hL g k i ((i + j) / 2) (by omega) (by omega) (by omega)
        have e : bsI L g (k + 1) i j = bsI L g k i ((i + j) / 2) := by simp only [bsI, h4, h6, if_true, if_false]
        have h7 : ¬ cmpI (L.getD ((i + j) / 2) tk0).1 g < 0 := fun h => h6 ((cmpI_lt _ _).1 h)
        rw [e]
        rw [Y_loop (L := L69_0) rfl]
        simp only [go_sem, List.set_cons_zero, List.set_cons_succ, List.take_succ_cons, and_false, false_and, and_true, true_and, Nat.reduceAdd, Nat.reduceEqDiff, Nat.reduceLT, ↓reduceIte, decide_eq_true_eq, List.take_nil, beq_self_eq_true, bne_self_eq_false, List.take_zero, List.map_cons, List.map_nil, Int.reduceNeg, Bool.and_true, and_self, Bool.true_and, Bool.and_self, ne_eq, not_true_eq_false, decide_false, decide_true, Bool.false_eq_true, Nat.reduceAdd, Option.map_some, Option.map_none, Option.bind_some, Option.bind_none, List.length_nil, List.length_cons, List.append_nil, Bool.and_false, w64, demV_sl, Int.cast_ofNat_Int, Int.reduceLT, Int.reduceAdd, Int.reduceSub, Int.reduceLE, Int.reduceEq, Int.reduceToNat, Int.toNat_natCast, Nat.reduceSub, Nat.reduceMul, Nat.reduceLeDiff, Nat.zero_add, Int.zero_add, not_false_eq_true, Bool.not_true, Bool.not_false, Bool.false_and, List.cons_append, List.nil_append, h4', shA, hf, h0, hr, c70, h7]
        exact ih
    · have h4' : ¬ (i : Int) < (j : Int) := by omega
      have hij : i = j := by omega
      subst hij
      have e : bsI L g (k + 1) i i = i := by simp only [bsI, Nat.lt_irrefl, if_false]
      rw [e]
      rw [Y_loop (L := L69_0) rfl]
      simp only [go_sem, List.set_cons_zero, List.set_cons_succ, List.take_succ_cons, and_false, false_and, and_true, true_and, Nat.reduceAdd, Nat.reduceEqDiff, Nat.reduceLT, ↓reduceIte, decide_eq_true_eq, List.take_nil, beq_self_eq_true, bne_self_eq_false, List.take_zero, List.map_cons, List.map_nil, Int.reduceNeg, Bool.and_true, and_self, Bool.true_and, Bool.and_self, ne_eq, not_true_eq_false, decide_false, decide_true, Bool.false_eq_true, Nat.reduceAdd, Option.map_some, Option.map_none, Option.bind_some, Option.bind_none, List.length_nil, List.length_cons, List.append_nil, Bool.and_false, w64, demV_sl, Int.cast_ofNat_Int, Int.reduceLT, Int.reduceAdd, Int.reduceSub, Int.reduceLE, Int.reduceEq, Int.reduceToNat, Int.toNat_natCast, Nat.reduceSub, Nat.reduceMul, Nat.reduceLeDiff, Nat.zero_add, Int.zero_add, not_false_eq_true, Bool.not_true, Bool.not_false, Bool.false_and, List.cons_append, List.nil_append, h4']
theorem bsI_le (L : List Tk) (g : Int) : ∀ (k i j : Nat), i ≤ j → i ≤ bsI L g k i j ∧ bsI L g k i j ≤ j
  | 0, i, j, h => by simp only [bsI]; omega
  | k + 1, i, j, h => by
    simp only [bsI]
    split
    · split
      · have := bsI_le L g k ((i + j) / 2 + 1) j (by omega); omega
      · have := bsI_le L g k i ((i + j) / 2) (by omega); omega
    · omega
def plN (L : List Tk) (g : Int) : Nat := bsI L g (L.length + 1) 0 L.length
def plB (L : List Tk) (g : Int) : Bool := if plN L g < L.length then decide (cmpI (L.getD (plN L g) tk0).1 g = 0) else false
theorem c69 (L : List Tk) (hL : L.length ≤ 1000000) (g : Int) : G0 69 [.sl .no 3 (tks L), .int .i64 g, .fn 70 []] [] = some (.tup [.int .i64 (plN L g), .bool (plB L g)], []) := by
  refine contract F69 rfl rfl rfl ?_
  have hx := l69 L hL g (L.length + 1) 0 L.length (by omega) (by omega) (by omega)
  have ec : ((0 : Nat) : Int) = 0 := rfl
  rw [ec] at hx
  have ep : bsI L g (L.length + 1) 0 L.length = plN L g := rfl
  rw [ep] at hx
  have hb := bsI_le L g (L.length + 1) 0 L.length (by omega)
  rw [ep] at hb
  have h0 : (0 : Int) ≤ (plN L g : Int) := by omega
  by_cases h1 : plN L g < L.length
  · have h1' : (plN L g : Int) < (L.length : Int) := by omega
    have hr := tks_d h1
    simp only [F69, go_sem, List.set_cons_zero, List.set_cons_succ, List.take_succ_cons, and_false, false_and, and_true, true_and, Nat.reduceAdd, Nat.reduceEqDiff, Nat.reduceLT, ↓reduceIte, decide_eq_true_eq, List.take_nil, beq_self_eq_true, bne_self_eq_false, List.take_zero, List.map_cons, List.map_nil, Int.reduceNeg, Bool.and_true, and_self, Bool.true_and, Bool.and_self, ne_eq, not_true_eq_false, decide_false, decide_true, Bool.false_eq_true, Nat.reduceAdd, Option.map_some, Option.map_none, Option.bind_some, Option.bind_none, List.length_nil, List.length_cons, List.append_nil, Bool.and_false, w64, demV_sl, Int.cast_ofNat_Int, Int.reduceLT, Int.reduceAdd, Int.reduceSub, Int.reduceLE, Int.reduceEq, Int.reduceToNat, Int.toNat_natCast, Nat.reduceSub, Nat.reduceMul, Nat.reduceLeDiff, Nat.zero_add, Int.zero_add, not_false_eq_true, Bool.not_true, Bool.not_false, Bool.false_and, List.cons_append, List.nil_append, tks_len, hx, h1', h0, hr, c70, plB, h1]
  · have h1' : ¬ (plN L g : Int) < (L.length : Int) := by omega
    simp only [F69, go_sem, List.set_cons_zero, List.set_cons_succ, List.take_succ_cons, and_false, false_and, and_true, true_and, Nat.reduceAdd, Nat.reduceEqDiff, Nat.reduceLT, ↓reduceIte, decide_eq_true_eq, List.take_nil, beq_self_eq_true, bne_self_eq_false, List.take_zero, List.map_cons, List.map_nil, Int.reduceNeg, Bool.and_true, and_self, Bool.true_and, Bool.and_self, ne_eq, not_true_eq_false, decide_false, decide_true, Bool.false_eq_true, Nat.reduceAdd, Option.map_some, Option.map_none, Option.bind_some, Option.bind_none, List.length_nil, List.length_cons, List.append_nil, Bool.and_false, w64, demV_sl, Int.cast_ofNat_Int, Int.reduceLT, Int.reduceAdd, Int.reduceSub, Int.reduceLE, Int.reduceEq, Int.reduceToNat, Int.toNat_natCast, Nat.reduceSub, Nat.reduceMul, Nat.reduceLeDiff, Nat.zero_add, Int.zero_add, not_false_eq_true, Bool.not_true, Bool.not_false, Bool.false_and, List.cons_append, List.nil_append, tks_len, hx, h1', plB, h1]
theorem c53 (L : List Tk) (hL : L.length ≤ 1000000) (g : Int) : G0 53 [.sl .no 3 (tks L), .int .i64 g] [] = some (.tup [.int .i64 (plN L g), .bool (plB L g)], []) := by
  refine contract F53 rfl rfl rfl ?_
  simp only [F53, go_sem, List.set_cons_zero, List.set_cons_succ, List.take_succ_cons, and_false, false_and, and_true, true_and, Nat.reduceAdd, Nat.reduceEqDiff, Nat.reduceLT, ↓reduceIte, decide_eq_true_eq, List.take_nil, beq_self_eq_true, bne_self_eq_false, List.take_zero, List.map_cons, List.map_nil, Int.reduceNeg, Bool.and_true, and_self, Bool.true_and, Bool.and_self, ne_eq, not_true_eq_false, decide_false, decide_true, Bool.false_eq_true, Nat.reduceAdd, Option.map_some, Option.map_none, Option.bind_some, Option.bind_none, List.length_nil, List.length_cons, List.append_nil, Bool.and_false, w64, demV_sl, Int.cast_ofNat_Int, Int.reduceLT, Int.reduceAdd, Int.reduceSub, Int.reduceLE, Int.reduceEq, Int.reduceToNat, Int.toNat_natCast, Nat.reduceSub, Nat.reduceMul, Nat.reduceLeDiff, Nat.zero_add, Int.zero_add, not_false_eq_true, Bool.not_true, Bool.not_false, Bool.false_and, List.cons_append, List.nil_append, c69 L hL g, List.all_nil]
theorem c54 (m : Own) (L : List Tk) (hL : L.length ≤ 1000000) (sh : List (List AV)) : G0 54 [.sl m 3 (tks L)] sh = some (cloneR 3 (tks L) sh) :=
  Gx_base (by simp only [B0, cloneB, tks_len, appOK_le (bytes := 32) (n := L.length) (by decide) (by omega)]; rfl)
end Go.Av
