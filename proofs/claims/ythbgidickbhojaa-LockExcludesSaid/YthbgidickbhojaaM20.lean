/- A part of the proof: M20. No conditions. -/
import Derived.Test.YthbgidickbhojaaM19
set_option linter.unusedSimpArgs false
set_option linter.unusedVariables false
namespace Go.Av
set_option linter.unusedSimpArgs false
set_option maxHeartbeats 16000000
set_option maxRecDepth 100000
theorem l7 (b c d : Int) : ∀ (k : Nat) (out : List Tk) (md : Own), md ≠ .no → out.length + k ≤ 1000 →
    ∃ (md' : Own) (out' : List Tk), md' ≠ .no ∧ out'.length = out.length + k ∧ execX G0 L7_0 (ST [(1, .int .i64 b), (2, .int .i64 c), (3, .int .i64 d), (9, .sl md 3 (tks out)), (10, .int .i64 k)] [] []) = some (.ex 0, ST [(1, .int .i64 b), (2, .int .i64 c), (3, .int .i64 d), (9, .sl md' 3 (tks out')), (10, .int .i64 0), (28, .bool false)] [] [])
  | 0, out, md, hm, h1 => by
    refine ⟨md, out, hm, rfl, ?_⟩
    rw [Y_loop (L := L7_0) rfl]
    simp only [go_sem, List.set_cons_zero, List.set_cons_succ, List.take_succ_cons, and_false, false_and, and_true, true_and, Nat.reduceAdd, Nat.reduceEqDiff, Nat.reduceLT, ↓reduceIte, decide_eq_true_eq, List.take_nil, beq_self_eq_true, bne_self_eq_false, List.take_zero, List.map_cons, List.map_nil, Int.reduceNeg, Bool.and_true, and_self, Bool.true_and, Bool.and_self, ne_eq, not_true_eq_false, decide_false, decide_true, Bool.false_eq_true, Nat.reduceAdd, Option.map_some, Option.map_none, Option.bind_some, Option.bind_none, List.length_nil, List.length_cons, List.append_nil, Bool.and_false, w64, demV_sl, Int.cast_ofNat_Int, Int.reduceLT, Int.reduceAdd, Int.reduceSub, Int.reduceLE, Int.reduceEq, Int.reduceToNat, Int.toNat_natCast, Nat.reduceSub, Nat.reduceMul, Nat.reduceLeDiff, Nat.zero_add, Int.zero_add, not_false_eq_true, Bool.not_true, Bool.not_false, Bool.false_and, List.cons_append, List.nil_append, Int.lt_irrefl]
  | k + 1, out, md, hm, h1 => by
    obtain ⟨md', out', hm', hl, ih⟩ := l7 b c d k (out ++ [((out.length : Int) + 1, [97, 110, 110], 5)]) .own (by decide) (by simp; omega)
    refine ⟨md', out', hm', by rw [hl]; simp; omega, ?_⟩
    have hk : (0 : Int) < ((k + 1 : Nat) : Int) := by omega
    have hw : IntKind.i64.wrap (((k + 1 : Nat) : Int) - 1) = (k : Int) := by rw [w64 (by omega) (by omega)]; omega
    have hw1 : IntKind.i64.wrap ((out.length : Int) + 1) = (out.length : Int) + 1 := w64 (by omega) (by omega)
    have ha : appOK 32 (out.length + 1) = true := appOK_le (by decide) (by omega)
    rw [Y_loop (L := L7_0) rfl]
    simp only [go_sem, List.set_cons_zero, List.set_cons_succ, List.take_succ_cons, and_false, false_and, and_true, true_and, Nat.reduceAdd, Nat.reduceEqDiff, Nat.reduceLT, ↓reduceIte, decide_eq_true_eq, List.take_nil, beq_self_eq_true, bne_self_eq_false, List.take_zero, List.map_cons, List.map_nil, Int.reduceNeg, Bool.and_true, and_self, Bool.true_and, Bool.and_self, ne_eq, not_true_eq_false, decide_false, decide_true, Bool.false_eq_true, Nat.reduceAdd, Option.map_some, Option.map_none, Option.bind_some, Option.bind_none, List.length_nil, List.length_cons, List.append_nil, Bool.and_false, w64, demV_sl, Int.cast_ofNat_Int, Int.reduceLT, Int.reduceAdd, Int.reduceSub, Int.reduceLE, Int.reduceEq, Int.reduceToNat, Int.toNat_natCast, Nat.reduceSub, Nat.reduceMul, Nat.reduceLeDiff, Nat.zero_add, Int.zero_add, not_false_eq_true, Bool.not_true, Bool.not_false, Bool.false_and, List.cons_append, List.nil_append, hk, hw, hw1, appA_gen md _ hm 3 32 (by decide), tks_len, ha, tks_one, tks_app]
    exact ih
theorem ints_ex {T : List Int} {j : Nat} (h : j < T.length) : ∃ y, (ints T)[j]? = some [.int .i64 y] := ⟨_, ints_at (List.getElem?_eq_getElem h)⟩
theorem mks5i (a b c d e : Int) : mksA 1 [.int .i64 0] 5 [0, 1, 2, 3, 4] [.int .i64 a, .int .i64 b, .int .i64 c, .int .i64 d, .int .i64 e] = some (.sl .full 1 (ints [a, b, c, d, e])) := rfl
theorem mks4i (a b c d : Int) : mksA 1 [.int .i64 0] 4 [0, 1, 2, 3] [.int .i64 a, .int .i64 b, .int .i64 c, .int .i64 d] = some (.sl .full 1 (ints [a, b, c, d])) := rfl
theorem c7 (a b c d : Int) : G0 7 [.int .i64 a, .int .i64 b, .int .i64 c, .int .i64 d] [] = some (.bool true, []) := by
  refine contract F7 rfl rfl rfl ?_
  have nat : ∀ (x m : Int), 0 < m → ∃ p : Nat, x % m = (p : Int) ∧ (p : Int) < m := fun x m hm => ⟨(x % m).toNat, by have := Int.emod_nonneg x (show m ≠ 0 by omega); omega, by have := Int.emod_lt_of_pos x hm; have := Int.emod_nonneg x (show m ≠ 0 by omega); omega⟩
  obtain ⟨p, hp, hp2⟩ := nat a 3 (by decide)
  obtain ⟨q, hq, hq2⟩ := nat b 3 (by decide)
  obtain ⟨r, hr, hr2⟩ := nat c 5 (by decide)
  obtain ⟨s, hs, hs2⟩ := nat d 5 (by decide)
  obtain ⟨t, ht, ht2⟩ := nat c 4 (by decide)
  have c1 := c24 a 3 (by decide) (by decide)
  have c2 := c24 b 3 (by decide) (by decide)
  have c3 := c24 c 5 (by decide) (by decide)
  have c4 := c24 d 5 (by decide) (by decide)
  have c5 := c24 c 4 (by decide) (by decide)
  rw [hp] at c1
  rw [hq] at c2
  rw [hr] at c3
  rw [hs] at c4
  rw [ht] at c5
  have w1 : IntKind.i64.wrap ((p : Int) + 512) = (p : Int) + 512 := w64 (by omega) (by omega)
  have w2 : IntKind.i64.wrap ((p : Int) + 512 - 1) = ((p + 511 : Nat) : Int) := by rw [w64 (by omega) (by omega)]; omega
  obtain ⟨md, L, hm, hl, x1⟩ := l7 b c d (p + 511) [] .full (by decide) (by simp; omega)
  simp only [List.length_nil, Nat.zero_add] at hl
  rw [tks_nil] at x1
  have w3 : IntKind.i64.wrap ((L.length : Int) + (q : Int)) = (L.length : Int) + (q : Int) := w64 (by omega) (by omega)
  have w4 : IntKind.i64.wrap ((L.length : Int) + (q : Int) - 1) = (L.length : Int) + (q : Int) - 1 := w64 (by omega) (by omega)
  obtain ⟨y1, r1⟩ := ints_ex (T := [-1, 0, 1073741823, 1073741824, 1073741825]) (j := r) (by simp; omega)
  obtain ⟨y2, r2⟩ := ints_ex (T := [0, 1, 2, 1073741824, 1073741825]) (j := s) (by simp; omega)
  obtain ⟨y3, r3⟩ := ints_ex (T := [0, 1, 1073741824, 1073741825]) (j := t) (by simp; omega)
  have z0 : ∀ n : Nat, (0 : Int) ≤ (n : Int) := fun n => by omega
  have z2 : (2 : Int) ≤ (L.length : Int) := by omega
  have z3 : (0 : Int) ≤ 2 := by decide
  have hL2 : (L.take 2).length ≤ 1000000 := by simp; omega
  have e1 := acqL_len L ((L.length : Int) + (q : Int) - 1) [97, 110, 110] y1 y2
  have e2 := acqL_len (L.take 2) ((L.length : Int) + (q : Int) - 1) [97, 110, 110] y1 y2
  have e3 : (L.take 2).length ≤ 2 := by simp; omega
  simp only [F7, go_sem, List.set_cons_zero, List.set_cons_succ, List.take_succ_cons, and_false, false_and, and_true, true_and, Nat.reduceAdd, Nat.reduceEqDiff, Nat.reduceLT, ↓reduceIte, decide_eq_true_eq, List.take_nil, beq_self_eq_true, bne_self_eq_false, List.take_zero, List.map_cons, List.map_nil, Int.reduceNeg, Bool.and_true, and_self, Bool.true_and, Bool.and_self, ne_eq, not_true_eq_false, decide_false, decide_true, Bool.false_eq_true, Nat.reduceAdd, Option.map_some, Option.map_none, Option.bind_some, Option.bind_none, List.length_nil, List.length_cons, List.append_nil, Bool.and_false, w64, demV_sl, Int.cast_ofNat_Int, Int.reduceLT, Int.reduceAdd, Int.reduceSub, Int.reduceLE, Int.reduceEq, Int.reduceToNat, Int.toNat_natCast, Nat.reduceSub, Nat.reduceMul, Nat.reduceLeDiff, Nat.zero_add, Int.zero_add, not_false_eq_true, Bool.not_true, Bool.not_false, Bool.false_and, List.cons_append, List.nil_append, c1, c2, c3, c4, c5, w1, w2, x1, w3, w4, mks5i, mks4i, z0, r1, r2, r3, c25 L (by omega), c26 L (by omega), tks_len, z2, z3, tks_take, c25 _ hL2, c26 _ hL2, tks_one, c27 _ (show (acqL L ((L.length : Int) + (q : Int) - 1) [97, 110, 110] y1 y2).length ≤ 1000000 by omega), c27 _ (show (acqL (L.take 2) ((L.length : Int) + (q : Int) - 1) [97, 110, 110] y1 y2).length ≤ 1000000 by omega), c28, c29, c30]
end Go.Av
