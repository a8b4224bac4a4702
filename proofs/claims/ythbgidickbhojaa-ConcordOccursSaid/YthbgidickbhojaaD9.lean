/- A part of the proof: D9. No conditions. -/
import Derived.Test.YthbgidickbhojaaD8
set_option linter.unusedSimpArgs false
set_option linter.unusedVariables false
namespace Go.Av
set_option linter.unusedSimpArgs false
set_option maxHeartbeats 4000000
theorem bne_self_s (s : List UInt8) : (s != s) = false := by simp
theorem l15 (a : List (List UInt8)) (ha : a.length ≤ 1000000000) : ∀ (k i : Nat), i + k = a.length →
    execX G0 L15_0 (ST [(0, .sl .no 1 (strs a)), (1, .sl .no 1 (strs a)), (10, .bool false), (12, .int .i64 a.length), (13, .int .i64 i)] [] []) = some (.ex 0, ST [(0, .sl .no 1 (strs a)), (1, .sl .no 1 (strs a)), (10, .bool false), (12, .int .i64 a.length), (13, .int .i64 a.length), (14, .bool false)] [] [])
  | 0, i, h => by
    have : i = a.length := by omega
    subst this
    rw [Y_loop (L := L15_0) rfl]
    simp only [go_sem, List.set_cons_zero, List.set_cons_succ, List.take_succ_cons, and_false, false_and, and_true, true_and, Nat.reduceAdd, Nat.reduceEqDiff, Nat.reduceLT, ↓reduceIte, decide_eq_true_eq, List.take_nil, beq_self_eq_true, bne_self_eq_false, List.take_zero, List.map_cons, List.map_nil, Int.reduceNeg, Bool.and_true, and_self, Bool.true_and, Bool.and_self, ne_eq, not_true_eq_false, decide_false, decide_true, Bool.false_eq_true, Nat.reduceAdd, Option.map_some, Option.map_none, Option.bind_some, Option.bind_none, List.length_nil, List.length_cons, List.append_nil, Bool.and_false, w64, demV_sl, Int.cast_ofNat_Int, Int.reduceLT, Int.reduceAdd, Int.reduceSub, Int.reduceLE, Int.reduceEq, Int.reduceToNat, Int.toNat_natCast, Nat.reduceSub, Nat.reduceMul, Nat.reduceLeDiff, Nat.zero_add, Int.zero_add, not_false_eq_true, Bool.not_true, Bool.not_false, Bool.false_and, List.cons_append, List.nil_append, Int.lt_irrefl]
  | k + 1, i, h => by
    have h4 : (i : Int) < (a.length : Int) := by omega
    have h0 : (0 : Int) ≤ (i : Int) := by omega
    have hw : IntKind.i64.wrap ((i : Int) + 1) = ((i + 1 : Nat) : Int) := by rw [w64 (by omega) (by omega)]; rfl
    have hr := strs_at (List.getElem?_eq_getElem (show i < a.length by omega))
    have ih := l15 a ha k (i + 1) (by omega)
    rw [Y_loop (L := L15_0) rfl]
    simp only [go_sem, List.set_cons_zero, List.set_cons_succ, List.take_succ_cons, and_false, false_and, and_true, true_and, Nat.reduceAdd, Nat.reduceEqDiff, Nat.reduceLT, ↓reduceIte, decide_eq_true_eq, List.take_nil, beq_self_eq_true, bne_self_eq_false, List.take_zero, List.map_cons, List.map_nil, Int.reduceNeg, Bool.and_true, and_self, Bool.true_and, Bool.and_self, ne_eq, not_true_eq_false, decide_false, decide_true, Bool.false_eq_true, Nat.reduceAdd, Option.map_some, Option.map_none, Option.bind_some, Option.bind_none, List.length_nil, List.length_cons, List.append_nil, Bool.and_false, w64, demV_sl, Int.cast_ofNat_Int, Int.reduceLT, Int.reduceAdd, Int.reduceSub, Int.reduceLE, Int.reduceEq, Int.reduceToNat, Int.toNat_natCast, Nat.reduceSub, Nat.reduceMul, Nat.reduceLeDiff, Nat.zero_add, Int.zero_add, not_false_eq_true, Bool.not_true, Bool.not_false, Bool.false_and, List.cons_append, List.nil_append, h4, h0, hw, hr, bne_self_s]
    exact ih
theorem c15 (a : List (List UInt8)) (ha : a.length ≤ 1000000000) : G0 15 [.sl .no 1 (strs a), .sl .no 1 (strs a)] [] = some (.bool true, []) := by
  refine contract F15 rfl rfl rfl ?_
  have hx := l15 a ha a.length 0 (by omega)
  simp only [go_sem, List.set_cons_zero, List.set_cons_succ, List.take_succ_cons, and_false, false_and, and_true, true_and, Nat.reduceAdd, Nat.reduceEqDiff, Nat.reduceLT, ↓reduceIte, decide_eq_true_eq, List.take_nil, beq_self_eq_true, bne_self_eq_false, List.take_zero, List.map_cons, List.map_nil, Int.reduceNeg, Bool.and_true, and_self, Bool.true_and, Bool.and_self, ne_eq, not_true_eq_false, decide_false, decide_true, Bool.false_eq_true, Nat.reduceAdd, Option.map_some, Option.map_none, Option.bind_some, Option.bind_none, List.length_nil, List.length_cons, List.append_nil, Bool.and_false, w64, demV_sl, Int.cast_ofNat_Int, Int.reduceLT, Int.reduceAdd, Int.reduceSub, Int.reduceLE, Int.reduceEq, Int.reduceToNat, Int.toNat_natCast, Nat.reduceSub, Nat.reduceMul, Nat.reduceLeDiff, Nat.zero_add, Int.zero_add, not_false_eq_true, Bool.not_true, Bool.not_false, Bool.false_and, List.cons_append, List.nil_append] at hx
  simp only [F15, go_sem, List.set_cons_zero, List.set_cons_succ, List.take_succ_cons, and_false, false_and, and_true, true_and, Nat.reduceAdd, Nat.reduceEqDiff, Nat.reduceLT, ↓reduceIte, decide_eq_true_eq, List.take_nil, beq_self_eq_true, bne_self_eq_false, List.take_zero, List.map_cons, List.map_nil, Int.reduceNeg, Bool.and_true, and_self, Bool.true_and, Bool.and_self, ne_eq, not_true_eq_false, decide_false, decide_true, Bool.false_eq_true, Nat.reduceAdd, Option.map_some, Option.map_none, Option.bind_some, Option.bind_none, List.length_nil, List.length_cons, List.append_nil, Bool.and_false, w64, demV_sl, Int.cast_ofNat_Int, Int.reduceLT, Int.reduceAdd, Int.reduceSub, Int.reduceLE, Int.reduceEq, Int.reduceToNat, Int.toNat_natCast, Nat.reduceSub, Nat.reduceMul, Nat.reduceLeDiff, Nat.zero_add, Int.zero_add, not_false_eq_true, Bool.not_true, Bool.not_false, Bool.false_and, List.cons_append, List.nil_append, strs_len, hx]
theorem tmod_emod (a b : Int) (hb : 1 ≤ b) : (if a.tmod b < 0 then a.tmod b + b else a.tmod b) = a % b := by
  have e := Int.tmod_eq_emod (a := a) (b := b)
  have h1 := Int.emod_nonneg a (by omega : b ≠ 0)
  have h2 := Int.emod_lt_of_pos a (by omega : 0 < b)
  have hd : ¬ (0 ≤ a ∨ b ∣ a) → a % b ≠ 0 := fun h h0 => h (.inr (Int.dvd_of_emod_eq_zero h0))
  by_cases h : 0 ≤ a ∨ b ∣ a
  · rw [if_pos h] at e
    rw [e]
    rw [if_neg (by omega)]
    omega
  · rw [if_neg h] at e
    have := hd h
    rw [e]
    rw [if_pos (by omega)]
    omega
theorem tmod_bd (a b : Int) (hb : 1 ≤ b) : -b < a.tmod b ∧ a.tmod b < b := by
  have := tmod_emod a b hb
  have h1 := Int.emod_nonneg a (by omega : b ≠ 0)
  have h2 := Int.emod_lt_of_pos a (by omega : 0 < b)
  have h3 := Int.lt_tmod_of_pos a (by omega : 0 < b)
  have h4 := Int.tmod_lt_of_pos a (by omega : 0 < b)
  omega
theorem c24 (a b : Int) (hb : 1 ≤ b) (hb2 : b ≤ 1000000) : G0 24 [.int .i64 a, .int .i64 b] [] = some (.int .i64 (a % b), []) := by
  refine contract F24 rfl rfl rfl ?_
  have h0 : ¬ b = 0 := by omega
  have h1 := tmod_bd a b hb
  rw [← tmod_emod a b hb]
  simp only [F24, go_sem, List.set_cons_zero, List.set_cons_succ, List.take_succ_cons, and_false, false_and, and_true, true_and, Nat.reduceAdd, Nat.reduceEqDiff, Nat.reduceLT, ↓reduceIte, decide_eq_true_eq, List.take_nil, beq_self_eq_true, bne_self_eq_false, List.take_zero, List.map_cons, List.map_nil, Int.reduceNeg, Bool.and_true, and_self, Bool.true_and, Bool.and_self, ne_eq, not_true_eq_false, decide_false, decide_true, Bool.false_eq_true, Nat.reduceAdd, Option.map_some, Option.map_none, Option.bind_some, Option.bind_none, List.length_nil, List.length_cons, List.append_nil, Bool.and_false, w64, demV_sl, Int.cast_ofNat_Int, Int.reduceLT, Int.reduceAdd, Int.reduceSub, Int.reduceLE, Int.reduceEq, Int.reduceToNat, Int.toNat_natCast, Nat.reduceSub, Nat.reduceMul, Nat.reduceLeDiff, Nat.zero_add, Int.zero_add, not_false_eq_true, Bool.not_true, Bool.not_false, Bool.false_and, List.cons_append, List.nil_append, h0]
  split
  · rw [w64 (by omega) (by omega)]
  · rfl
def ints (l : List Int) : List (List AV) := l.map fun x => [.int .i64 x]
theorem ints_length (l : List Int) : (ints l).length = l.length := by simp [ints]
theorem ints_at {l : List Int} {i : Nat} {x : Int} (h : l[i]? = some x) : (ints l)[i]? = some [.int .i64 x] := by simp [ints, h]
theorem ints_nil : ints [] = [] := rfl
def num (l : List Int) (n : Nat) : List AV := [.sl .no 1 (ints l), .int .i64 n]
def nxt (l : List Int) (n : Nat) (m : Int) : Int := (if n < l.length then l.getD n 0 else 0) % m
theorem nxt_bd (l : List Int) (n : Nat) (m : Int) (h : 1 ≤ m) : 0 ≤ nxt l n m ∧ nxt l n m < m := ⟨Int.emod_nonneg _ (by omega), Int.emod_lt_of_pos _ (by omega)⟩
theorem c36 (l : List Int) (n : Nat) (m : Int) (hn : n ≤ 1000000) (h1 : 1 ≤ m) (h2 : m ≤ 1000000) : G0 36 [.ptr 0 0, .int .i64 m] [num l n] = some (.int .i64 (nxt l n m), [num l (n + 1)]) := by
  refine contract F36 rfl rfl rfl ?_
  have hw : IntKind.i64.wrap ((n : Int) + 1) = ((n + 1 : Nat) : Int) := by rw [w64 (by omega) (by omega)]; rfl
  have h0 : (0 : Int) ≤ (n : Int) := by omega
  have hnum : refsOk false 1 [[.sl .no 1 (ints l), .int .i64 ((n + 1 : Nat) : Int)]] = true := rfl
  by_cases h3 : n < l.length
  · have h4 : (n : Int) < (l.length : Int) := by omega
    have hr := ints_at (l := l) (i := n) (x := l.getD n 0) (by simp [List.getD_eq_getElem?_getD, h3])
    simp only [F36, go_sem, List.set_cons_zero, List.set_cons_succ, List.take_succ_cons, and_false, false_and, and_true, true_and, Nat.reduceAdd, Nat.reduceEqDiff, Nat.reduceLT, ↓reduceIte, decide_eq_true_eq, List.take_nil, beq_self_eq_true, bne_self_eq_false, List.take_zero, List.map_cons, List.map_nil, Int.reduceNeg, Bool.and_true, and_self, Bool.true_and, Bool.and_self, ne_eq, not_true_eq_false, decide_false, decide_true, Bool.false_eq_true, Nat.reduceAdd, Option.map_some, Option.map_none, Option.bind_some, Option.bind_none, List.length_nil, List.length_cons, List.append_nil, Bool.and_false, w64, demV_sl, Int.cast_ofNat_Int, Int.reduceLT, Int.reduceAdd, Int.reduceSub, Int.reduceLE, Int.reduceEq, Int.reduceToNat, Int.toNat_natCast, Nat.reduceSub, Nat.reduceMul, Nat.reduceLeDiff, Nat.zero_add, Int.zero_add, not_false_eq_true, Bool.not_true, Bool.not_false, Bool.false_and, List.cons_append, List.nil_append, num, ints_length, h4, h0, hr, hw, c24 _ m h1 h2, nxt, h3, hnum]
  · have h4 : ¬ (n : Int) < (l.length : Int) := by omega
    simp only [F36, go_sem, List.set_cons_zero, List.set_cons_succ, List.take_succ_cons, and_false, false_and, and_true, true_and, Nat.reduceAdd, Nat.reduceEqDiff, Nat.reduceLT, ↓reduceIte, decide_eq_true_eq, List.take_nil, beq_self_eq_true, bne_self_eq_false, List.take_zero, List.map_cons, List.map_nil, Int.reduceNeg, Bool.and_true, and_self, Bool.true_and, Bool.and_self, ne_eq, not_true_eq_false, decide_false, decide_true, Bool.false_eq_true, Nat.reduceAdd, Option.map_some, Option.map_none, Option.bind_some, Option.bind_none, List.length_nil, List.length_cons, List.append_nil, Bool.and_false, w64, demV_sl, Int.cast_ofNat_Int, Int.reduceLT, Int.reduceAdd, Int.reduceSub, Int.reduceLE, Int.reduceEq, Int.reduceToNat, Int.toNat_natCast, Nat.reduceSub, Nat.reduceMul, Nat.reduceLeDiff, Nat.zero_add, Int.zero_add, not_false_eq_true, Bool.not_true, Bool.not_false, Bool.false_and, List.cons_append, List.nil_append, num, ints_length, h4, h0, hw, c24 _ m h1 h2, nxt, h3, hnum]

def wds : List (List UInt8) := [[114, 101, 100], [99, 97, 114], [82, 101, 100], [97], [99, 97, 114, 115], [49, 44, 53], [50, 50], [100, 111, 110, 39, 116], [46], [33], [32], [32, 32], [60], [38], [123], [34], [92], [120, 45, 121], [10], [61], [125], [62], [9], [98]]
def wd (l : List Int) (n : Nat) : List UInt8 := wds.getD (nxt l n 24).toNat []
theorem wd_len (l : List Int) (n : Nat) : (wd l n).length ≤ 5 := by
  unfold wd
  have : ∀ i, (wds.getD i []).length ≤ 5 := by
    intro i
    by_cases h : i < 24
    · have : ∀ j : Fin 24, (wds.getD j.1 []).length ≤ 5 := by decide
      exact this ⟨i, h⟩
    · rw [List.getD_eq_getElem?_getD, List.getElem?_eq_none (by simp [wds]; omega)]; simp
  exact this _
theorem c66 (l : List Int) (n : Nat) (hn : n ≤ 1000000) : G0 66 [.ptr 0 0] [num l n] = some (.str (wd l n), [num l (n + 1)]) := by
  refine contract F66 rfl rfl rfl ?_
  have hm : mksA 1 [.str []] 24 [0, 1, 2, 3, 4, 5, 6, 7, 8, 9, 10, 11, 12, 13, 14, 15, 16, 17, 18, 19, 20, 21, 22, 23] [.str [114, 101, 100], .str [99, 97, 114], .str [82, 101, 100], .str [97], .str [99, 97, 114, 115], .str [49, 44, 53], .str [50, 50], .str [100, 111, 110, 39, 116], .str [46], .str [33], .str [32], .str [32, 32], .str [60], .str [38], .str [123], .str [34], .str [92], .str [120, 45, 121], .str [10], .str [61], .str [125], .str [62], .str [9], .str [98]] = some (.sl .full 1 (strs wds)) := by rfl
  have hb := nxt_bd l n 24 (by omega)
  have h0 : 0 ≤ nxt l n 24 := hb.1
  have hr := strs_at (l := wds) (i := (nxt l n 24).toNat) (s := wd l n) (by
    unfold wd
    rw [List.getD_eq_getElem?_getD, List.getElem?_eq_getElem (by simp [wds]; omega)]; rfl)
  have hnum : refsOk false 1 [num l (n + 1)] = true := rfl
  simp only [F66, go_sem, List.set_cons_zero, List.set_cons_succ, List.take_succ_cons, and_false, false_and, and_true, true_and, Nat.reduceAdd, Nat.reduceEqDiff, Nat.reduceLT, ↓reduceIte, decide_eq_true_eq, List.take_nil, beq_self_eq_true, bne_self_eq_false, List.take_zero, List.map_cons, List.map_nil, Int.reduceNeg, Bool.and_true, and_self, Bool.true_and, Bool.and_self, ne_eq, not_true_eq_false, decide_false, decide_true, Bool.false_eq_true, Nat.reduceAdd, Option.map_some, Option.map_none, Option.bind_some, Option.bind_none, List.length_nil, List.length_cons, List.append_nil, Bool.and_false, w64, demV_sl, Int.cast_ofNat_Int, Int.reduceLT, Int.reduceAdd, Int.reduceSub, Int.reduceLE, Int.reduceEq, Int.reduceToNat, Int.toNat_natCast, Nat.reduceSub, Nat.reduceMul, Nat.reduceLeDiff, Nat.zero_add, Int.zero_add, not_false_eq_true, Bool.not_true, Bool.not_false, Bool.false_and, List.cons_append, List.nil_append, hm, c36 l n 24 hn (by decide) (by decide), h0, hr, hnum]
def lnF (l : List Int) : Nat → Nat → List UInt8 → List UInt8 × Nat
  | 0, n, out => (out, n)
  | i + 1, n, out => if out = [] then lnF l i (n + 1) (out ++ wd l n) else lnF l i (n + 2) ((if 0 < nxt l (n + 1) 3 then out ++ [32] else out) ++ wd l n)
theorem l48 (l : List Int) : ∀ (k n : Nat) (out : List UInt8), n + 2 * k ≤ 1000000 → out.length + 6 * k ≤ 1000000 →
    execX G0 L48_0 (ST [(0, .ptr 0 0), (5, .str out), (6, .int .i64 k)] [] [num l n]) = some (.ex 0, ST [(0, .ptr 0 0), (5, .str (lnF l k n out).1), (6, .int .i64 0), (13, .bool false)] [] [num l (lnF l k n out).2])
  | 0, n, out, h1, h2 => by
    rw [Y_loop (L := L48_0) rfl]
    simp only [go_sem, List.set_cons_zero, List.set_cons_succ, List.take_succ_cons, and_false, false_and, and_true, true_and, Nat.reduceAdd, Nat.reduceEqDiff, Nat.reduceLT, ↓reduceIte, decide_eq_true_eq, List.take_nil, beq_self_eq_true, bne_self_eq_false, List.take_zero, List.map_cons, List.map_nil, Int.reduceNeg, Bool.and_true, and_self, Bool.true_and, Bool.and_self, ne_eq, not_true_eq_false, decide_false, decide_true, Bool.false_eq_true, Nat.reduceAdd, Option.map_some, Option.map_none, Option.bind_some, Option.bind_none, List.length_nil, List.length_cons, List.append_nil, Bool.and_false, w64, demV_sl, Int.cast_ofNat_Int, Int.reduceLT, Int.reduceAdd, Int.reduceSub, Int.reduceLE, Int.reduceEq, Int.reduceToNat, Int.toNat_natCast, Nat.reduceSub, Nat.reduceMul, Nat.reduceLeDiff, Nat.zero_add, Int.zero_add, not_false_eq_true, Bool.not_true, Bool.not_false, Bool.false_and, List.cons_append, List.nil_append, Int.lt_irrefl, lnF]
  | k + 1, n, out, h1, h2 => by
    have hk : (0 : Int) < ((k + 1 : Nat) : Int) := by omega
    have hw : IntKind.i64.wrap (((k + 1 : Nat) : Int) - 1) = (k : Int) := by rw [w64 (by omega) (by omega)]; omega
    have hl := wd_len l n
    by_cases h3 : out = []
    · have ih := l48 l k (n + 1) (out ++ wd l n) (by omega) (by rw [List.length_append]; omega)
      have hc : out.length + (wd l n).length ≤ 140737488355328 := by omega
      subst h3
      rw [Y_loop (L := L48_0) rfl]
      simp only [go_sem, List.set_cons_zero, List.set_cons_succ, List.take_succ_cons, and_false, false_and, and_true, true_and, Nat.reduceAdd, Nat.reduceEqDiff, Nat.reduceLT, ↓reduceIte, decide_eq_true_eq, List.take_nil, beq_self_eq_true, bne_self_eq_false, List.take_zero, List.map_cons, List.map_nil, Int.reduceNeg, Bool.and_true, and_self, Bool.true_and, Bool.and_self, ne_eq, not_true_eq_false, decide_false, decide_true, Bool.false_eq_true, Nat.reduceAdd, Option.map_some, Option.map_none, Option.bind_some, Option.bind_none, List.length_nil, List.length_cons, List.append_nil, Bool.and_false, w64, demV_sl, Int.cast_ofNat_Int, Int.reduceLT, Int.reduceAdd, Int.reduceSub, Int.reduceLE, Int.reduceEq, Int.reduceToNat, Int.toNat_natCast, Nat.reduceSub, Nat.reduceMul, Nat.reduceLeDiff, Nat.zero_add, Int.zero_add, not_false_eq_true, Bool.not_true, Bool.not_false, Bool.false_and, List.cons_append, List.nil_append, hk, c66 l n (by omega), hc, hw, lnF]
      simp only [List.length_nil] at hc
      simp only [go_sem, List.set_cons_zero, List.set_cons_succ, List.take_succ_cons, and_false, false_and, and_true, true_and, Nat.reduceAdd, Nat.reduceEqDiff, Nat.reduceLT, ↓reduceIte, decide_eq_true_eq, List.take_nil, beq_self_eq_true, bne_self_eq_false, List.take_zero, List.map_cons, List.map_nil, Int.reduceNeg, Bool.and_true, and_self, Bool.true_and, Bool.and_self, ne_eq, not_true_eq_false, decide_false, decide_true, Bool.false_eq_true, Nat.reduceAdd, Option.map_some, Option.map_none, Option.bind_some, Option.bind_none, List.length_nil, List.length_cons, List.append_nil, Bool.and_false, w64, demV_sl, Int.cast_ofNat_Int, Int.reduceLT, Int.reduceAdd, Int.reduceSub, Int.reduceLE, Int.reduceEq, Int.reduceToNat, Int.toNat_natCast, Nat.reduceSub, Nat.reduceMul, Nat.reduceLeDiff, Nat.zero_add, Int.zero_add, not_false_eq_true, Bool.not_true, Bool.not_false, Bool.false_and, List.cons_append, List.nil_append] at ih
      have hc' : (wd l n).length ≤ 140737488355328 := by omega
      simp only [go_sem, List.set_cons_zero, List.set_cons_succ, List.take_succ_cons, and_false, false_and, and_true, true_and, Nat.reduceAdd, Nat.reduceEqDiff, Nat.reduceLT, ↓reduceIte, decide_eq_true_eq, List.take_nil, beq_self_eq_true, bne_self_eq_false, List.take_zero, List.map_cons, List.map_nil, Int.reduceNeg, Bool.and_true, and_self, Bool.true_and, Bool.and_self, ne_eq, not_true_eq_false, decide_false, decide_true, Bool.false_eq_true, Nat.reduceAdd, Option.map_some, Option.map_none, Option.bind_some, Option.bind_none, List.length_nil, List.length_cons, List.append_nil, Bool.and_false, w64, demV_sl, Int.cast_ofNat_Int, Int.reduceLT, Int.reduceAdd, Int.reduceSub, Int.reduceLE, Int.reduceEq, Int.reduceToNat, Int.toNat_natCast, Nat.reduceSub, Nat.reduceMul, Nat.reduceLeDiff, Nat.zero_add, Int.zero_add, not_false_eq_true, Bool.not_true, Bool.not_false, Bool.false_and, List.cons_append, List.nil_append, hc', ih]
    · have hne : (out != []) = true := by simp [h3]
      have h24 := c36 l (n + 1) 3 (by omega) (by decide) (by decide)
      by_cases h4 : 0 < nxt l (n + 1) 3
      · have ih := l48 l k (n + 2) (out ++ [32] ++ wd l n) (by omega) (by simp only [List.length_append, List.length_cons, List.length_nil]; omega)
        have hc : out.length + 1 ≤ 140737488355328 := by omega
        have hc2 : (out ++ [32]).length + (wd l n).length ≤ 140737488355328 := by simp only [List.length_append, List.length_cons, List.length_nil]; omega
        have e : lnF l (k + 1) n out = lnF l k (n + 2) (out ++ [32] ++ wd l n) := by simp only [lnF, h3, h4, if_true, if_false]
        rw [e, Y_loop (L := L48_0) rfl]
        simp only [go_sem, List.set_cons_zero, List.set_cons_succ, List.take_succ_cons, and_false, false_and, and_true, true_and, Nat.reduceAdd, Nat.reduceEqDiff, Nat.reduceLT, ↓reduceIte, decide_eq_true_eq, List.take_nil, beq_self_eq_true, bne_self_eq_false, List.take_zero, List.map_cons, List.map_nil, Int.reduceNeg, Bool.and_true, and_self, Bool.true_and, Bool.and_self, ne_eq, not_true_eq_false, decide_false, decide_true, Bool.false_eq_true, Nat.reduceAdd, Option.map_some, Option.map_none, Option.bind_some, Option.bind_none, List.length_nil, List.length_cons, List.append_nil, Bool.and_false, w64, demV_sl, Int.cast_ofNat_Int, Int.reduceLT, Int.reduceAdd, Int.reduceSub, Int.reduceLE, Int.reduceEq, Int.reduceToNat, Int.toNat_natCast, Nat.reduceSub, Nat.reduceMul, Nat.reduceLeDiff, Nat.zero_add, Int.zero_add, not_false_eq_true, Bool.not_true, Bool.not_false, Bool.false_and, List.cons_append, List.nil_append, hk, c66 l n (by omega), hne, h24, h4, hc, hc2, hw]
        exact ih
      · have ih := l48 l k (n + 2) (out ++ wd l n) (by omega) (by simp only [List.length_append]; omega)
        have hc : out.length + (wd l n).length ≤ 140737488355328 := by omega
        have e : lnF l (k + 1) n out = lnF l k (n + 2) (out ++ wd l n) := by simp only [lnF, h3, h4, if_true, if_false]
        rw [e, Y_loop (L := L48_0) rfl]
        simp only [go_sem, List.set_cons_zero, List.set_cons_succ, List.take_succ_cons, and_false, false_and, and_true, true_and, Nat.reduceAdd, Nat.reduceEqDiff, Nat.reduceLT, ↓reduceIte, decide_eq_true_eq, List.take_nil, beq_self_eq_true, bne_self_eq_false, List.take_zero, List.map_cons, List.map_nil, Int.reduceNeg, Bool.and_true, and_self, Bool.true_and, Bool.and_self, ne_eq, not_true_eq_false, decide_false, decide_true, Bool.false_eq_true, Nat.reduceAdd, Option.map_some, Option.map_none, Option.bind_some, Option.bind_none, List.length_nil, List.length_cons, List.append_nil, Bool.and_false, w64, demV_sl, Int.cast_ofNat_Int, Int.reduceLT, Int.reduceAdd, Int.reduceSub, Int.reduceLE, Int.reduceEq, Int.reduceToNat, Int.toNat_natCast, Nat.reduceSub, Nat.reduceMul, Nat.reduceLeDiff, Nat.zero_add, Int.zero_add, not_false_eq_true, Bool.not_true, Bool.not_false, Bool.false_and, List.cons_append, List.nil_append, hk, c66 l n (by omega), hne, h24, h4, hc, hw]
        exact ih
def lineF (l : List Int) (n : Nat) (m : Int) : List UInt8 × Nat := lnF l (nxt l n (m + 1)).toNat (n + 1) []
theorem c48 (l : List Int) (n : Nat) (m : Int) (hn : n ≤ 900000) (h1 : 1 ≤ m) (h2 : m ≤ 1000) : G0 48 [.ptr 0 0, .int .i64 m] [num l n] = some (.str (lineF l n m).1, [num l (lineF l n m).2]) := by
  refine contract F48 rfl rfl rfl ?_
  have hb := nxt_bd l n (m + 1) (by omega)
  have hx := l48 l (nxt l n (m + 1)).toNat (n + 1) [] (by omega) (by simp only [List.length_nil]; omega)
  have hc : (((nxt l n (m + 1)).toNat : Nat) : Int) = nxt l n (m + 1) := by omega
  rw [hc] at hx
  have hnum : ∀ j, refsOk false 1 [num l j] = true := fun _ => rfl
  simp only [F48, go_sem, List.set_cons_zero, List.set_cons_succ, List.take_succ_cons, and_false, false_and, and_true, true_and, Nat.reduceAdd, Nat.reduceEqDiff, Nat.reduceLT, ↓reduceIte, decide_eq_true_eq, List.take_nil, beq_self_eq_true, bne_self_eq_false, List.take_zero, List.map_cons, List.map_nil, Int.reduceNeg, Bool.and_true, and_self, Bool.true_and, Bool.and_self, ne_eq, not_true_eq_false, decide_false, decide_true, Bool.false_eq_true, Nat.reduceAdd, Option.map_some, Option.map_none, Option.bind_some, Option.bind_none, List.length_nil, List.length_cons, List.append_nil, Bool.and_false, w64, demV_sl, Int.cast_ofNat_Int, Int.reduceLT, Int.reduceAdd, Int.reduceSub, Int.reduceLE, Int.reduceEq, Int.reduceToNat, Int.toNat_natCast, Nat.reduceSub, Nat.reduceMul, Nat.reduceLeDiff, Nat.zero_add, Int.zero_add, not_false_eq_true, Bool.not_true, Bool.not_false, Bool.false_and, List.cons_append, List.nil_append, w64 (n := m + 1) (by omega) (by omega), c36 l n (m + 1) (by omega) (by omega) (by omega), hx, hnum, lineF]
theorem lnF_len (l : List Int) : ∀ (k n : Nat) (out : List UInt8), (lnF l k n out).1.length ≤ out.length + 6 * k
  | 0, n, out => by simp [lnF]
  | k + 1, n, out => by
    have hl := wd_len l n
    simp only [lnF]
    split
    · have := lnF_len l k (n + 1) (out ++ wd l n); rw [List.length_append] at this; omega
    · have := lnF_len l k (n + 2) ((if 0 < nxt l (n + 1) 3 then out ++ [32] else out) ++ wd l n)
      rw [List.length_append] at this
      split at this
      · rename_i h; rw [if_pos h]; simp only [List.length_append, List.length_cons, List.length_nil] at *; omega
      · rename_i h; rw [if_neg h]; omega
def phrase (l : List Int) : List UInt8 := (lineF l 0 3).1
theorem phrase_len (l : List Int) : (phrase l).length ≤ 1000 := by
  have hb := nxt_bd l 0 4 (by omega)
  have := lnF_len l (nxt l 0 (3 + 1)).toNat (0 + 1) []
  simp only [List.length_nil] at this
  show (lnF l (nxt l 0 (3 + 1)).toNat (0 + 1) []).1.length ≤ 1000
  have e : (3 + 1 : Int) = 4 := rfl
  rw [e] at this ⊢
  omega
theorem c18 (l : List Int) : G0 18 [.sl .no 1 (ints l)] [] = some (.str (phrase l), []) := by
  refine contract F18 rfl rfl rfl ?_
  have hx := c48 l 0 3 (by omega) (by omega) (by omega)
  have e : num l 0 = [.sl .no 1 (ints l), .int .i64 0] := rfl
  rw [e] at hx
  simp only [F18, go_sem, List.set_cons_zero, List.set_cons_succ, List.take_succ_cons, and_false, false_and, and_true, true_and, Nat.reduceAdd, Nat.reduceEqDiff, Nat.reduceLT, ↓reduceIte, decide_eq_true_eq, List.take_nil, beq_self_eq_true, bne_self_eq_false, List.take_zero, List.map_cons, List.map_nil, Int.reduceNeg, Bool.and_true, and_self, Bool.true_and, Bool.and_self, ne_eq, not_true_eq_false, decide_false, decide_true, Bool.false_eq_true, Nat.reduceAdd, Option.map_some, Option.map_none, Option.bind_some, Option.bind_none, List.length_nil, List.length_cons, List.append_nil, Bool.and_false, w64, demV_sl, Int.cast_ofNat_Int, Int.reduceLT, Int.reduceAdd, Int.reduceSub, Int.reduceLE, Int.reduceEq, Int.reduceToNat, Int.toNat_natCast, Nat.reduceSub, Nat.reduceMul, Nat.reduceLeDiff, Nat.zero_add, Int.zero_add, not_false_eq_true, Bool.not_true, Bool.not_false, Bool.false_and, List.cons_append, List.nil_append, hx, phrase]
end Go.Av
