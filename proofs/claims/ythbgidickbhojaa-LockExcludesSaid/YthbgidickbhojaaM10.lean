/- A part of the proof: M10. No conditions. -/
import Derived.Test.YthbgidickbhojaaM8
set_option linter.unusedSimpArgs false
set_option linter.unusedVariables false
namespace Go.Av
set_option linter.unusedSimpArgs false
set_option maxHeartbeats 4000000
/-- the leases that have not ended -/
def keepF (n : Int) (t : Tk) : Bool := decide (n < t.2.2)
def expF (L : List Tk) (n : Int) : List Tk := L.filter (keepF n)
theorem getD_get {L : List Tk} {i : Nat} (h : i < L.length) : L.getD i tk0 = L[i] := by simp [List.getD_eq_getElem?_getD, h]
theorem drop_d {L : List Tk} {i : Nat} (h : i < L.length) : L.drop i = L.getD i tk0 :: L.drop (i + 1) := by
  rw [getD_get h]; exact List.drop_eq_getElem_cons h
theorem take_d {L : List Tk} {i : Nat} (h : i < L.length) : L.take (i + 1) = L.take i ++ [L.getD i tk0] := by
  rw [getD_get h, List.take_add_one, List.getElem?_eq_getElem h]; rfl
theorem idx_none (L : List Tk) (n : Int) : ∀ (k i : Nat), i + k = L.length → idxI L n k i = none → (L.drop i).filter (keepF n) = L.drop i
  | 0, i, h, _ => by
    have : L.drop i = [] := List.drop_eq_nil_of_le (by omega)
    rw [this]; rfl
  | k + 1, i, h, hx => by
    simp only [idxI] at hx
    split at hx
    · cases hx
    · rename_i hc
      have ih := idx_none L n k (i + 1) (by omega) hx
      have hk : keepF n (L.getD i tk0) = true := by simp only [keepF, decide_eq_true_eq]; omega
      rw [drop_d (by omega), List.filter_cons, hk, if_pos rfl, ih]
theorem idx_some (L : List Tk) (n : Int) : ∀ (k i m : Nat), i + k = L.length → idxI L n k i = some m → i ≤ m ∧ m < L.length ∧ L.take i ++ (L.drop i).filter (keepF n) = L.take m ++ (L.drop (m + 1)).filter (keepF n)
  | 0, i, m, h, hx => by simp [idxI] at hx
  | k + 1, i, m, h, hx => by
    have hi : i < L.length := by omega
    simp only [idxI] at hx
    split at hx
    · rename_i hc
      cases hx
      have hk : keepF n (L.getD i tk0) = false := by simp only [keepF, decide_eq_false_iff_not]; omega
      refine ⟨Nat.le_refl _, hi, ?_⟩
      rw [drop_d hi, List.filter_cons, hk]
      rfl
    · rename_i hc
      obtain ⟨q1, q2, q3⟩ := idx_some L n k (i + 1) m (by omega) hx
      have hk : keepF n (L.getD i tk0) = true := by simp only [keepF, decide_eq_true_eq]; omega
      refine ⟨by omega, q2, ?_⟩
      rw [← q3, drop_d hi, List.filter_cons, hk, if_pos rfl, take_d hi, List.append_assoc]
      rfl
theorem set_take {W : List Tk} {i : Nat} (h : i < W.length) (t : Tk) : (W.set i t).take (i + 1) = W.take i ++ [t] := by
  rw [List.take_add_one, List.getElem?_set_self h, List.take_set_of_le (Nat.le_refl i)]; rfl
theorem set_drop {W : List Tk} {i j : Nat} (h : i < j) (t : Tk) : (W.set i t).drop j = W.drop j := List.drop_set_of_lt h
theorem l59 (L : List Tk) (hL : L.length ≤ 1000000) (n : Int) : ∀ (k j i : Nat) (W : List Tk), j + k = L.length → W.length = L.length → i < j → i < L.length → W.drop j = L.drop j →
    ∃ i' W', i' ≤ L.length ∧ W'.length = L.length ∧ W'.take i' = W.take i ++ (L.drop j).filter (keepF n) ∧
      execX G0 L59_0 (ST [(0, .ss 1 0 L.length 3), (1, .fn 60 [.ptr 0 0]), (5, .int .i64 i), (6, .int .i64 j), (12, .bool false)] [] [[.int .i64 n], fl W]) = some (.ex 0, ST [(0, .ss 1 0 L.length 3), (1, .fn 60 [.ptr 0 0]), (5, .int .i64 i'), (6, .int .i64 L.length), (12, .bool false), (19, .bool false)] [] [[.int .i64 n], fl W'])
  | 0, j, i, W, h1, h2, h3, h3', h4 => by
    have : j = L.length := by omega
    subst this
    refine ⟨i, W, by omega, h2, by simp, ?_⟩
    rw [Y_loop (L := L59_0) rfl]
    simp only [go_sem, List.set_cons_zero, List.set_cons_succ, List.take_succ_cons, and_false, false_and, and_true, true_and, Nat.reduceAdd, Nat.reduceEqDiff, Nat.reduceLT, ↓reduceIte, decide_eq_true_eq, List.take_nil, beq_self_eq_true, bne_self_eq_false, List.take_zero, List.map_cons, List.map_nil, Int.reduceNeg, Bool.and_true, and_self, Bool.true_and, Bool.and_self, ne_eq, not_true_eq_false, decide_false, decide_true, Bool.false_eq_true, Nat.reduceAdd, Option.map_some, Option.map_none, Option.bind_some, Option.bind_none, List.length_nil, List.length_cons, List.append_nil, Bool.and_false, w64, demV_sl, Int.cast_ofNat_Int, Int.reduceLT, Int.reduceAdd, Int.reduceSub, Int.reduceLE, Int.reduceEq, Int.reduceToNat, Int.toNat_natCast, Nat.reduceSub, Nat.reduceMul, Nat.reduceLeDiff, Nat.zero_add, Int.zero_add, not_false_eq_true, Bool.not_true, Bool.not_false, Bool.false_and, List.cons_append, List.nil_append, Int.lt_irrefl]
  | k + 1, j, i, W, h1, h2, h3, h3', h4 => by
    have hj : j < L.length := by omega
    have hj' : (j : Int) < (L.length : Int) := by omega
    have h0 : (0 : Int) ≤ (j : Int) := by omega
    have i0 : (0 : Int) ≤ (i : Int) := by omega
    have hw : IntKind.i64.wrap ((j : Int) + 1) = ((j + 1 : Nat) : Int) := by rw [w64 (by omega) (by omega)]; rfl
    have hwi : IntKind.i64.wrap ((i : Int) + 1) = ((i + 1 : Nat) : Int) := by rw [w64 (by omega) (by omega)]; rfl
    have hr := fl_row W j (by omega)
    have hWd : W.getD j tk0 = L.getD j tk0 := by
      have e1 := drop_d (L := W) (i := j) (by omega)
      have e2 := drop_d (L := L) (i := j) hj
      rw [h4, e2] at e1
      injection e1 with e1 _
      exact e1.symm
    have hd1 : W.drop (j + 1) = L.drop (j + 1) := by
      have e1 := drop_d (L := W) (i := j) (by omega)
      have e2 := drop_d (L := L) (i := j) hj
      rw [h4, e2] at e1
      injection e1 with _ e1
      exact e1.symm
    rw [hWd] at hr
    by_cases hc : (L.getD j tk0).2.2 ≤ n
    · obtain ⟨i', W', q1, q2, q3, q4⟩ := l59 L hL n k (j + 1) i W (by omega) h2 (by omega) h3' hd1
      refine ⟨i', W', q1, q2, ?_, ?_⟩
      · have hk : keepF n (L.getD j tk0) = false := by simp only [keepF, decide_eq_false_iff_not]; omega
        rw [q3, drop_d hj, List.filter_cons, hk]
        rfl
      · rw [Y_loop (L := L59_0) rfl]
        simp only [go_sem, List.set_cons_zero, List.set_cons_succ, List.take_succ_cons, and_false, false_and, and_true, true_and, Nat.reduceAdd, Nat.reduceEqDiff, Nat.reduceLT, ↓reduceIte, decide_eq_true_eq, List.take_nil, beq_self_eq_true, bne_self_eq_false, List.take_zero, List.map_cons, List.map_nil, Int.reduceNeg, Bool.and_true, and_self, Bool.true_and, Bool.and_self, ne_eq, not_true_eq_false, decide_false, decide_true, Bool.false_eq_true, Nat.reduceAdd, Option.map_some, Option.map_none, Option.bind_some, Option.bind_none, List.length_nil, List.length_cons, List.append_nil, Bool.and_false, w64, demV_sl, Int.cast_ofNat_Int, Int.reduceLT, Int.reduceAdd, Int.reduceSub, Int.reduceLE, Int.reduceEq, Int.reduceToNat, Int.toNat_natCast, Nat.reduceSub, Nat.reduceMul, Nat.reduceLeDiff, Nat.zero_add, Int.zero_add, not_false_eq_true, Bool.not_true, Bool.not_false, Bool.false_and, List.cons_append, List.nil_append, hj', hj, h0, hr, c60, hc, hw]
        exact q4
    · have hlast : i + 1 < L.length := by omega
      · have hk : keepF n (L.getD j tk0) = true := by simp only [keepF, decide_eq_true_eq]; omega
        have hi2 : i < W.length := by omega
        have hi' : (i : Int) < (L.length : Int) := by omega
        have hp := fl_setp W i (L.getD j tk0) hi2
        obtain ⟨i', W', q1, q2, q3, q4⟩ := l59 L hL n k (j + 1) (i + 1) (W.set i (L.getD j tk0)) (by omega) (by simpa using h2) (by omega) hlast (by rw [set_drop (by omega)]; exact hd1)
        refine ⟨i', W', q1, q2, ?_, ?_⟩
        · rw [q3, set_take hi2, drop_d hj, List.filter_cons, hk, if_pos rfl, List.append_assoc]
          rfl
        · rw [Y_loop (L := L59_0) rfl]
          simp only [go_sem, List.set_cons_zero, List.set_cons_succ, List.take_succ_cons, and_false, false_and, and_true, true_and, Nat.reduceAdd, Nat.reduceEqDiff, Nat.reduceLT, ↓reduceIte, decide_eq_true_eq, List.take_nil, beq_self_eq_true, bne_self_eq_false, List.take_zero, List.map_cons, List.map_nil, Int.reduceNeg, Bool.and_true, and_self, Bool.true_and, Bool.and_self, ne_eq, not_true_eq_false, decide_false, decide_true, Bool.false_eq_true, Nat.reduceAdd, Option.map_some, Option.map_none, Option.bind_some, Option.bind_none, List.length_nil, List.length_cons, List.append_nil, Bool.and_false, w64, demV_sl, Int.cast_ofNat_Int, Int.reduceLT, Int.reduceAdd, Int.reduceSub, Int.reduceLE, Int.reduceEq, Int.reduceToNat, Int.toNat_natCast, Nat.reduceSub, Nat.reduceMul, Nat.reduceLeDiff, Nat.zero_add, Int.zero_add, not_false_eq_true, Bool.not_true, Bool.not_false, Bool.false_and, List.cons_append, List.nil_append, hj', hj, h0, hr, c60, hc, hw, hwi, i0, hi', h3', hp, fl_blk]
          exact q4
end Go.Av
