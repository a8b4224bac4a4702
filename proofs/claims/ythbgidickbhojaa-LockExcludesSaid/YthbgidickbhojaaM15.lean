/- A part of the proof: M15. No conditions. -/
import Derived.Test.YthbgidickbhojaaM14
set_option linter.unusedSimpArgs false
set_option linter.unusedVariables false
namespace Go.Av
set_option linter.unusedSimpArgs false
set_option maxHeartbeats 8000000
set_option maxRecDepth 100000
theorem fl_drop (W : List Tk) (i : Nat) : (fl W).drop (i * 3) = fl (W.drop i) := by
  induction W generalizing i with
  | nil => simp [fl, tks]
  | cons w W ih =>
    cases i with
    | zero => rfl
    | succ i =>
      rw [fl_cons, show (i + 1) * 3 = i * 3 + 3 from by omega]
      simp only [List.drop_succ_cons, ih]
theorem fl_flat : ∀ l : List Tk, (fl l).all flatB = true
  | [] => rfl
  | t :: l => by rw [fl_cons]; simp only [List.all_cons, fl_flat l]; rfl
theorem B0_55 (args : List AV) (sh : List (List AV)) : B0 55 args sh = insB 3 32 args sh := rfl
/-- slices.Insert ahead of the end -/
theorem c55i (L : List Tk) (hL : L.length ≤ 1000000) (i : Nat) (hi : i < L.length) (t : Tk) : G0 55 [.ss 0 0 L.length 3, .int .i64 (i : Int), .sl .full 3 [[.int .i64 t.1, .str t.2.1, .int .i64 t.2.2]]] [fl L] = some (.ss 1 0 (L.length + 1) 3, [dead, fl (L.take i ++ [t] ++ L.drop i)]) :=
  Gx_base (by
    have h1 : insOK 3 32 L.length (i : Int) (fl L) [[.int .i64 t.1, .str t.2.1, .int .i64 t.2.2]] = true := by
      have a1 : (0 : Int) ≤ (i : Int) ∧ (i : Int) < (L.length : Int) ∧ L.length * 3 = (fl L).length := ⟨by omega, by omega, by rw [fl_len]⟩
      have a2 : (L.length + 1) * 32 ≤ 140737488355328 ∧ L.length + 1 ≤ 4611686018427387904 := by omega
      unfold insOK
      rw [fl_flat]
      simp only [a1, List.length_cons, List.length_nil, Nat.zero_add, a2, List.all_cons, List.all_nil, List.flatten_cons, List.flatten_nil, List.append_nil, flatB]
      decide
    have h2 : insX 3 (i : Int).toNat (fl L) [[.int .i64 t.1, .str t.2.1, .int .i64 t.2.2]] = fl (L.take i ++ [t] ++ L.drop i) := by
      rw [fl_app, fl_app, fl_one]
      unfold insX
      rw [Int.toNat_natCast, fl_take, fl_drop]
      rfl
    rw [B0_55]
    unfold insB
    simp only [List.getElem?_cons_zero, Option.bind_some]
    rw [if_pos ⟨trivial, trivial, h1⟩, h2]
    rfl)
/-- slices.Insert at the end -/
theorem c55n (L : List Tk) (hL : L.length ≤ 1000000) (t : Tk) : G0 55 [.ss 0 0 L.length 3, .int .i64 (L.length : Int), .sl .full 3 [[.int .i64 t.1, .str t.2.1, .int .i64 t.2.2]]] [fl L] = some (.ss 1 0 (L.length + 1) 3, [dead, fl (L ++ [t])]) := by
  refine contract F55 (by
    rw [B0_55]
    unfold insB
    simp only [List.getElem?_cons_zero, Option.bind_some]
    rw [if_neg]
    rintro ⟨_, _, h⟩
    unfold insOK at h
    simp only [Bool.and_eq_true, decide_eq_true_eq] at h
    omega) rfl rfl ?_
  have h0 : (0 : Int) ≤ (L.length : Int) := by omega
  have ha : appOK 32 (L.length + 1) = true := appOK_le (by decide) (by omega)
  have e : fl L ++ [.int .i64 t.1, .str t.2.1, .int .i64 t.2.2] = fl (L ++ [t]) := by rw [fl_app, fl_one]
  have hor : ((L.length : Int) = 0 ∨ (L.length : Int) < (L.length : Int)) = ((L.length : Int) = 0) := by simp
  by_cases hz : (L.length : Int) = 0
  · simp only [F55, go_sem, List.set_cons_zero, List.set_cons_succ, List.take_succ_cons, and_false, false_and, and_true, true_and, Nat.reduceAdd, Nat.reduceEqDiff, Nat.reduceLT, ↓reduceIte, decide_eq_true_eq, List.take_nil, beq_self_eq_true, bne_self_eq_false, List.take_zero, List.map_cons, List.map_nil, Int.reduceNeg, Bool.and_true, and_self, Bool.true_and, Bool.and_self, ne_eq, not_true_eq_false, decide_false, decide_true, Bool.false_eq_true, Nat.reduceAdd, Option.map_some, Option.map_none, Option.bind_some, Option.bind_none, List.length_nil, List.length_cons, List.append_nil, Bool.and_false, w64, demV_sl, Int.cast_ofNat_Int, Int.reduceLT, Int.reduceAdd, Int.reduceSub, Int.reduceLE, Int.reduceEq, Int.reduceToNat, Int.toNat_natCast, Nat.reduceSub, Nat.reduceMul, Nat.reduceLeDiff, Nat.zero_add, Int.zero_add, not_false_eq_true, Bool.not_true, Bool.not_false, Bool.false_and, List.cons_append, List.nil_append, h0, hor, hz, ha, fl_blk, fl_len, fl_nown, List.flatten_cons, List.flatten_nil, e, Int.le_refl, true_or]
  · have hz' : ((L.length : Int) = 0) = False := eq_false hz
    simp only [F55, go_sem, List.set_cons_zero, List.set_cons_succ, List.take_succ_cons, and_false, false_and, and_true, true_and, Nat.reduceAdd, Nat.reduceEqDiff, Nat.reduceLT, ↓reduceIte, decide_eq_true_eq, List.take_nil, beq_self_eq_true, bne_self_eq_false, List.take_zero, List.map_cons, List.map_nil, Int.reduceNeg, Bool.and_true, and_self, Bool.true_and, Bool.and_self, ne_eq, not_true_eq_false, decide_false, decide_true, Bool.false_eq_true, Nat.reduceAdd, Option.map_some, Option.map_none, Option.bind_some, Option.bind_none, List.length_nil, List.length_cons, List.append_nil, Bool.and_false, w64, demV_sl, Int.cast_ofNat_Int, Int.reduceLT, Int.reduceAdd, Int.reduceSub, Int.reduceLE, Int.reduceEq, Int.reduceToNat, Int.toNat_natCast, Nat.reduceSub, Nat.reduceMul, Nat.reduceLeDiff, Nat.zero_add, Int.zero_add, not_false_eq_true, Bool.not_true, Bool.not_false, Bool.false_and, List.cons_append, List.nil_append, h0, hor, hz', ha, fl_blk, fl_len, fl_nown, List.flatten_cons, List.flatten_nil, e, Int.le_refl, Int.lt_irrefl, or_false]
end Go.Av
