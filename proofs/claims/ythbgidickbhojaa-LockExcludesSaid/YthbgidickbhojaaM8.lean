/- A part of the proof: M8. No conditions. -/
import Derived.Test.YthbgidickbhojaaM7
set_option linter.unusedSimpArgs false
set_option linter.unusedVariables false
namespace Go.Av
set_option linter.unusedSimpArgs false
set_option maxHeartbeats 4000000
theorem fl_row : ∀ (L : List Tk) (i : Nat), i < L.length → ((fl L).drop (i * 3)).take 3 = [.int .i64 (L.getD i tk0).1, .str (L.getD i tk0).2.1, .int .i64 (L.getD i tk0).2.2]
  | [], i, h => by simp at h
  | t :: L, 0, _ => by rw [fl_cons]; rfl
  | t :: L, i + 1, h => by
    have ih := fl_row L i (by simpa using h)
    rw [fl_cons, show (i + 1) * 3 = i * 3 + 3 from by omega]
    simp only [List.drop_succ_cons, List.getD_cons_succ]
    exact ih
theorem putL_s' (n : Nat) (x : AV) (cs r : List AV) : putL (n + 1) cs (x :: r) = (putL n cs r).map fun t => x :: t := by
  cases cs with
  | nil => simp only [putL_nil, Option.map_some]
  | cons c cs => exact putL_s n c x cs r
theorem fl_setp : ∀ (W : List Tk) (i : Nat) (t : Tk), i < W.length → putL (i * 3) [.int .i64 t.1, .str t.2.1, .int .i64 t.2.2] (fl W) = some (fl (W.set i t))
  | [], i, t, h => by simp at h
  | w :: W, 0, t, _ => by
    rw [fl_cons, Nat.zero_mul]
    simp only [putL_z, putL_nil, Option.map_some, List.set_cons_zero, fl_cons]
  | w :: W, i + 1, t, h => by
    have ih := fl_setp W i t (by simpa using h)
    rw [fl_cons, show (i + 1) * 3 = i * 3 + 3 from by omega]
    simp only [List.set_cons_succ, fl_cons, putL_s, ih, Option.map_some]
theorem fl_clr : ∀ (W : List Tk) (i : Nat), i ≤ W.length → putL (i * 3) (zeroRow [.int .i64 0, .str [], .int .i64 0] (W.length - i)) (fl W) = some (fl (W.take i ++ List.replicate (W.length - i) tk0))
  | W, 0, _ => by
    have : ∀ W : List Tk, putL 0 (zeroRow [.int .i64 0, .str [], .int .i64 0] W.length) (fl W) = some (fl (List.replicate W.length tk0)) := by
      intro W
      induction W with
      | nil => rfl
      | cons w W ih =>
        rw [fl_cons]
        simp only [List.length_cons, zeroRow, List.cons_append, List.nil_append, putL_z, ih, Option.map_some, List.replicate_succ, fl_cons]
        rfl
    simpa using this W
  | [], i + 1, h => by simp at h
  | w :: W, i + 1, h => by
    have ih := fl_clr W i (by simpa using h)
    rw [fl_cons, show (i + 1) * 3 = i * 3 + 3 from by omega]
    have e : (w :: W).length - (i + 1) = W.length - i := by simp
    rw [e]
    simp only [putL_s', ih, Option.map_some, List.take_succ_cons, List.cons_append, fl_cons]
theorem fl_refs (n0 : Nat) : ∀ L : List Tk, (fl L).all (refLt n0) = true
  | [] => rfl
  | t :: L => by rw [fl_cons]; simp only [List.all_cons, fl_refs n0 L, Bool.and_true]; rfl
theorem fl_take (W : List Tk) (i : Nat) : (fl W).take (i * 3) = fl (W.take i) := by
  induction W generalizing i with
  | nil => simp [fl, tks]
  | cons w W ih =>
    cases i with
    | zero => rfl
    | succ i =>
      rw [fl_cons, show (i + 1) * 3 = i * 3 + 3 from by omega]
      simp only [List.take_succ_cons, ih, fl_cons]
theorem rowsC_flp (W : List Tk) (i : Nat) (h : i ≤ W.length) : rowsC 0 i 3 (fl W) = some (tks (W.take i)) := by
  have h1 := rowsC_fl (W.take i)
  have hl : (W.take i).length = i := by simp; omega
  rw [hl] at h1
  rw [← h1]
  unfold rowsC
  have e : ((fl W).drop 0).take (i * 3) = fl (W.take i) := by rw [List.drop_zero, fl_take]
  have e2 : ((fl (W.take i)).drop 0).take (i * 3) = fl (W.take i) := by
    rw [List.drop_zero]; exact List.take_of_length_le (by rw [fl_len, hl]; exact Nat.le_refl _)
  rw [e, e2, fl_len, fl_len, hl]
  have c1 : 0 + i * 3 ≤ W.length * 3 := by omega
  have c2 : 0 + i * 3 ≤ i * 3 := by omega
  simp only [c1, c2]
theorem c60 (k u n : Int) (s : List UInt8) (L : List Tk) : G0 60 [.agg [.int .i64 k, .str s, .int .i64 u], .ptr 0 0] [[.int .i64 n], fl L] = some (.bool (decide (u ≤ n)), [[.int .i64 n], fl L]) := by
  refine contract F60 rfl rfl rfl ?_
  have hr : refsOk false 2 [[.int .i64 n], fl L] = true := by
    show (false || ([[AV.int .i64 n], fl L].all fun c => c.all (refLt 2))) = true
    simp only [List.all_cons, List.all_nil, fl_refs, refLt, Bool.and_self, Bool.false_or]
  simp only [F60, go_sem, List.set_cons_zero, List.set_cons_succ, List.take_succ_cons, and_false, false_and, and_true, true_and, Nat.reduceAdd, Nat.reduceEqDiff, Nat.reduceLT, ↓reduceIte, decide_eq_true_eq, List.take_nil, beq_self_eq_true, bne_self_eq_false, List.take_zero, List.map_cons, List.map_nil, Int.reduceNeg, Bool.and_true, and_self, Bool.true_and, Bool.and_self, ne_eq, not_true_eq_false, decide_false, decide_true, Bool.false_eq_true, Nat.reduceAdd, Option.map_some, Option.map_none, Option.bind_some, Option.bind_none, List.length_nil, List.length_cons, List.append_nil, Bool.and_false, w64, demV_sl, Int.cast_ofNat_Int, Int.reduceLT, Int.reduceAdd, Int.reduceSub, Int.reduceLE, Int.reduceEq, Int.reduceToNat, Int.toNat_natCast, Nat.reduceSub, Nat.reduceMul, Nat.reduceLeDiff, Nat.zero_add, Int.zero_add, not_false_eq_true, Bool.not_true, Bool.not_false, Bool.false_and, List.cons_append, List.nil_append, hr]
/-- the first lease that has ended -/
def idxI (L : List Tk) (n : Int) : Nat → Nat → Option Nat
  | 0, _ => none
  | k + 1, i => if (L.getD i tk0).2.2 ≤ n then some i else idxI L n k (i + 1)
theorem l74 (L : List Tk) (hL : L.length ≤ 1000000) (n : Int) : ∀ (k i : Nat), i + k = L.length →
    (idxI L n k i = none → execX G0 L74_0 (ST [(0, .ss 1 0 L.length 3), (1, .fn 60 [.ptr 0 0]), (7, .int .i64 L.length), (8, .int .i64 i)] [] [[.int .i64 n], fl L]) = some (.ex 0, ST [(0, .ss 1 0 L.length 3), (1, .fn 60 [.ptr 0 0]), (7, .int .i64 L.length), (8, .int .i64 L.length), (9, .bool false)] [] [[.int .i64 n], fl L])) ∧
    (∀ m, idxI L n k i = some m → ∃ l', execX G0 L74_0 (ST [(0, .ss 1 0 L.length 3), (1, .fn 60 [.ptr 0 0]), (7, .int .i64 L.length), (8, .int .i64 i)] [] [[.int .i64 n], fl L]) = some (.ret, ST l' [] [[.int .i64 n], fl L]) ∧ look .any l' 4 = .int .i64 m)
  | 0, i, h1 => by
    have : i = L.length := by omega
    subst this
    refine ⟨fun _ => ?_, fun u h => (by simp [idxI] at h)⟩
    rw [Y_loop (L := L74_0) rfl]
    simp only [go_sem, List.set_cons_zero, List.set_cons_succ, List.take_succ_cons, and_false, false_and, and_true, true_and, Nat.reduceAdd, Nat.reduceEqDiff, Nat.reduceLT, ↓reduceIte, decide_eq_true_eq, List.take_nil, beq_self_eq_true, bne_self_eq_false, List.take_zero, List.map_cons, List.map_nil, Int.reduceNeg, Bool.and_true, and_self, Bool.true_and, Bool.and_self, ne_eq, not_true_eq_false, decide_false, decide_true, Bool.false_eq_true, Nat.reduceAdd, Option.map_some, Option.map_none, Option.bind_some, Option.bind_none, List.length_nil, List.length_cons, List.append_nil, Bool.and_false, w64, demV_sl, Int.cast_ofNat_Int, Int.reduceLT, Int.reduceAdd, Int.reduceSub, Int.reduceLE, Int.reduceEq, Int.reduceToNat, Int.toNat_natCast, Nat.reduceSub, Nat.reduceMul, Nat.reduceLeDiff, Nat.zero_add, Int.zero_add, not_false_eq_true, Bool.not_true, Bool.not_false, Bool.false_and, List.cons_append, List.nil_append, Int.lt_irrefl]
  | k + 1, i, h1 => by
    have h3 : i < L.length := by omega
    have h4 : (i : Int) < (L.length : Int) := by omega
    have h0 : (0 : Int) ≤ (i : Int) := by omega
    have hw : IntKind.i64.wrap ((i : Int) + 1) = ((i + 1 : Nat) : Int) := by rw [w64 (by omega) (by omega)]; rfl
    have hr := fl_row L i h3
    have ih := l74 L hL n k (i + 1) (by omega)
    by_cases a1 : (L.getD i tk0).2.2 ≤ n
    · have e : idxI L n (k + 1) i = some i := by simp only [idxI]; rw [if_pos a1]
      rw [e]
      refine ⟨fun h => (by cases h), fun u hu => ?_⟩
      cases hu
      refine Exists.intro ?_ (And.intro ?_ ?_)
      rotate_left 1
      · rw [Y_loop (L := L74_0) rfl]
        simp only [go_sem, List.set_cons_zero, List.set_cons_succ, List.take_succ_cons, and_false, false_and, and_true, true_and, Nat.reduceAdd, Nat.reduceEqDiff, Nat.reduceLT, ↓reduceIte, decide_eq_true_eq, List.take_nil, beq_self_eq_true, bne_self_eq_false, List.take_zero, List.map_cons, List.map_nil, Int.reduceNeg, Bool.and_true, and_self, Bool.true_and, Bool.and_self, ne_eq, not_true_eq_false, decide_false, decide_true, Bool.false_eq_true, Nat.reduceAdd, Option.map_some, Option.map_none, Option.bind_some, Option.bind_none, List.length_nil, List.length_cons, List.append_nil, Bool.and_false, w64, demV_sl, Int.cast_ofNat_Int, Int.reduceLT, Int.reduceAdd, Int.reduceSub, Int.reduceLE, Int.reduceEq, Int.reduceToNat, Int.toNat_natCast, Nat.reduceSub, Nat.reduceMul, Nat.reduceLeDiff, Nat.zero_add, Int.zero_add, not_false_eq_true, Bool.not_true, Bool.not_false, Bool.false_and, List.cons_append, List.nil_append, h4, h3, h0, hr, c60, a1]
        rfl
      · rfl
    · have e : idxI L n (k + 1) i = idxI L n k (i + 1) := by simp only [idxI]; rw [if_neg a1]
      rw [e]
      have step : execX G0 L74_0 (ST [(0, .ss 1 0 L.length 3), (1, .fn 60 [.ptr 0 0]), (7, .int .i64 L.length), (8, .int .i64 i)] [] [[.int .i64 n], fl L]) = execX G0 L74_0 (ST [(0, .ss 1 0 L.length 3), (1, .fn 60 [.ptr 0 0]), (7, .int .i64 L.length), (8, .int .i64 ((i + 1 : Nat) : Int))] [] [[.int .i64 n], fl L]) := by
        conv => lhs; rw [Y_loop (L := L74_0) rfl]
        simp only [go_sem, List.set_cons_zero, List.set_cons_succ, List.take_succ_cons, and_false, false_and, and_true, true_and, Nat.reduceAdd, Nat.reduceEqDiff, Nat.reduceLT, ↓reduceIte, decide_eq_true_eq, List.take_nil, beq_self_eq_true, bne_self_eq_false, List.take_zero, List.map_cons, List.map_nil, Int.reduceNeg, Bool.and_true, and_self, Bool.true_and, Bool.and_self, ne_eq, not_true_eq_false, decide_false, decide_true, Bool.false_eq_true, Nat.reduceAdd, Option.map_some, Option.map_none, Option.bind_some, Option.bind_none, List.length_nil, List.length_cons, List.append_nil, Bool.and_false, w64, demV_sl, Int.cast_ofNat_Int, Int.reduceLT, Int.reduceAdd, Int.reduceSub, Int.reduceLE, Int.reduceEq, Int.reduceToNat, Int.toNat_natCast, Nat.reduceSub, Nat.reduceMul, Nat.reduceLeDiff, Nat.zero_add, Int.zero_add, not_false_eq_true, Bool.not_true, Bool.not_false, Bool.false_and, List.cons_append, List.nil_append, h4, h3, h0, hr, c60, a1, hw]
      rw [step]
      exact ih
theorem c74 (L : List Tk) (hL : L.length ≤ 1000000) (n : Int) : G0 74 [.ss 1 0 L.length 3, .fn 60 [.ptr 0 0]] [[.int .i64 n], fl L] = some (.int .i64 (match idxI L n L.length 0 with | none => -1 | some m => (m : Int)), [[.int .i64 n], fl L]) := by
  refine contract F74 rfl rfl rfl ?_
  obtain ⟨x1, x2⟩ := l74 L hL n L.length 0 (by omega)
  have ec : ((0 : Nat) : Int) = 0 := rfl
  rw [ec] at x1 x2
  have hr : refsOk false 2 [[.int .i64 n], fl L] = true := by
    show (false || ([[AV.int .i64 n], fl L].all fun c => c.all (refLt 2))) = true
    simp only [List.all_cons, List.all_nil, fl_refs, refLt, Bool.and_self, Bool.false_or]
  cases hv : idxI L n L.length 0 with
  | none => simp only [F74, go_sem, List.set_cons_zero, List.set_cons_succ, List.take_succ_cons, and_false, false_and, and_true, true_and, Nat.reduceAdd, Nat.reduceEqDiff, Nat.reduceLT, ↓reduceIte, decide_eq_true_eq, List.take_nil, beq_self_eq_true, bne_self_eq_false, List.take_zero, List.map_cons, List.map_nil, Int.reduceNeg, Bool.and_true, and_self, Bool.true_and, Bool.and_self, ne_eq, not_true_eq_false, decide_false, decide_true, Bool.false_eq_true, Nat.reduceAdd, Option.map_some, Option.map_none, Option.bind_some, Option.bind_none, List.length_nil, List.length_cons, List.append_nil, Bool.and_false, w64, demV_sl, Int.cast_ofNat_Int, Int.reduceLT, Int.reduceAdd, Int.reduceSub, Int.reduceLE, Int.reduceEq, Int.reduceToNat, Int.toNat_natCast, Nat.reduceSub, Nat.reduceMul, Nat.reduceLeDiff, Nat.zero_add, Int.zero_add, not_false_eq_true, Bool.not_true, Bool.not_false, Bool.false_and, List.cons_append, List.nil_append, x1 hv, hr]
  | some u =>
    obtain ⟨l', y1, y2⟩ := x2 u hv
    simp only [F74, go_sem, List.set_cons_zero, List.set_cons_succ, List.take_succ_cons, and_false, false_and, and_true, true_and, Nat.reduceAdd, Nat.reduceEqDiff, Nat.reduceLT, ↓reduceIte, decide_eq_true_eq, List.take_nil, beq_self_eq_true, bne_self_eq_false, List.take_zero, List.map_cons, List.map_nil, Int.reduceNeg, Bool.and_true, and_self, Bool.true_and, Bool.and_self, ne_eq, not_true_eq_false, decide_false, decide_true, Bool.false_eq_true, Nat.reduceAdd, Option.map_some, Option.map_none, Option.bind_some, Option.bind_none, List.length_nil, List.length_cons, List.append_nil, Bool.and_false, w64, demV_sl, Int.cast_ofNat_Int, Int.reduceLT, Int.reduceAdd, Int.reduceSub, Int.reduceLE, Int.reduceEq, Int.reduceToNat, Int.toNat_natCast, Nat.reduceSub, Nat.reduceMul, Nat.reduceLeDiff, Nat.zero_add, Int.zero_add, not_false_eq_true, Bool.not_true, Bool.not_false, Bool.false_and, List.cons_append, List.nil_append, y1, y2, hr]
theorem c74e (n : Int) : G0 74 [.sl .full 3 [], .fn 60 [.ptr 0 0]] [[.int .i64 n]] = some (.int .i64 (-1), [[.int .i64 n]]) := by
  refine contract F74 rfl rfl rfl ?_
  have x1 : execX G0 L74_0 (ST [(0, .sl .full 3 []), (1, .fn 60 [.ptr 0 0]), (7, .int .i64 0), (8, .int .i64 0)] [] [[.int .i64 n]]) = some (.ex 0, ST [(0, .sl .full 3 []), (1, .fn 60 [.ptr 0 0]), (7, .int .i64 0), (8, .int .i64 0), (9, .bool false)] [] [[.int .i64 n]]) := by
    rw [Y_loop (L := L74_0) rfl]
    simp only [go_sem, List.set_cons_zero, List.set_cons_succ, List.take_succ_cons, and_false, false_and, and_true, true_and, Nat.reduceAdd, Nat.reduceEqDiff, Nat.reduceLT, ↓reduceIte, decide_eq_true_eq, List.take_nil, beq_self_eq_true, bne_self_eq_false, List.take_zero, List.map_cons, List.map_nil, Int.reduceNeg, Bool.and_true, and_self, Bool.true_and, Bool.and_self, ne_eq, not_true_eq_false, decide_false, decide_true, Bool.false_eq_true, Nat.reduceAdd, Option.map_some, Option.map_none, Option.bind_some, Option.bind_none, List.length_nil, List.length_cons, List.append_nil, Bool.and_false, w64, demV_sl, Int.cast_ofNat_Int, Int.reduceLT, Int.reduceAdd, Int.reduceSub, Int.reduceLE, Int.reduceEq, Int.reduceToNat, Int.toNat_natCast, Nat.reduceSub, Nat.reduceMul, Nat.reduceLeDiff, Nat.zero_add, Int.zero_add, not_false_eq_true, Bool.not_true, Bool.not_false, Bool.false_and, List.cons_append, List.nil_append, Int.lt_irrefl]
  have hr : refsOk false 1 [[.int .i64 n]] = true := rfl
  simp only [F74, go_sem, List.set_cons_zero, List.set_cons_succ, List.take_succ_cons, and_false, false_and, and_true, true_and, Nat.reduceAdd, Nat.reduceEqDiff, Nat.reduceLT, ↓reduceIte, decide_eq_true_eq, List.take_nil, beq_self_eq_true, bne_self_eq_false, List.take_zero, List.map_cons, List.map_nil, Int.reduceNeg, Bool.and_true, and_self, Bool.true_and, Bool.and_self, ne_eq, not_true_eq_false, decide_false, decide_true, Bool.false_eq_true, Nat.reduceAdd, Option.map_some, Option.map_none, Option.bind_some, Option.bind_none, List.length_nil, List.length_cons, List.append_nil, Bool.and_false, w64, demV_sl, Int.cast_ofNat_Int, Int.reduceLT, Int.reduceAdd, Int.reduceSub, Int.reduceLE, Int.reduceEq, Int.reduceToNat, Int.toNat_natCast, Nat.reduceSub, Nat.reduceMul, Nat.reduceLeDiff, Nat.zero_add, Int.zero_add, not_false_eq_true, Bool.not_true, Bool.not_false, Bool.false_and, List.cons_append, List.nil_append, x1, hr]
end Go.Av
