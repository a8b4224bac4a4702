/- A part of the proof: M3. No conditions. -/
import Derived.Test.YthbgidickbhojaaM2
set_option linter.unusedSimpArgs false
set_option linter.unusedVariables false
namespace Go.Av
set_option linter.unusedSimpArgs false
set_option maxHeartbeats 4000000
set_option maxRecDepth 100000
def lng (k : List Int) : Bool := decide (160 < IntKind.i64.wrap (k.length : Int))
theorem c31 (k : List Int) : G0 31 [.sl .no 1 [[.sl .no 1 (ints k)]]] [] = some (.bool (lng k), []) := by
  refine contract F31 rfl rfl rfl ?_
  have x1 : execX G0 L31_0 (ST [(3, .int .i64 0), (6, .sl .no 1 [[.sl .no 1 (ints k)]]), (7, .int .i64 1), (8, .int .i64 0)] [] []) = execX G0 L31_0 (ST [(3, .int .i64 (IntKind.i64.wrap (k.length : Int))), (6, .sl .no 1 [[.sl .no 1 (ints k)]]), (7, .int .i64 1), (8, .int .i64 1)] [] []) := by
    conv => lhs; rw [Y_loop (L := L31_0) rfl]
    simp only [go_sem, List.set_cons_zero, List.set_cons_succ, List.take_succ_cons, and_false, false_and, and_true, true_and, Nat.reduceAdd, Nat.reduceEqDiff, Nat.reduceLT, ↓reduceIte, decide_eq_true_eq, List.take_nil, beq_self_eq_true, bne_self_eq_false, List.take_zero, List.map_cons, List.map_nil, Int.reduceNeg, Bool.and_true, and_self, Bool.true_and, Bool.and_self, ne_eq, not_true_eq_false, decide_false, decide_true, Bool.false_eq_true, Nat.reduceAdd, Option.map_some, Option.map_none, Option.bind_some, Option.bind_none, List.length_nil, List.length_cons, List.append_nil, Bool.and_false, w64, demV_sl, Int.cast_ofNat_Int, Int.reduceLT, Int.reduceAdd, Int.reduceSub, Int.reduceLE, Int.reduceEq, Int.reduceToNat, Int.toNat_natCast, Nat.reduceSub, Nat.reduceMul, Nat.reduceLeDiff, Nat.zero_add, Int.zero_add, not_false_eq_true, Bool.not_true, Bool.not_false, Bool.false_and, List.cons_append, List.nil_append, ints_length, List.getElem?_cons_zero]
  have x2 : execX G0 L31_0 (ST [(3, .int .i64 (IntKind.i64.wrap (k.length : Int))), (6, .sl .no 1 [[.sl .no 1 (ints k)]]), (7, .int .i64 1), (8, .int .i64 1)] [] []) = some (.ex 0, ST [(3, .int .i64 (IntKind.i64.wrap (k.length : Int))), (6, .sl .no 1 [[.sl .no 1 (ints k)]]), (7, .int .i64 1), (8, .int .i64 1), (9, .bool false)] [] []) := by
    rw [Y_loop (L := L31_0) rfl]
    simp only [go_sem, List.set_cons_zero, List.set_cons_succ, List.take_succ_cons, and_false, false_and, and_true, true_and, Nat.reduceAdd, Nat.reduceEqDiff, Nat.reduceLT, ↓reduceIte, decide_eq_true_eq, List.take_nil, beq_self_eq_true, bne_self_eq_false, List.take_zero, List.map_cons, List.map_nil, Int.reduceNeg, Bool.and_true, and_self, Bool.true_and, Bool.and_self, ne_eq, not_true_eq_false, decide_false, decide_true, Bool.false_eq_true, Nat.reduceAdd, Option.map_some, Option.map_none, Option.bind_some, Option.bind_none, List.length_nil, List.length_cons, List.append_nil, Bool.and_false, w64, demV_sl, Int.cast_ofNat_Int, Int.reduceLT, Int.reduceAdd, Int.reduceSub, Int.reduceLE, Int.reduceEq, Int.reduceToNat, Int.toNat_natCast, Nat.reduceSub, Nat.reduceMul, Nat.reduceLeDiff, Nat.zero_add, Int.zero_add, not_false_eq_true, Bool.not_true, Bool.not_false, Bool.false_and, List.cons_append, List.nil_append, Int.lt_irrefl]
  simp only [F31, go_sem, List.set_cons_zero, List.set_cons_succ, List.take_succ_cons, and_false, false_and, and_true, true_and, Nat.reduceAdd, Nat.reduceEqDiff, Nat.reduceLT, ↓reduceIte, decide_eq_true_eq, List.take_nil, beq_self_eq_true, bne_self_eq_false, List.take_zero, List.map_cons, List.map_nil, Int.reduceNeg, Bool.and_true, and_self, Bool.true_and, Bool.and_self, ne_eq, not_true_eq_false, decide_false, decide_true, Bool.false_eq_true, Nat.reduceAdd, Option.map_some, Option.map_none, Option.bind_some, Option.bind_none, List.length_nil, List.length_cons, List.append_nil, Bool.and_false, w64, demV_sl, Int.cast_ofNat_Int, Int.reduceLT, Int.reduceAdd, Int.reduceSub, Int.reduceLE, Int.reduceEq, Int.reduceToNat, Int.toNat_natCast, Nat.reduceSub, Nat.reduceMul, Nat.reduceLeDiff, Nat.zero_add, Int.zero_add, not_false_eq_true, Bool.not_true, Bool.not_false, Bool.false_and, List.cons_append, List.nil_append, x1, x2, lng]
theorem num0 (l : List Int) : num l 0 = [.sl .no 1 (ints l), .int .i64 0] := rfl
theorem c35 (l : List Int) : G0 35 [.sl .no 1 (ints l)] [] = some (.ptr 0 0, [num l 0]) := by
  refine contract F35 rfl rfl rfl ?_
  simp only [F35, go_sem, List.set_cons_zero, List.set_cons_succ, List.take_succ_cons, and_false, false_and, and_true, true_and, Nat.reduceAdd, Nat.reduceEqDiff, Nat.reduceLT, ↓reduceIte, decide_eq_true_eq, List.take_nil, beq_self_eq_true, bne_self_eq_false, List.take_zero, List.map_cons, List.map_nil, Int.reduceNeg, Bool.and_true, and_self, Bool.true_and, Bool.and_self, ne_eq, not_true_eq_false, decide_false, decide_true, Bool.false_eq_true, Nat.reduceAdd, Option.map_some, Option.map_none, Option.bind_some, Option.bind_none, List.length_nil, List.length_cons, List.append_nil, Bool.and_false, w64, demV_sl, Int.cast_ofNat_Int, Int.reduceLT, Int.reduceAdd, Int.reduceSub, Int.reduceLE, Int.reduceEq, Int.reduceToNat, Int.toNat_natCast, Nat.reduceSub, Nat.reduceMul, Nat.reduceLeDiff, Nat.zero_add, Int.zero_add, not_false_eq_true, Bool.not_true, Bool.not_false, Bool.false_and, List.cons_append, List.nil_append, num0]
def nms : List (List UInt8) := [[97, 110, 110], [98, 111, 98], [101, 118, 101], [114, 111, 98]]
def nm (l : List Int) (n : Nat) : List UInt8 := nms.getD (nxt l n 4).toNat []
theorem nm_ok (l : List Int) (n : Nat) : isN (nm l n) = true ∧ (nm l n).length ≤ 3 := by
  have hb := nxt_bd l n 4 (by omega)
  unfold nm
  have : ∀ j : Fin 4, isN (nms.getD j.1 []) = true ∧ (nms.getD j.1 []).length ≤ 3 := by decide
  exact this ⟨(nxt l n 4).toNat, by omega⟩
theorem c37 (l : List Int) (n : Nat) (hn : n ≤ 1000000) : G0 37 [.ptr 0 0] [num l n] = some (.str (nm l n), [num l (n + 1)]) := by
  refine contract F37 rfl rfl rfl ?_
  have hm : mksA 1 [.str []] 4 [0, 1, 2, 3] [.str [97, 110, 110], .str [98, 111, 98], .str [101, 118, 101], .str [114, 111, 98]] = some (.sl .full 1 (strs nms)) := by rfl
  have hb := nxt_bd l n 4 (by omega)
  have h0 : 0 ≤ nxt l n 4 := hb.1
  have hr := strs_at (l := nms) (i := (nxt l n 4).toNat) (s := nm l n) (by
    unfold nm
    rw [List.getD_eq_getElem?_getD, List.getElem?_eq_getElem (by simp [nms]; omega)]; rfl)
  have hnum : refsOk false 1 [num l (n + 1)] = true := rfl
  simp only [F37, go_sem, List.set_cons_zero, List.set_cons_succ, List.take_succ_cons, and_false, false_and, and_true, true_and, Nat.reduceAdd, Nat.reduceEqDiff, Nat.reduceLT, ↓reduceIte, decide_eq_true_eq, List.take_nil, beq_self_eq_true, bne_self_eq_false, List.take_zero, List.map_cons, List.map_nil, Int.reduceNeg, Bool.and_true, and_self, Bool.true_and, Bool.and_self, ne_eq, not_true_eq_false, decide_false, decide_true, Bool.false_eq_true, Nat.reduceAdd, Option.map_some, Option.map_none, Option.bind_some, Option.bind_none, List.length_nil, List.length_cons, List.append_nil, Bool.and_false, w64, demV_sl, Int.cast_ofNat_Int, Int.reduceLT, Int.reduceAdd, Int.reduceSub, Int.reduceLE, Int.reduceEq, Int.reduceToNat, Int.toNat_natCast, Nat.reduceSub, Nat.reduceMul, Nat.reduceLeDiff, Nat.zero_add, Int.zero_add, not_false_eq_true, Bool.not_true, Bool.not_false, Bool.false_and, List.cons_append, List.nil_append, hm, c36 l n 4 hn (by decide) (by decide), h0, hr, hnum]
/-- the leases that are drawn -/
def lsG (l : List Int) : Nat → Nat → Int → List Tk
  | 0, _, _ => []
  | k + 1, p, n => (n + (1 + nxt l p 3), nm l (p + 1), 1 + nxt l (p + 2) 20) :: lsG l k (p + 3) (n + (1 + nxt l p 3))
theorem lsG_len (l : List Int) : ∀ k p n, (lsG l k p n).length = k
  | 0, _, _ => rfl
  | k + 1, p, n => by simp only [lsG, List.length_cons, lsG_len l k]
theorem l32 (l : List Int) : ∀ (k p : Nat) (n : Int) (out : List Tk) (md : Own), md ≠ .no → p + 3 * k ≤ 1000 → 0 ≤ n → n ≤ 10000 - 3 * k → out.length + k ≤ 1000 →
    ∃ md' n', md' ≠ .no ∧ execX G0 L32_0 (ST [(3, .ptr 0 0), (4, .sl md 3 (tks out)), (5, .int .i64 n), (6, .int .i64 k)] [] [num l p]) = some (.ex 0, ST [(3, .ptr 0 0), (4, .sl md' 3 (tks (out ++ lsG l k p n))), (5, .int .i64 n'), (6, .int .i64 0), (12, .bool false)] [] [num l (p + 3 * k)])
  | 0, p, n, out, md, hm, h1, h2, h3, h4 => by
    refine ⟨md, n, hm, ?_⟩
    rw [Y_loop (L := L32_0) rfl]
    simp only [go_sem, List.set_cons_zero, List.set_cons_succ, List.take_succ_cons, and_false, false_and, and_true, true_and, Nat.reduceAdd, Nat.reduceEqDiff, Nat.reduceLT, ↓reduceIte, decide_eq_true_eq, List.take_nil, beq_self_eq_true, bne_self_eq_false, List.take_zero, List.map_cons, List.map_nil, Int.reduceNeg, Bool.and_true, and_self, Bool.true_and, Bool.and_self, ne_eq, not_true_eq_false, decide_false, decide_true, Bool.false_eq_true, Nat.reduceAdd, Option.map_some, Option.map_none, Option.bind_some, Option.bind_none, List.length_nil, List.length_cons, List.append_nil, Bool.and_false, w64, demV_sl, Int.cast_ofNat_Int, Int.reduceLT, Int.reduceAdd, Int.reduceSub, Int.reduceLE, Int.reduceEq, Int.reduceToNat, Int.toNat_natCast, Nat.reduceSub, Nat.reduceMul, Nat.reduceLeDiff, Nat.zero_add, Int.zero_add, not_false_eq_true, Bool.not_true, Bool.not_false, Bool.false_and, List.cons_append, List.nil_append, Int.lt_irrefl, lsG, Nat.mul_zero, Nat.add_zero]
  | k + 1, p, n, out, md, hm, h1, h2, h3, h4 => by
    have b1 := nxt_bd l p 3 (by omega)
    have b2 := nxt_bd l (p + 2) 20 (by omega)
    obtain ⟨md', n', hm', ih⟩ := l32 l k (p + 3) (n + (1 + nxt l p 3)) (out ++ [(n + (1 + nxt l p 3), nm l (p + 1), 1 + nxt l (p + 2) 20)]) .own (by decide) (by omega) (by omega) (by omega) (by simp; omega)
    refine ⟨md', n', hm', ?_⟩
    have hk : (0 : Int) < ((k + 1 : Nat) : Int) := by omega
    have hw : IntKind.i64.wrap (((k + 1 : Nat) : Int) - 1) = (k : Int) := by rw [w64 (by omega) (by omega)]; omega
    have hw1 : IntKind.i64.wrap (1 + nxt l p 3) = 1 + nxt l p 3 := w64 (by omega) (by omega)
    have hw2 : IntKind.i64.wrap (n + (1 + nxt l p 3)) = n + (1 + nxt l p 3) := w64 (by omega) (by omega)
    have hw3 : IntKind.i64.wrap (1 + nxt l (p + 2) 20) = 1 + nxt l (p + 2) 20 := w64 (by omega) (by omega)
    have ha : appOK 32 (out.length + 1) = true := appOK_le (by decide) (by omega)
    have e1 : p + 3 * (k + 1) = p + 3 + 3 * k := by omega
    rw [e1]
    simp only [lsG]
    rw [List.append_assoc] at ih
    rw [Y_loop (L := L32_0) rfl]
    simp only [go_sem, List.set_cons_zero, List.set_cons_succ, List.take_succ_cons, and_false, false_and, and_true, true_and, Nat.reduceAdd, Nat.reduceEqDiff, Nat.reduceLT, ↓reduceIte, decide_eq_true_eq, List.take_nil, beq_self_eq_true, bne_self_eq_false, List.take_zero, List.map_cons, List.map_nil, Int.reduceNeg, Bool.and_true, and_self, Bool.true_and, Bool.and_self, ne_eq, not_true_eq_false, decide_false, decide_true, Bool.false_eq_true, Nat.reduceAdd, Option.map_some, Option.map_none, Option.bind_some, Option.bind_none, List.length_nil, List.length_cons, List.append_nil, Bool.and_false, w64, demV_sl, Int.cast_ofNat_Int, Int.reduceLT, Int.reduceAdd, Int.reduceSub, Int.reduceLE, Int.reduceEq, Int.reduceToNat, Int.toNat_natCast, Nat.reduceSub, Nat.reduceMul, Nat.reduceLeDiff, Nat.zero_add, Int.zero_add, not_false_eq_true, Bool.not_true, Bool.not_false, Bool.false_and, List.cons_append, List.nil_append, hk, hw, hw1, hw2, hw3, c36 l p 3 (by omega) (by decide) (by decide), c37 l (p + 1) (by omega), c36 l (p + 1 + 1) 20 (by omega) (by decide) (by decide), appA_gen md _ hm 3 32 (by decide), tks_len, ha, tks_one, tks_app]
    exact ih
def lsF (l : List Int) : List Tk := lsG l (nxt l 0 6).toNat 1 0
theorem lsF_len (l : List Int) : (lsF l).length ≤ 5 := by
  unfold lsF
  rw [lsG_len]
  have := nxt_bd l 0 6 (by omega)
  omega
theorem c32 (l : List Int) : G0 32 [.sl .no 1 (ints l)] [] = some (.sl .no 3 (tks (lsF l)), []) := by
  refine contract F32 rfl rfl rfl ?_
  have hb := nxt_bd l 0 6 (by omega)
  obtain ⟨md', n', hm, hx⟩ := l32 l (nxt l 0 6).toNat 1 0 [] .full (by decide) (by omega) (by omega) (by omega) (by simp; omega)
  have hc : (((nxt l 0 6).toNat : Nat) : Int) = nxt l 0 6 := by omega
  rw [hc] at hx
  have hx' := hx
  simp only [tks_nil, List.nil_append] at hx'
  simp only [F32, go_sem, List.set_cons_zero, List.set_cons_succ, List.take_succ_cons, and_false, false_and, and_true, true_and, Nat.reduceAdd, Nat.reduceEqDiff, Nat.reduceLT, ↓reduceIte, decide_eq_true_eq, List.take_nil, beq_self_eq_true, bne_self_eq_false, List.take_zero, List.map_cons, List.map_nil, Int.reduceNeg, Bool.and_true, and_self, Bool.true_and, Bool.and_self, ne_eq, not_true_eq_false, decide_false, decide_true, Bool.false_eq_true, Nat.reduceAdd, Option.map_some, Option.map_none, Option.bind_some, Option.bind_none, List.length_nil, List.length_cons, List.append_nil, Bool.and_false, w64, demV_sl, Int.cast_ofNat_Int, Int.reduceLT, Int.reduceAdd, Int.reduceSub, Int.reduceLE, Int.reduceEq, Int.reduceToNat, Int.toNat_natCast, Nat.reduceSub, Nat.reduceMul, Nat.reduceLeDiff, Nat.zero_add, Int.zero_add, not_false_eq_true, Bool.not_true, Bool.not_false, Bool.false_and, List.cons_append, List.nil_append, c35, c36 l 0 6 (by decide) (by decide) (by decide), hx', lsF]
theorem lsG_get (l : List Int) : ∀ (k p : Nat) (n : Int) (i : Nat), 0 ≤ n → i < k →
    n < ((lsG l k p n).getD i tk0).1 ∧ 1 ≤ ((lsG l k p n).getD i tk0).2.2 ∧ ((lsG l k p n).getD i tk0).2.2 ≤ 20 ∧ isN ((lsG l k p n).getD i tk0).2.1 = true ∧ (0 < i → ((lsG l k p n).getD (i - 1) tk0).1 < ((lsG l k p n).getD i tk0).1)
  | 0, _, _, _, _, h => by omega
  | k + 1, p, n, 0, hn, h => by
    have b1 := nxt_bd l p 3 (by omega)
    have b2 := nxt_bd l (p + 2) 20 (by omega)
    simp only [lsG, List.getD_cons_zero]
    exact ⟨by omega, by omega, by omega, (nm_ok l (p + 1)).1, fun h => by omega⟩
  | k + 1, p, n, i + 1, hn, h => by
    have b1 := nxt_bd l p 3 (by omega)
    obtain ⟨q1, q2, q3, q4, q5⟩ := lsG_get l k (p + 3) (n + (1 + nxt l p 3)) i (by omega) (by omega)
    simp only [lsG, List.getD_cons_succ]
    refine ⟨by omega, q2, q3, q4, fun _ => ?_⟩
    cases i with
    | zero => simp only [Nat.zero_add, Nat.sub_self, List.getD_cons_zero]; exact q1
    | succ i =>
      have e : i + 1 + 1 - 1 = i + 1 := by omega
      rw [e, List.getD_cons_succ]
      have := q5 (by omega)
      simpa using this
theorem val_ok (L : List Tk) (h : ∀ i, i < L.length → 1 ≤ (L.getD i tk0).1 ∧ 1 ≤ (L.getD i tk0).2.2 ∧ (L.getD i tk0).2.2 ≤ 1073741824 ∧ isN (L.getD i tk0).2.1 = true ∧ (0 < i → (L.getD (i - 1) tk0).1 < (L.getD i tk0).1)) :
    ∀ k i, i + k = L.length → valI L k i = 0
  | 0, _, _ => rfl
  | k + 1, i, hi => by
    obtain ⟨q1, q2, q3, q4, q5⟩ := h i (by omega)
    simp only [valI]
    rw [if_neg (by omega), if_neg (by omega), if_neg (by omega), if_neg (by rw [q4]; decide), if_neg (fun c => by have := q5 c.1; omega)]
    exact val_ok L h k (i + 1) (by omega)
theorem val_ls (l : List Int) : valF (lsF l) = 0 := by
  have hl := lsF_len l
  unfold valF
  rw [if_neg (by omega)]
  refine val_ok _ (fun i hi => ?_) _ _ (by omega)
  unfold lsF at hi ⊢
  rw [lsG_len] at hi
  obtain ⟨q1, q2, q3, q4, q5⟩ := lsG_get l _ 1 0 i (by omega) hi
  exact ⟨by omega, q2, by omega, q4, q5⟩
end Go.Av
