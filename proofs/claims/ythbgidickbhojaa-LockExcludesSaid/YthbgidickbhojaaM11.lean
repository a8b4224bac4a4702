/- A part of the proof: M11. No conditions. -/
import Derived.Test.YthbgidickbhojaaM10
set_option linter.unusedSimpArgs false
set_option linter.unusedVariables false
namespace Go.Av
set_option linter.unusedSimpArgs false
set_option maxHeartbeats 4000000
theorem c54s (m : Own) (L : List Tk) (hL : L.length ≤ 1000000) (hne : L ≠ []) (sh : List (List AV)) : G0 54 [.sl m 3 (tks L)] sh = some (.ss sh.length 0 L.length 3, sh ++ [fl L]) := by
  rw [c54 m L hL sh]
  cases L with
  | nil => exact absurd rfl hne
  | cons t L =>
    show some (cloneR 3 (tkR t :: tks L) sh) = _
    simp only [cloneR, tks_len, List.length_cons]
    rfl
theorem fl_clrC (W : List Tk) (i : Nat) (h : i < W.length) : putC (i * 3) (zeroRow [.int .i64 0, .str [], .int .i64 0] (W.length - i)) (fl W) = some (fl (W.take i ++ List.replicate (W.length - i) tk0)) := by
  rw [putC_L _ _ _ (by
    obtain ⟨k, hk⟩ : ∃ k, W.length - i = k + 1 := ⟨W.length - i - 1, by omega⟩
    rw [hk]
    simp [zeroRow])]
  exact fl_clr W i (by omega)
theorem capP : [AV.ptr 0 0].all (capB true) = true := rfl
theorem mkP : mkfA 60 [AV.ptr 0 0] = some (.fn 60 [.ptr 0 0]) := rfl
theorem c59 (L : List Tk) (hL : L.length ≤ 1000000) (n : Int) : ∃ i W, i ≤ W.length ∧ W.take i = expF L n ∧ G0 59 [.ss 1 0 L.length 3, .fn 60 [.ptr 0 0]] [[.int .i64 n], fl L] = some (.ss 1 0 i 3, [[.int .i64 n], fl W]) := by
  have h74 := c74 L hL n
  cases hv : idxI L n L.length 0 with
  | none =>
    rw [hv] at h74
    have hn := idx_none L n L.length 0 (by omega) hv
    refine ⟨L.length, L, Nat.le_refl _, by rw [List.take_length, expF]; simpa using hn.symm, ?_⟩
    refine contract F59 rfl rfl rfl ?_
    simp only [F59, go_sem, List.set_cons_zero, List.set_cons_succ, List.take_succ_cons, and_false, false_and, and_true, true_and, Nat.reduceAdd, Nat.reduceEqDiff, Nat.reduceLT, ↓reduceIte, decide_eq_true_eq, List.take_nil, beq_self_eq_true, bne_self_eq_false, List.take_zero, List.map_cons, List.map_nil, Int.reduceNeg, Bool.and_true, and_self, Bool.true_and, Bool.and_self, ne_eq, not_true_eq_false, decide_false, decide_true, Bool.false_eq_true, Nat.reduceAdd, Option.map_some, Option.map_none, Option.bind_some, Option.bind_none, List.length_nil, List.length_cons, List.append_nil, Bool.and_false, w64, demV_sl, Int.cast_ofNat_Int, Int.reduceLT, Int.reduceAdd, Int.reduceSub, Int.reduceLE, Int.reduceEq, Int.reduceToNat, Int.toNat_natCast, Nat.reduceSub, Nat.reduceMul, Nat.reduceLeDiff, Nat.zero_add, Int.zero_add, not_false_eq_true, Bool.not_true, Bool.not_false, Bool.false_and, List.cons_append, List.nil_append, h74, capP]
  | some m =>
    rw [hv] at h74
    obtain ⟨_, q2, q3⟩ := idx_some L n L.length 0 m (by omega) hv
    obtain ⟨i', W', p1, p2, p3, p4⟩ := l59 L hL n (L.length - (m + 1)) (m + 1) m L (by omega) rfl (by omega) q2 rfl
    have he : W'.take i' = expF L n := by
      rw [p3, ← q3]; simp [expF]
    have hlt : i' < L.length := by
      have e1 : (W'.take i').length = i' := by simp; omega
      rw [p3] at e1
      have e2 := List.length_filter_le (keepF n) (L.drop (m + 1))
      simp only [List.length_append, List.length_take, List.length_drop] at e1 e2
      omega
    have hl' : (W'.take i' ++ List.replicate (W'.length - i') tk0).take i' = W'.take i' := by
      rw [List.take_append_of_le_length (by simp; omega), List.take_take, Nat.min_self]
    refine ⟨i', W'.take i' ++ List.replicate (W'.length - i') tk0, by simp; omega, by rw [hl', he], ?_⟩
    refine contract F59 rfl rfl rfl ?_
    have hm : ((m : Int) = -1) = False := eq_false (by omega)
    have hw : IntKind.i64.wrap ((m : Int) + 1) = ((m + 1 : Nat) : Int) := by rw [w64 (by omega) (by omega)]; rfl
    have h0 : (0 : Int) ≤ (i' : Int) := by omega
    have h1 : (i' : Int) < (L.length : Int) := by omega
    have h1' : (i' : Int) ≤ (L.length : Int) := by omega
    have hc := fl_clrC W' i' (by omega)
    rw [p2] at hc ⊢
    simp only [F59, go_sem, List.set_cons_zero, List.set_cons_succ, List.take_succ_cons, and_false, false_and, and_true, true_and, Nat.reduceAdd, Nat.reduceEqDiff, Nat.reduceLT, ↓reduceIte, decide_eq_true_eq, List.take_nil, beq_self_eq_true, bne_self_eq_false, List.take_zero, List.map_cons, List.map_nil, Int.reduceNeg, Bool.and_true, and_self, Bool.true_and, Bool.and_self, ne_eq, not_true_eq_false, decide_false, decide_true, Bool.false_eq_true, Nat.reduceAdd, Option.map_some, Option.map_none, Option.bind_some, Option.bind_none, List.length_nil, List.length_cons, List.append_nil, Bool.and_false, w64, demV_sl, Int.cast_ofNat_Int, Int.reduceLT, Int.reduceAdd, Int.reduceSub, Int.reduceLE, Int.reduceEq, Int.reduceToNat, Int.toNat_natCast, Nat.reduceSub, Nat.reduceMul, Nat.reduceLeDiff, Nat.zero_add, Int.zero_add, not_false_eq_true, Bool.not_true, Bool.not_false, Bool.false_and, List.cons_append, List.nil_append, h74, hm, hw, p4, h0, h1, h1', hc, or_true, fl_blk, capP, op_clrN, clrX_ss]
theorem c59e (n : Int) : G0 59 [.sl .full 3 [], .fn 60 [.ptr 0 0]] [[.int .i64 n]] = some (.sl .full 3 [], [[.int .i64 n]]) := by
  refine contract F59 rfl rfl rfl ?_
  simp only [F59, go_sem, List.set_cons_zero, List.set_cons_succ, List.take_succ_cons, and_false, false_and, and_true, true_and, Nat.reduceAdd, Nat.reduceEqDiff, Nat.reduceLT, ↓reduceIte, decide_eq_true_eq, List.take_nil, beq_self_eq_true, bne_self_eq_false, List.take_zero, List.map_cons, List.map_nil, Int.reduceNeg, Bool.and_true, and_self, Bool.true_and, Bool.and_self, ne_eq, not_true_eq_false, decide_false, decide_true, Bool.false_eq_true, Nat.reduceAdd, Option.map_some, Option.map_none, Option.bind_some, Option.bind_none, List.length_nil, List.length_cons, List.append_nil, Bool.and_false, w64, demV_sl, Int.cast_ofNat_Int, Int.reduceLT, Int.reduceAdd, Int.reduceSub, Int.reduceLE, Int.reduceEq, Int.reduceToNat, Int.toNat_natCast, Nat.reduceSub, Nat.reduceMul, Nat.reduceLeDiff, Nat.zero_add, Int.zero_add, not_false_eq_true, Bool.not_true, Bool.not_false, Bool.false_and, List.cons_append, List.nil_append, c74e, capP]
theorem c39 (L : List Tk) (hL : L.length ≤ 1000000) (n : Int) : G0 39 [.sl .no 3 (tks L), .int .i64 n] [] = some (.sl .no 3 (tks (expF L n)), []) := by
  refine contract F39 rfl rfl rfl ?_
  by_cases hne : L = []
  · subst hne
    have h54 := c54 .no [] (by decide) [[.int .i64 n]]
    rw [tks_nil] at h54
    have e : expF [] n = [] := rfl
    rw [e, tks_nil]
    simp only [F39, go_sem, List.set_cons_zero, List.set_cons_succ, List.take_succ_cons, and_false, false_and, and_true, true_and, Nat.reduceAdd, Nat.reduceEqDiff, Nat.reduceLT, ↓reduceIte, decide_eq_true_eq, List.take_nil, beq_self_eq_true, bne_self_eq_false, List.take_zero, List.map_cons, List.map_nil, Int.reduceNeg, Bool.and_true, and_self, Bool.true_and, Bool.and_self, ne_eq, not_true_eq_false, decide_false, decide_true, Bool.false_eq_true, Nat.reduceAdd, Option.map_some, Option.map_none, Option.bind_some, Option.bind_none, List.length_nil, List.length_cons, List.append_nil, Bool.and_false, w64, demV_sl, Int.cast_ofNat_Int, Int.reduceLT, Int.reduceAdd, Int.reduceSub, Int.reduceLE, Int.reduceEq, Int.reduceToNat, Int.toNat_natCast, Nat.reduceSub, Nat.reduceMul, Nat.reduceLeDiff, Nat.zero_add, Int.zero_add, not_false_eq_true, Bool.not_true, Bool.not_false, Bool.false_and, List.cons_append, List.nil_append, h54, cloneR, c59e, mkP, capP]
  · have h54 := c54s .no L hL hne [[.int .i64 n]]
    obtain ⟨i, W, p1, p2, p3⟩ := c59 L hL n
    have hr := rowsC_flp W i p1
    rw [p2] at hr
    simp only [List.length_cons, List.length_nil, List.cons_append, List.nil_append, Nat.zero_add] at h54
    simp only [F39, go_sem, List.set_cons_zero, List.set_cons_succ, List.take_succ_cons, and_false, false_and, and_true, true_and, Nat.reduceAdd, Nat.reduceEqDiff, Nat.reduceLT, ↓reduceIte, decide_eq_true_eq, List.take_nil, beq_self_eq_true, bne_self_eq_false, List.take_zero, List.map_cons, List.map_nil, Int.reduceNeg, Bool.and_true, and_self, Bool.true_and, Bool.and_self, ne_eq, not_true_eq_false, decide_false, decide_true, Bool.false_eq_true, Nat.reduceAdd, Option.map_some, Option.map_none, Option.bind_some, Option.bind_none, List.length_nil, List.length_cons, List.append_nil, Bool.and_false, w64, demV_sl, Int.cast_ofNat_Int, Int.reduceLT, Int.reduceAdd, Int.reduceSub, Int.reduceLE, Int.reduceEq, Int.reduceToNat, Int.toNat_natCast, Nat.reduceSub, Nat.reduceMul, Nat.reduceLeDiff, Nat.zero_add, Int.zero_add, not_false_eq_true, Bool.not_true, Bool.not_false, Bool.false_and, List.cons_append, List.nil_append, h54, p3, hr, mkP, capP]
/-- who holds a segment, by the list -/
def hoL (g n : Int) : List Tk → Option (List UInt8)
  | [] => none
  | t :: r => if t.1 = g then (if n < t.2.2 then some t.2.1 else hoL g n r) else hoL g n r
theorem hoI_L (L : List Tk) (g n : Int) : ∀ (k i : Nat), i + k = L.length → hoI L g n k i = hoL g n (L.drop i)
  | 0, i, h => by
    have : L.drop i = [] := List.drop_eq_nil_of_le (by omega)
    rw [this]; rfl
  | k + 1, i, h => by
    rw [drop_d (by omega)]
    simp only [hoI, hoL, hoI_L L g n k (i + 1) (by omega)]
theorem hoF_L (L : List Tk) (g n : Int) : hoF L g n = (hoL g n L).getD [] := by
  unfold hoF
  rw [hoI_L L g n _ _ (by omega)]; simp
theorem hoL_exp (g n m : Int) (h : n ≤ m) : ∀ L : List Tk, hoL g m (L.filter (keepF n)) = hoL g m L
  | [] => rfl
  | t :: L => by
    have ih := hoL_exp g n m h L
    by_cases hk : n < t.2.2
    · have hk' : keepF n t = true := by simp only [keepF, decide_eq_true_eq]; exact hk
      rw [List.filter_cons, hk', if_pos rfl]
      simp only [hoL, ih]
    · have hk' : keepF n t = false := by simp only [keepF, decide_eq_false_iff_not]; exact hk
      rw [List.filter_cons, hk']
      simp only [Bool.false_eq_true, if_false, ih, hoL]
      rw [if_neg (show ¬ m < t.2.2 by omega)]
      split <;> rfl
theorem hoF_exp (L : List Tk) (g n m : Int) (h : n ≤ m) : hoF (expF L n) g m = hoF L g m := by
  rw [hoF_L, hoF_L, expF, hoL_exp g n m h]
def goodT (t : Tk) : Prop := 1 ≤ t.1 ∧ 1 ≤ t.2.2 ∧ t.2.2 ≤ 1073741824 ∧ isN t.2.1 = true
theorem val_list (L : List Tk) (hl : L.length ≤ 512) (h1 : ∀ t ∈ L, goodT t) (h2 : L.Pairwise fun a b => a.1 < b.1) : valF L = 0 := by
  unfold valF
  rw [if_neg (by omega)]
  refine val_ok _ (fun i hi => ?_) _ _ (by omega)
  rw [getD_get hi]
  obtain ⟨q1, q2, q3, q4⟩ := h1 _ (List.getElem_mem hi)
  refine ⟨q1, q2, q3, q4, fun h0 => ?_⟩
  rw [getD_get (by omega)]
  exact List.pairwise_iff_getElem.1 h2 (i - 1) i (by omega) hi (by omega)
theorem lsG_good (l : List Int) : ∀ (k p : Nat) (n : Int), 0 ≤ n → (∀ t ∈ lsG l k p n, goodT t ∧ n < t.1) ∧ (lsG l k p n).Pairwise fun a b => a.1 < b.1
  | 0, _, _, _ => ⟨fun t h => by simp [lsG] at h, List.Pairwise.nil⟩
  | k + 1, p, n, hn => by
    have b1 := nxt_bd l p 3 (by omega)
    have b2 := nxt_bd l (p + 2) 20 (by omega)
    obtain ⟨q1, q2⟩ := lsG_good l k (p + 3) (n + (1 + nxt l p 3)) (by omega)
    simp only [lsG]
    refine ⟨fun t h => ?_, List.Pairwise.cons (fun t h => ?_) q2⟩
    · rcases List.mem_cons.1 h with rfl | h
      · exact ⟨⟨by simp only []; omega, by simp only []; omega, by simp only []; omega, (nm_ok l (p + 1)).1⟩, by simp only []; omega⟩
      · obtain ⟨r1, r2⟩ := q1 t h
        exact ⟨r1, by omega⟩
    · exact (q1 t h).2
theorem lsF_good (l : List Int) : (∀ t ∈ lsF l, goodT t) ∧ (lsF l).Pairwise fun a b => a.1 < b.1 := by
  obtain ⟨q1, q2⟩ := lsG_good l (nxt l 0 6).toNat 1 0 (by omega)
  exact ⟨fun t h => (q1 t h).1, q2⟩
theorem val_exp (l : List Int) (n : Int) : valF (expF (lsF l) n) = 0 := by
  obtain ⟨q1, q2⟩ := lsF_good l
  have hl := lsF_len l
  have h3 := List.length_filter_le (keepF n) (lsF l)
  refine val_list _ (by unfold expF; omega) (fun t h => q1 t ((List.mem_filter.1 h).1)) (q2.filter _)
theorem c12 (k : List Int) (n m g : Int) : G0 12 [.sl .no 1 (ints k), .int .i64 n, .int .i64 m, .int .i64 g] [] = some (.bool true, []) := by
  refine contract F12 rfl rfl rfl ?_
  cases h1 : lng k with
  | true => simp only [F12, go_sem, List.set_cons_zero, List.set_cons_succ, List.take_succ_cons, and_false, false_and, and_true, true_and, Nat.reduceAdd, Nat.reduceEqDiff, Nat.reduceLT, ↓reduceIte, decide_eq_true_eq, List.take_nil, beq_self_eq_true, bne_self_eq_false, List.take_zero, List.map_cons, List.map_nil, Int.reduceNeg, Bool.and_true, and_self, Bool.true_and, Bool.and_self, ne_eq, not_true_eq_false, decide_false, decide_true, Bool.false_eq_true, Nat.reduceAdd, Option.map_some, Option.map_none, Option.bind_some, Option.bind_none, List.length_nil, List.length_cons, List.append_nil, Bool.and_false, w64, demV_sl, Int.cast_ofNat_Int, Int.reduceLT, Int.reduceAdd, Int.reduceSub, Int.reduceLE, Int.reduceEq, Int.reduceToNat, Int.toNat_natCast, Nat.reduceSub, Nat.reduceMul, Nat.reduceLeDiff, Nat.zero_add, Int.zero_add, not_false_eq_true, Bool.not_true, Bool.not_false, Bool.false_and, List.cons_append, List.nil_append, mks1 (.sl .no 1 (ints k)) 1 (ints k) rfl, c31, h1, c30]
  | false =>
    have hl := lsF_len k
    have h3 := List.length_filter_le (keepF (n % 24)) (lsF k)
    have b1 := Int.emod_nonneg n (show (24 : Int) ≠ 0 by decide)
    have b2 := Int.emod_lt_of_pos n (show (0 : Int) < 24 by decide)
    have b3 := Int.emod_nonneg m (show (10 : Int) ≠ 0 by decide)
    have b4 := Int.emod_lt_of_pos m (show (0 : Int) < 10 by decide)
    have hw : IntKind.i64.wrap (n % 24 + m % 10) = n % 24 + m % 10 := w64 (by omega) (by omega)
    have hho := hoF_exp (lsF k) (g % 14) (n % 24) (n % 24 + m % 10) (by omega)
    have hle : ((expF (lsF k) (n % 24)).length : Int) ≤ ((lsF k).length : Int) := by unfold expF; omega
    simp only [F12, go_sem, List.set_cons_zero, List.set_cons_succ, List.take_succ_cons, and_false, false_and, and_true, true_and, Nat.reduceAdd, Nat.reduceEqDiff, Nat.reduceLT, ↓reduceIte, decide_eq_true_eq, List.take_nil, beq_self_eq_true, bne_self_eq_false, List.take_zero, List.map_cons, List.map_nil, Int.reduceNeg, Bool.and_true, and_self, Bool.true_and, Bool.and_self, ne_eq, not_true_eq_false, decide_false, decide_true, Bool.false_eq_true, Nat.reduceAdd, Option.map_some, Option.map_none, Option.bind_some, Option.bind_none, List.length_nil, List.length_cons, List.append_nil, Bool.and_false, w64, demV_sl, Int.cast_ofNat_Int, Int.reduceLT, Int.reduceAdd, Int.reduceSub, Int.reduceLE, Int.reduceEq, Int.reduceToNat, Int.toNat_natCast, Nat.reduceSub, Nat.reduceMul, Nat.reduceLeDiff, Nat.zero_add, Int.zero_add, not_false_eq_true, Bool.not_true, Bool.not_false, Bool.false_and, List.cons_append, List.nil_append, mks1 (.sl .no 1 (ints k)) 1 (ints k) rfl, c31, h1, c30, c32, c24 n 24 (by decide) (by decide), c24 m 10 (by decide) (by decide), c24 g 14 (by decide) (by decide), hw, c39 (lsF k) (by omega), c33 (lsF k) (by omega), c33 (expF (lsF k) (n % 24)) (by unfold expF; omega), hho, c28, val_exp, tks_len, hle]
end Go.Av
