/- A part of the proof: D13. No conditions. -/
import Derived.Test.YthbgidickbhojaaD12
set_option linter.unusedSimpArgs false
set_option linter.unusedVariables false
namespace Go.Av
set_option linter.unusedSimpArgs false
set_option maxHeartbeats 4000000
def fl (l : List Tk) : List AV := (tks l).flatten
theorem fl_app (x y : List Tk) : fl (x ++ y) = fl x ++ fl y := by simp [fl, tks]
theorem fl_one (t : Tk) : fl [t] = [.int .i64 t.1, .str t.2.1, .int .i64 t.2.2] := rfl
theorem fl_cons (t : Tk) (l : List Tk) : fl (t :: l) = .int .i64 t.1 :: .str t.2.1 :: .int .i64 t.2.2 :: fl l := rfl
theorem fl_len : ∀ l : List Tk, (fl l).length = l.length * 3
  | [] => rfl
  | t :: l => by rw [fl_cons]; simp only [List.length_cons, fl_len l]; omega
theorem fl_nown : ∀ l : List Tk, (fl l).all nownB = true
  | [] => rfl
  | t :: l => by rw [fl_cons]; simp only [List.all_cons, fl_nown l, nownB, Bool.and_self]
theorem fl_blk (l : List Tk) : blkB (fl l) = true := by
  cases l with
  | nil => rfl
  | cons a l => rfl
theorem fl_at (o : List Tk) (t : Tk) (j : Nat) : (fl (o ++ [t]))[o.length * 3 + j]? = [AV.int .i64 t.1, .str t.2.1, .int .i64 t.2.2][j]? := by
  rw [fl_app, fl_one, List.getElem?_append_right (by rw [fl_len]; omega), fl_len]
  congr 1; omega
theorem fl_put (o : List Tk) (t u : Tk) : putL (o.length * 3) [AV.int .i64 u.1, .str u.2.1, .int .i64 u.2.2] (fl (o ++ [t])) = some (fl (o ++ [u])) := by
  have : ∀ (a : List AV), putL a.length [AV.int .i64 u.1, .str u.2.1, .int .i64 u.2.2] (a ++ [AV.int .i64 t.1, .str t.2.1, .int .i64 t.2.2]) = some (a ++ [AV.int .i64 u.1, .str u.2.1, .int .i64 u.2.2]) := by
    intro a
    induction a with
    | nil => rfl
    | cons x a ih => simp only [List.length_cons, List.cons_append, putL_s, ih, Option.map_some]
  have h := this (fl o)
  rw [fl_len] at h
  rw [fl_app, fl_one, fl_app, fl_one]
  exact h
theorem rowsC_fl (l : List Tk) : rowsC 0 l.length 3 (fl l) = some (tks l) := by
  have h1 : ∀ l : List Tk, (fl l).all (fun x => flatB (demV x)) = true := by
    intro l
    induction l with
    | nil => rfl
    | cons a l ih => rw [fl_cons]; simp only [List.all_cons, Bool.and_eq_true]; exact ⟨rfl, rfl, rfl, ih⟩
  have h2 : ∀ l : List Tk, (fl l).map demV = fl l := by
    intro l
    induction l with
    | nil => rfl
    | cons a l ih => rw [fl_cons]; simp only [List.map_cons, ih, demV]
  have h3 : ∀ l : List Tk, rowsOf 3 l.length (fl l) = tks l := by
    intro l
    induction l with
    | nil => rfl
    | cons a l ih => rw [fl_cons]; simp only [List.length_cons, rowsOf, List.take_succ_cons, List.take_zero, List.drop_succ_cons, List.drop_zero, ih]; rfl
  unfold rowsC
  have h4 : ((fl l).drop 0).take (l.length * 3) = fl l := by rw [List.drop_zero]; exact List.take_of_length_le (by rw [fl_len]; exact Nat.le_refl _)
  rw [h4, h2, h3, if_pos ⟨by decide, by rw [fl_len]; omega, h1 l⟩]
def tot : List Tk → Nat
  | [] => 0
  | t :: l => t.2.1.length + tot l
theorem tot_app : ∀ x y : List Tk, tot (x ++ y) = tot x + tot y
  | [], y => by simp [tot]
  | t :: x, y => by simp only [List.cons_append, tot, tot_app x y]; omega
def Stt (v : AV) (sh : List (List AV)) (out : List Tk) : Prop :=
  (out = [] ∧ v = .sl .full 3 [] ∧ sh = []) ∨ (∃ D o t, out = o ++ [t] ∧ v = .ss D.length 0 (o.length + 1) 3 ∧ sh = D ++ [fl (o ++ [t])])
theorem gD (D : List (List AV)) (c : List AV) : (D ++ [c])[D.length]? = some c := by simp
theorem sD (D : List (List AV)) (c x : List AV) : (D ++ [c]).set D.length x = D ++ [x] := by
  rw [List.set_append_right _ _ (Nat.le_refl _)]; simp
theorem l80 (f : List Tk) (hf : f.length ≤ 100000) : ∀ (k i : Nat) (out : List Tk) (v : AV) (sh : List (List AV)), i + k = f.length → out.length ≤ i → tot out + tot (f.drop i) ≤ 1000000 → Stt v sh out →
    ∃ out' v' sh', Stt v' sh' out' ∧ out'.length ≤ f.length ∧ tot out' ≤ tot out + tot (f.drop i) ∧
      execX G0 L80_0 (ST [(0, .sl .no 3 (tks f)), (3, v), (8, .int .i64 f.length), (9, .int .i64 i)] [] sh) = some (.ex 0, ST [(0, .sl .no 3 (tks f)), (3, v'), (8, .int .i64 f.length), (9, .int .i64 f.length), (10, .bool false)] [] sh')
  | 0, i, out, v, sh, h1, h2, h3, hst => by
    have : i = f.length := by omega
    subst this
    refine ⟨out, v, sh, hst, by omega, by omega, ?_⟩
    rcases hst with ⟨rfl, rfl, rfl⟩ | ⟨D, o, t, rfl, rfl, rfl⟩
    · rw [Y_loop (L := L80_0) rfl]
      simp only [go_sem, List.set_cons_zero, List.set_cons_succ, List.take_succ_cons, and_false, false_and, and_true, true_and, Nat.reduceAdd, Nat.reduceEqDiff, Nat.reduceLT, ↓reduceIte, decide_eq_true_eq, List.take_nil, beq_self_eq_true, bne_self_eq_false, List.take_zero, List.map_cons, List.map_nil, Int.reduceNeg, Bool.and_true, and_self, Bool.true_and, Bool.and_self, ne_eq, not_true_eq_false, decide_false, decide_true, Bool.false_eq_true, Nat.reduceAdd, Option.map_some, Option.map_none, Option.bind_some, Option.bind_none, List.length_nil, List.length_cons, List.append_nil, Bool.and_false, w64, demV_sl, Int.cast_ofNat_Int, Int.reduceLT, Int.reduceAdd, Int.reduceSub, Int.reduceLE, Int.reduceEq, Int.reduceToNat, Int.toNat_natCast, Nat.reduceSub, Nat.reduceMul, Nat.reduceLeDiff, Nat.zero_add, Int.zero_add, not_false_eq_true, Bool.not_true, Bool.not_false, Bool.false_and, List.cons_append, List.nil_append, Int.lt_irrefl]
    · rw [Y_loop (L := L80_0) rfl]
      simp only [go_sem, List.set_cons_zero, List.set_cons_succ, List.take_succ_cons, and_false, false_and, and_true, true_and, Nat.reduceAdd, Nat.reduceEqDiff, Nat.reduceLT, ↓reduceIte, decide_eq_true_eq, List.take_nil, beq_self_eq_true, bne_self_eq_false, List.take_zero, List.map_cons, List.map_nil, Int.reduceNeg, Bool.and_true, and_self, Bool.true_and, Bool.and_self, ne_eq, not_true_eq_false, decide_false, decide_true, Bool.false_eq_true, Nat.reduceAdd, Option.map_some, Option.map_none, Option.bind_some, Option.bind_none, List.length_nil, List.length_cons, List.append_nil, Bool.and_false, w64, demV_sl, Int.cast_ofNat_Int, Int.reduceLT, Int.reduceAdd, Int.reduceSub, Int.reduceLE, Int.reduceEq, Int.reduceToNat, Int.toNat_natCast, Nat.reduceSub, Nat.reduceMul, Nat.reduceLeDiff, Nat.zero_add, Int.zero_add, not_false_eq_true, Bool.not_true, Bool.not_false, Bool.false_and, List.cons_append, List.nil_append, Int.lt_irrefl]
  | k + 1, i, out, v, sh, h1, h2, h3, hst => by
    have hi : i < f.length := by omega
    have h4 : (i : Int) < (f.length : Int) := by omega
    have h0 : (0 : Int) ≤ (i : Int) := by omega
    have hw : IntKind.i64.wrap ((i : Int) + 1) = ((i + 1 : Nat) : Int) := by rw [w64 (by omega) (by omega)]; rfl
    have hg : f[i]? = some f[i] := List.getElem?_eq_getElem hi
    have hd : f.drop i = f[i] :: f.drop (i + 1) := List.drop_eq_getElem_cons hi
    generalize f[i] = T at hg hd
    have hr := tks_at hg
    obtain ⟨kk, s, id⟩ := T
    rw [hd] at h3 ⊢
    simp only [tot] at h3 ⊢
    by_cases c1 : kk = 1
    · by_cases c2 : s = []
      · subst c1 c2
        obtain ⟨out', v', sh', p1, p2, p3, p4⟩ := l80 f hf k (i + 1) out v sh (by omega) (by omega) (by simp only [List.length_nil] at h3; omega) hst
        refine ⟨out', v', sh', p1, p2, by omega, ?_⟩
        rcases hst with ⟨rfl, rfl, rfl⟩ | ⟨D, o, t, rfl, rfl, rfl⟩
        · rw [Y_loop (L := L80_0) rfl]
          simp only [go_sem, List.set_cons_zero, List.set_cons_succ, List.take_succ_cons, and_false, false_and, and_true, true_and, Nat.reduceAdd, Nat.reduceEqDiff, Nat.reduceLT, ↓reduceIte, decide_eq_true_eq, List.take_nil, beq_self_eq_true, bne_self_eq_false, List.take_zero, List.map_cons, List.map_nil, Int.reduceNeg, Bool.and_true, and_self, Bool.true_and, Bool.and_self, ne_eq, not_true_eq_false, decide_false, decide_true, Bool.false_eq_true, Nat.reduceAdd, Option.map_some, Option.map_none, Option.bind_some, Option.bind_none, List.length_nil, List.length_cons, List.append_nil, Bool.and_false, w64, demV_sl, Int.cast_ofNat_Int, Int.reduceLT, Int.reduceAdd, Int.reduceSub, Int.reduceLE, Int.reduceEq, Int.reduceToNat, Int.toNat_natCast, Nat.reduceSub, Nat.reduceMul, Nat.reduceLeDiff, Nat.zero_add, Int.zero_add, not_false_eq_true, Bool.not_true, Bool.not_false, Bool.false_and, List.cons_append, List.nil_append, h4, h0, hr, hw]
          exact p4
        · rw [Y_loop (L := L80_0) rfl]
          simp only [go_sem, List.set_cons_zero, List.set_cons_succ, List.take_succ_cons, and_false, false_and, and_true, true_and, Nat.reduceAdd, Nat.reduceEqDiff, Nat.reduceLT, ↓reduceIte, decide_eq_true_eq, List.take_nil, beq_self_eq_true, bne_self_eq_false, List.take_zero, List.map_cons, List.map_nil, Int.reduceNeg, Bool.and_true, and_self, Bool.true_and, Bool.and_self, ne_eq, not_true_eq_false, decide_false, decide_true, Bool.false_eq_true, Nat.reduceAdd, Option.map_some, Option.map_none, Option.bind_some, Option.bind_none, List.length_nil, List.length_cons, List.append_nil, Bool.and_false, w64, demV_sl, Int.cast_ofNat_Int, Int.reduceLT, Int.reduceAdd, Int.reduceSub, Int.reduceLE, Int.reduceEq, Int.reduceToNat, Int.toNat_natCast, Nat.reduceSub, Nat.reduceMul, Nat.reduceLeDiff, Nat.zero_add, Int.zero_add, not_false_eq_true, Bool.not_true, Bool.not_false, Bool.false_and, List.cons_append, List.nil_append, h4, h0, hr, hw]
          exact p4
      · subst c1
        have hne : (s == []) = false := by simp [c2]
        rcases hst with ⟨rfl, rfl, rfl⟩ | ⟨D, o, t, rfl, rfl, rfl⟩
        · obtain ⟨out', v', sh', p1, p2, p3, p4⟩ := l80 f hf k (i + 1) [(1, s, 0)] (.ss 0 0 1 3) [fl [(1, s, 0)]] (by omega) (by simp) (by simp only [tot] at *; first | done | omega) (.inr ⟨[], [], (1, s, 0), rfl, rfl, rfl⟩)
          refine ⟨out', v', sh', p1, p2, by simp only [tot] at *; omega, ?_⟩
          have ha : appOK 32 1 = true := appOK_le (by decide) (by decide)
          rw [Y_loop (L := L80_0) rfl]
          simp only [go_sem, List.set_cons_zero, List.set_cons_succ, List.take_succ_cons, and_false, false_and, and_true, true_and, Nat.reduceAdd, Nat.reduceEqDiff, Nat.reduceLT, ↓reduceIte, decide_eq_true_eq, List.take_nil, beq_self_eq_true, bne_self_eq_false, List.take_zero, List.map_cons, List.map_nil, Int.reduceNeg, Bool.and_true, and_self, Bool.true_and, Bool.and_self, ne_eq, not_true_eq_false, decide_false, decide_true, Bool.false_eq_true, Nat.reduceAdd, Option.map_some, Option.map_none, Option.bind_some, Option.bind_none, List.length_nil, List.length_cons, List.append_nil, Bool.and_false, w64, demV_sl, Int.cast_ofNat_Int, Int.reduceLT, Int.reduceAdd, Int.reduceSub, Int.reduceLE, Int.reduceEq, Int.reduceToNat, Int.toNat_natCast, Nat.reduceSub, Nat.reduceMul, Nat.reduceLeDiff, Nat.zero_add, Int.zero_add, not_false_eq_true, Bool.not_true, Bool.not_false, Bool.false_and, List.cons_append, List.nil_append, h4, h0, hr, hw, hne, ha, Int.lt_irrefl]
          exact p4
        · have hpos : (0 : Int) < ((o.length + 1 : Nat) : Int) := by omega
          have hlt : ((o.length : Nat) : Int) < ((o.length + 1 : Nat) : Int) := by omega
          have hge : (0 : Int) ≤ ((o.length : Nat) : Int) := by omega
          have hw3 : IntKind.i64.wrap (((o.length + 1 : Nat) : Int) - 1) = ((o.length : Nat) : Int) := by rw [w64 (by omega) (by simp at h2; omega)]; omega
          have hat0 : (fl (o ++ [t]))[o.length * 3]? = some (.int .i64 t.1) := fl_at o t 0
          have hat1 : (fl (o ++ [t]))[o.length * 3 + 1]? = some (.str t.2.1) := fl_at o t 1
          by_cases c3 : t.1 = 1
          · have hc : t.2.1.length + s.length ≤ 140737488355328 := by simp only [tot_app, tot] at h3; omega
            have hb := fl_blk (o ++ [t])
            have hp : putL (o.length * 3) [.int .i64 1, .str (t.2.1 ++ s), .int .i64 0] (fl (o ++ [t])) = some (fl (o ++ [(1, t.2.1 ++ s, 0)])) := fl_put o t (1, t.2.1 ++ s, 0)
            obtain ⟨out', v', sh', p1, p2, p3, p4⟩ := l80 f hf k (i + 1) (o ++ [(1, t.2.1 ++ s, 0)]) (.ss D.length 0 (o.length + 1) 3) (D ++ [fl (o ++ [(1, t.2.1 ++ s, 0)])]) (by omega) (by simp at h2 ⊢; omega) (by simp only [tot_app, tot, List.length_append] at *; omega) (.inr ⟨D, o, _, rfl, rfl, rfl⟩)
            refine ⟨out', v', sh', p1, p2, by simp only [tot_app, tot, List.length_append] at *; omega, ?_⟩
            rw [Y_loop (L := L80_0) rfl]
            simp only [go_sem, List.set_cons_zero, List.set_cons_succ, List.take_succ_cons, and_false, false_and, and_true, true_and, Nat.reduceAdd, Nat.reduceEqDiff, Nat.reduceLT, ↓reduceIte, decide_eq_true_eq, List.take_nil, beq_self_eq_true, bne_self_eq_false, List.take_zero, List.map_cons, List.map_nil, Int.reduceNeg, Bool.and_true, and_self, Bool.true_and, Bool.and_self, ne_eq, not_true_eq_false, decide_false, decide_true, Bool.false_eq_true, Nat.reduceAdd, Option.map_some, Option.map_none, Option.bind_some, Option.bind_none, List.length_nil, List.length_cons, List.append_nil, Bool.and_false, w64, demV_sl, Int.cast_ofNat_Int, Int.reduceLT, Int.reduceAdd, Int.reduceSub, Int.reduceLE, Int.reduceEq, Int.reduceToNat, Int.toNat_natCast, Nat.reduceSub, Nat.reduceMul, Nat.reduceLeDiff, Nat.zero_add, Int.zero_add, not_false_eq_true, Bool.not_true, Bool.not_false, Bool.false_and, List.cons_append, List.nil_append, h4, h0, hr, hw, hne, hpos, hlt, hge, hw3, gD, sD, hat0, hat1, c3, Nat.add_zero, hc, hb, hp]
            exact p4
          · have h6 : (o.length + 1) * 3 = (fl (o ++ [t])).length := by rw [fl_len]; simp
            have ha : appOK 32 (o.length + 1 + 1) = true := appOK_le (by decide) (by simp at h2; omega)
            have hb := fl_blk (o ++ [t])
            have hn := fl_nown (o ++ [t])
            have e6 : fl (o ++ [t]) ++ [[AV.int .i64 1, .str s, .int .i64 0]].flatten = fl (o ++ [t] ++ [(1, s, 0)]) := by rw [fl_app (o ++ [t])]; rfl
            have eL : (D ++ [fl (o ++ [t])]).length = (D ++ [dead]).length := by simp
            obtain ⟨out', v', sh', p1, p2, p3, p4⟩ := l80 f hf k (i + 1) (o ++ [t] ++ [(1, s, 0)]) (.ss (D ++ [dead]).length 0 (o.length + 1 + 1) 3) ((D ++ [dead]) ++ [fl (o ++ [t] ++ [(1, s, 0)])]) (by omega) (by simp at h2 ⊢; omega) (by simp only [tot_app, tot] at *; omega) (.inr ⟨D ++ [dead], o ++ [t], (1, s, 0), rfl, by simp, rfl⟩)
            refine ⟨out', v', sh', p1, p2, by simp only [tot_app, tot] at *; omega, ?_⟩
            rw [Y_loop (L := L80_0) rfl]
            simp only [go_sem, List.set_cons_zero, List.set_cons_succ, List.take_succ_cons, and_false, false_and, and_true, true_and, Nat.reduceAdd, Nat.reduceEqDiff, Nat.reduceLT, ↓reduceIte, decide_eq_true_eq, List.take_nil, beq_self_eq_true, bne_self_eq_false, List.take_zero, List.map_cons, List.map_nil, Int.reduceNeg, Bool.and_true, and_self, Bool.true_and, Bool.and_self, ne_eq, not_true_eq_false, decide_false, decide_true, Bool.false_eq_true, Nat.reduceAdd, Option.map_some, Option.map_none, Option.bind_some, Option.bind_none, List.length_nil, List.length_cons, List.append_nil, Bool.and_false, w64, demV_sl, Int.cast_ofNat_Int, Int.reduceLT, Int.reduceAdd, Int.reduceSub, Int.reduceLE, Int.reduceEq, Int.reduceToNat, Int.toNat_natCast, Nat.reduceSub, Nat.reduceMul, Nat.reduceLeDiff, Nat.zero_add, Int.zero_add, not_false_eq_true, Bool.not_true, Bool.not_false, Bool.false_and, List.cons_append, List.nil_append, h4, h0, hr, hw, hne, hpos, hlt, hge, hw3, gD, sD, hat0, hat1, c3, Nat.add_zero, ha, hb, hn, h6, eL]
            rw [e6]
            exact p4
    · rcases hst with ⟨rfl, rfl, rfl⟩ | ⟨D, o, t, rfl, rfl, rfl⟩
      · obtain ⟨out', v', sh', p1, p2, p3, p4⟩ := l80 f hf k (i + 1) [(kk, s, id)] (.ss 0 0 1 3) [fl [(kk, s, id)]] (by omega) (by simp) (by simp only [tot] at *; first | done | omega) (.inr ⟨[], [], (kk, s, id), rfl, rfl, rfl⟩)
        refine ⟨out', v', sh', p1, p2, by simp only [tot] at *; omega, ?_⟩
        have ha : appOK 32 1 = true := appOK_le (by decide) (by decide)
        rw [Y_loop (L := L80_0) rfl]
        simp only [go_sem, List.set_cons_zero, List.set_cons_succ, List.take_succ_cons, and_false, false_and, and_true, true_and, Nat.reduceAdd, Nat.reduceEqDiff, Nat.reduceLT, ↓reduceIte, decide_eq_true_eq, List.take_nil, beq_self_eq_true, bne_self_eq_false, List.take_zero, List.map_cons, List.map_nil, Int.reduceNeg, Bool.and_true, and_self, Bool.true_and, Bool.and_self, ne_eq, not_true_eq_false, decide_false, decide_true, Bool.false_eq_true, Nat.reduceAdd, Option.map_some, Option.map_none, Option.bind_some, Option.bind_none, List.length_nil, List.length_cons, List.append_nil, Bool.and_false, w64, demV_sl, Int.cast_ofNat_Int, Int.reduceLT, Int.reduceAdd, Int.reduceSub, Int.reduceLE, Int.reduceEq, Int.reduceToNat, Int.toNat_natCast, Nat.reduceSub, Nat.reduceMul, Nat.reduceLeDiff, Nat.zero_add, Int.zero_add, not_false_eq_true, Bool.not_true, Bool.not_false, Bool.false_and, List.cons_append, List.nil_append, h4, h0, hr, hw, c1, ha]
        exact p4
      · have h6 : (o.length + 1) * 3 = (fl (o ++ [t])).length := by rw [fl_len]; simp
        have ha : appOK 32 (o.length + 1 + 1) = true := appOK_le (by decide) (by simp at h2; omega)
        have hb := fl_blk (o ++ [t])
        have hn := fl_nown (o ++ [t])
        have e6 : fl (o ++ [t]) ++ [[AV.int .i64 kk, .str s, .int .i64 id]].flatten = fl (o ++ [t] ++ [(kk, s, id)]) := by rw [fl_app (o ++ [t])]; rfl
        have eL : (D ++ [fl (o ++ [t])]).length = (D ++ [dead]).length := by simp
        obtain ⟨out', v', sh', p1, p2, p3, p4⟩ := l80 f hf k (i + 1) (o ++ [t] ++ [(kk, s, id)]) (.ss (D ++ [dead]).length 0 (o.length + 1 + 1) 3) ((D ++ [dead]) ++ [fl (o ++ [t] ++ [(kk, s, id)])]) (by omega) (by simp at h2 ⊢; omega) (by simp only [tot_app, tot] at *; omega) (.inr ⟨D ++ [dead], o ++ [t], (kk, s, id), rfl, by simp, rfl⟩)
        refine ⟨out', v', sh', p1, p2, by simp only [tot_app, tot] at *; omega, ?_⟩
        rw [Y_loop (L := L80_0) rfl]
        simp only [go_sem, List.set_cons_zero, List.set_cons_succ, List.take_succ_cons, and_false, false_and, and_true, true_and, Nat.reduceAdd, Nat.reduceEqDiff, Nat.reduceLT, ↓reduceIte, decide_eq_true_eq, List.take_nil, beq_self_eq_true, bne_self_eq_false, List.take_zero, List.map_cons, List.map_nil, Int.reduceNeg, Bool.and_true, and_self, Bool.true_and, Bool.and_self, ne_eq, not_true_eq_false, decide_false, decide_true, Bool.false_eq_true, Nat.reduceAdd, Option.map_some, Option.map_none, Option.bind_some, Option.bind_none, List.length_nil, List.length_cons, List.append_nil, Bool.and_false, w64, demV_sl, Int.cast_ofNat_Int, Int.reduceLT, Int.reduceAdd, Int.reduceSub, Int.reduceLE, Int.reduceEq, Int.reduceToNat, Int.toNat_natCast, Nat.reduceSub, Nat.reduceMul, Nat.reduceLeDiff, Nat.zero_add, Int.zero_add, not_false_eq_true, Bool.not_true, Bool.not_false, Bool.false_and, List.cons_append, List.nil_append, h4, h0, hr, hw, c1, gD, sD, ha, hb, hn, h6, eL]
        rw [e6]
        exact p4

theorem c80 (f : List Tk) (hf : f.length ≤ 100000) (ht : tot f ≤ 1000000) : ∃ g, g.length ≤ f.length ∧ tot g ≤ tot f ∧ G0 80 [.sl .no 3 (tks f)] [] = some (.sl .no 3 (tks g), []) := by
  obtain ⟨g, v, sh, p1, p2, p3, p4⟩ := l80 f hf f.length 0 [] (.sl .full 3 []) [] (by omega) (by simp) (by simpa [tot] using ht) (.inl ⟨rfl, rfl, rfl⟩)
  simp only [tot, List.drop_zero, Nat.zero_add] at p3
  refine ⟨g, p2, p3, ?_⟩
  refine contract F80 rfl rfl rfl ?_
  simp only [go_sem, List.set_cons_zero, List.set_cons_succ, List.take_succ_cons, and_false, false_and, and_true, true_and, Nat.reduceAdd, Nat.reduceEqDiff, Nat.reduceLT, ↓reduceIte, decide_eq_true_eq, List.take_nil, beq_self_eq_true, bne_self_eq_false, List.take_zero, List.map_cons, List.map_nil, Int.reduceNeg, Bool.and_true, and_self, Bool.true_and, Bool.and_self, ne_eq, not_true_eq_false, decide_false, decide_true, Bool.false_eq_true, Nat.reduceAdd, Option.map_some, Option.map_none, Option.bind_some, Option.bind_none, List.length_nil, List.length_cons, List.append_nil, Bool.and_false, w64, demV_sl, Int.cast_ofNat_Int, Int.reduceLT, Int.reduceAdd, Int.reduceSub, Int.reduceLE, Int.reduceEq, Int.reduceToNat, Int.toNat_natCast, Nat.reduceSub, Nat.reduceMul, Nat.reduceLeDiff, Nat.zero_add, Int.zero_add, not_false_eq_true, Bool.not_true, Bool.not_false, Bool.false_and, List.cons_append, List.nil_append] at p4
  rcases p1 with ⟨rfl, rfl, rfl⟩ | ⟨D, o, t, rfl, rfl, rfl⟩
  · simp only [F80, go_sem, List.set_cons_zero, List.set_cons_succ, List.take_succ_cons, and_false, false_and, and_true, true_and, Nat.reduceAdd, Nat.reduceEqDiff, Nat.reduceLT, ↓reduceIte, decide_eq_true_eq, List.take_nil, beq_self_eq_true, bne_self_eq_false, List.take_zero, List.map_cons, List.map_nil, Int.reduceNeg, Bool.and_true, and_self, Bool.true_and, Bool.and_self, ne_eq, not_true_eq_false, decide_false, decide_true, Bool.false_eq_true, Nat.reduceAdd, Option.map_some, Option.map_none, Option.bind_some, Option.bind_none, List.length_nil, List.length_cons, List.append_nil, Bool.and_false, w64, demV_sl, Int.cast_ofNat_Int, Int.reduceLT, Int.reduceAdd, Int.reduceSub, Int.reduceLE, Int.reduceEq, Int.reduceToNat, Int.toNat_natCast, Nat.reduceSub, Nat.reduceMul, Nat.reduceLeDiff, Nat.zero_add, Int.zero_add, not_false_eq_true, Bool.not_true, Bool.not_false, Bool.false_and, List.cons_append, List.nil_append, tks_len, p4, tks_nil]
  · have hr := rowsC_fl (o ++ [t])
    simp only [List.length_append, List.length_cons, List.length_nil, Nat.zero_add] at hr
    have hs : sameDead [] (D ++ [fl (o ++ [t])]) = true := rfl
    have hk : refsOk false 0 (D ++ [fl (o ++ [t])]) = true := rfl
    simp only [F80, go_sem, List.set_cons_zero, List.set_cons_succ, List.take_succ_cons, and_false, false_and, and_true, true_and, Nat.reduceAdd, Nat.reduceEqDiff, Nat.reduceLT, ↓reduceIte, decide_eq_true_eq, List.take_nil, beq_self_eq_true, bne_self_eq_false, List.take_zero, List.map_cons, List.map_nil, Int.reduceNeg, Bool.and_true, and_self, Bool.true_and, Bool.and_self, ne_eq, not_true_eq_false, decide_false, decide_true, Bool.false_eq_true, Nat.reduceAdd, Option.map_some, Option.map_none, Option.bind_some, Option.bind_none, List.length_nil, List.length_cons, List.append_nil, Bool.and_false, w64, demV_sl, Int.cast_ofNat_Int, Int.reduceLT, Int.reduceAdd, Int.reduceSub, Int.reduceLE, Int.reduceEq, Int.reduceToNat, Int.toNat_natCast, Nat.reduceSub, Nat.reduceMul, Nat.reduceLeDiff, Nat.zero_add, Int.zero_add, not_false_eq_true, Bool.not_true, Bool.not_false, Bool.false_and, List.cons_append, List.nil_append, tks_len, p4, gD, hr, hs, hk, Nat.zero_le]
theorem c68 (f g : List Tk) (hf : f.length + g.length ≤ 100000) (ht : tot f + tot g ≤ 1000000) : ∃ r, r.length ≤ f.length + g.length ∧ tot r ≤ tot f + tot g ∧ G0 68 [.sl .no 3 (tks f), .sl .no 3 (tks g)] [] = some (.sl .no 3 (tks r), []) := by
  obtain ⟨r, q1, q2, q3⟩ := c80 (f ++ g) (by simpa using hf) (by rw [tot_app]; exact ht)
  rw [List.length_append] at q1
  rw [tot_app] at q2
  refine ⟨r, q1, q2, ?_⟩
  refine contract F68 rfl rfl rfl ?_
  have ha : appOK 32 f.length = true := appOK_le (by decide) (by omega)
  have ha2 : appOK 32 (f.length + g.length) = true := appOK_le (by decide) (by omega)
  simp only [F68, go_sem, List.set_cons_zero, List.set_cons_succ, List.take_succ_cons, and_false, false_and, and_true, true_and, Nat.reduceAdd, Nat.reduceEqDiff, Nat.reduceLT, ↓reduceIte, decide_eq_true_eq, List.take_nil, beq_self_eq_true, bne_self_eq_false, List.take_zero, List.map_cons, List.map_nil, Int.reduceNeg, Bool.and_true, and_self, Bool.true_and, Bool.and_self, ne_eq, not_true_eq_false, decide_false, decide_true, Bool.false_eq_true, Nat.reduceAdd, Option.map_some, Option.map_none, Option.bind_some, Option.bind_none, List.length_nil, List.length_cons, List.append_nil, Bool.and_false, w64, demV_sl, Int.cast_ofNat_Int, Int.reduceLT, Int.reduceAdd, Int.reduceSub, Int.reduceLE, Int.reduceEq, Int.reduceToNat, Int.toNat_natCast, Nat.reduceSub, Nat.reduceMul, Nat.reduceLeDiff, Nat.zero_add, Int.zero_add, not_false_eq_true, Bool.not_true, Bool.not_false, Bool.false_and, List.cons_append, List.nil_append, appA_gen .full .no (by decide) 3 32 (by decide), appA_gen .own .no (by decide) 3 32 (by decide), tks_len, ha, ha2, tks_app, q3]
end Go.Av
