/- A part of the proof: M22. No conditions. -/
import Derived.Test.YthbgidickbhojaaM21
set_option linter.unusedSimpArgs false
set_option linter.unusedVariables false
namespace Go.Av
set_option linter.unusedSimpArgs false
set_option maxHeartbeats 16000000
set_option maxRecDepth 100000
theorem nm_zoe (l : List Int) (n : Nat) : nm l n ≠ [122, 111, 101] := by
  have hb := nxt_bd l n 4 (by omega)
  unfold nm
  have : ∀ j : Fin 4, nms.getD j.1 [] ≠ [122, 111, 101] := by decide
  exact this ⟨(nxt l n 4).toNat, by omega⟩
theorem ho_zoe {M : List Tk} {T now : Int} (h : valF M = 0) (hm : ((7, [122, 111, 101], 30 + T) : Tk) ∈ M) (hn : now < 30 + T) : hoF M 7 now = [122, 111, 101] := by
  have := ho_one (n := now) h hm
  simp only [] at this
  rw [this, if_pos hn]
theorem bz : (([122, 111, 101] : List UInt8) != [122, 111, 101]) = false := by decide
theorem l11 (l : List Int) (T : Int) (h3 : 3 ≤ T) (h22 : T ≤ 22) : ∀ (k p : Nat) (now : Int) (m : List Tk), now + k = 30 + T → 30 ≤ now → p + 4 * k ≤ 1000 → valF m = 0 → ((7, [122, 111, 101], 30 + T) : Tk) ∈ m →
    ∃ (m' : List Tk) (p' : Nat), valF m' = 0 ∧ ((7, [122, 111, 101], 30 + T) : Tk) ∈ m' ∧ execX G0 L11_0 (ST [(1, .int .i64 T), (5, .ptr 0 0), (6, .sl .no 3 (tks m)), (8, .int .i64 now), (17, .bool false), (32, .bool false)] [] [num l p]) = some (.ex 0, ST [(1, .int .i64 T), (5, .ptr 0 0), (6, .sl .no 3 (tks m')), (8, .int .i64 (30 + T)), (17, .bool false), (32, .bool false), (36, .bool false)] [] [num l p'])
  | 0, p, now, m, a1, a2, a3, a4, a5 => by
    have hn : now = 30 + T := by omega
    subst hn
    refine ⟨m, p, a4, a5, ?_⟩
    have hw : IntKind.i64.wrap (30 + T) = 30 + T := w64 (by omega) (by omega)
    rw [Y_loop (L := L11_0) rfl]
    simp only [go_sem, List.set_cons_zero, List.set_cons_succ, List.take_succ_cons, and_false, false_and, and_true, true_and, Nat.reduceAdd, Nat.reduceEqDiff, Nat.reduceLT, ↓reduceIte, decide_eq_true_eq, List.take_nil, beq_self_eq_true, bne_self_eq_false, List.take_zero, List.map_cons, List.map_nil, Int.reduceNeg, Bool.and_true, and_self, Bool.true_and, Bool.and_self, ne_eq, not_true_eq_false, decide_false, decide_true, Bool.false_eq_true, Nat.reduceAdd, Option.map_some, Option.map_none, Option.bind_some, Option.bind_none, List.length_nil, List.length_cons, List.append_nil, Bool.and_false, w64, demV_sl, Int.cast_ofNat_Int, Int.reduceLT, Int.reduceAdd, Int.reduceSub, Int.reduceLE, Int.reduceEq, Int.reduceToNat, Int.toNat_natCast, Nat.reduceSub, Nat.reduceMul, Nat.reduceLeDiff, Nat.zero_add, Int.zero_add, not_false_eq_true, Bool.not_true, Bool.not_false, Bool.false_and, List.cons_append, List.nil_append, hw, Int.lt_irrefl]
  | k + 1, p, now, m, a1, a2, a3, a4, a5 => by
    have hw : IntKind.i64.wrap (30 + T) = 30 + T := w64 (by omega) (by omega)
    have hlt : now < 30 + T := by omega
    have hw1 : IntKind.i64.wrap (now + 1) = now + 1 := w64 (by omega) (by omega)
    have hb := nxt_bd l p 3 (by omega)
    have hb2 := nxt_bd l (p + 1 + 1) 9 (by omega)
    have hw2 : IntKind.i64.wrap (1 + nxt l (p + 1 + 1) 9) = 1 + nxt l (p + 1 + 1) 9 := w64 (by omega) (by omega)
    have f1 := c36 l p 3 (by omega) (by decide) (by decide)
    have f2 := c37 l (p + 1) (by omega)
    have f3 := c36 l (p + 1 + 1) 9 (by omega) (by decide) (by decide)
    have f4 := c37 l (p + 1 + 1 + 1) (by omega)
    have n1 := nm_ok l (p + 1)
    have n2 := nm_zoe l (p + 1)
    have n3 := nm_zoe l (p + 1 + 1 + 1)
    have hz := ho_zoe a4 a5 hlt
    have ml : ∀ M : List Tk, valF M = 0 → M.length ≤ 1000000 := fun M h => by have := (val_pw h).1; omega
    generalize nm l (p + 1) = u1 at *
    generalize nm l (p + 1 + 1 + 1) = u2 at *
    obtain ⟨t1, ht1⟩ : ∃ t1, t1 = 1 + nxt l (p + 1 + 1) 9 := ⟨_, rfl⟩
    rw [← ht1] at hw2
    obtain ⟨y, hy⟩ : ∃ y, y = nxt l p 3 := ⟨_, rfl⟩
    rw [← hy] at f1 hb
    have hcase : y = 0 ∨ y = 1 ∨ y = 2 := by omega
    have g33 := fun (M : List Tk) (h : valF M = 0) (g : Int) => c33 M (ml M h) g now
    rcases hcase with rfl | rfl | rfl
    · have f25 := c25 m (ml m a4) 6 u1 now t1
      have v1 := stA_val (g := 6) (u := u1) (n := now) (t := t1) a4
      have i1 := (stA_mem (L := m) (g := 6) (u := u1) (n := now) (t := t1) (7, [122, 111, 101], 30 + T) (show (7 : Int) ≠ 6 by decide)).2 a5
      obtain ⟨m1, hm1⟩ : ∃ m1, m1 = stA m 6 u1 now t1 := ⟨_, rfl⟩
      have v2 := stR_val (g := 6) (u := u2) (n := now) v1
      have i2 := (stR_mem (L := stA m 6 u1 now t1) (g := 6) (u := u2) (n := now) (7, [122, 111, 101], 30 + T) (show (7 : Int) ≠ 6 by decide)).2 i1
      have f38 := c38 _ (ml _ v1) 6 u2 now
      have hsame : ∀ g : Int, g ≠ 6 → hoF (stR (stA m 6 u1 now t1) 6 u2 now) g now = hoF m g now := fun g hg => ho_same v2 a4 (fun t ht => by rw [stR_mem t (by omega), stA_mem t (by omega)])
      obtain ⟨m', p', r1, r2, ih⟩ := l11 l T h3 h22 k (p + 1 + 1 + 1 + 1) (now + 1) _ (by omega) (by omega) (by omega) v2 i2
      refine ⟨m', p', r1, r2, ?_⟩
      have k7 := g33 _ v2 7
      rw [ho_zoe v2 i2 hlt] at k7
      have kz := g33 _ v2 9
      rw [hsame 9 (by decide)] at kz
      have k28 := c28 (stR (stA m 6 u1 now t1) 6 u2 now)
      rw [v2] at k28
      have kb := g33 m a4 9
      generalize hoF m 9 now = hb9 at kz kb
      rw [Y_loop (L := L11_0) rfl]
      by_cases he : acqE m 6 u1 now t1 = 0
      · have s1 : stA m 6 u1 now t1 = acqL m 6 u1 now t1 := by unfold stA; rw [if_pos he]
        have kx := g33 _ (acq_val he) 6
        have kn : (hoF (acqL m 6 u1 now t1) 6 now == []) = false := beq_f (acq_ho he)
        rw [s1] at f38 k7 kz k28 ih
        by_cases hr : relE (acqL m 6 u1 now t1) 6 u2 now = 0
        · have s2 : stR (acqL m 6 u1 now t1) 6 u2 now = relL (acqL m 6 u1 now t1) 6 u2 now := by unfold stR; rw [if_pos hr]
          rw [s2] at k7 kz k28 ih
          simp only [go_sem, List.set_cons_zero, List.set_cons_succ, List.take_succ_cons, and_false, false_and, and_true, true_and, Nat.reduceAdd, Nat.reduceEqDiff, Nat.reduceLT, ↓reduceIte, decide_eq_true_eq, List.take_nil, beq_self_eq_true, bne_self_eq_false, List.take_zero, List.map_cons, List.map_nil, Int.reduceNeg, Bool.and_true, and_self, Bool.true_and, Bool.and_self, ne_eq, not_true_eq_false, decide_false, decide_true, Bool.false_eq_true, Nat.reduceAdd, Option.map_some, Option.map_none, Option.bind_some, Option.bind_none, List.length_nil, List.length_cons, List.append_nil, Bool.and_false, w64, demV_sl, Int.cast_ofNat_Int, Int.reduceLT, Int.reduceAdd, Int.reduceSub, Int.reduceLE, Int.reduceEq, Int.reduceToNat, Int.toNat_natCast, Nat.reduceSub, Nat.reduceMul, Nat.reduceLeDiff, Nat.zero_add, Int.zero_add, not_false_eq_true, Bool.not_true, Bool.not_false, Bool.false_and, List.cons_append, List.nil_append, hw, hw1, hlt, f1, f2, f3, f4, ← ht1, hw2, kb, f25, he, kx, kn, f38, hr, k7, kz, k28, bz]
          exact ih
        · have s2 : stR (acqL m 6 u1 now t1) 6 u2 now = (acqL m 6 u1 now t1) := by unfold stR; rw [if_neg hr]
          have hr' : (relE (acqL m 6 u1 now t1) 6 u2 now = 0) = False := eq_false hr
          rw [s2] at k7 kz k28 ih
          simp only [go_sem, List.set_cons_zero, List.set_cons_succ, List.take_succ_cons, and_false, false_and, and_true, true_and, Nat.reduceAdd, Nat.reduceEqDiff, Nat.reduceLT, ↓reduceIte, decide_eq_true_eq, List.take_nil, beq_self_eq_true, bne_self_eq_false, List.take_zero, List.map_cons, List.map_nil, Int.reduceNeg, Bool.and_true, and_self, Bool.true_and, Bool.and_self, ne_eq, not_true_eq_false, decide_false, decide_true, Bool.false_eq_true, Nat.reduceAdd, Option.map_some, Option.map_none, Option.bind_some, Option.bind_none, List.length_nil, List.length_cons, List.append_nil, Bool.and_false, w64, demV_sl, Int.cast_ofNat_Int, Int.reduceLT, Int.reduceAdd, Int.reduceSub, Int.reduceLE, Int.reduceEq, Int.reduceToNat, Int.toNat_natCast, Nat.reduceSub, Nat.reduceMul, Nat.reduceLeDiff, Nat.zero_add, Int.zero_add, not_false_eq_true, Bool.not_true, Bool.not_false, Bool.false_and, List.cons_append, List.nil_append, hw, hw1, hlt, f1, f2, f3, f4, ← ht1, hw2, kb, f25, he, kx, kn, f38, hr', k7, kz, k28, bz]
          exact ih
      · have s1 : stA m 6 u1 now t1 = m := by unfold stA; rw [if_neg he]
        have he' : (acqE m 6 u1 now t1 = 0) = False := eq_false he
        rw [s1] at f38 k7 kz k28 ih
        by_cases hr : relE m 6 u2 now = 0
        · have s2 : stR m 6 u2 now = relL m 6 u2 now := by unfold stR; rw [if_pos hr]
          rw [s2] at k7 kz k28 ih
          simp only [go_sem, List.set_cons_zero, List.set_cons_succ, List.take_succ_cons, and_false, false_and, and_true, true_and, Nat.reduceAdd, Nat.reduceEqDiff, Nat.reduceLT, ↓reduceIte, decide_eq_true_eq, List.take_nil, beq_self_eq_true, bne_self_eq_false, List.take_zero, List.map_cons, List.map_nil, Int.reduceNeg, Bool.and_true, and_self, Bool.true_and, Bool.and_self, ne_eq, not_true_eq_false, decide_false, decide_true, Bool.false_eq_true, Nat.reduceAdd, Option.map_some, Option.map_none, Option.bind_some, Option.bind_none, List.length_nil, List.length_cons, List.append_nil, Bool.and_false, w64, demV_sl, Int.cast_ofNat_Int, Int.reduceLT, Int.reduceAdd, Int.reduceSub, Int.reduceLE, Int.reduceEq, Int.reduceToNat, Int.toNat_natCast, Nat.reduceSub, Nat.reduceMul, Nat.reduceLeDiff, Nat.zero_add, Int.zero_add, not_false_eq_true, Bool.not_true, Bool.not_false, Bool.false_and, List.cons_append, List.nil_append, hw, hw1, hlt, f1, f2, f3, f4, ← ht1, hw2, kb, f25, he', f38, hr, k7, kz, k28, bz]
          exact ih
        · have s2 : stR m 6 u2 now = m := by unfold stR; rw [if_neg hr]
          have hr' : (relE m 6 u2 now = 0) = False := eq_false hr
          rw [s2] at k7 kz k28 ih
          simp only [go_sem, List.set_cons_zero, List.set_cons_succ, List.take_succ_cons, and_false, false_and, and_true, true_and, Nat.reduceAdd, Nat.reduceEqDiff, Nat.reduceLT, ↓reduceIte, decide_eq_true_eq, List.take_nil, beq_self_eq_true, bne_self_eq_false, List.take_zero, List.map_cons, List.map_nil, Int.reduceNeg, Bool.and_true, and_self, Bool.true_and, Bool.and_self, ne_eq, not_true_eq_false, decide_false, decide_true, Bool.false_eq_true, Nat.reduceAdd, Option.map_some, Option.map_none, Option.bind_some, Option.bind_none, List.length_nil, List.length_cons, List.append_nil, Bool.and_false, w64, demV_sl, Int.cast_ofNat_Int, Int.reduceLT, Int.reduceAdd, Int.reduceSub, Int.reduceLE, Int.reduceEq, Int.reduceToNat, Int.toNat_natCast, Nat.reduceSub, Nat.reduceMul, Nat.reduceLeDiff, Nat.zero_add, Int.zero_add, not_false_eq_true, Bool.not_true, Bool.not_false, Bool.false_and, List.cons_append, List.nil_append, hw, hw1, hlt, f1, f2, f3, f4, ← ht1, hw2, kb, f25, he', f38, hr', k7, kz, k28, bz]
          exact ih
    · have f25 := c25 m (ml m a4) 7 u1 now t1
      have f38 := c38 m (ml m a4) 7 u2 now
      have he : acqE m 7 u1 now t1 ≠ 0 := by
        intro h
        obtain ⟨_, _, _, _, _, _, q, _⟩ := acqE_ok h
        rw [hz] at q
        rcases q with q | q
        · exact absurd q (by decide)
        · exact n2 q.symm
      have hr : relE m 7 u2 now ≠ 0 := by
        unfold relE
        rw [if_neg (fun q => q a4), hz, if_neg (by decide), if_neg (fun q => n3 q.symm)]
        decide
      have he' : (acqE m 7 u1 now t1 = 0) = False := eq_false he
      have hr' : (relE m 7 u2 now = 0) = False := eq_false hr
      obtain ⟨m', p', r1, r2, ih⟩ := l11 l T h3 h22 k (p + 1 + 1 + 1 + 1) (now + 1) m (by omega) (by omega) (by omega) a4 a5
      refine ⟨m', p', r1, r2, ?_⟩
      have k7 := g33 m a4 7
      rw [hz] at k7
      have kb := g33 m a4 8
      have k28 := c28 m
      rw [a4] at k28
      rw [Y_loop (L := L11_0) rfl]
      simp only [go_sem, List.set_cons_zero, List.set_cons_succ, List.take_succ_cons, and_false, false_and, and_true, true_and, Nat.reduceAdd, Nat.reduceEqDiff, Nat.reduceLT, ↓reduceIte, decide_eq_true_eq, List.take_nil, beq_self_eq_true, bne_self_eq_false, List.take_zero, List.map_cons, List.map_nil, Int.reduceNeg, Bool.and_true, and_self, Bool.true_and, Bool.and_self, ne_eq, not_true_eq_false, decide_false, decide_true, Bool.false_eq_true, Nat.reduceAdd, Option.map_some, Option.map_none, Option.bind_some, Option.bind_none, List.length_nil, List.length_cons, List.append_nil, Bool.and_false, w64, demV_sl, Int.cast_ofNat_Int, Int.reduceLT, Int.reduceAdd, Int.reduceSub, Int.reduceLE, Int.reduceEq, Int.reduceToNat, Int.toNat_natCast, Nat.reduceSub, Nat.reduceMul, Nat.reduceLeDiff, Nat.zero_add, Int.zero_add, not_false_eq_true, Bool.not_true, Bool.not_false, Bool.false_and, List.cons_append, List.nil_append, hw, hw1, hlt, f1, f2, f3, f4, ← ht1, hw2, kb, f25, he', f38, hr', k7, k28, bz]
      exact ih
    · have f25 := c25 m (ml m a4) 8 u1 now t1
      have v1 := stA_val (g := 8) (u := u1) (n := now) (t := t1) a4
      have i1 := (stA_mem (L := m) (g := 8) (u := u1) (n := now) (t := t1) (7, [122, 111, 101], 30 + T) (show (7 : Int) ≠ 8 by decide)).2 a5
      obtain ⟨m1, hm1⟩ : ∃ m1, m1 = stA m 8 u1 now t1 := ⟨_, rfl⟩
      have v2 := stR_val (g := 8) (u := u2) (n := now) v1
      have i2 := (stR_mem (L := stA m 8 u1 now t1) (g := 8) (u := u2) (n := now) (7, [122, 111, 101], 30 + T) (show (7 : Int) ≠ 8 by decide)).2 i1
      have f38 := c38 _ (ml _ v1) 8 u2 now
      have hsame : ∀ g : Int, g ≠ 8 → hoF (stR (stA m 8 u1 now t1) 8 u2 now) g now = hoF m g now := fun g hg => ho_same v2 a4 (fun t ht => by rw [stR_mem t (by omega), stA_mem t (by omega)])
      obtain ⟨m', p', r1, r2, ih⟩ := l11 l T h3 h22 k (p + 1 + 1 + 1 + 1) (now + 1) _ (by omega) (by omega) (by omega) v2 i2
      refine ⟨m', p', r1, r2, ?_⟩
      have k7 := g33 _ v2 7
      rw [ho_zoe v2 i2 hlt] at k7
      have k28 := c28 (stR (stA m 8 u1 now t1) 8 u2 now)
      rw [v2] at k28
      have kb := g33 m a4 7
      rw [hz] at kb
      rw [Y_loop (L := L11_0) rfl]
      by_cases he : acqE m 8 u1 now t1 = 0
      · have s1 : stA m 8 u1 now t1 = acqL m 8 u1 now t1 := by unfold stA; rw [if_pos he]
        have kx := g33 _ (acq_val he) 8
        have kn : (hoF (acqL m 8 u1 now t1) 8 now == []) = false := beq_f (acq_ho he)
        rw [s1] at f38 k7 k28 ih
        by_cases hr : relE (acqL m 8 u1 now t1) 8 u2 now = 0
        · have s2 : stR (acqL m 8 u1 now t1) 8 u2 now = relL (acqL m 8 u1 now t1) 8 u2 now := by unfold stR; rw [if_pos hr]
          rw [s2] at k7 k28 ih
          simp only [go_sem, List.set_cons_zero, List.set_cons_succ, List.take_succ_cons, and_false, false_and, and_true, true_and, Nat.reduceAdd, Nat.reduceEqDiff, Nat.reduceLT, ↓reduceIte, decide_eq_true_eq, List.take_nil, beq_self_eq_true, bne_self_eq_false, List.take_zero, List.map_cons, List.map_nil, Int.reduceNeg, Bool.and_true, and_self, Bool.true_and, Bool.and_self, ne_eq, not_true_eq_false, decide_false, decide_true, Bool.false_eq_true, Nat.reduceAdd, Option.map_some, Option.map_none, Option.bind_some, Option.bind_none, List.length_nil, List.length_cons, List.append_nil, Bool.and_false, w64, demV_sl, Int.cast_ofNat_Int, Int.reduceLT, Int.reduceAdd, Int.reduceSub, Int.reduceLE, Int.reduceEq, Int.reduceToNat, Int.toNat_natCast, Nat.reduceSub, Nat.reduceMul, Nat.reduceLeDiff, Nat.zero_add, Int.zero_add, not_false_eq_true, Bool.not_true, Bool.not_false, Bool.false_and, List.cons_append, List.nil_append, hw, hw1, hlt, f1, f2, f3, f4, ← ht1, hw2, kb, f25, he, kx, kn, f38, hr, k7, k28, bz]
          exact ih
        · have s2 : stR (acqL m 8 u1 now t1) 8 u2 now = (acqL m 8 u1 now t1) := by unfold stR; rw [if_neg hr]
          have hr' : (relE (acqL m 8 u1 now t1) 8 u2 now = 0) = False := eq_false hr
          rw [s2] at k7 k28 ih
          simp only [go_sem, List.set_cons_zero, List.set_cons_succ, List.take_succ_cons, and_false, false_and, and_true, true_and, Nat.reduceAdd, Nat.reduceEqDiff, Nat.reduceLT, ↓reduceIte, decide_eq_true_eq, List.take_nil, beq_self_eq_true, bne_self_eq_false, List.take_zero, List.map_cons, List.map_nil, Int.reduceNeg, Bool.and_true, and_self, Bool.true_and, Bool.and_self, ne_eq, not_true_eq_false, decide_false, decide_true, Bool.false_eq_true, Nat.reduceAdd, Option.map_some, Option.map_none, Option.bind_some, Option.bind_none, List.length_nil, List.length_cons, List.append_nil, Bool.and_false, w64, demV_sl, Int.cast_ofNat_Int, Int.reduceLT, Int.reduceAdd, Int.reduceSub, Int.reduceLE, Int.reduceEq, Int.reduceToNat, Int.toNat_natCast, Nat.reduceSub, Nat.reduceMul, Nat.reduceLeDiff, Nat.zero_add, Int.zero_add, not_false_eq_true, Bool.not_true, Bool.not_false, Bool.false_and, List.cons_append, List.nil_append, hw, hw1, hlt, f1, f2, f3, f4, ← ht1, hw2, kb, f25, he, kx, kn, f38, hr', k7, k28, bz]
          exact ih
      · have s1 : stA m 8 u1 now t1 = m := by unfold stA; rw [if_neg he]
        have he' : (acqE m 8 u1 now t1 = 0) = False := eq_false he
        rw [s1] at f38 k7 k28 ih
        by_cases hr : relE m 8 u2 now = 0
        · have s2 : stR m 8 u2 now = relL m 8 u2 now := by unfold stR; rw [if_pos hr]
          rw [s2] at k7 k28 ih
          simp only [go_sem, List.set_cons_zero, List.set_cons_succ, List.take_succ_cons, and_false, false_and, and_true, true_and, Nat.reduceAdd, Nat.reduceEqDiff, Nat.reduceLT, ↓reduceIte, decide_eq_true_eq, List.take_nil, beq_self_eq_true, bne_self_eq_false, List.take_zero, List.map_cons, List.map_nil, Int.reduceNeg, Bool.and_true, and_self, Bool.true_and, Bool.and_self, ne_eq, not_true_eq_false, decide_false, decide_true, Bool.false_eq_true, Nat.reduceAdd, Option.map_some, Option.map_none, Option.bind_some, Option.bind_none, List.length_nil, List.length_cons, List.append_nil, Bool.and_false, w64, demV_sl, Int.cast_ofNat_Int, Int.reduceLT, Int.reduceAdd, Int.reduceSub, Int.reduceLE, Int.reduceEq, Int.reduceToNat, Int.toNat_natCast, Nat.reduceSub, Nat.reduceMul, Nat.reduceLeDiff, Nat.zero_add, Int.zero_add, not_false_eq_true, Bool.not_true, Bool.not_false, Bool.false_and, List.cons_append, List.nil_append, hw, hw1, hlt, f1, f2, f3, f4, ← ht1, hw2, kb, f25, he', f38, hr, k7, k28, bz]
          exact ih
        · have s2 : stR m 8 u2 now = m := by unfold stR; rw [if_neg hr]
          have hr' : (relE m 8 u2 now = 0) = False := eq_false hr
          rw [s2] at k7 k28 ih
          simp only [go_sem, List.set_cons_zero, List.set_cons_succ, List.take_succ_cons, and_false, false_and, and_true, true_and, Nat.reduceAdd, Nat.reduceEqDiff, Nat.reduceLT, ↓reduceIte, decide_eq_true_eq, List.take_nil, beq_self_eq_true, bne_self_eq_false, List.take_zero, List.map_cons, List.map_nil, Int.reduceNeg, Bool.and_true, and_self, Bool.true_and, Bool.and_self, ne_eq, not_true_eq_false, decide_false, decide_true, Bool.false_eq_true, Nat.reduceAdd, Option.map_some, Option.map_none, Option.bind_some, Option.bind_none, List.length_nil, List.length_cons, List.append_nil, Bool.and_false, w64, demV_sl, Int.cast_ofNat_Int, Int.reduceLT, Int.reduceAdd, Int.reduceSub, Int.reduceLE, Int.reduceEq, Int.reduceToNat, Int.toNat_natCast, Nat.reduceSub, Nat.reduceMul, Nat.reduceLeDiff, Nat.zero_add, Int.zero_add, not_false_eq_true, Bool.not_true, Bool.not_false, Bool.false_and, List.cons_append, List.nil_append, hw, hw1, hlt, f1, f2, f3, f4, ← ht1, hw2, kb, f25, he', f38, hr', k7, k28, bz]
          exact ih
theorem lsG_end (l : List Int) : ∀ (k p : Nat) (n : Int), ∀ t ∈ lsG l k p n, t.2.2 ≤ 20
  | 0, _, _, t, h => by simp [lsG] at h
  | k + 1, p, n, t, h => by
    have b2 := nxt_bd l (p + 2) 20 (by omega)
    simp only [lsG] at h
    rcases List.mem_cons.1 h with rfl | h
    · simp only []; omega
    · exact lsG_end l k _ _ t h
theorem hoL_old {g n : Int} : ∀ {L : List Tk}, (∀ t ∈ L, t.2.2 ≤ n) → hoL g n L = none
  | [], _ => rfl
  | t :: L, h => by
    simp only [hoL]
    have := h t (by simp)
    rw [if_neg (show ¬ n < t.2.2 by omega)]
    rw [hoL_old (L := L) (fun s hs => h s (by simp [hs]))]
    split <;> rfl
theorem c11 (l : List Int) (t : Int) : G0 11 [.sl .no 1 (ints l), .int .i64 t] [] = some (.bool true, []) := by
  refine contract F11 rfl rfl rfl ?_
  cases h1 : lng l with
  | true => simp only [F11, go_sem, List.set_cons_zero, List.set_cons_succ, List.take_succ_cons, and_false, false_and, and_true, true_and, Nat.reduceAdd, Nat.reduceEqDiff, Nat.reduceLT, ↓reduceIte, decide_eq_true_eq, List.take_nil, beq_self_eq_true, bne_self_eq_false, List.take_zero, List.map_cons, List.map_nil, Int.reduceNeg, Bool.and_true, and_self, Bool.true_and, Bool.and_self, ne_eq, not_true_eq_false, decide_false, decide_true, Bool.false_eq_true, Nat.reduceAdd, Option.map_some, Option.map_none, Option.bind_some, Option.bind_none, List.length_nil, List.length_cons, List.append_nil, Bool.and_false, w64, demV_sl, Int.cast_ofNat_Int, Int.reduceLT, Int.reduceAdd, Int.reduceSub, Int.reduceLE, Int.reduceEq, Int.reduceToNat, Int.toNat_natCast, Nat.reduceSub, Nat.reduceMul, Nat.reduceLeDiff, Nat.zero_add, Int.zero_add, not_false_eq_true, Bool.not_true, Bool.not_false, Bool.false_and, List.cons_append, List.nil_append, mks1 (.sl .no 1 (ints l)) 1 (ints l) rfl, c31, h1, c30]
  | false =>
    have b0 := Int.emod_nonneg t (show (20 : Int) ≠ 0 by decide)
    have b1 := Int.emod_lt_of_pos t (show (0 : Int) < 20 by decide)
    have h24 := c24 t 20 (by decide) (by decide)
    obtain ⟨T, hT⟩ : ∃ T, T = 3 + t % 20 := ⟨_, rfl⟩
    have hw : IntKind.i64.wrap (3 + t % 20) = T := by rw [w64 (by omega) (by omega)]; exact hT.symm
    have hw2 : IntKind.i64.wrap (30 + T) = 30 + T := w64 (by omega) (by omega)
    have hl := lsF_len l
    obtain ⟨g1, g2⟩ := lsF_good l
    have hv : valF (lsF l) = 0 := val_list _ (by omega) g1 g2
    have hho : hoF (lsF l) 7 30 = [] := by
      rw [hoF_L, hoL_old (fun t ht => by have := lsG_end l _ _ _ t ht; omega)]
      rfl
    have hE : acqE (lsF l) 7 [122, 111, 101] 30 T = 0 := by
      unfold acqE
      rw [if_neg (fun q => q hv), if_neg (by decide), if_neg (by decide), if_neg (by decide), if_neg (by omega), if_neg (by omega), if_neg (by decide), if_neg (fun q => q.1 hho), if_neg (by omega)]
    have hA := acq_val hE
    have hm := (acqL_mem hE (7, [122, 111, 101], 30 + T)).2 (.inr (by rw [hho, show (([] : List UInt8) == [122, 111, 101]) = false from by decide, mxF_f]))
    have f25 := c25 (lsF l) (by omega) 7 [122, 111, 101] 30 T
    rw [hE] at f25
    obtain ⟨m', p', r1, r2, x⟩ := l11 l T (by omega) (by omega) T.toNat 0 30 _ (by omega) (by omega) (by omega) hA hm
    have hlen : m'.length ≤ 1000000 := by have := (val_pw r1).1; omega
    have f33 := c33 m' hlen 7 (30 + T)
    have he := ho_one (n := 30 + T) r1 r2
    simp only [] at he
    rw [if_neg (Int.lt_irrefl _)] at he
    rw [he] at f33
    simp only [F11, go_sem, List.set_cons_zero, List.set_cons_succ, List.take_succ_cons, and_false, false_and, and_true, true_and, Nat.reduceAdd, Nat.reduceEqDiff, Nat.reduceLT, ↓reduceIte, decide_eq_true_eq, List.take_nil, beq_self_eq_true, bne_self_eq_false, List.take_zero, List.map_cons, List.map_nil, Int.reduceNeg, Bool.and_true, and_self, Bool.true_and, Bool.and_self, ne_eq, not_true_eq_false, decide_false, decide_true, Bool.false_eq_true, Nat.reduceAdd, Option.map_some, Option.map_none, Option.bind_some, Option.bind_none, List.length_nil, List.length_cons, List.append_nil, Bool.and_false, w64, demV_sl, Int.cast_ofNat_Int, Int.reduceLT, Int.reduceAdd, Int.reduceSub, Int.reduceLE, Int.reduceEq, Int.reduceToNat, Int.toNat_natCast, Nat.reduceSub, Nat.reduceMul, Nat.reduceLeDiff, Nat.zero_add, Int.zero_add, not_false_eq_true, Bool.not_true, Bool.not_false, Bool.false_and, List.cons_append, List.nil_append, mks1 (.sl .no 1 (ints l)) 1 (ints l) rfl, c31, h1, c30, c35, h24, hw, c32, f25, x, hw2, f33, n4]
end Go.Av
