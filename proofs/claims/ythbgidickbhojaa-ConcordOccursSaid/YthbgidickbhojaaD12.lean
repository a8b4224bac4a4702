/- A part of the proof: D12. No conditions. -/
import Derived.Test.YthbgidickbhojaaD10
set_option linter.unusedSimpArgs false
set_option linter.unusedVariables false
namespace Go.Av
set_option linter.unusedSimpArgs false
set_option maxHeartbeats 4000000
theorem bne_ne_s {s t : List UInt8} (h : s ≠ t) : (s != t) = true := by simp [h]
theorem l49g (a b : List (List UInt8)) (hab : a.length = b.length) (ha : a.length ≤ 1000000000) : ∀ (k i : Nat), i + k = a.length →
    (a.drop i = b.drop i → ∃ l', execX G0 L49_0 (ST [(0, .sl .no 1 (strs a)), (1, .sl .no 1 (strs b)), (10, .bool false), (12, .int .i64 a.length), (13, .int .i64 i)] [] []) = some (.ex 0, ST l' [] [])) ∧
    (a.drop i ≠ b.drop i → ∃ l', execX G0 L49_0 (ST [(0, .sl .no 1 (strs a)), (1, .sl .no 1 (strs b)), (10, .bool false), (12, .int .i64 a.length), (13, .int .i64 i)] [] []) = some (.ret, ST l' [] []) ∧ look .any l' 4 = .bool false)
  | 0, i, h => by
    have : i = a.length := by omega
    subst this
    refine ⟨fun _ => ?_, fun h => absurd (by simp [hab]) h⟩
    refine Exists.intro ?_ ?_
    rotate_left 1
    · rw [Y_loop (L := L49_0) rfl]
      simp only [go_sem, List.set_cons_zero, List.set_cons_succ, List.take_succ_cons, and_false, false_and, and_true, true_and, Nat.reduceAdd, Nat.reduceEqDiff, Nat.reduceLT, ↓reduceIte, decide_eq_true_eq, List.take_nil, beq_self_eq_true, bne_self_eq_false, List.take_zero, List.map_cons, List.map_nil, Int.reduceNeg, Bool.and_true, and_self, Bool.true_and, Bool.and_self, ne_eq, not_true_eq_false, decide_false, decide_true, Bool.false_eq_true, Nat.reduceAdd, Option.map_some, Option.map_none, Option.bind_some, Option.bind_none, List.length_nil, List.length_cons, List.append_nil, Bool.and_false, w64, demV_sl, Int.cast_ofNat_Int, Int.reduceLT, Int.reduceAdd, Int.reduceSub, Int.reduceLE, Int.reduceEq, Int.reduceToNat, Int.toNat_natCast, Nat.reduceSub, Nat.reduceMul, Nat.reduceLeDiff, Nat.zero_add, Int.zero_add, not_false_eq_true, Bool.not_true, Bool.not_false, Bool.false_and, List.cons_append, List.nil_append, Int.lt_irrefl]
      rfl
  | k + 1, i, h => by
    have h4 : (i : Int) < (a.length : Int) := by omega
    have h0 : (0 : Int) ≤ (i : Int) := by omega
    have hw : IntKind.i64.wrap ((i : Int) + 1) = ((i + 1 : Nat) : Int) := by rw [w64 (by omega) (by omega)]; rfl
    have hi : i < a.length := by omega
    have hj : i < b.length := by omega
    have hr := strs_at (List.getElem?_eq_getElem hi)
    have hr2 := strs_at (List.getElem?_eq_getElem hj)
    have da : a.drop i = a[i] :: a.drop (i + 1) := List.drop_eq_getElem_cons hi
    have db : b.drop i = b[i] :: b.drop (i + 1) := List.drop_eq_getElem_cons hj
    have ih := l49g a b hab ha k (i + 1) (by omega)
    rw [da, db]
    by_cases he : a[i] = b[i]
    · rw [he] at hr
      constructor
      · intro hd
        obtain ⟨l', e1⟩ := ih.1 (List.cons.inj hd).2
        refine ⟨l', ?_⟩
        rw [Y_loop (L := L49_0) rfl]
        simp only [go_sem, List.set_cons_zero, List.set_cons_succ, List.take_succ_cons, and_false, false_and, and_true, true_and, Nat.reduceAdd, Nat.reduceEqDiff, Nat.reduceLT, ↓reduceIte, decide_eq_true_eq, List.take_nil, beq_self_eq_true, bne_self_eq_false, List.take_zero, List.map_cons, List.map_nil, Int.reduceNeg, Bool.and_true, and_self, Bool.true_and, Bool.and_self, ne_eq, not_true_eq_false, decide_false, decide_true, Bool.false_eq_true, Nat.reduceAdd, Option.map_some, Option.map_none, Option.bind_some, Option.bind_none, List.length_nil, List.length_cons, List.append_nil, Bool.and_false, w64, demV_sl, Int.cast_ofNat_Int, Int.reduceLT, Int.reduceAdd, Int.reduceSub, Int.reduceLE, Int.reduceEq, Int.reduceToNat, Int.toNat_natCast, Nat.reduceSub, Nat.reduceMul, Nat.reduceLeDiff, Nat.zero_add, Int.zero_add, not_false_eq_true, Bool.not_true, Bool.not_false, Bool.false_and, List.cons_append, List.nil_append, h4, h0, hw, hr, hr2, bne_self_s]
        exact e1
      · intro hd
        obtain ⟨l', e1, e2⟩ := ih.2 (fun h => hd (by rw [he, h]))
        refine ⟨l', ?_, e2⟩
        rw [Y_loop (L := L49_0) rfl]
        simp only [go_sem, List.set_cons_zero, List.set_cons_succ, List.take_succ_cons, and_false, false_and, and_true, true_and, Nat.reduceAdd, Nat.reduceEqDiff, Nat.reduceLT, ↓reduceIte, decide_eq_true_eq, List.take_nil, beq_self_eq_true, bne_self_eq_false, List.take_zero, List.map_cons, List.map_nil, Int.reduceNeg, Bool.and_true, and_self, Bool.true_and, Bool.and_self, ne_eq, not_true_eq_false, decide_false, decide_true, Bool.false_eq_true, Nat.reduceAdd, Option.map_some, Option.map_none, Option.bind_some, Option.bind_none, List.length_nil, List.length_cons, List.append_nil, Bool.and_false, w64, demV_sl, Int.cast_ofNat_Int, Int.reduceLT, Int.reduceAdd, Int.reduceSub, Int.reduceLE, Int.reduceEq, Int.reduceToNat, Int.toNat_natCast, Nat.reduceSub, Nat.reduceMul, Nat.reduceLeDiff, Nat.zero_add, Int.zero_add, not_false_eq_true, Bool.not_true, Bool.not_false, Bool.false_and, List.cons_append, List.nil_append, h4, h0, hw, hr, hr2, bne_self_s]
        exact e1
    · refine ⟨fun hd => absurd (List.cons.inj hd).1 he, fun _ => ?_⟩
      refine Exists.intro ?_ (And.intro ?_ ?_)
      rotate_left 1
      · rw [Y_loop (L := L49_0) rfl]
        simp only [go_sem, List.set_cons_zero, List.set_cons_succ, List.take_succ_cons, and_false, false_and, and_true, true_and, Nat.reduceAdd, Nat.reduceEqDiff, Nat.reduceLT, ↓reduceIte, decide_eq_true_eq, List.take_nil, beq_self_eq_true, bne_self_eq_false, List.take_zero, List.map_cons, List.map_nil, Int.reduceNeg, Bool.and_true, and_self, Bool.true_and, Bool.and_self, ne_eq, not_true_eq_false, decide_false, decide_true, Bool.false_eq_true, Nat.reduceAdd, Option.map_some, Option.map_none, Option.bind_some, Option.bind_none, List.length_nil, List.length_cons, List.append_nil, Bool.and_false, w64, demV_sl, Int.cast_ofNat_Int, Int.reduceLT, Int.reduceAdd, Int.reduceSub, Int.reduceLE, Int.reduceEq, Int.reduceToNat, Int.toNat_natCast, Nat.reduceSub, Nat.reduceMul, Nat.reduceLeDiff, Nat.zero_add, Int.zero_add, not_false_eq_true, Bool.not_true, Bool.not_false, Bool.false_and, List.cons_append, List.nil_append, h4, h0, hw, hr, hr2, bne_ne_s he]
        rfl
      · rfl
theorem c49g (a b : List (List UInt8)) (hab : a.length = b.length) (ha : a.length ≤ 1000000000) : G0 49 [.sl .no 1 (strs a), .sl .no 1 (strs b)] [] = some (.bool (decide (a = b)), []) := by
  by_cases h : a = b
  · subst h
    rw [c49 a ha]
    simp
  · refine contract F49 rfl rfl rfl ?_
    have hx := l49g a b hab ha a.length 0 (by omega)
    rw [List.drop_zero, List.drop_zero] at hx
    obtain ⟨l', e, e2⟩ := hx.2 h
    rw [hab] at e
    simp only [go_sem, List.set_cons_zero, List.set_cons_succ, List.take_succ_cons, and_false, false_and, and_true, true_and, Nat.reduceAdd, Nat.reduceEqDiff, Nat.reduceLT, ↓reduceIte, decide_eq_true_eq, List.take_nil, beq_self_eq_true, bne_self_eq_false, List.take_zero, List.map_cons, List.map_nil, Int.reduceNeg, Bool.and_true, and_self, Bool.true_and, Bool.and_self, ne_eq, not_true_eq_false, decide_false, decide_true, Bool.false_eq_true, Nat.reduceAdd, Option.map_some, Option.map_none, Option.bind_some, Option.bind_none, List.length_nil, List.length_cons, List.append_nil, Bool.and_false, w64, demV_sl, Int.cast_ofNat_Int, Int.reduceLT, Int.reduceAdd, Int.reduceSub, Int.reduceLE, Int.reduceEq, Int.reduceToNat, Int.toNat_natCast, Nat.reduceSub, Nat.reduceMul, Nat.reduceLeDiff, Nat.zero_add, Int.zero_add, not_false_eq_true, Bool.not_true, Bool.not_false, Bool.false_and, List.cons_append, List.nil_append] at e
    simp only [F49, go_sem, List.set_cons_zero, List.set_cons_succ, List.take_succ_cons, and_false, false_and, and_true, true_and, Nat.reduceAdd, Nat.reduceEqDiff, Nat.reduceLT, ↓reduceIte, decide_eq_true_eq, List.take_nil, beq_self_eq_true, bne_self_eq_false, List.take_zero, List.map_cons, List.map_nil, Int.reduceNeg, Bool.and_true, and_self, Bool.true_and, Bool.and_self, ne_eq, not_true_eq_false, decide_false, decide_true, Bool.false_eq_true, Nat.reduceAdd, Option.map_some, Option.map_none, Option.bind_some, Option.bind_none, List.length_nil, List.length_cons, List.append_nil, Bool.and_false, w64, demV_sl, Int.cast_ofNat_Int, Int.reduceLT, Int.reduceAdd, Int.reduceSub, Int.reduceLE, Int.reduceEq, Int.reduceToNat, Int.toNat_natCast, Nat.reduceSub, Nat.reduceMul, Nat.reduceLeDiff, Nat.zero_add, Int.zero_add, not_false_eq_true, Bool.not_true, Bool.not_false, Bool.false_and, List.cons_append, List.nil_append, strs_len, hab, e, e2, h, look_setl, look_kill]
def plc : Nat → List Tk → List Int
  | _, [] => []
  | p, t :: T => if cnt t.1 = true then (p : Int) :: plc (p + 1) T else plc (p + 1) T
theorem plc_len : ∀ (T : List Tk) (p : Nat), (plc p T).length = (phr T).length
  | [], _ => rfl
  | t :: T, p => by
    have ih := plc_len T (p + 1)
    by_cases h : cnt t.1 = true
    · rw [phr_yes h]; simp [plc, h, ih]
    · rw [phr_no (by simpa using h)]; simp [plc, h, ih]
theorem ints_one (x : Int) : [[AV.int .i64 x]] = ints [x] := rfl
theorem ints_app (x y : List Int) : ints x ++ ints y = ints (x ++ y) := by simp [ints]
theorem l20a (w : List (List UInt8)) (T : List Tk) (hT : T.length ≤ 1000000) (hT2 : ∀ t ∈ T, t.2.1.length ≤ 1000000) : ∀ (k i : Nat) (md : Own) (P : List Int) (K : List (List UInt8)), md ≠ .no → i + k = T.length → P.length ≤ i → K.length ≤ i →
    ∃ md', md' ≠ .no ∧ execX G0 L20_0 (ST [(0, .sl .no 1 (strs w)), (5, .sl md 1 (ints P)), (6, .sl md 1 (strs K)), (13, .bool false), (14, .sl .no 3 (tks T)), (15, .int .i64 T.length), (16, .int .i64 i)] [] []) = some (.ex 0, ST [(0, .sl .no 1 (strs w)), (5, .sl md' 1 (ints (P ++ plc i (T.drop i)))), (6, .sl md' 1 (strs (K ++ phr (T.drop i)))), (13, .bool false), (14, .sl .no 3 (tks T)), (15, .int .i64 T.length), (16, .int .i64 T.length), (17, .bool false)] [] [])
  | 0, i, md, P, K, hm, h1, h2, h2' => by
    have : i = T.length := by omega
    subst this
    refine ⟨md, hm, ?_⟩
    rw [Y_loop (L := L20_0) rfl]
    simp only [go_sem, List.set_cons_zero, List.set_cons_succ, List.take_succ_cons, and_false, false_and, and_true, true_and, Nat.reduceAdd, Nat.reduceEqDiff, Nat.reduceLT, ↓reduceIte, decide_eq_true_eq, List.take_nil, beq_self_eq_true, bne_self_eq_false, List.take_zero, List.map_cons, List.map_nil, Int.reduceNeg, Bool.and_true, and_self, Bool.true_and, Bool.and_self, ne_eq, not_true_eq_false, decide_false, decide_true, Bool.false_eq_true, Nat.reduceAdd, Option.map_some, Option.map_none, Option.bind_some, Option.bind_none, List.length_nil, List.length_cons, List.append_nil, Bool.and_false, w64, demV_sl, Int.cast_ofNat_Int, Int.reduceLT, Int.reduceAdd, Int.reduceSub, Int.reduceLE, Int.reduceEq, Int.reduceToNat, Int.toNat_natCast, Nat.reduceSub, Nat.reduceMul, Nat.reduceLeDiff, Nat.zero_add, Int.zero_add, not_false_eq_true, Bool.not_true, Bool.not_false, Bool.false_and, List.cons_append, List.nil_append, Int.lt_irrefl, List.drop_length]
    simp [phr, plc]
  | k + 1, i, md, P, K, hm, h1, h2, h2' => by
    have h3 : i < T.length := by omega
    have h4 : (i : Int) < (T.length : Int) := by omega
    have h0 : (0 : Int) ≤ (i : Int) := by omega
    have hw : IntKind.i64.wrap ((i : Int) + 1) = ((i + 1 : Nat) : Int) := by rw [w64 (by omega) (by omega)]; rfl
    have hg : T[i]? = some T[i] := List.getElem?_eq_getElem h3
    have hd : T.drop i = T[i] :: T.drop (i + 1) := List.drop_eq_getElem_cons h3
    have hl : T[i].2.1.length ≤ 1000000 := hT2 _ (List.getElem_mem h3)
    have hr := tks_at hg
    by_cases h5 : cnt T[i].1 = true
    · obtain ⟨md', hm', ih⟩ := l20a w T hT hT2 k (i + 1) .own (P ++ [(i : Int)]) (K ++ [keyF T[i].1 T[i].2.1]) (by decide) (by omega) (by simp; omega) (by simp; omega)
      refine ⟨md', hm', ?_⟩
      have e : phr (T.drop i) = keyF T[i].1 T[i].2.1 :: phr (T.drop (i + 1)) := by rw [hd, phr_yes h5]
      have e2 : plc i (T.drop i) = (i : Int) :: plc (i + 1) (T.drop (i + 1)) := by rw [hd]; simp only [plc, h5, if_true]
      rw [e, e2]
      rw [List.append_assoc, List.append_assoc] at ih
      have ha : appOK 16 (K.length + 1) = true := appOK_le (by decide) (by omega)
      have ha2 : appOK 8 (P.length + 1) = true := appOK_le (by decide) (by omega)
      rw [Y_loop (L := L20_0) rfl]
      simp only [go_sem, List.set_cons_zero, List.set_cons_succ, List.take_succ_cons, and_false, false_and, and_true, true_and, Nat.reduceAdd, Nat.reduceEqDiff, Nat.reduceLT, ↓reduceIte, decide_eq_true_eq, List.take_nil, beq_self_eq_true, bne_self_eq_false, List.take_zero, List.map_cons, List.map_nil, Int.reduceNeg, Bool.and_true, and_self, Bool.true_and, Bool.and_self, ne_eq, not_true_eq_false, decide_false, decide_true, Bool.false_eq_true, Nat.reduceAdd, Option.map_some, Option.map_none, Option.bind_some, Option.bind_none, List.length_nil, List.length_cons, List.append_nil, Bool.and_false, w64, demV_sl, Int.cast_ofNat_Int, Int.reduceLT, Int.reduceAdd, Int.reduceSub, Int.reduceLE, Int.reduceEq, Int.reduceToNat, Int.toNat_natCast, Nat.reduceSub, Nat.reduceMul, Nat.reduceLeDiff, Nat.zero_add, Int.zero_add, not_false_eq_true, Bool.not_true, Bool.not_false, Bool.false_and, List.cons_append, List.nil_append, h4, h0, hw, hr, c44, c45 _ _ _ hl, h5, appA_gen md _ hm 1 16 (by decide), appA_gen md _ hm 1 8 (by decide), strs_len, ints_length, ha, ha2, strs_one, strs_app, ints_one, ints_app]
      exact ih
    · obtain ⟨md', hm', ih⟩ := l20a w T hT hT2 k (i + 1) md P K hm (by omega) (by omega) (by omega)
      refine ⟨md', hm', ?_⟩
      have h5' : cnt T[i].1 = false := by simpa using h5
      have e : phr (T.drop i) = phr (T.drop (i + 1)) := by rw [hd, phr_no h5']
      have e2 : plc i (T.drop i) = plc (i + 1) (T.drop (i + 1)) := by rw [hd]; simp only [plc, h5', Bool.false_eq_true, if_false]
      rw [e, e2]
      rw [Y_loop (L := L20_0) rfl]
      simp only [go_sem, List.set_cons_zero, List.set_cons_succ, List.take_succ_cons, and_false, false_and, and_true, true_and, Nat.reduceAdd, Nat.reduceEqDiff, Nat.reduceLT, ↓reduceIte, decide_eq_true_eq, List.take_nil, beq_self_eq_true, bne_self_eq_false, List.take_zero, List.map_cons, List.map_nil, Int.reduceNeg, Bool.and_true, and_self, Bool.true_and, Bool.and_self, ne_eq, not_true_eq_false, decide_false, decide_true, Bool.false_eq_true, Nat.reduceAdd, Option.map_some, Option.map_none, Option.bind_some, Option.bind_none, List.length_nil, List.length_cons, List.append_nil, Bool.and_false, w64, demV_sl, Int.cast_ofNat_Int, Int.reduceLT, Int.reduceAdd, Int.reduceSub, Int.reduceLE, Int.reduceEq, Int.reduceToNat, Int.toNat_natCast, Nat.reduceSub, Nat.reduceMul, Nat.reduceLeDiff, Nat.zero_add, Int.zero_add, not_false_eq_true, Bool.not_true, Bool.not_false, Bool.false_and, List.cons_append, List.nil_append, h4, h0, hw, hr, c44, h5']
      exact ih
/-- The places where the words stand. -/
def occ (P : List Int) (K w : List (List UInt8)) : Nat → Nat → List (Int × Int)
  | 0, _ => []
  | k + 1, i => if i + w.length ≤ K.length then (if (K.take (i + w.length)).drop i = w then (P.getD i 0, P.getD (i + w.length - 1) 0 + 1) :: occ P K w k (i + 1) else occ P K w k (i + 1)) else []
theorem strs_slc (K : List (List UInt8)) (a b : Nat) : ((strs K).take b).drop a = strs ((K.take b).drop a) := by simp [strs, List.map_take, List.map_drop]
theorem l20b (w : List (List UInt8)) (hw1 : 1 ≤ w.length) (hw2 : w.length ≤ 1000000) (P : List Int) (K : List (List UInt8)) (hPK : P.length = K.length) (hK : K.length ≤ 1000000) (hP : ∀ x ∈ P, 0 ≤ x ∧ x ≤ 1000000) (md1 md2 : Own) (hd1 : demV (.sl md1 1 (ints P)) = .sl (demO md1) 1 (ints P)) (X : AV) (hX : ∀ kl, scrubV kl X = X) (y : Int) : ∀ (k i : Nat) (md : Own) (out : List (Int × Int)), md ≠ .no → K.length + 1 ≤ i + k → out.length ≤ i → i ≤ K.length + 1 →
    ∃ md' j, execX G0 L20_1 (ST [(0, .sl .no 1 (strs w)), (5, .sl md1 1 (ints P)), (6, .sl md2 1 (strs K)), (9, .sl md 2 (prs out)), (10, .int .i64 i), (13, .bool false), (14, X), (15, .int .i64 y), (16, .int .i64 y), (17, .bool false)] [] []) = some (.ex 2, ST [(0, .sl .no 1 (strs w)), (5, .sl md1 1 (ints P)), (6, .sl md2 1 (strs K)), (9, .sl md' 2 (prs (out ++ occ P K w k i))), (10, .int .i64 j), (13, .bool false), (14, X), (15, .int .i64 y), (16, .int .i64 y), (17, .bool false), (39, .bool false)] [] [])
  | 0, i, md, out, hm, h1, h2, h3 => by
    have h4 : IntKind.i64.wrap ((i : Int) + (w.length : Int)) = (((i + w.length : Nat)) : Int) := by rw [w64 (by omega) (by omega)]; rfl
    have h5 : ¬ (((i + w.length : Nat)) : Int) ≤ (K.length : Int) := by omega
    refine ⟨md, i, ?_⟩
    rw [Y_loop (L := L20_1) rfl]
    simp only [go_sem, List.set_cons_zero, List.set_cons_succ, List.take_succ_cons, and_false, false_and, and_true, true_and, Nat.reduceAdd, Nat.reduceEqDiff, Nat.reduceLT, ↓reduceIte, decide_eq_true_eq, List.take_nil, beq_self_eq_true, bne_self_eq_false, List.take_zero, List.map_cons, List.map_nil, Int.reduceNeg, Bool.and_true, and_self, Bool.true_and, Bool.and_self, ne_eq, not_true_eq_false, decide_false, decide_true, Bool.false_eq_true, Nat.reduceAdd, Option.map_some, Option.map_none, Option.bind_some, Option.bind_none, List.length_nil, List.length_cons, List.append_nil, Bool.and_false, w64, demV_sl, Int.cast_ofNat_Int, Int.reduceLT, Int.reduceAdd, Int.reduceSub, Int.reduceLE, Int.reduceEq, Int.reduceToNat, Int.toNat_natCast, Nat.reduceSub, Nat.reduceMul, Nat.reduceLeDiff, Nat.zero_add, Int.zero_add, not_false_eq_true, Bool.not_true, Bool.not_false, Bool.false_and, List.cons_append, List.nil_append, strs_len, h4, h5, occ, hX]
  | k + 1, i, md, out, hm, h1, h2, h3 => by
    have h4 : IntKind.i64.wrap ((i : Int) + (w.length : Int)) = (((i + w.length : Nat)) : Int) := by rw [w64 (by omega) (by omega)]; rfl
    have hw : IntKind.i64.wrap ((i : Int) + 1) = ((i + 1 : Nat) : Int) := by rw [w64 (by omega) (by omega)]; rfl
    by_cases h5 : i + w.length ≤ K.length
    · have h5' : (((i + w.length : Nat)) : Int) ≤ (K.length : Int) := by omega
      have h0 : (0 : Int) ≤ (i : Int) := by omega
      have h6 : (i : Int) ≤ (((i + w.length : Nat)) : Int) := by omega
      have hlen : ((K.take (i + w.length)).drop i).length = w.length := by simp; omega
      have h49 := c49g ((K.take (i + w.length)).drop i) w hlen (by omega)
      by_cases h7 : (K.take (i + w.length)).drop i = w
      · obtain ⟨md', j, ih⟩ := l20b w hw1 hw2 P K hPK hK hP md1 md2 hd1 X hX y k (i + 1) .own (out ++ [(P.getD i 0, P.getD (i + w.length - 1) 0 + 1)]) (by decide) (by omega) (by simp; omega) (by omega)
        have g1 : P[i]? = some (P.getD i 0) := by simp [List.getD_eq_getElem?_getD, (show i < P.length by omega)]
        have g2 : P[i + w.length - 1]? = some (P.getD (i + w.length - 1) 0) := by simp [List.getD_eq_getElem?_getD, (show i + w.length - 1 < P.length by omega)]
        have hb := hP _ (List.mem_of_getElem? g2)
        have h8 : IntKind.i64.wrap ((((i + w.length : Nat)) : Int) - 1) = (((i + w.length - 1 : Nat)) : Int) := by rw [w64 (by omega) (by omega)]; omega
        have h9 : (0 : Int) ≤ (((i + w.length - 1 : Nat)) : Int) := by omega
        have h10 : IntKind.i64.wrap (P.getD (i + w.length - 1) 0 + 1) = P.getD (i + w.length - 1) 0 + 1 := w64 (by omega) (by omega)
        have ha : appOK 16 (out.length + 1) = true := appOK_le (by decide) (by omega)
        have e : occ P K w (k + 1) i = (P.getD i 0, P.getD (i + w.length - 1) 0 + 1) :: occ P K w k (i + 1) := by simp only [occ]; rw [if_pos h5, if_pos h7]
        rw [e]
        rw [List.append_assoc] at ih
        refine ⟨md', j, ?_⟩
        rw [Y_loop (L := L20_1) rfl]
        simp only [go_sem, List.set_cons_zero, List.set_cons_succ, List.take_succ_cons, and_false, false_and, and_true, true_and, Nat.reduceAdd, Nat.reduceEqDiff, Nat.reduceLT, ↓reduceIte, decide_eq_true_eq, List.take_nil, beq_self_eq_true, bne_self_eq_false, List.take_zero, List.map_cons, List.map_nil, Int.reduceNeg, Bool.and_true, and_self, Bool.true_and, Bool.and_self, ne_eq, not_true_eq_false, decide_false, decide_true, Bool.false_eq_true, Nat.reduceAdd, Option.map_some, Option.map_none, Option.bind_some, Option.bind_none, List.length_nil, List.length_cons, List.append_nil, Bool.and_false, w64, demV_sl, Int.cast_ofNat_Int, Int.reduceLT, Int.reduceAdd, Int.reduceSub, Int.reduceLE, Int.reduceEq, Int.reduceToNat, Int.toNat_natCast, Nat.reduceSub, Nat.reduceMul, Nat.reduceLeDiff, Nat.zero_add, Int.zero_add, not_false_eq_true, Bool.not_true, Bool.not_false, Bool.false_and, List.cons_append, List.nil_append, strs_len, h4, h5', h0, h6, strs_slc, h7, c49 w (by omega), hX, ints_at g1, ints_at g2, h8, h9, h10, appA_gen md _ hm 2 16 (by decide), prs_len, ha, prs_one, prs_app, hw]
        exact ih
      · obtain ⟨md', j, ih⟩ := l20b w hw1 hw2 P K hPK hK hP md1 md2 hd1 X hX y k (i + 1) md out hm (by omega) (by omega) (by omega)
        have e : occ P K w (k + 1) i = occ P K w k (i + 1) := by simp only [occ]; rw [if_pos h5, if_neg h7]
        rw [e]
        refine ⟨md', j, ?_⟩
        rw [Y_loop (L := L20_1) rfl]
        simp only [go_sem, List.set_cons_zero, List.set_cons_succ, List.take_succ_cons, and_false, false_and, and_true, true_and, Nat.reduceAdd, Nat.reduceEqDiff, Nat.reduceLT, ↓reduceIte, decide_eq_true_eq, List.take_nil, beq_self_eq_true, bne_self_eq_false, List.take_zero, List.map_cons, List.map_nil, Int.reduceNeg, Bool.and_true, and_self, Bool.true_and, Bool.and_self, ne_eq, not_true_eq_false, decide_false, decide_true, Bool.false_eq_true, Nat.reduceAdd, Option.map_some, Option.map_none, Option.bind_some, Option.bind_none, List.length_nil, List.length_cons, List.append_nil, Bool.and_false, w64, demV_sl, Int.cast_ofNat_Int, Int.reduceLT, Int.reduceAdd, Int.reduceSub, Int.reduceLE, Int.reduceEq, Int.reduceToNat, Int.toNat_natCast, Nat.reduceSub, Nat.reduceMul, Nat.reduceLeDiff, Nat.zero_add, Int.zero_add, not_false_eq_true, Bool.not_true, Bool.not_false, Bool.false_and, List.cons_append, List.nil_append, strs_len, h4, h5', h0, h6, strs_slc, h49, h7, hX, hw]
        exact ih
    · have h5' : ¬ (((i + w.length : Nat)) : Int) ≤ (K.length : Int) := by omega
      refine ⟨md, i, ?_⟩
      have e : occ P K w (k + 1) i = [] := by simp only [occ]; rw [if_neg h5]
      rw [e]
      rw [Y_loop (L := L20_1) rfl]
      simp only [go_sem, List.set_cons_zero, List.set_cons_succ, List.take_succ_cons, and_false, false_and, and_true, true_and, Nat.reduceAdd, Nat.reduceEqDiff, Nat.reduceLT, ↓reduceIte, decide_eq_true_eq, List.take_nil, beq_self_eq_true, bne_self_eq_false, List.take_zero, List.map_cons, List.map_nil, Int.reduceNeg, Bool.and_true, and_self, Bool.true_and, Bool.and_self, ne_eq, not_true_eq_false, decide_false, decide_true, Bool.false_eq_true, Nat.reduceAdd, Option.map_some, Option.map_none, Option.bind_some, Option.bind_none, List.length_nil, List.length_cons, List.append_nil, Bool.and_false, w64, demV_sl, Int.cast_ofNat_Int, Int.reduceLT, Int.reduceAdd, Int.reduceSub, Int.reduceLE, Int.reduceEq, Int.reduceToNat, Int.toNat_natCast, Nat.reduceSub, Nat.reduceMul, Nat.reduceLeDiff, Nat.zero_add, Int.zero_add, not_false_eq_true, Bool.not_true, Bool.not_false, Bool.false_and, List.cons_append, List.nil_append, strs_len, h4, h5', hX]

def occF (w : List (List UInt8)) (T : List Tk) : List (Int × Int) := if w.length = 0 then [] else occ (plc 0 T) (phr T) w ((phr T).length + 1) 0
theorem phr_le (T : List Tk) : (phr T).length ≤ T.length := by
  unfold phr
  rw [List.length_map]
  exact List.length_filter_le _ _
theorem plc_bd : ∀ (T : List Tk) (p : Nat), ∀ x ∈ plc p T, (p : Int) ≤ x ∧ x < ((p + T.length : Nat) : Int)
  | [], _, x, h => by simp [plc] at h
  | t :: T, p, x, h => by
    have ih := plc_bd T (p + 1) x
    simp only [plc] at h
    simp only [List.length_cons]
    split at h
    · rcases List.mem_cons.1 h with h | h
      · subst h; omega
      · have := ih h; omega
    · have := ih h; omega
theorem c20 (w : List (List UInt8)) (T : List Tk) (hw : w.length ≤ 1000000) (hT : T.length ≤ 100000) (hT2 : ∀ t ∈ T, t.2.1.length ≤ 1000000) : G0 20 [.sl .no 1 (strs w), .sl .no 3 (tks T)] [] = some (.sl .no 2 (prs (occF w T)), []) := by
  refine contract F20 rfl rfl rfl ?_
  by_cases h1 : w.length = 0
  · have h2 : ((w.length : Nat) : Int) = 0 := by omega
    simp only [F20, go_sem, List.set_cons_zero, List.set_cons_succ, List.take_succ_cons, and_false, false_and, and_true, true_and, Nat.reduceAdd, Nat.reduceEqDiff, Nat.reduceLT, ↓reduceIte, decide_eq_true_eq, List.take_nil, beq_self_eq_true, bne_self_eq_false, List.take_zero, List.map_cons, List.map_nil, Int.reduceNeg, Bool.and_true, and_self, Bool.true_and, Bool.and_self, ne_eq, not_true_eq_false, decide_false, decide_true, Bool.false_eq_true, Nat.reduceAdd, Option.map_some, Option.map_none, Option.bind_some, Option.bind_none, List.length_nil, List.length_cons, List.append_nil, Bool.and_false, w64, demV_sl, Int.cast_ofNat_Int, Int.reduceLT, Int.reduceAdd, Int.reduceSub, Int.reduceLE, Int.reduceEq, Int.reduceToNat, Int.toNat_natCast, Nat.reduceSub, Nat.reduceMul, Nat.reduceLeDiff, Nat.zero_add, Int.zero_add, not_false_eq_true, Bool.not_true, Bool.not_false, Bool.false_and, List.cons_append, List.nil_append, strs_len, h2, occF, h1, prs_nil]
  · have h2 : ¬ ((w.length : Nat) : Int) = 0 := by omega
    obtain ⟨md1, hm1, e1⟩ := l20a w T (by omega) hT2 T.length 0 .full [] [] (by decide) (by omega) (by simp) (by simp)
    have hl := phr_le T
    obtain ⟨md2, j, e2⟩ := l20b w (by omega) hw (plc 0 T) (phr T) (plc_len T 0) (by omega) (fun x hx => by have := plc_bd T 0 x hx; omega) md1 md1 (demV_sl _ _ _) (.sl .no 3 (tks T)) (fun _ => rfl) T.length ((phr T).length + 1) 0 .full [] (by decide) (by omega) (by simp) (by omega)
    simp only [go_sem, List.set_cons_zero, List.set_cons_succ, List.take_succ_cons, and_false, false_and, and_true, true_and, Nat.reduceAdd, Nat.reduceEqDiff, Nat.reduceLT, ↓reduceIte, decide_eq_true_eq, List.take_nil, beq_self_eq_true, bne_self_eq_false, List.take_zero, List.map_cons, List.map_nil, Int.reduceNeg, Bool.and_true, and_self, Bool.true_and, Bool.and_self, ne_eq, not_true_eq_false, decide_false, decide_true, Bool.false_eq_true, Nat.reduceAdd, Option.map_some, Option.map_none, Option.bind_some, Option.bind_none, List.length_nil, List.length_cons, List.append_nil, Bool.and_false, w64, demV_sl, Int.cast_ofNat_Int, Int.reduceLT, Int.reduceAdd, Int.reduceSub, Int.reduceLE, Int.reduceEq, Int.reduceToNat, Int.toNat_natCast, Nat.reduceSub, Nat.reduceMul, Nat.reduceLeDiff, Nat.zero_add, Int.zero_add, not_false_eq_true, Bool.not_true, Bool.not_false, Bool.false_and, List.cons_append, List.nil_append, strs_nil, ints_nil, prs_nil, List.drop_zero] at e1 e2
    simp only [F20, go_sem, List.set_cons_zero, List.set_cons_succ, List.take_succ_cons, and_false, false_and, and_true, true_and, Nat.reduceAdd, Nat.reduceEqDiff, Nat.reduceLT, ↓reduceIte, decide_eq_true_eq, List.take_nil, beq_self_eq_true, bne_self_eq_false, List.take_zero, List.map_cons, List.map_nil, Int.reduceNeg, Bool.and_true, and_self, Bool.true_and, Bool.and_self, ne_eq, not_true_eq_false, decide_false, decide_true, Bool.false_eq_true, Nat.reduceAdd, Option.map_some, Option.map_none, Option.bind_some, Option.bind_none, List.length_nil, List.length_cons, List.append_nil, Bool.and_false, w64, demV_sl, Int.cast_ofNat_Int, Int.reduceLT, Int.reduceAdd, Int.reduceSub, Int.reduceLE, Int.reduceEq, Int.reduceToNat, Int.toNat_natCast, Nat.reduceSub, Nat.reduceMul, Nat.reduceLeDiff, Nat.zero_add, Int.zero_add, not_false_eq_true, Bool.not_true, Bool.not_false, Bool.false_and, List.cons_append, List.nil_append, strs_len, tks_len, h2, e1, e2, occF, h1]
end Go.Av
