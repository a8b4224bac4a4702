/- A part of the proof: D7. No conditions. -/
import Derived.Test.YthbgidickbhojaaD6
set_option linter.unusedSimpArgs false
set_option linter.unusedVariables false
namespace Go.Av
set_option linter.unusedSimpArgs false
set_option maxHeartbeats 4000000
abbrev Tk := Int × List UInt8 × Int
def tkR (t : Tk) : List AV := [.int .i64 t.1, .str t.2.1, .int .i64 t.2.2]
def tks (l : List Tk) : List (List AV) := l.map tkR
theorem tks_len (l : List Tk) : (tks l).length = l.length := by simp [tks]
theorem tks_one (k : Int) (s : List UInt8) (i : Int) : [[AV.int .i64 k, AV.str s, AV.int .i64 i]] = tks [(k, s, i)] := rfl
theorem tks_app (x y : List Tk) : tks x ++ tks y = tks (x ++ y) := by simp [tks]
def cutL : Nat → List UInt8 → List Tk
  | 0, _ => []
  | k + 1, s => if 1 ≤ s.length then (nxK s, s.take (nxN s), 0) :: cutL k (s.drop (nxN s)) else []
theorem l46 : ∀ (k : Nat) (s : List UInt8) (md : Own) (out : List Tk), md ≠ .no → s.length ≤ k → out.length + s.length ≤ 1000000 →
    ∃ md', execX G0 L46_0 (ST [(0, .str s), (3, .sl md 3 (tks out))] [] []) = some (.ex 0, ST [(0, .str []), (3, .sl md' 3 (tks (out ++ cutL k s))), (11, .bool false)] [] [])
  | 0, s, md, out, hm, h1, h2 => by
    have : s = [] := List.eq_nil_of_length_eq_zero (by omega)
    subst this
    refine ⟨md, ?_⟩
    rw [Y_loop (L := L46_0) rfl]
    simp only [go_sem, and_false, false_and, and_true, true_and, Nat.reduceAdd, Nat.reduceEqDiff, Nat.reduceLT, ↓reduceIte, decide_eq_true_eq, List.take_nil, beq_self_eq_true, bne_self_eq_false, List.take_zero, List.map_cons, List.map_nil, Int.reduceNeg, Bool.and_true, and_self, Bool.true_and, Bool.and_self, ne_eq, not_true_eq_false, decide_false, decide_true, Bool.false_eq_true, Nat.reduceAdd, Option.map_some, Option.map_none, Option.bind_some, Option.bind_none, List.length_nil, List.length_cons, List.append_nil, Bool.and_false, w64, demV_sl, Int.cast_ofNat_Int, Int.reduceLT, Int.reduceAdd, Int.reduceSub, Int.reduceLE, Int.reduceEq, Int.reduceToNat, Int.toNat_natCast, Nat.reduceSub, Nat.reduceMul, Nat.reduceLeDiff, Nat.zero_add, Int.zero_add, not_false_eq_true, Bool.not_true, Bool.not_false, Bool.false_and, List.cons_append, List.nil_append, cutL, Int.lt_irrefl]
  | k + 1, s, md, out, hm, h1, h2 => by
    by_cases h3 : 1 ≤ s.length
    · have hn := nx_le s h3
      obtain ⟨md', ih⟩ := l46 k (s.drop (nxN s)) .own (out ++ [(nxK s, s.take (nxN s), 0)]) (by decide) (by simp; omega) (by simp; omega)
      have h4 : (0 : Int) < (s.length : Int) := by omega
      have h5 : (0 : Int) < (nxN s : Int) := by omega
      have h6 : (0 : Int) ≤ (nxN s : Int) := by omega
      have h7 : (nxN s : Int) ≤ (s.length : Int) := by omega
      have hs : s.length ≤ 1000000 := by omega
      have ha : appOK 32 (out.length + 1) = true := appOK_le (by decide) (by omega)
      refine ⟨md', ?_⟩
      rw [Y_loop (L := L46_0) rfl]
      simp only [cutL, h3, if_true]
      rw [List.append_assoc] at ih
      by_cases a1 : clsI (bt s 0) = 4
      · have k1 : nxK s = 6 := by simp only [nxK, a1, if_true]
        rw [k1] at ih ⊢
        simp only [go_sem, and_false, false_and, and_true, true_and, Nat.reduceAdd, Nat.reduceEqDiff, Nat.reduceLT, ↓reduceIte, decide_eq_true_eq, List.take_nil, beq_self_eq_true, bne_self_eq_false, List.take_zero, List.map_cons, List.map_nil, Int.reduceNeg, Bool.and_true, and_self, Bool.true_and, Bool.and_self, ne_eq, not_true_eq_false, decide_false, decide_true, Bool.false_eq_true, Nat.reduceAdd, Option.map_some, Option.map_none, Option.bind_some, Option.bind_none, List.length_nil, List.length_cons, List.append_nil, Bool.and_false, w64, demV_sl, Int.cast_ofNat_Int, Int.reduceLT, Int.reduceAdd, Int.reduceSub, Int.reduceLE, Int.reduceEq, Int.reduceToNat, Int.toNat_natCast, Nat.reduceSub, Nat.reduceMul, Nat.reduceLeDiff, Nat.zero_add, Int.zero_add, not_false_eq_true, Bool.not_true, Bool.not_false, Bool.false_and, List.cons_append, List.nil_append, h4, c63 s hs h3 a1, c64n s h3 (by omega), c65n s hs h3 (by omega), h5, h6, h7, Int.lt_irrefl, appA_gen md _ hm 3 32 (by decide), tks_len, ha, tks_one, tks_app]
        exact ih
      by_cases a2 : clsI (bt s 0) = 3
      · have k1 : nxK s = 7 := by rw [nxK, if_neg a1, if_pos a2]
        rw [k1] at ih ⊢
        simp only [go_sem, and_false, false_and, and_true, true_and, Nat.reduceAdd, Nat.reduceEqDiff, Nat.reduceLT, ↓reduceIte, decide_eq_true_eq, List.take_nil, beq_self_eq_true, bne_self_eq_false, List.take_zero, List.map_cons, List.map_nil, Int.reduceNeg, Bool.and_true, and_self, Bool.true_and, Bool.and_self, ne_eq, not_true_eq_false, decide_false, decide_true, Bool.false_eq_true, Nat.reduceAdd, Option.map_some, Option.map_none, Option.bind_some, Option.bind_none, List.length_nil, List.length_cons, List.append_nil, Bool.and_false, w64, demV_sl, Int.cast_ofNat_Int, Int.reduceLT, Int.reduceAdd, Int.reduceSub, Int.reduceLE, Int.reduceEq, Int.reduceToNat, Int.toNat_natCast, Nat.reduceSub, Nat.reduceMul, Nat.reduceLeDiff, Nat.zero_add, Int.zero_add, not_false_eq_true, Bool.not_true, Bool.not_false, Bool.false_and, List.cons_append, List.nil_append, h4, c63n s h3 a1, c64 s hs h3 a2, c65n s hs h3 (by omega), h5, h6, h7, Int.lt_irrefl, appA_gen md _ hm 3 32 (by decide), tks_len, ha, tks_one, tks_app]
        exact ih
      by_cases a3 : clsI (bt s 0) = 2
      · have k1 : nxK s = 8 := by rw [nxK, if_neg a1, if_neg a2, if_pos a3]
        rw [k1] at ih ⊢
        simp only [go_sem, and_false, false_and, and_true, true_and, Nat.reduceAdd, Nat.reduceEqDiff, Nat.reduceLT, ↓reduceIte, decide_eq_true_eq, List.take_nil, beq_self_eq_true, bne_self_eq_false, List.take_zero, List.map_cons, List.map_nil, Int.reduceNeg, Bool.and_true, and_self, Bool.true_and, Bool.and_self, ne_eq, not_true_eq_false, decide_false, decide_true, Bool.false_eq_true, Nat.reduceAdd, Option.map_some, Option.map_none, Option.bind_some, Option.bind_none, List.length_nil, List.length_cons, List.append_nil, Bool.and_false, w64, demV_sl, Int.cast_ofNat_Int, Int.reduceLT, Int.reduceAdd, Int.reduceSub, Int.reduceLE, Int.reduceEq, Int.reduceToNat, Int.toNat_natCast, Nat.reduceSub, Nat.reduceMul, Nat.reduceLeDiff, Nat.zero_add, Int.zero_add, not_false_eq_true, Bool.not_true, Bool.not_false, Bool.false_and, List.cons_append, List.nil_append, h4, c63n s h3 a1, c64n s h3 a2, c65y s hs h3 a3, h5, h6, h7, Int.lt_irrefl, appA_gen md _ hm 3 32 (by decide), tks_len, ha, tks_one, tks_app]
        exact ih
      · have k1 : nxK s = 9 := by simp only [nxK, a1, a2, a3, if_true, if_false]
        have n1 : nxN s = 1 := by simp only [nxN, a1, a2, a3, if_true, if_false]
        have h8 : (1 : Int) ≤ (s.length : Int) := by omega
        rw [k1, n1] at ih ⊢
        simp only [go_sem, and_false, false_and, and_true, true_and, Nat.reduceAdd, Nat.reduceEqDiff, Nat.reduceLT, ↓reduceIte, decide_eq_true_eq, List.take_nil, beq_self_eq_true, bne_self_eq_false, List.take_zero, List.map_cons, List.map_nil, Int.reduceNeg, Bool.and_true, and_self, Bool.true_and, Bool.and_self, ne_eq, not_true_eq_false, decide_false, decide_true, Bool.false_eq_true, Nat.reduceAdd, Option.map_some, Option.map_none, Option.bind_some, Option.bind_none, List.length_nil, List.length_cons, List.append_nil, Bool.and_false, w64, demV_sl, Int.cast_ofNat_Int, Int.reduceLT, Int.reduceAdd, Int.reduceSub, Int.reduceLE, Int.reduceEq, Int.reduceToNat, Int.toNat_natCast, Nat.reduceSub, Nat.reduceMul, Nat.reduceLeDiff, Nat.zero_add, Int.zero_add, not_false_eq_true, Bool.not_true, Bool.not_false, Bool.false_and, List.cons_append, List.nil_append, h4, c63n s h3 a1, c64n s h3 a2, c65n s hs h3 a3, h8,  Int.lt_irrefl, appA_gen md _ hm 3 32 (by decide), tks_len, ha, tks_one, tks_app]
        exact ih
    · have : s = [] := List.eq_nil_of_length_eq_zero (by omega)
      subst this
      refine ⟨md, ?_⟩
      rw [Y_loop (L := L46_0) rfl]
      simp only [go_sem, and_false, false_and, and_true, true_and, Nat.reduceAdd, Nat.reduceEqDiff, Nat.reduceLT, ↓reduceIte, decide_eq_true_eq, List.take_nil, beq_self_eq_true, bne_self_eq_false, List.take_zero, List.map_cons, List.map_nil, Int.reduceNeg, Bool.and_true, and_self, Bool.true_and, Bool.and_self, ne_eq, not_true_eq_false, decide_false, decide_true, Bool.false_eq_true, Nat.reduceAdd, Option.map_some, Option.map_none, Option.bind_some, Option.bind_none, List.length_nil, List.length_cons, List.append_nil, Bool.and_false, w64, demV_sl, Int.cast_ofNat_Int, Int.reduceLT, Int.reduceAdd, Int.reduceSub, Int.reduceLE, Int.reduceEq, Int.reduceToNat, Int.toNat_natCast, Nat.reduceSub, Nat.reduceMul, Nat.reduceLeDiff, Nat.zero_add, Int.zero_add, not_false_eq_true, Bool.not_true, Bool.not_false, Bool.false_and, List.cons_append, List.nil_append, cutL, Int.lt_irrefl]
def cutF (s : List UInt8) : List Tk := cutL s.length s
theorem tks_nil : tks [] = [] := rfl
theorem c46 (s : List UInt8) (hs : s.length ≤ 1000000) : G0 46 [.str s] [] = some (.sl .no 3 (tks (cutF s)), []) := by
  refine contract F46 rfl rfl rfl ?_
  obtain ⟨md', hx⟩ := l46 s.length s .full [] (by decide) (by omega) (by simpa using hs)
  simp only [go_sem, and_false, false_and, and_true, true_and, Nat.reduceAdd, Nat.reduceEqDiff, Nat.reduceLT, ↓reduceIte, decide_eq_true_eq, List.take_nil, beq_self_eq_true, bne_self_eq_false, List.take_zero, List.map_cons, List.map_nil, Int.reduceNeg, Bool.and_true, and_self, Bool.true_and, Bool.and_self, ne_eq, not_true_eq_false, decide_false, decide_true, Bool.false_eq_true, Nat.reduceAdd, Option.map_some, Option.map_none, Option.bind_some, Option.bind_none, List.length_nil, List.length_cons, List.append_nil, Bool.and_false, w64, demV_sl, Int.cast_ofNat_Int, Int.reduceLT, Int.reduceAdd, Int.reduceSub, Int.reduceLE, Int.reduceEq, Int.reduceToNat, Int.toNat_natCast, Nat.reduceSub, Nat.reduceMul, Nat.reduceLeDiff, Nat.zero_add, Int.zero_add, not_false_eq_true, Bool.not_true, Bool.not_false, Bool.false_and, List.cons_append, List.nil_append, tks_nil] at hx
  simp only [F46, go_sem, and_false, false_and, and_true, true_and, Nat.reduceAdd, Nat.reduceEqDiff, Nat.reduceLT, ↓reduceIte, decide_eq_true_eq, List.take_nil, beq_self_eq_true, bne_self_eq_false, List.take_zero, List.map_cons, List.map_nil, Int.reduceNeg, Bool.and_true, and_self, Bool.true_and, Bool.and_self, ne_eq, not_true_eq_false, decide_false, decide_true, Bool.false_eq_true, Nat.reduceAdd, Option.map_some, Option.map_none, Option.bind_some, Option.bind_none, List.length_nil, List.length_cons, List.append_nil, Bool.and_false, w64, demV_sl, Int.cast_ofNat_Int, Int.reduceLT, Int.reduceAdd, Int.reduceSub, Int.reduceLE, Int.reduceEq, Int.reduceToNat, Int.toNat_natCast, Nat.reduceSub, Nat.reduceMul, Nat.reduceLeDiff, Nat.zero_add, Int.zero_add, not_false_eq_true, Bool.not_true, Bool.not_false, Bool.false_and, List.cons_append, List.nil_append, hx, cutF]
end Go.Av
