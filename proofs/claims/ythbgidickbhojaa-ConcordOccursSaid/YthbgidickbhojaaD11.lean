/- A part of the proof: D11. No conditions. -/
import Derived.Test.YthbgidickbhojaaD10
set_option linter.unusedSimpArgs false
set_option linter.unusedVariables false
namespace Go.Av
set_option linter.unusedSimpArgs false
set_option maxHeartbeats 4000000
theorem c14 : G0 14 [] [] = some (.bool true, []) := by
  refine contract F14 rfl rfl rfl ?_
  have h42 := c42k [97, 32, 97, 32, 32, 97] (by decide)
  have e1 : cutF [97, 32, 97, 32, 32, 97] = [(6, [97], 0), (8, [32], 0), (6, [97], 0), (8, [32, 32], 0), (6, [97], 0)] := by decide +kernel
  rw [e1] at h42
  have h16 := c16 [82, 69, 68, 44, 32, 99, 97, 114] (by decide)
  have e2 : phrF [82, 69, 68, 44, 32, 99, 97, 114] = [[114, 101, 100], [99, 97, 114]] := by decide +kernel
  rw [e2] at h16
  have h15 := c15 [[114, 101, 100], [99, 97, 114]] (by decide)
  have e3 : strs [[114, 101, 100], [99, 97, 114]] = [[.str [114, 101, 100]], [.str [99, 97, 114]]] := rfl
  rw [e3] at h15 h16
  have h19 := c19 [(0, 3), (2, 5)] (by decide)
  have e4 : prs [(0, 3), (2, 5)] = [[.int .i64 0, .int .i64 3], [.int .i64 2, .int .i64 5]] := rfl
  have h20 := k20
  rw [e4] at h19 h20
  simp only [F14, go_sem, List.set_cons_zero, List.set_cons_succ, List.take_succ_cons, and_false, false_and, and_true, true_and, Nat.reduceAdd, Nat.reduceEqDiff, Nat.reduceLT, ↓reduceIte, decide_eq_true_eq, List.take_nil, beq_self_eq_true, bne_self_eq_false, List.take_zero, List.map_cons, List.map_nil, Int.reduceNeg, Bool.and_true, and_self, Bool.true_and, Bool.and_self, ne_eq, not_true_eq_false, decide_false, decide_true, Bool.false_eq_true, Nat.reduceAdd, Option.map_some, Option.map_none, Option.bind_some, Option.bind_none, List.length_nil, List.length_cons, List.append_nil, Bool.and_false, w64, demV_sl, Int.cast_ofNat_Int, Int.reduceLT, Int.reduceAdd, Int.reduceSub, Int.reduceLE, Int.reduceEq, Int.reduceToNat, Int.toNat_natCast, Nat.reduceSub, Nat.reduceMul, Nat.reduceLeDiff, Nat.zero_add, Int.zero_add, not_false_eq_true, Bool.not_true, Bool.not_false, Bool.false_and, List.cons_append, List.nil_append, h42, h16, h15, h20, h19]
theorem c3 (s : List UInt8) (l : List Int) : G0 3 [.str s, .sl .no 1 (ints l)] [] = some (.bool true, []) := by
  refine contract F3 rfl rfl rfl ?_
  by_cases h : s.length ≤ 300
  · have h1 : ¬ (300 : Int) < (s.length : Int) := by omega
    have hs : s.length ≤ 1000000 := by omega
    have hp : (phrase l).length ≤ 1000000 := Nat.le_trans (phrase_len l) (by decide)
    have q : ∀ s : List UInt8, s.length ≤ 1000000 → (phrF s).length ≤ 1000000000 := by
      intro s hs
      have := cutL_len s.length s
      have h2 : (phrF s).length ≤ (cutF s).length := by
        unfold phrF phr
        rw [List.length_map]
        exact List.length_filter_le _ _
      have h3 : (cutF s).length ≤ s.length := this.1
      omega
    simp only [F3, go_sem, List.set_cons_zero, List.set_cons_succ, List.take_succ_cons, and_false, false_and, and_true, true_and, Nat.reduceAdd, Nat.reduceEqDiff, Nat.reduceLT, ↓reduceIte, decide_eq_true_eq, List.take_nil, beq_self_eq_true, bne_self_eq_false, List.take_zero, List.map_cons, List.map_nil, Int.reduceNeg, Bool.and_true, and_self, Bool.true_and, Bool.and_self, ne_eq, not_true_eq_false, decide_false, decide_true, Bool.false_eq_true, Nat.reduceAdd, Option.map_some, Option.map_none, Option.bind_some, Option.bind_none, List.length_nil, List.length_cons, List.append_nil, Bool.and_false, w64, demV_sl, Int.cast_ofNat_Int, Int.reduceLT, Int.reduceAdd, Int.reduceSub, Int.reduceLE, Int.reduceEq, Int.reduceToNat, Int.toNat_natCast, Nat.reduceSub, Nat.reduceMul, Nat.reduceLeDiff, Nat.zero_add, Int.zero_add, not_false_eq_true, Bool.not_true, Bool.not_false, Bool.false_and, List.cons_append, List.nil_append, h1, c16 s hs, c17 s hs, c15 _ (q s hs), c18 l, c16 _ hp, c17 _ hp, c15 _ (q _ hp), c14]
  · have h1 : (300 : Int) < (s.length : Int) := by omega
    simp only [F3, go_sem, List.set_cons_zero, List.set_cons_succ, List.take_succ_cons, and_false, false_and, and_true, true_and, Nat.reduceAdd, Nat.reduceEqDiff, Nat.reduceLT, ↓reduceIte, decide_eq_true_eq, List.take_nil, beq_self_eq_true, bne_self_eq_false, List.take_zero, List.map_cons, List.map_nil, Int.reduceNeg, Bool.and_true, and_self, Bool.true_and, Bool.and_self, ne_eq, not_true_eq_false, decide_false, decide_true, Bool.false_eq_true, Nat.reduceAdd, Option.map_some, Option.map_none, Option.bind_some, Option.bind_none, List.length_nil, List.length_cons, List.append_nil, Bool.and_false, w64, demV_sl, Int.cast_ofNat_Int, Int.reduceLT, Int.reduceAdd, Int.reduceSub, Int.reduceLE, Int.reduceEq, Int.reduceToNat, Int.toNat_natCast, Nat.reduceSub, Nat.reduceMul, Nat.reduceLeDiff, Nat.zero_add, Int.zero_add, not_false_eq_true, Bool.not_true, Bool.not_false, Bool.false_and, List.cons_append, List.nil_append, h1, c14]
section
open Go.ChangeShapes Go.WideShapes Go.ChangeAt Go.RowKit
variable {P : Program} {w : World}
theorem rep_str {r : Reach} {b0 n : Nat} {t : TypeId} {v : Value} {ow : Value → Nat → Nat → Prop} (ht : P.underlying t = some .string)
    (hval : Value.okWide P w r b0 t v) :
    ∃ x : List UInt8, RepT (cx0 (fun _ => 0) (fun _ => 0) (fun b _ => b < w.heap.size) w n) ow (.str x) v := by
  obtain ⟨s, rfl⟩ := okWide_string ht hval
  exact ⟨s.data.toList, by simp [RepT, RepE, RepF]⟩
end
end Go.Av
