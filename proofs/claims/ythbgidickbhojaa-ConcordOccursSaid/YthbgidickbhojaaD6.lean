/- A part of the proof: D6. No conditions. -/
import Derived.Test.YthbgidickbhojaaD5
set_option linter.unusedSimpArgs false
set_option linter.unusedVariables false
namespace Go.Av
set_option linter.unusedSimpArgs false
set_option maxHeartbeats 4000000
def low8 (b : UInt8) : UInt8 := if (65 : Int) ≤ (b.toNat : Int) ∧ (b.toNat : Int) ≤ 90 then b + 32 else b
def lowF (s : List UInt8) : List UInt8 := s.map low8
def lowP (s : List UInt8) (i : Nat) : List UInt8 := lowF (s.take i) ++ s.drop i
theorem low_nat (b : UInt8) (h : (65 : Int) ≤ (b.toNat : Int) ∧ (b.toNat : Int) ≤ 90) : ((low8 b).toNat : Int) = (b.toNat : Int) + 32 := by
  unfold low8
  rw [if_pos h]
  have h2 : b.toNat ≤ 90 := by omega
  rw [UInt8.toNat_add]
  show (((b.toNat + 32) % 256 : Nat) : Int) = _
  omega
theorem lowP_len (s : List UInt8) (i : Nat) : (lowP s i).length = s.length := by
  simp [lowP, lowF]; omega
theorem lowP_at (s : List UInt8) (i : Nat) (h : i < s.length) : (lowP s i)[i]? = some (s.getD i 0) := by
  unfold lowP
  rw [List.getElem?_append_right (by simp [lowF]; omega)]
  simp [lowF, List.getD_eq_getElem?_getD, h, Nat.min_eq_left (Nat.le_of_lt h)]
theorem lowP_succ (s : List UInt8) (i : Nat) (h : i < s.length) : lowP s (i + 1) = (lowP s i).set i (low8 (s.getD i 0)) := by
  apply List.ext_getElem?
  intro j
  rw [List.getElem?_set]
  simp only [lowP_len]
  unfold lowP lowF
  by_cases h1 : i = j
  · subst h1
    rw [if_pos rfl, if_pos h, List.getElem?_append_left (by simp; omega)]
    simp [List.getD_eq_getElem?_getD, h]
  · rw [if_neg h1]
    by_cases h2 : j < i
    · rw [List.getElem?_append_left (by simp; omega), List.getElem?_append_left (by simp; omega)]
      simp [List.getElem?_take, h2, Nat.lt_succ_of_lt h2]
    · rw [List.getElem?_append_right (by simp; omega), List.getElem?_append_right (by simp; omega)]
      simp only [List.length_map, List.length_take, List.getElem?_drop]
      congr 1; omega
theorem lowP_same (s : List UInt8) (i : Nat) (h : i < s.length) (hl : low8 (s.getD i 0) = s.getD i 0) : lowP s (i + 1) = lowP s i := by
  rw [lowP_succ s i h, hl]
  apply List.ext_getElem?
  intro j
  rw [List.getElem?_set]
  split
  · rename_i e; subst e
    rw [if_pos (by rw [lowP_len]; exact h), lowP_at s i h]
  · rfl
theorem lowP_end (s : List UInt8) : lowP s s.length = lowF s := by simp [lowP]
theorem lowP_zero (s : List UInt8) : lowP s 0 = s := by simp [lowP, lowF]
theorem bcells_len (s : List UInt8) : (bcells s).length = s.length := by simp [bcells]
theorem bcells_at {s : List UInt8} {i : Nat} {b : UInt8} (h : s[i]? = some b) : (bcells s)[i]? = some (.int .u8 b.toNat) := by simp [bcells, h]
theorem bcells_set (s : List UInt8) (i : Nat) (b : UInt8) : (bcells s).set i (.int .u8 b.toNat) = bcells (s.set i b) := by simp [bcells, List.map_set]
theorem bcells_blk (s : List UInt8) : blkB (bcells s) = true := by
  cases s with
  | nil => rfl
  | cons a l => rfl
theorem putL_one : ∀ (i : Nat) (cs : List AV) (x : AV), i < cs.length → putL i [x] cs = some (cs.set i x)
  | 0, [], _, h => by simp at h
  | 0, c :: cs, x, _ => by simp only [putL_z, putL_nil, Option.map_some, List.set_cons_zero]
  | i + 1, [], _, h => by simp at h
  | i + 1, c :: cs, x, h => by simp only [putL_s, putL_one i cs x (by simpa using h), Option.map_some, List.set_cons_succ]
theorem IntKind.wrap_u8 (x : Int) : IntKind.u8.wrap x = x % 256 := by
  rfl
theorem l51 (s : List UInt8) (hs : s.length ≤ 1000000) : ∀ (k i : Nat), i + k = s.length →
    execX G0 L51_0 (ST [(3, .ss 0 0 s.length 1), (8, .int .i64 s.length), (9, .int .i64 i)] [] [bcells (lowP s i)]) =
    some (.ex 0, ST [(3, .ss 0 0 s.length 1), (8, .int .i64 s.length), (9, .int .i64 s.length), (10, .bool false)] [] [bcells (lowF s)])
  | 0, i, h => by
    have : i = s.length := by omega
    subst this
    rw [Y_loop (L := L51_0) rfl]
    simp only [go_sem, List.set_cons_zero, List.set_cons_succ, List.take_succ_cons, and_false, false_and, and_true, true_and, Nat.reduceAdd, Nat.reduceEqDiff, Nat.reduceLT, ↓reduceIte, decide_eq_true_eq, List.take_nil, beq_self_eq_true, bne_self_eq_false, List.take_zero, List.map_cons, List.map_nil, Int.reduceNeg, Bool.and_true, and_self, Bool.true_and, Bool.and_self, ne_eq, not_true_eq_false, decide_false, decide_true, Bool.false_eq_true, Nat.reduceAdd, Option.map_some, Option.map_none, Option.bind_some, Option.bind_none, List.length_nil, List.length_cons, List.append_nil, Bool.and_false, w64, demV_sl, Int.cast_ofNat_Int, Int.reduceLT, Int.reduceAdd, Int.reduceSub, Int.reduceLE, Int.reduceEq, Int.reduceToNat, Int.toNat_natCast, Nat.reduceSub, Nat.reduceMul, Nat.reduceLeDiff, Nat.zero_add, Int.zero_add, not_false_eq_true, Bool.not_true, Bool.not_false, Bool.false_and, List.cons_append, List.nil_append, Int.lt_irrefl, lowP_end]
  | k + 1, i, h => by
    have h3 : i < s.length := by omega
    have h4 : (i : Int) < (s.length : Int) := by omega
    have h0 : (0 : Int) ≤ (i : Int) := by omega
    have hw : IntKind.i64.wrap ((i : Int) + 1) = ((i + 1 : Nat) : Int) := by rw [w64 (by omega) (by omega)]; rfl
    have ih := l51 s hs k (i + 1) (by omega)
    have ha := bcells_at (lowP_at s i h3)
    by_cases hl : (65 : Int) ≤ ((s.getD i 0).toNat : Int) ∧ ((s.getD i 0).toNat : Int) ≤ 90
    · have hn := low_nat _ hl
      have hw8 : IntKind.u8.wrap (((s.getD i 0).toNat : Int) + 32) = ((low8 (s.getD i 0)).toNat : Int) := by
        rw [hn, IntKind.wrap_u8]; omega
      have hp : ∀ x, putL i [x] (bcells (lowP s i)) = some ((bcells (lowP s i)).set i x) := fun x => putL_one _ _ x (by rw [bcells_len, lowP_len]; exact h3)
      rw [Y_loop (L := L51_0) rfl]
      simp only [go_sem, List.set_cons_zero, List.set_cons_succ, List.take_succ_cons, and_false, false_and, and_true, true_and, Nat.reduceAdd, Nat.reduceEqDiff, Nat.reduceLT, ↓reduceIte, decide_eq_true_eq, List.take_nil, beq_self_eq_true, bne_self_eq_false, List.take_zero, List.map_cons, List.map_nil, Int.reduceNeg, Bool.and_true, and_self, Bool.true_and, Bool.and_self, ne_eq, not_true_eq_false, decide_false, decide_true, Bool.false_eq_true, Nat.reduceAdd, Option.map_some, Option.map_none, Option.bind_some, Option.bind_none, List.length_nil, List.length_cons, List.append_nil, Bool.and_false, w64, demV_sl, Int.cast_ofNat_Int, Int.reduceLT, Int.reduceAdd, Int.reduceSub, Int.reduceLE, Int.reduceEq, Int.reduceToNat, Int.toNat_natCast, Nat.reduceSub, Nat.reduceMul, Nat.reduceLeDiff, Nat.zero_add, Int.zero_add, not_false_eq_true, Bool.not_true, Bool.not_false, Bool.false_and, List.cons_append, List.nil_append, h4, h0, hw, Nat.mul_one, Nat.zero_add, ha, bcells_blk, hl.1, hl.2, hw8, hp, bcells_set, List.set_cons_zero, ← lowP_succ s i h3]
      exact ih
    · have e : lowP s (i + 1) = lowP s i := lowP_same s i h3 (by unfold low8; rw [if_neg hl])
      rw [e] at ih
      rw [Y_loop (L := L51_0) rfl]
      by_cases h6 : (65 : Int) ≤ ((s.getD i 0).toNat : Int)
      · have h7 : ¬ ((s.getD i 0).toNat : Int) ≤ 90 := fun h => hl ⟨h6, h⟩
        simp only [go_sem, List.set_cons_zero, List.set_cons_succ, List.take_succ_cons, and_false, false_and, and_true, true_and, Nat.reduceAdd, Nat.reduceEqDiff, Nat.reduceLT, ↓reduceIte, decide_eq_true_eq, List.take_nil, beq_self_eq_true, bne_self_eq_false, List.take_zero, List.map_cons, List.map_nil, Int.reduceNeg, Bool.and_true, and_self, Bool.true_and, Bool.and_self, ne_eq, not_true_eq_false, decide_false, decide_true, Bool.false_eq_true, Nat.reduceAdd, Option.map_some, Option.map_none, Option.bind_some, Option.bind_none, List.length_nil, List.length_cons, List.append_nil, Bool.and_false, w64, demV_sl, Int.cast_ofNat_Int, Int.reduceLT, Int.reduceAdd, Int.reduceSub, Int.reduceLE, Int.reduceEq, Int.reduceToNat, Int.toNat_natCast, Nat.reduceSub, Nat.reduceMul, Nat.reduceLeDiff, Nat.zero_add, Int.zero_add, not_false_eq_true, Bool.not_true, Bool.not_false, Bool.false_and, List.cons_append, List.nil_append, h4, h0, hw, Nat.mul_one, Nat.zero_add, ha, bcells_blk, h6, h7]
        exact ih
      · simp only [go_sem, List.set_cons_zero, List.set_cons_succ, List.take_succ_cons, and_false, false_and, and_true, true_and, Nat.reduceAdd, Nat.reduceEqDiff, Nat.reduceLT, ↓reduceIte, decide_eq_true_eq, List.take_nil, beq_self_eq_true, bne_self_eq_false, List.take_zero, List.map_cons, List.map_nil, Int.reduceNeg, Bool.and_true, and_self, Bool.true_and, Bool.and_self, ne_eq, not_true_eq_false, decide_false, decide_true, Bool.false_eq_true, Nat.reduceAdd, Option.map_some, Option.map_none, Option.bind_some, Option.bind_none, List.length_nil, List.length_cons, List.append_nil, Bool.and_false, w64, demV_sl, Int.cast_ofNat_Int, Int.reduceLT, Int.reduceAdd, Int.reduceSub, Int.reduceLE, Int.reduceEq, Int.reduceToNat, Int.toNat_natCast, Nat.reduceSub, Nat.reduceMul, Nat.reduceLeDiff, Nat.zero_add, Int.zero_add, not_false_eq_true, Bool.not_true, Bool.not_false, Bool.false_and, List.cons_append, List.nil_append, h4, h0, hw, Nat.mul_one, Nat.zero_add, ha, bcells_blk, h6]
        exact ih
theorem rowsC_b (s : List UInt8) : rowsC 0 s.length 1 (bcells s) = some (bytesRows s) := by
  have h1 : ∀ s : List UInt8, (bcells s).all (fun x => flatB (demV x)) = true := by
    intro s
    induction s with
    | nil => rfl
    | cons a l ih => simp [bcells, demV, flatB]
  have h2 : ∀ s : List UInt8, (bcells s).map demV = bcells s := by
    intro s
    simp [bcells, demV]
  have h3 : ∀ s : List UInt8, rowsOf 1 s.length (bcells s) = bytesRows s := by
    intro s
    induction s with
    | nil => rfl
    | cons a l ih =>
      have : bcells (a :: l) = .int .u8 (a.toNat : Int) :: bcells l := rfl
      rw [this]
      simpa [rowsOf, bytesRows] using ih
  unfold rowsC
  have h4 : ((bcells s).drop 0).take (s.length * 1) = bcells s := by rw [Nat.mul_one, List.drop_zero]; exact List.take_of_length_le (by rw [bcells_len]; exact Nat.le_refl _)
  rw [h4, h2, h3, if_pos ⟨by decide, by simp [bcells], h1 s⟩]
theorem c51 (s : List UInt8) (hs : s.length ≤ 1000000) : G0 51 [.str s] [] = some (.str (lowF s), []) := by
  refine contract F51 rfl rfl rfl ?_
  have hx := l51 s hs s.length 0 (by omega)
  rw [lowP_zero] at hx
  have hb : s.length ≤ 140737488355328 := by omega
  have hr := rowsC_b (lowF s)
  have hll : (lowF s).length = s.length := by simp [lowF]
  rw [hll] at hr
  simp only [go_sem, List.set_cons_zero, List.set_cons_succ, List.take_succ_cons, and_false, false_and, and_true, true_and, Nat.reduceAdd, Nat.reduceEqDiff, Nat.reduceLT, ↓reduceIte, decide_eq_true_eq, List.take_nil, beq_self_eq_true, bne_self_eq_false, List.take_zero, List.map_cons, List.map_nil, Int.reduceNeg, Bool.and_true, and_self, Bool.true_and, Bool.and_self, ne_eq, not_true_eq_false, decide_false, decide_true, Bool.false_eq_true, Nat.reduceAdd, Option.map_some, Option.map_none, Option.bind_some, Option.bind_none, List.length_nil, List.length_cons, List.append_nil, Bool.and_false, w64, demV_sl, Int.cast_ofNat_Int, Int.reduceLT, Int.reduceAdd, Int.reduceSub, Int.reduceLE, Int.reduceEq, Int.reduceToNat, Int.toNat_natCast, Nat.reduceSub, Nat.reduceMul, Nat.reduceLeDiff, Nat.zero_add, Int.zero_add, not_false_eq_true, Bool.not_true, Bool.not_false, Bool.false_and, List.cons_append, List.nil_append] at hx
  simp only [F51, go_sem, List.set_cons_zero, List.set_cons_succ, List.take_succ_cons, and_false, false_and, and_true, true_and, Nat.reduceAdd, Nat.reduceEqDiff, Nat.reduceLT, ↓reduceIte, decide_eq_true_eq, List.take_nil, beq_self_eq_true, bne_self_eq_false, List.take_zero, List.map_cons, List.map_nil, Int.reduceNeg, Bool.and_true, and_self, Bool.true_and, Bool.and_self, ne_eq, not_true_eq_false, decide_false, decide_true, Bool.false_eq_true, Nat.reduceAdd, Option.map_some, Option.map_none, Option.bind_some, Option.bind_none, List.length_nil, List.length_cons, List.append_nil, Bool.and_false, w64, demV_sl, Int.cast_ofNat_Int, Int.reduceLT, Int.reduceAdd, Int.reduceSub, Int.reduceLE, Int.reduceEq, Int.reduceToNat, Int.toNat_natCast, Nat.reduceSub, Nat.reduceMul, Nat.reduceLeDiff, Nat.zero_add, Int.zero_add, not_false_eq_true, Bool.not_true, Bool.not_false, Bool.false_and, List.cons_append, List.nil_append, hb, hx, hr]
theorem l62 (s : List UInt8) (hs : s.length ≤ 1000000) : ∀ (k i : Nat), i + k = s.length →
    execX G0 L62_0 (ST [(3, .ss 0 0 s.length 1), (8, .ss 0 0 s.length 1), (9, .int .i64 s.length), (10, .int .i64 i)] [] [bcells (lowP s i)]) =
    some (.ex 0, ST [(3, .ss 0 0 s.length 1), (8, .ss 0 0 s.length 1), (9, .int .i64 s.length), (10, .int .i64 s.length), (11, .bool false)] [] [bcells (lowF s)])
  | 0, i, h => by
    have : i = s.length := by omega
    subst this
    rw [Y_loop (L := L62_0) rfl]
    simp only [go_sem, List.set_cons_zero, List.set_cons_succ, List.take_succ_cons, and_false, false_and, and_true, true_and, Nat.reduceAdd, Nat.reduceEqDiff, Nat.reduceLT, ↓reduceIte, decide_eq_true_eq, List.take_nil, beq_self_eq_true, bne_self_eq_false, List.take_zero, List.map_cons, List.map_nil, Int.reduceNeg, Bool.and_true, and_self, Bool.true_and, Bool.and_self, ne_eq, not_true_eq_false, decide_false, decide_true, Bool.false_eq_true, Nat.reduceAdd, Option.map_some, Option.map_none, Option.bind_some, Option.bind_none, List.length_nil, List.length_cons, List.append_nil, Bool.and_false, w64, demV_sl, Int.cast_ofNat_Int, Int.reduceLT, Int.reduceAdd, Int.reduceSub, Int.reduceLE, Int.reduceEq, Int.reduceToNat, Int.toNat_natCast, Nat.reduceSub, Nat.reduceMul, Nat.reduceLeDiff, Nat.zero_add, Int.zero_add, not_false_eq_true, Bool.not_true, Bool.not_false, Bool.false_and, List.cons_append, List.nil_append, Int.lt_irrefl, lowP_end]
  | k + 1, i, h => by
    have h3 : i < s.length := by omega
    have h4 : (i : Int) < (s.length : Int) := by omega
    have h0 : (0 : Int) ≤ (i : Int) := by omega
    have hw : IntKind.i64.wrap ((i : Int) + 1) = ((i + 1 : Nat) : Int) := by rw [w64 (by omega) (by omega)]; rfl
    have ih := l62 s hs k (i + 1) (by omega)
    have ha := bcells_at (lowP_at s i h3)
    by_cases hl : (65 : Int) ≤ ((s.getD i 0).toNat : Int) ∧ ((s.getD i 0).toNat : Int) ≤ 90
    · have hn := low_nat _ hl
      have hw8 : IntKind.u8.wrap (IntKind.u8.wrap (((s.getD i 0).toNat : Int) + 97) - 65) = ((low8 (s.getD i 0)).toNat : Int) := by
        rw [hn, IntKind.wrap_u8, IntKind.wrap_u8]; omega
      have hp : ∀ x, putL i [x] (bcells (lowP s i)) = some ((bcells (lowP s i)).set i x) := fun x => putL_one _ _ x (by rw [bcells_len, lowP_len]; exact h3)
      rw [Y_loop (L := L62_0) rfl]
      simp only [go_sem, List.set_cons_zero, List.set_cons_succ, List.take_succ_cons, and_false, false_and, and_true, true_and, Nat.reduceAdd, Nat.reduceEqDiff, Nat.reduceLT, ↓reduceIte, decide_eq_true_eq, List.take_nil, beq_self_eq_true, bne_self_eq_false, List.take_zero, List.map_cons, List.map_nil, Int.reduceNeg, Bool.and_true, and_self, Bool.true_and, Bool.and_self, ne_eq, not_true_eq_false, decide_false, decide_true, Bool.false_eq_true, Nat.reduceAdd, Option.map_some, Option.map_none, Option.bind_some, Option.bind_none, List.length_nil, List.length_cons, List.append_nil, Bool.and_false, w64, demV_sl, Int.cast_ofNat_Int, Int.reduceLT, Int.reduceAdd, Int.reduceSub, Int.reduceLE, Int.reduceEq, Int.reduceToNat, Int.toNat_natCast, Nat.reduceSub, Nat.reduceMul, Nat.reduceLeDiff, Nat.zero_add, Int.zero_add, not_false_eq_true, Bool.not_true, Bool.not_false, Bool.false_and, List.cons_append, List.nil_append, h4, h0, hw, Nat.mul_one, Nat.zero_add, ha, bcells_blk, hl.1, hl.2, hw8, hp, bcells_set, List.set_cons_zero, ← lowP_succ s i h3]
      exact ih
    · have e : lowP s (i + 1) = lowP s i := lowP_same s i h3 (by unfold low8; rw [if_neg hl])
      rw [e] at ih
      rw [Y_loop (L := L62_0) rfl]
      by_cases h6 : (65 : Int) ≤ ((s.getD i 0).toNat : Int)
      · have h7 : ¬ ((s.getD i 0).toNat : Int) ≤ 90 := fun h => hl ⟨h6, h⟩
        simp only [go_sem, List.set_cons_zero, List.set_cons_succ, List.take_succ_cons, and_false, false_and, and_true, true_and, Nat.reduceAdd, Nat.reduceEqDiff, Nat.reduceLT, ↓reduceIte, decide_eq_true_eq, List.take_nil, beq_self_eq_true, bne_self_eq_false, List.take_zero, List.map_cons, List.map_nil, Int.reduceNeg, Bool.and_true, and_self, Bool.true_and, Bool.and_self, ne_eq, not_true_eq_false, decide_false, decide_true, Bool.false_eq_true, Nat.reduceAdd, Option.map_some, Option.map_none, Option.bind_some, Option.bind_none, List.length_nil, List.length_cons, List.append_nil, Bool.and_false, w64, demV_sl, Int.cast_ofNat_Int, Int.reduceLT, Int.reduceAdd, Int.reduceSub, Int.reduceLE, Int.reduceEq, Int.reduceToNat, Int.toNat_natCast, Nat.reduceSub, Nat.reduceMul, Nat.reduceLeDiff, Nat.zero_add, Int.zero_add, not_false_eq_true, Bool.not_true, Bool.not_false, Bool.false_and, List.cons_append, List.nil_append, h4, h0, hw, Nat.mul_one, Nat.zero_add, ha, bcells_blk, h6, h7]
        exact ih
      · simp only [go_sem, List.set_cons_zero, List.set_cons_succ, List.take_succ_cons, and_false, false_and, and_true, true_and, Nat.reduceAdd, Nat.reduceEqDiff, Nat.reduceLT, ↓reduceIte, decide_eq_true_eq, List.take_nil, beq_self_eq_true, bne_self_eq_false, List.take_zero, List.map_cons, List.map_nil, Int.reduceNeg, Bool.and_true, and_self, Bool.true_and, Bool.and_self, ne_eq, not_true_eq_false, decide_false, decide_true, Bool.false_eq_true, Nat.reduceAdd, Option.map_some, Option.map_none, Option.bind_some, Option.bind_none, List.length_nil, List.length_cons, List.append_nil, Bool.and_false, w64, demV_sl, Int.cast_ofNat_Int, Int.reduceLT, Int.reduceAdd, Int.reduceSub, Int.reduceLE, Int.reduceEq, Int.reduceToNat, Int.toNat_natCast, Nat.reduceSub, Nat.reduceMul, Nat.reduceLeDiff, Nat.zero_add, Int.zero_add, not_false_eq_true, Bool.not_true, Bool.not_false, Bool.false_and, List.cons_append, List.nil_append, h4, h0, hw, Nat.mul_one, Nat.zero_add, ha, bcells_blk, h6]
        exact ih
theorem c62 (s : List UInt8) (hs : s.length ≤ 1000000) : G0 62 [.str s] [] = some (.str (lowF s), []) := by
  refine contract F62 rfl rfl rfl ?_
  have hx := l62 s hs s.length 0 (by omega)
  rw [lowP_zero] at hx
  have hb : s.length ≤ 140737488355328 := by omega
  have hr := rowsC_b (lowF s)
  have hll : (lowF s).length = s.length := by simp [lowF]
  rw [hll] at hr
  simp only [go_sem, List.set_cons_zero, List.set_cons_succ, List.take_succ_cons, and_false, false_and, and_true, true_and, Nat.reduceAdd, Nat.reduceEqDiff, Nat.reduceLT, ↓reduceIte, decide_eq_true_eq, List.take_nil, beq_self_eq_true, bne_self_eq_false, List.take_zero, List.map_cons, List.map_nil, Int.reduceNeg, Bool.and_true, and_self, Bool.true_and, Bool.and_self, ne_eq, not_true_eq_false, decide_false, decide_true, Bool.false_eq_true, Nat.reduceAdd, Option.map_some, Option.map_none, Option.bind_some, Option.bind_none, List.length_nil, List.length_cons, List.append_nil, Bool.and_false, w64, demV_sl, Int.cast_ofNat_Int, Int.reduceLT, Int.reduceAdd, Int.reduceSub, Int.reduceLE, Int.reduceEq, Int.reduceToNat, Int.toNat_natCast, Nat.reduceSub, Nat.reduceMul, Nat.reduceLeDiff, Nat.zero_add, Int.zero_add, not_false_eq_true, Bool.not_true, Bool.not_false, Bool.false_and, List.cons_append, List.nil_append] at hx
  simp only [F62, go_sem, List.set_cons_zero, List.set_cons_succ, List.take_succ_cons, and_false, false_and, and_true, true_and, Nat.reduceAdd, Nat.reduceEqDiff, Nat.reduceLT, ↓reduceIte, decide_eq_true_eq, List.take_nil, beq_self_eq_true, bne_self_eq_false, List.take_zero, List.map_cons, List.map_nil, Int.reduceNeg, Bool.and_true, and_self, Bool.true_and, Bool.and_self, ne_eq, not_true_eq_false, decide_false, decide_true, Bool.false_eq_true, Nat.reduceAdd, Option.map_some, Option.map_none, Option.bind_some, Option.bind_none, List.length_nil, List.length_cons, List.append_nil, Bool.and_false, w64, demV_sl, Int.cast_ofNat_Int, Int.reduceLT, Int.reduceAdd, Int.reduceSub, Int.reduceLE, Int.reduceEq, Int.reduceToNat, Int.toNat_natCast, Nat.reduceSub, Nat.reduceMul, Nat.reduceLeDiff, Nat.zero_add, Int.zero_add, not_false_eq_true, Bool.not_true, Bool.not_false, Bool.false_and, List.cons_append, List.nil_append, hb, hx, hr]
def keyF (k : Int) (s : List UInt8) : List UInt8 := if k = 6 then lowF s else s
theorem c23 (k i : Int) (s : List UInt8) (hs : s.length ≤ 1000000) : G0 23 [.agg [.int .i64 k, .str s, .int .i64 i]] [] = some (.str (keyF k s), []) := by
  refine contract F23 rfl rfl rfl ?_
  by_cases h1 : k = 6
  · simp only [F23, go_sem, List.set_cons_zero, List.set_cons_succ, List.take_succ_cons, and_false, false_and, and_true, true_and, Nat.reduceAdd, Nat.reduceEqDiff, Nat.reduceLT, ↓reduceIte, decide_eq_true_eq, List.take_nil, beq_self_eq_true, bne_self_eq_false, List.take_zero, List.map_cons, List.map_nil, Int.reduceNeg, Bool.and_true, and_self, Bool.true_and, Bool.and_self, ne_eq, not_true_eq_false, decide_false, decide_true, Bool.false_eq_true, Nat.reduceAdd, Option.map_some, Option.map_none, Option.bind_some, Option.bind_none, List.length_nil, List.length_cons, List.append_nil, Bool.and_false, w64, demV_sl, Int.cast_ofNat_Int, Int.reduceLT, Int.reduceAdd, Int.reduceSub, Int.reduceLE, Int.reduceEq, Int.reduceToNat, Int.toNat_natCast, Nat.reduceSub, Nat.reduceMul, Nat.reduceLeDiff, Nat.zero_add, Int.zero_add, not_false_eq_true, Bool.not_true, Bool.not_false, Bool.false_and, List.cons_append, List.nil_append, h1, keyF, c51 s hs]
  · simp only [F23, go_sem, List.set_cons_zero, List.set_cons_succ, List.take_succ_cons, and_false, false_and, and_true, true_and, Nat.reduceAdd, Nat.reduceEqDiff, Nat.reduceLT, ↓reduceIte, decide_eq_true_eq, List.take_nil, beq_self_eq_true, bne_self_eq_false, List.take_zero, List.map_cons, List.map_nil, Int.reduceNeg, Bool.and_true, and_self, Bool.true_and, Bool.and_self, ne_eq, not_true_eq_false, decide_false, decide_true, Bool.false_eq_true, Nat.reduceAdd, Option.map_some, Option.map_none, Option.bind_some, Option.bind_none, List.length_nil, List.length_cons, List.append_nil, Bool.and_false, w64, demV_sl, Int.cast_ofNat_Int, Int.reduceLT, Int.reduceAdd, Int.reduceSub, Int.reduceLE, Int.reduceEq, Int.reduceToNat, Int.toNat_natCast, Nat.reduceSub, Nat.reduceMul, Nat.reduceLeDiff, Nat.zero_add, Int.zero_add, not_false_eq_true, Bool.not_true, Bool.not_false, Bool.false_and, List.cons_append, List.nil_append, h1, keyF]
theorem c45 (k i : Int) (s : List UInt8) (hs : s.length ≤ 1000000) : G0 45 [.agg [.int .i64 k, .str s, .int .i64 i]] [] = some (.str (keyF k s), []) := by
  refine contract F45 rfl rfl rfl ?_
  by_cases h1 : k = 6
  · simp only [F45, go_sem, List.set_cons_zero, List.set_cons_succ, List.take_succ_cons, and_false, false_and, and_true, true_and, Nat.reduceAdd, Nat.reduceEqDiff, Nat.reduceLT, ↓reduceIte, decide_eq_true_eq, List.take_nil, beq_self_eq_true, bne_self_eq_false, List.take_zero, List.map_cons, List.map_nil, Int.reduceNeg, Bool.and_true, and_self, Bool.true_and, Bool.and_self, ne_eq, not_true_eq_false, decide_false, decide_true, Bool.false_eq_true, Nat.reduceAdd, Option.map_some, Option.map_none, Option.bind_some, Option.bind_none, List.length_nil, List.length_cons, List.append_nil, Bool.and_false, w64, demV_sl, Int.cast_ofNat_Int, Int.reduceLT, Int.reduceAdd, Int.reduceSub, Int.reduceLE, Int.reduceEq, Int.reduceToNat, Int.toNat_natCast, Nat.reduceSub, Nat.reduceMul, Nat.reduceLeDiff, Nat.zero_add, Int.zero_add, not_false_eq_true, Bool.not_true, Bool.not_false, Bool.false_and, List.cons_append, List.nil_append, h1, keyF, c62 s hs]
  · simp only [F45, go_sem, List.set_cons_zero, List.set_cons_succ, List.take_succ_cons, and_false, false_and, and_true, true_and, Nat.reduceAdd, Nat.reduceEqDiff, Nat.reduceLT, ↓reduceIte, decide_eq_true_eq, List.take_nil, beq_self_eq_true, bne_self_eq_false, List.take_zero, List.map_cons, List.map_nil, Int.reduceNeg, Bool.and_true, and_self, Bool.true_and, Bool.and_self, ne_eq, not_true_eq_false, decide_false, decide_true, Bool.false_eq_true, Nat.reduceAdd, Option.map_some, Option.map_none, Option.bind_some, Option.bind_none, List.length_nil, List.length_cons, List.append_nil, Bool.and_false, w64, demV_sl, Int.cast_ofNat_Int, Int.reduceLT, Int.reduceAdd, Int.reduceSub, Int.reduceLE, Int.reduceEq, Int.reduceToNat, Int.toNat_natCast, Nat.reduceSub, Nat.reduceMul, Nat.reduceLeDiff, Nat.zero_add, Int.zero_add, not_false_eq_true, Bool.not_true, Bool.not_false, Bool.false_and, List.cons_append, List.nil_append, h1, keyF]
end Go.Av
