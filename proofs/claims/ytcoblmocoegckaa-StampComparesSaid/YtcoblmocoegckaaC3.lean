/- A part of the proof: C3. No conditions. -/
import Derived.Test.YtcoblmocoegckaaC1
import Derived.Test.YtcoblmocoegckaaAv20
set_option linter.unusedSimpArgs false
set_option linter.unusedVariables false
namespace Go.Av
set_option linter.unusedSimpArgs false
theorem ints_one (x : Int) : [[AV.int .i64 x]] = ints [x] := rfl
theorem ints_app (x y : List Int) : ints x ++ ints y = ints (x ++ y) := by simp [ints]
def mxF (a b : List Int) (i : Int) : Int := max (atF a i) (atF b i)
def jl (a b : List Int) : Int → Nat → List Int
  | _, 0 => []
  | i, k + 1 => mxF a b i :: jl a b (i + 1) k
def lst (a b : List Int) : Int → Int → Nat → Int
  | last, _, 0 => last
  | last, i, k + 1 => lst a b (if mxF a b i = 0 then last else i + 1) (i + 1) k
theorem mxF_def (a b : List Int) (i : Int) : max (atF a i) (atF b i) = mxF a b i := rfl
theorem l21 (a b : List Int) : ∀ (k : Nat) (md : Own) (out : List Int) (last i : Int), md ≠ .no → 0 ≤ i → i + k = 8 → (out.length : Int) = i →
    execX G0 L21_0 (ST [(0, .sl .no 1 (ints a)), (1, .sl .no 1 (ints b)), (4, .sl md 1 (ints out)), (5, .int .i64 last), (8, .int .i64 i)] [] []) =
    some (.ex 0, ST [(0, .sl .no 1 (ints a)), (1, .sl .no 1 (ints b)), (4, .sl (mdK md k) 1 (ints (out ++ jl a b i k))), (5, .int .i64 (lst a b last i k)), (8, .int .i64 8), (9, .bool false)] [] [])
  | 0, md, out, last, i, hm, h0, h1, h2 => by
    have : i = 8 := by omega
    subst this
    rw [Y_loop (L := L21_0) rfl]
    simp only [go_sem, Nat.reduceAdd, Nat.reduceEqDiff, Nat.reduceLT, ↓reduceIte, decide_eq_true_eq, List.take_nil, beq_self_eq_true, bne_self_eq_false, List.take_zero, List.map_cons, List.map_nil, Int.reduceNeg, Bool.and_true, and_self, Bool.true_and, Bool.and_self, ne_eq, not_true_eq_false, decide_false, decide_true, Bool.false_eq_true, Nat.reduceAdd, Option.map_some, Option.map_none, Option.bind_some, Option.bind_none, List.length_nil, List.length_cons, List.append_nil, Bool.and_false, w64, demV_sl, Int.cast_ofNat_Int, Int.reduceLT, Int.reduceAdd, Int.reduceSub, Int.reduceLE, Int.reduceEq, Int.reduceToNat, Int.toNat_natCast, Nat.reduceSub, Nat.reduceMul, Nat.reduceLeDiff, Nat.zero_add, Int.zero_add, not_false_eq_true, Bool.not_true, Bool.not_false, Bool.false_and, List.cons_append, List.nil_append, jl, lst, Int.lt_irrefl]
  | k + 1, md, out, last, i, hm, h0, h1, h2 => by
    have h3 : i < 8 := by omega
    have ih1 := l21 a b k .own (out ++ [mxF a b i]) (i + 1) (i + 1) (by decide) (by omega) (by omega) (by simp; omega)
    have ih2 := l21 a b k .own (out ++ [mxF a b i]) last (i + 1) (by decide) (by omega) (by omega) (by simp; omega)
    rw [Y_loop (L := L21_0) rfl]
    have h4 : appOK 8 (out.length + 1) = true := appOK_le (by decide) (by omega)
    simp only [go_sem, Nat.reduceAdd, Nat.reduceEqDiff, Nat.reduceLT, ↓reduceIte, decide_eq_true_eq, List.take_nil, beq_self_eq_true, bne_self_eq_false, List.take_zero, List.map_cons, List.map_nil, Int.reduceNeg, Bool.and_true, and_self, Bool.true_and, Bool.and_self, ne_eq, not_true_eq_false, decide_false, decide_true, Bool.false_eq_true, Nat.reduceAdd, Option.map_some, Option.map_none, Option.bind_some, Option.bind_none, List.length_nil, List.length_cons, List.append_nil, Bool.and_false, w64, demV_sl, Int.cast_ofNat_Int, Int.reduceLT, Int.reduceAdd, Int.reduceSub, Int.reduceLE, Int.reduceEq, Int.reduceToNat, Int.toNat_natCast, Nat.reduceSub, Nat.reduceMul, Nat.reduceLeDiff, Nat.zero_add, Int.zero_add, not_false_eq_true, Bool.not_true, Bool.not_false, Bool.false_and, List.cons_append, List.nil_append, demV_sl, appA_gen md _ hm 1 8 (by decide), c25, h3, ints_length, h4, ints_one, ints_app, mxF_def]
    by_cases h5 : mxF a b i = 0
    · simp only [go_sem, Nat.reduceAdd, Nat.reduceEqDiff, Nat.reduceLT, ↓reduceIte, decide_eq_true_eq, List.take_nil, beq_self_eq_true, bne_self_eq_false, List.take_zero, List.map_cons, List.map_nil, Int.reduceNeg, Bool.and_true, and_self, Bool.true_and, Bool.and_self, ne_eq, not_true_eq_false, decide_false, decide_true, Bool.false_eq_true, Nat.reduceAdd, Option.map_some, Option.map_none, Option.bind_some, Option.bind_none, List.length_nil, List.length_cons, List.append_nil, Bool.and_false, w64, demV_sl, Int.cast_ofNat_Int, Int.reduceLT, Int.reduceAdd, Int.reduceSub, Int.reduceLE, Int.reduceEq, Int.reduceToNat, Int.toNat_natCast, Nat.reduceSub, Nat.reduceMul, Nat.reduceLeDiff, Nat.zero_add, Int.zero_add, not_false_eq_true, Bool.not_true, Bool.not_false, Bool.false_and, List.cons_append, List.nil_append, h5, w64 (n := i + 1) (by omega) (by omega)]
      rw [h5] at ih2
      rw [ih2]
      simp [jl, lst, h5, mdK_own, mdK_succ]
    · simp only [go_sem, Nat.reduceAdd, Nat.reduceEqDiff, Nat.reduceLT, ↓reduceIte, decide_eq_true_eq, List.take_nil, beq_self_eq_true, bne_self_eq_false, List.take_zero, List.map_cons, List.map_nil, Int.reduceNeg, Bool.and_true, and_self, Bool.true_and, Bool.and_self, ne_eq, not_true_eq_false, decide_false, decide_true, Bool.false_eq_true, Nat.reduceAdd, Option.map_some, Option.map_none, Option.bind_some, Option.bind_none, List.length_nil, List.length_cons, List.append_nil, Bool.and_false, w64, demV_sl, Int.cast_ofNat_Int, Int.reduceLT, Int.reduceAdd, Int.reduceSub, Int.reduceLE, Int.reduceEq, Int.reduceToNat, Int.toNat_natCast, Nat.reduceSub, Nat.reduceMul, Nat.reduceLeDiff, Nat.zero_add, Int.zero_add, not_false_eq_true, Bool.not_true, Bool.not_false, Bool.false_and, List.cons_append, List.nil_append, h5, w64 (n := i + 1) (by omega) (by omega)]
      rw [ih1]
      simp [jl, lst, h5, mdK_own, mdK_succ]

theorem ints_take (x : List Int) (n : Nat) : (ints x).take n = ints (x.take n) := by simp [ints, List.map_take]
theorem ints_nil : ints [] = [] := rfl
def joinF (a b : List Int) : List Int := (jl a b 0 8).take (lst a b 0 0 8).toNat
theorem lst_bd (a b : List Int) : ∀ (k : Nat) (last i : Int), 0 ≤ last → last ≤ i → 0 ≤ i → 0 ≤ lst a b last i k ∧ lst a b last i k ≤ i + k
  | 0, last, i, h1, h2, h3 => by simp only [lst]; omega
  | k + 1, last, i, h1, h2, h3 => by
    simp only [lst]
    split
    · have := lst_bd a b k last (i + 1) h1 (by omega) (by omega); omega
    · have := lst_bd a b k (i + 1) (i + 1) (by omega) (by omega) (by omega); omega
theorem jl_len (a b : List Int) : ∀ (k : Nat) (i : Int), (jl a b i k).length = k
  | 0, _ => rfl
  | k + 1, i => by simp [jl, jl_len a b k]
theorem c21 (a b : List Int) : G0 21 [.sl .no 1 (ints a), .sl .no 1 (ints b)] [] = some (.sl .no 1 (ints (joinF a b)), []) := by
  refine contract F21 rfl rfl rfl ?_
  have h1 : 0 ≤ lst a b 0 0 8 ∧ lst a b 0 0 8 ≤ 8 := lst_bd a b 8 0 0 (by omega) (by omega) (by omega)
  have hx := l21 a b 8 .full [] 0 0 (by decide) (by omega) (by omega) rfl
  rw [ints_nil] at hx
  simp only [F21, go_sem, Nat.reduceAdd, Nat.reduceEqDiff, Nat.reduceLT, ↓reduceIte, decide_eq_true_eq, List.take_nil, beq_self_eq_true, bne_self_eq_false, List.take_zero, List.map_cons, List.map_nil, Int.reduceNeg, Bool.and_true, and_self, Bool.true_and, Bool.and_self, ne_eq, not_true_eq_false, decide_false, decide_true, Bool.false_eq_true, Nat.reduceAdd, Option.map_some, Option.map_none, Option.bind_some, Option.bind_none, List.length_nil, List.length_cons, List.append_nil, Bool.and_false, w64, demV_sl, Int.cast_ofNat_Int, Int.reduceLT, Int.reduceAdd, Int.reduceSub, Int.reduceLE, Int.reduceEq, Int.reduceToNat, Int.toNat_natCast, Nat.reduceSub, Nat.reduceMul, Nat.reduceLeDiff, Nat.zero_add, Int.zero_add, not_false_eq_true, Bool.not_true, Bool.not_false, Bool.false_and, List.cons_append, List.nil_append, hx, h1, ints_length, jl_len, ints_take, joinF]

theorem c19 (a : List Int) : G0 19 [.sl .no 1 (ints a)] [] = some (.sl .no 1 (ints (joinF a [])), []) := by
  refine contract F19 rfl rfl rfl ?_
  have h := c21 a []
  rw [ints_nil] at h
  simp only [F19, go_sem, Nat.reduceAdd, Nat.reduceEqDiff, Nat.reduceLT, ↓reduceIte, decide_eq_true_eq, List.take_nil, beq_self_eq_true, bne_self_eq_false, List.take_zero, List.map_cons, List.map_nil, Int.reduceNeg, Bool.and_true, and_self, Bool.true_and, Bool.and_self, ne_eq, not_true_eq_false, decide_false, decide_true, Bool.false_eq_true, Nat.reduceAdd, Option.map_some, Option.map_none, Option.bind_some, Option.bind_none, List.length_nil, List.length_cons, List.append_nil, Bool.and_false, w64, demV_sl, Int.cast_ofNat_Int, Int.reduceLT, Int.reduceAdd, Int.reduceSub, Int.reduceLE, Int.reduceEq, Int.reduceToNat, Int.toNat_natCast, Nat.reduceSub, Nat.reduceMul, Nat.reduceLeDiff, Nat.zero_add, Int.zero_add, not_false_eq_true, Bool.not_true, Bool.not_false, Bool.false_and, List.cons_append, List.nil_append, h]
theorem atF_nn (v : List Int) (i : Int) : 0 ≤ atF v i := by unfold atF; split; omega; split; omega; split; omega; omega
theorem l22 (a b : List Int) : ∀ (k : Nat) (md : Own) (out : List Int) (i : Int), md ≠ .no → 0 ≤ i → i + k = 8 → (out.length : Int) = i →
    execX G0 L22_0 (ST [(0, .sl .no 1 (ints a)), (1, .sl .no 1 (ints b)), (5, .sl md 1 (ints out)), (6, .int .i64 i)] [] []) =
    some (.ex 0, ST [(0, .sl .no 1 (ints a)), (1, .sl .no 1 (ints b)), (5, .sl (mdK md k) 1 (ints (out ++ jl a b i k))), (6, .int .i64 8), (8, .bool false)] [] [])
  | 0, md, out, i, hm, h0, h1, h2 => by
    have : i = 8 := by omega
    subst this
    rw [Y_loop (L := L22_0) rfl]
    simp only [go_sem, Nat.reduceAdd, Nat.reduceEqDiff, Nat.reduceLT, ↓reduceIte, decide_eq_true_eq, List.take_nil, beq_self_eq_true, bne_self_eq_false, List.take_zero, List.map_cons, List.map_nil, Int.reduceNeg, Bool.and_true, and_self, Bool.true_and, Bool.and_self, ne_eq, not_true_eq_false, decide_false, decide_true, Bool.false_eq_true, Nat.reduceAdd, Option.map_some, Option.map_none, Option.bind_some, Option.bind_none, List.length_nil, List.length_cons, List.append_nil, Bool.and_false, w64, demV_sl, Int.cast_ofNat_Int, Int.reduceLT, Int.reduceAdd, Int.reduceSub, Int.reduceLE, Int.reduceEq, Int.reduceToNat, Int.toNat_natCast, Nat.reduceSub, Nat.reduceMul, Nat.reduceLeDiff, Nat.zero_add, Int.zero_add, not_false_eq_true, Bool.not_true, Bool.not_false, Bool.false_and, List.cons_append, List.nil_append, jl, Int.lt_irrefl]
  | k + 1, md, out, i, hm, h0, h1, h2 => by
    have h3 : i < 8 := by omega
    have ih := l22 a b k .own (out ++ [mxF a b i]) (i + 1) (by decide) (by omega) (by omega) (by simp; omega)
    rw [Y_loop (L := L22_0) rfl]
    have h4 : appOK 8 (out.length + 1) = true := appOK_le (by decide) (by omega)
    simp only [go_sem, Nat.reduceAdd, Nat.reduceEqDiff, Nat.reduceLT, ↓reduceIte, decide_eq_true_eq, List.take_nil, beq_self_eq_true, bne_self_eq_false, List.take_zero, List.map_cons, List.map_nil, Int.reduceNeg, Bool.and_true, and_self, Bool.true_and, Bool.and_self, ne_eq, not_true_eq_false, decide_false, decide_true, Bool.false_eq_true, Nat.reduceAdd, Option.map_some, Option.map_none, Option.bind_some, Option.bind_none, List.length_nil, List.length_cons, List.append_nil, Bool.and_false, w64, demV_sl, Int.cast_ofNat_Int, Int.reduceLT, Int.reduceAdd, Int.reduceSub, Int.reduceLE, Int.reduceEq, Int.reduceToNat, Int.toNat_natCast, Nat.reduceSub, Nat.reduceMul, Nat.reduceLeDiff, Nat.zero_add, Int.zero_add, not_false_eq_true, Bool.not_true, Bool.not_false, Bool.false_and, List.cons_append, List.nil_append, demV_sl, appA_gen md _ hm 1 8 (by decide), c26, h3, ints_length, h4, ints_one, ints_app, mxF_def, w64 (n := i + 1) (by omega) (by omega)]
    rw [ih]
    simp [jl, mdK_own, mdK_succ]
/-- filling up to a length -/
def fillT (v : List Int) (n : Nat) : Nat → List Int
  | 0 => []
  | k + 1 => atF v n :: fillT v (n + 1) k
theorem l20i (v : List Int) (i : Int) : ∀ (k : Nat) (md : Own) (out : List Int), md ≠ .no → i ≤ 8 → (out.length : Int) + k = i →
    execX G0 L20_0 (ST [(0, .sl .no 1 (ints v)), (3, .sl md 1 (ints out)), (4, .int .i64 i), (6, .bool true), (12, .bool true)] [] []) =
    some (.ex 2, ST [(0, .sl .no 1 (ints v)), (3, .sl (mdK md k) 1 (ints (out ++ fillT v out.length k))), (4, .int .i64 i), (6, .bool true), (12, .bool true), (16, .bool false)] [] [])
  | 0, md, out, hm, h0, h1 => by
    have h2 : ¬ (out.length : Int) < i := by omega
    rw [Y_loop (L := L20_0) rfl]
    simp only [go_sem, Nat.reduceAdd, Nat.reduceEqDiff, Nat.reduceLT, ↓reduceIte, decide_eq_true_eq, List.take_nil, beq_self_eq_true, bne_self_eq_false, List.take_zero, List.map_cons, List.map_nil, Int.reduceNeg, Bool.and_true, and_self, Bool.true_and, Bool.and_self, ne_eq, not_true_eq_false, decide_false, decide_true, Bool.false_eq_true, Nat.reduceAdd, Option.map_some, Option.map_none, Option.bind_some, Option.bind_none, List.length_nil, List.length_cons, List.append_nil, Bool.and_false, w64, demV_sl, Int.cast_ofNat_Int, Int.reduceLT, Int.reduceAdd, Int.reduceSub, Int.reduceLE, Int.reduceEq, Int.reduceToNat, Int.toNat_natCast, Nat.reduceSub, Nat.reduceMul, Nat.reduceLeDiff, Nat.zero_add, Int.zero_add, not_false_eq_true, Bool.not_true, Bool.not_false, Bool.false_and, List.cons_append, List.nil_append, demV_sl, ints_length, h2, fillT]
  | k + 1, md, out, hm, h0, h1 => by
    have h2 : (out.length : Int) < i := by omega
    have ih := l20i v i k .own (out ++ [atF v out.length]) (by decide) (by omega) (by simp; omega)
    rw [Y_loop (L := L20_0) rfl]
    have h4 : appOK 8 (out.length + 1) = true := appOK_le (by decide) (by omega)
    simp only [go_sem, Nat.reduceAdd, Nat.reduceEqDiff, Nat.reduceLT, ↓reduceIte, decide_eq_true_eq, List.take_nil, beq_self_eq_true, bne_self_eq_false, List.take_zero, List.map_cons, List.map_nil, Int.reduceNeg, Bool.and_true, and_self, Bool.true_and, Bool.and_self, ne_eq, not_true_eq_false, decide_false, decide_true, Bool.false_eq_true, Nat.reduceAdd, Option.map_some, Option.map_none, Option.bind_some, Option.bind_none, List.length_nil, List.length_cons, List.append_nil, Bool.and_false, w64, demV_sl, Int.cast_ofNat_Int, Int.reduceLT, Int.reduceAdd, Int.reduceSub, Int.reduceLE, Int.reduceEq, Int.reduceToNat, Int.toNat_natCast, Nat.reduceSub, Nat.reduceMul, Nat.reduceLeDiff, Nat.zero_add, Int.zero_add, not_false_eq_true, Bool.not_true, Bool.not_false, Bool.false_and, List.cons_append, List.nil_append, demV_sl, appA_gen md _ hm 1 8 (by decide), c26, h2, ints_length, h4, ints_one, ints_app]
    rw [ih]
    simp [fillT, mdK_own, mdK_succ]
def trl (v : List Int) : List Int → Nat → Nat → List Int
  | out, _, 0 => out
  | out, i, k + 1 => trl v (if 0 < atF v i then out ++ fillT v out.length (i - out.length) ++ [atF v i] else out) (i + 1) k
theorem fillT_len (v : List Int) : ∀ (k n : Nat), (fillT v n k).length = k
  | 0, _ => rfl
  | k + 1, n => by simp [fillT, fillT_len v k]
theorem l20o (v : List Int) : ∀ (k : Nat) (md : Own) (out : List Int) (i : Nat), md ≠ .no → i + k = 8 → out.length ≤ i →
    ∃ md', execX G0 L20_1 (ST [(0, .sl .no 1 (ints v)), (3, .sl md 1 (ints out)), (4, .int .i64 i)] [] []) =
    some (.ex 0, ST [(0, .sl .no 1 (ints v)), (3, .sl md' 1 (ints (trl v out i k))), (4, .int .i64 8), (6, .bool false)] [] [])
  | 0, md, out, i, hm, h1, h2 => by
    have : i = 8 := by omega
    subst this
    refine ⟨md, ?_⟩
    rw [Y_loop (L := L20_1) rfl]
    simp only [go_sem, Nat.reduceAdd, Nat.reduceEqDiff, Nat.reduceLT, ↓reduceIte, decide_eq_true_eq, List.take_nil, beq_self_eq_true, bne_self_eq_false, List.take_zero, List.map_cons, List.map_nil, Int.reduceNeg, Bool.and_true, and_self, Bool.true_and, Bool.and_self, ne_eq, not_true_eq_false, decide_false, decide_true, Bool.false_eq_true, Nat.reduceAdd, Option.map_some, Option.map_none, Option.bind_some, Option.bind_none, List.length_nil, List.length_cons, List.append_nil, Bool.and_false, w64, demV_sl, Int.cast_ofNat_Int, Int.reduceLT, Int.reduceAdd, Int.reduceSub, Int.reduceLE, Int.reduceEq, Int.reduceToNat, Int.toNat_natCast, Nat.reduceSub, Nat.reduceMul, Nat.reduceLeDiff, Nat.zero_add, Int.zero_add, not_false_eq_true, Bool.not_true, Bool.not_false, Bool.false_and, List.cons_append, List.nil_append, trl, Int.lt_irrefl]
  | k + 1, md, out, i, hm, h1, h2 => by
    have h3 : (i : Int) < 8 := by omega
    by_cases h5 : 0 < atF v i
    · obtain ⟨md', ih⟩ := l20o v k .own (out ++ fillT v out.length (i - out.length) ++ [atF v i]) (i + 1) (by decide) (by omega) (by simp [fillT_len]; omega)
      have hi := l20i v i (i - out.length) md out hm (by omega) (by omega)
      refine ⟨md', ?_⟩
      rw [Y_loop (L := L20_1) rfl]
      have hm' : mdK md (i - out.length) ≠ .no := by cases i - out.length <;> simp [mdK, hm]
      have h4 : appOK 8 (out.length + (i - out.length) + 1) = true := appOK_le (by decide) (by omega)
      simp only [go_sem, Nat.reduceAdd, Nat.reduceEqDiff, Nat.reduceLT, ↓reduceIte, decide_eq_true_eq, List.take_nil, beq_self_eq_true, bne_self_eq_false, List.take_zero, List.map_cons, List.map_nil, Int.reduceNeg, Bool.and_true, and_self, Bool.true_and, Bool.and_self, ne_eq, not_true_eq_false, decide_false, decide_true, Bool.false_eq_true, Nat.reduceAdd, Option.map_some, Option.map_none, Option.bind_some, Option.bind_none, List.length_nil, List.length_cons, List.append_nil, Bool.and_false, w64, demV_sl, Int.cast_ofNat_Int, Int.reduceLT, Int.reduceAdd, Int.reduceSub, Int.reduceLE, Int.reduceEq, Int.reduceToNat, Int.toNat_natCast, Nat.reduceSub, Nat.reduceMul, Nat.reduceLeDiff, Nat.zero_add, Int.zero_add, not_false_eq_true, Bool.not_true, Bool.not_false, Bool.false_and, List.cons_append, List.nil_append, c26, h3, h5, hi, demV_sl, appA_gen (mdK md (i - out.length)) _ hm' 1 8 (by decide), ints_length, h4, ints_one, ints_app, List.length_append, fillT_len, w64 (n := (i : Int) + 1) (by omega) (by omega)]
      rw [Int.natCast_succ] at ih
      rw [ih]
      simp only [trl, h5, ↓reduceIte]
    · obtain ⟨md', ih⟩ := l20o v k md out (i + 1) hm (by omega) (by omega)
      refine ⟨md', ?_⟩
      rw [Y_loop (L := L20_1) rfl]
      simp only [go_sem, Nat.reduceAdd, Nat.reduceEqDiff, Nat.reduceLT, ↓reduceIte, decide_eq_true_eq, List.take_nil, beq_self_eq_true, bne_self_eq_false, List.take_zero, List.map_cons, List.map_nil, Int.reduceNeg, Bool.and_true, and_self, Bool.true_and, Bool.and_self, ne_eq, not_true_eq_false, decide_false, decide_true, Bool.false_eq_true, Nat.reduceAdd, Option.map_some, Option.map_none, Option.bind_some, Option.bind_none, List.length_nil, List.length_cons, List.append_nil, Bool.and_false, w64, demV_sl, Int.cast_ofNat_Int, Int.reduceLT, Int.reduceAdd, Int.reduceSub, Int.reduceLE, Int.reduceEq, Int.reduceToNat, Int.toNat_natCast, Nat.reduceSub, Nat.reduceMul, Nat.reduceLeDiff, Nat.zero_add, Int.zero_add, not_false_eq_true, Bool.not_true, Bool.not_false, Bool.false_and, List.cons_append, List.nil_append, c26, h3, h5, w64 (n := (i : Int) + 1) (by omega) (by omega)]
      rw [Int.natCast_succ] at ih
      rw [ih]
      simp only [trl, h5, ↓reduceIte]
theorem c20 (v : List Int) : G0 20 [.sl .no 1 (ints v)] [] = some (.sl .no 1 (ints (trl v [] 0 8)), []) := by
  refine contract F20 rfl rfl rfl ?_
  obtain ⟨md', h⟩ := l20o v 8 .full [] 0 (by decide) (by omega) (by simp)
  simp only [ints_nil, Int.cast_ofNat_Int] at h
  simp only [F20, go_sem, Nat.reduceAdd, Nat.reduceEqDiff, Nat.reduceLT, ↓reduceIte, decide_eq_true_eq, List.take_nil, beq_self_eq_true, bne_self_eq_false, List.take_zero, List.map_cons, List.map_nil, Int.reduceNeg, Bool.and_true, and_self, Bool.true_and, Bool.and_self, ne_eq, not_true_eq_false, decide_false, decide_true, Bool.false_eq_true, Nat.reduceAdd, Option.map_some, Option.map_none, Option.bind_some, Option.bind_none, List.length_nil, List.length_cons, List.append_nil, Bool.and_false, w64, demV_sl, Int.cast_ofNat_Int, Int.reduceLT, Int.reduceAdd, Int.reduceSub, Int.reduceLE, Int.reduceEq, Int.reduceToNat, Int.toNat_natCast, Nat.reduceSub, Nat.reduceMul, Nat.reduceLeDiff, Nat.zero_add, Int.zero_add, not_false_eq_true, Bool.not_true, Bool.not_false, Bool.false_and, List.cons_append, List.nil_append, h]
theorem c22 (a b : List Int) : G0 22 [.sl .no 1 (ints a), .sl .no 1 (ints b)] [] = some (.sl .no 1 (ints (trl (jl a b 0 8) [] 0 8)), []) := by
  refine contract F22 rfl rfl rfl ?_
  have hx := l22 a b 8 .full [] 0 (by decide) (by omega) (by omega) rfl
  rw [ints_nil] at hx
  simp only [F22, go_sem, Nat.reduceAdd, Nat.reduceEqDiff, Nat.reduceLT, ↓reduceIte, decide_eq_true_eq, List.take_nil, beq_self_eq_true, bne_self_eq_false, List.take_zero, List.map_cons, List.map_nil, Int.reduceNeg, Bool.and_true, and_self, Bool.true_and, Bool.and_self, ne_eq, not_true_eq_false, decide_false, decide_true, Bool.false_eq_true, Nat.reduceAdd, Option.map_some, Option.map_none, Option.bind_some, Option.bind_none, List.length_nil, List.length_cons, List.append_nil, Bool.and_false, w64, demV_sl, Int.cast_ofNat_Int, Int.reduceLT, Int.reduceAdd, Int.reduceSub, Int.reduceLE, Int.reduceEq, Int.reduceToNat, Int.toNat_natCast, Nat.reduceSub, Nat.reduceMul, Nat.reduceLeDiff, Nat.zero_add, Int.zero_add, not_false_eq_true, Bool.not_true, Bool.not_false, Bool.false_and, List.cons_append, List.nil_append, hx, c20]

def contF (a b : List Int) : Int → Nat → Bool
  | _, 0 => true
  | i, k + 1 => if atF a i < atF b i then false else contF a b (i + 1) k

theorem l23 (a b : List Int) (n : Int) (hn : n ≤ 8) : ∀ (k : Nat) (i : Int), 0 ≤ i → i + k = n →
    (contF a b i k = true → ∃ l', execX G0 L23_0 (ST [(0, .sl .no 1 (ints a)), (1, .sl .no 1 (ints b)), (8, .int .i64 n), (9, .int .i64 i)] [] []) = some (.ex 0, ST l' [] [])) ∧
    (contF a b i k = false → ∃ l', look .any l' 4 = .bool false ∧ execX G0 L23_0 (ST [(0, .sl .no 1 (ints a)), (1, .sl .no 1 (ints b)), (8, .int .i64 n), (9, .int .i64 i)] [] []) = some (.ret, ST l' [] []))
  | 0, i, h0, h1 => by
    have : i = n := by omega
    subst this
    rw [Y_loop (L := L23_0) rfl]
    refine ⟨fun _ => ?_, fun h => by cases h⟩
    simp only [go_sem, Nat.reduceAdd, Nat.reduceEqDiff, Nat.reduceLT, ↓reduceIte, decide_eq_true_eq, List.take_nil, beq_self_eq_true, bne_self_eq_false, List.take_zero, List.map_cons, List.map_nil, Int.reduceNeg, Bool.and_true, and_self, Bool.true_and, Bool.and_self, ne_eq, not_true_eq_false, decide_false, decide_true, Bool.false_eq_true, Nat.reduceAdd, Option.map_some, Option.map_none, Option.bind_some, Option.bind_none, List.length_nil, List.length_cons, List.append_nil, Bool.and_false, w64, demV_sl, Int.cast_ofNat_Int, Int.reduceLT, Int.reduceAdd, Int.reduceSub, Int.reduceLE, Int.reduceEq, Int.reduceToNat, Int.toNat_natCast, Nat.reduceSub, Nat.reduceMul, Nat.reduceLeDiff, Nat.zero_add, Int.zero_add, not_false_eq_true, Bool.not_true, Bool.not_false, Bool.false_and, List.cons_append, List.nil_append, Int.lt_irrefl]
    exact ⟨_, rfl⟩
  | k + 1, i, h0, h1 => by
    have h3 : i < n := by omega
    have ih := l23 a b n hn k (i + 1) (by omega) (by omega)
    rw [Y_loop (L := L23_0) rfl]
    by_cases h5 : atF a i < atF b i
    · simp only [go_sem, Nat.reduceAdd, Nat.reduceEqDiff, Nat.reduceLT, ↓reduceIte, decide_eq_true_eq, List.take_nil, beq_self_eq_true, bne_self_eq_false, List.take_zero, List.map_cons, List.map_nil, Int.reduceNeg, Bool.and_true, and_self, Bool.true_and, Bool.and_self, ne_eq, not_true_eq_false, decide_false, decide_true, Bool.false_eq_true, Nat.reduceAdd, Option.map_some, Option.map_none, Option.bind_some, Option.bind_none, List.length_nil, List.length_cons, List.append_nil, Bool.and_false, w64, demV_sl, Int.cast_ofNat_Int, Int.reduceLT, Int.reduceAdd, Int.reduceSub, Int.reduceLE, Int.reduceEq, Int.reduceToNat, Int.toNat_natCast, Nat.reduceSub, Nat.reduceMul, Nat.reduceLeDiff, Nat.zero_add, Int.zero_add, not_false_eq_true, Bool.not_true, Bool.not_false, Bool.false_and, List.cons_append, List.nil_append, c25, h3, h5, contF, w64 (n := i + 1) (by omega) (by omega)]
      exact ⟨fun h => (nomatch h), fun _ => ⟨_, rfl, rfl⟩⟩
    · simp only [go_sem, Nat.reduceAdd, Nat.reduceEqDiff, Nat.reduceLT, ↓reduceIte, decide_eq_true_eq, List.take_nil, beq_self_eq_true, bne_self_eq_false, List.take_zero, List.map_cons, List.map_nil, Int.reduceNeg, Bool.and_true, and_self, Bool.true_and, Bool.and_self, ne_eq, not_true_eq_false, decide_false, decide_true, Bool.false_eq_true, Nat.reduceAdd, Option.map_some, Option.map_none, Option.bind_some, Option.bind_none, List.length_nil, List.length_cons, List.append_nil, Bool.and_false, w64, demV_sl, Int.cast_ofNat_Int, Int.reduceLT, Int.reduceAdd, Int.reduceSub, Int.reduceLE, Int.reduceEq, Int.reduceToNat, Int.toNat_natCast, Nat.reduceSub, Nat.reduceMul, Nat.reduceLeDiff, Nat.zero_add, Int.zero_add, not_false_eq_true, Bool.not_true, Bool.not_false, Bool.false_and, List.cons_append, List.nil_append, c25, h3, h5, contF, w64 (n := i + 1) (by omega) (by omega)]
      exact ih
theorem c23 (a b : List Int) : G0 23 [.sl .no 1 (ints a), .sl .no 1 (ints b)] [] = some (.bool (contF a b 0 (min b.length 8)), []) := by
  refine contract F23 rfl rfl rfl ?_
  have h := l23 a b (min (b.length : Int) 8) (by omega) (min b.length 8) 0 (by omega) (by omega)
  cases hc : contF a b 0 (min b.length 8) with
  | true =>
    obtain ⟨l', h⟩ := h.1 hc
    simp only [F23, go_sem, Nat.reduceAdd, Nat.reduceEqDiff, Nat.reduceLT, ↓reduceIte, decide_eq_true_eq, List.take_nil, beq_self_eq_true, bne_self_eq_false, List.take_zero, List.map_cons, List.map_nil, Int.reduceNeg, Bool.and_true, and_self, Bool.true_and, Bool.and_self, ne_eq, not_true_eq_false, decide_false, decide_true, Bool.false_eq_true, Nat.reduceAdd, Option.map_some, Option.map_none, Option.bind_some, Option.bind_none, List.length_nil, List.length_cons, List.append_nil, Bool.and_false, w64, demV_sl, Int.cast_ofNat_Int, Int.reduceLT, Int.reduceAdd, Int.reduceSub, Int.reduceLE, Int.reduceEq, Int.reduceToNat, Int.toNat_natCast, Nat.reduceSub, Nat.reduceMul, Nat.reduceLeDiff, Nat.zero_add, Int.zero_add, not_false_eq_true, Bool.not_true, Bool.not_false, Bool.false_and, List.cons_append, List.nil_append, ints_length, h, look_setl, look_kill]
  | false =>
    obtain ⟨l', h4, h⟩ := h.2 hc
    simp only [F23, go_sem, Nat.reduceAdd, Nat.reduceEqDiff, Nat.reduceLT, ↓reduceIte, decide_eq_true_eq, List.take_nil, beq_self_eq_true, bne_self_eq_false, List.take_zero, List.map_cons, List.map_nil, Int.reduceNeg, Bool.and_true, and_self, Bool.true_and, Bool.and_self, ne_eq, not_true_eq_false, decide_false, decide_true, Bool.false_eq_true, Nat.reduceAdd, Option.map_some, Option.map_none, Option.bind_some, Option.bind_none, List.length_nil, List.length_cons, List.append_nil, Bool.and_false, w64, demV_sl, Int.cast_ofNat_Int, Int.reduceLT, Int.reduceAdd, Int.reduceSub, Int.reduceLE, Int.reduceEq, Int.reduceToNat, Int.toNat_natCast, Nat.reduceSub, Nat.reduceMul, Nat.reduceLeDiff, Nat.zero_add, Int.zero_add, not_false_eq_true, Bool.not_true, Bool.not_false, Bool.false_and, List.cons_append, List.nil_append, ints_length, h, h4]
theorem l24 (a b : List Int) : ∀ (k : Nat) (i : Int), 0 ≤ i → i + k = 8 →
    (contF a b i k = true → ∃ l', execX G0 L24_0 (ST [(0, .sl .no 1 (ints a)), (1, .sl .no 1 (ints b)), (5, .int .i64 i)] [] []) = some (.ex 0, ST l' [] [])) ∧
    (contF a b i k = false → ∃ l', look .any l' 4 = .bool false ∧ execX G0 L24_0 (ST [(0, .sl .no 1 (ints a)), (1, .sl .no 1 (ints b)), (5, .int .i64 i)] [] []) = some (.ret, ST l' [] []))
  | 0, i, h0, h1 => by
    have : i = 8 := by omega
    subst this
    rw [Y_loop (L := L24_0) rfl]
    refine ⟨fun _ => ?_, fun h => by cases h⟩
    simp only [go_sem, Nat.reduceAdd, Nat.reduceEqDiff, Nat.reduceLT, ↓reduceIte, decide_eq_true_eq, List.take_nil, beq_self_eq_true, bne_self_eq_false, List.take_zero, List.map_cons, List.map_nil, Int.reduceNeg, Bool.and_true, and_self, Bool.true_and, Bool.and_self, ne_eq, not_true_eq_false, decide_false, decide_true, Bool.false_eq_true, Nat.reduceAdd, Option.map_some, Option.map_none, Option.bind_some, Option.bind_none, List.length_nil, List.length_cons, List.append_nil, Bool.and_false, w64, demV_sl, Int.cast_ofNat_Int, Int.reduceLT, Int.reduceAdd, Int.reduceSub, Int.reduceLE, Int.reduceEq, Int.reduceToNat, Int.toNat_natCast, Nat.reduceSub, Nat.reduceMul, Nat.reduceLeDiff, Nat.zero_add, Int.zero_add, not_false_eq_true, Bool.not_true, Bool.not_false, Bool.false_and, List.cons_append, List.nil_append, Int.lt_irrefl]
    exact ⟨_, rfl⟩
  | k + 1, i, h0, h1 => by
    have h3 : i < 8 := by omega
    have ih := l24 a b k (i + 1) (by omega) (by omega)
    rw [Y_loop (L := L24_0) rfl]
    by_cases h5 : atF a i < atF b i
    · simp only [go_sem, Nat.reduceAdd, Nat.reduceEqDiff, Nat.reduceLT, ↓reduceIte, decide_eq_true_eq, List.take_nil, beq_self_eq_true, bne_self_eq_false, List.take_zero, List.map_cons, List.map_nil, Int.reduceNeg, Bool.and_true, and_self, Bool.true_and, Bool.and_self, ne_eq, not_true_eq_false, decide_false, decide_true, Bool.false_eq_true, Nat.reduceAdd, Option.map_some, Option.map_none, Option.bind_some, Option.bind_none, List.length_nil, List.length_cons, List.append_nil, Bool.and_false, w64, demV_sl, Int.cast_ofNat_Int, Int.reduceLT, Int.reduceAdd, Int.reduceSub, Int.reduceLE, Int.reduceEq, Int.reduceToNat, Int.toNat_natCast, Nat.reduceSub, Nat.reduceMul, Nat.reduceLeDiff, Nat.zero_add, Int.zero_add, not_false_eq_true, Bool.not_true, Bool.not_false, Bool.false_and, List.cons_append, List.nil_append, c26, h3, h5, contF, w64 (n := i + 1) (by omega) (by omega)]
      exact ⟨fun h => (nomatch h), fun _ => ⟨_, rfl, rfl⟩⟩
    · simp only [go_sem, Nat.reduceAdd, Nat.reduceEqDiff, Nat.reduceLT, ↓reduceIte, decide_eq_true_eq, List.take_nil, beq_self_eq_true, bne_self_eq_false, List.take_zero, List.map_cons, List.map_nil, Int.reduceNeg, Bool.and_true, and_self, Bool.true_and, Bool.and_self, ne_eq, not_true_eq_false, decide_false, decide_true, Bool.false_eq_true, Nat.reduceAdd, Option.map_some, Option.map_none, Option.bind_some, Option.bind_none, List.length_nil, List.length_cons, List.append_nil, Bool.and_false, w64, demV_sl, Int.cast_ofNat_Int, Int.reduceLT, Int.reduceAdd, Int.reduceSub, Int.reduceLE, Int.reduceEq, Int.reduceToNat, Int.toNat_natCast, Nat.reduceSub, Nat.reduceMul, Nat.reduceLeDiff, Nat.zero_add, Int.zero_add, not_false_eq_true, Bool.not_true, Bool.not_false, Bool.false_and, List.cons_append, List.nil_append, c26, h3, h5, contF, w64 (n := i + 1) (by omega) (by omega)]
      exact ih
theorem c24 (a b : List Int) : G0 24 [.sl .no 1 (ints a), .sl .no 1 (ints b)] [] = some (.bool (contF a b 0 8), []) := by
  refine contract F24 rfl rfl rfl ?_
  have h := l24 a b 8 0 (by omega) (by omega)
  cases hc : contF a b 0 8 with
  | true =>
    obtain ⟨l', h⟩ := h.1 hc
    simp only [F24, go_sem, Nat.reduceAdd, Nat.reduceEqDiff, Nat.reduceLT, ↓reduceIte, decide_eq_true_eq, List.take_nil, beq_self_eq_true, bne_self_eq_false, List.take_zero, List.map_cons, List.map_nil, Int.reduceNeg, Bool.and_true, and_self, Bool.true_and, Bool.and_self, ne_eq, not_true_eq_false, decide_false, decide_true, Bool.false_eq_true, Nat.reduceAdd, Option.map_some, Option.map_none, Option.bind_some, Option.bind_none, List.length_nil, List.length_cons, List.append_nil, Bool.and_false, w64, demV_sl, Int.cast_ofNat_Int, Int.reduceLT, Int.reduceAdd, Int.reduceSub, Int.reduceLE, Int.reduceEq, Int.reduceToNat, Int.toNat_natCast, Nat.reduceSub, Nat.reduceMul, Nat.reduceLeDiff, Nat.zero_add, Int.zero_add, not_false_eq_true, Bool.not_true, Bool.not_false, Bool.false_and, List.cons_append, List.nil_append, ints_length, h, look_setl, look_kill]
  | false =>
    obtain ⟨l', h4, h⟩ := h.2 hc
    simp only [F24, go_sem, Nat.reduceAdd, Nat.reduceEqDiff, Nat.reduceLT, ↓reduceIte, decide_eq_true_eq, List.take_nil, beq_self_eq_true, bne_self_eq_false, List.take_zero, List.map_cons, List.map_nil, Int.reduceNeg, Bool.and_true, and_self, Bool.true_and, Bool.and_self, ne_eq, not_true_eq_false, decide_false, decide_true, Bool.false_eq_true, Nat.reduceAdd, Option.map_some, Option.map_none, Option.bind_some, Option.bind_none, List.length_nil, List.length_cons, List.append_nil, Bool.and_false, w64, demV_sl, Int.cast_ofNat_Int, Int.reduceLT, Int.reduceAdd, Int.reduceSub, Int.reduceLE, Int.reduceEq, Int.reduceToNat, Int.toNat_natCast, Nat.reduceSub, Nat.reduceMul, Nat.reduceLeDiff, Nat.zero_add, Int.zero_add, not_false_eq_true, Bool.not_true, Bool.not_false, Bool.false_and, List.cons_append, List.nil_append, ints_length, h, h4]
def eqF (a b : List Int) : Nat → Nat → Bool
  | _, 0 => true
  | i, k + 1 => if a.getD i 0 = b.getD i 0 then eqF a b (i + 1) k else false
theorem l18 (a b : List Int) (hl : a.length = b.length) (hb : a.length ≤ 1000000000) (v : Bool) : ∀ (k i : Nat), i + k = a.length →
    (eqF a b i k = true → ∃ l', execX G0 L18_0 (ST [(0, .sl .no 1 (ints a)), (1, .sl .no 1 (ints b)), (10, .bool v), (12, .int .i64 a.length), (13, .int .i64 i)] [] []) = some (.ex 0, ST l' [] [])) ∧
    (eqF a b i k = false → ∃ l', look .any l' 4 = .bool false ∧ execX G0 L18_0 (ST [(0, .sl .no 1 (ints a)), (1, .sl .no 1 (ints b)), (10, .bool v), (12, .int .i64 a.length), (13, .int .i64 i)] [] []) = some (.ret, ST l' [] []))
  | 0, i, h1 => by
    have : i = a.length := by omega
    subst this
    rw [Y_loop (L := L18_0) rfl]
    refine ⟨fun _ => ?_, fun h => by cases h⟩
    simp only [go_sem, Nat.reduceAdd, Nat.reduceEqDiff, Nat.reduceLT, ↓reduceIte, decide_eq_true_eq, List.take_nil, beq_self_eq_true, bne_self_eq_false, List.take_zero, List.map_cons, List.map_nil, Int.reduceNeg, Bool.and_true, and_self, Bool.true_and, Bool.and_self, ne_eq, not_true_eq_false, decide_false, decide_true, Bool.false_eq_true, Nat.reduceAdd, Option.map_some, Option.map_none, Option.bind_some, Option.bind_none, List.length_nil, List.length_cons, List.append_nil, Bool.and_false, w64, demV_sl, Int.cast_ofNat_Int, Int.reduceLT, Int.reduceAdd, Int.reduceSub, Int.reduceLE, Int.reduceEq, Int.reduceToNat, Int.toNat_natCast, Nat.reduceSub, Nat.reduceMul, Nat.reduceLeDiff, Nat.zero_add, Int.zero_add, not_false_eq_true, Bool.not_true, Bool.not_false, Bool.false_and, List.cons_append, List.nil_append, Int.lt_irrefl]
    exact ⟨_, rfl⟩
  | k + 1, i, h1 => by
    have h3 : (i : Int) < a.length := by omega
    have h4 : (0 : Int) ≤ i := by omega
    have ih := l18 a b hl hb v k (i + 1) (by omega)
    rw [Int.natCast_succ] at ih
    have ha := ints_get a i (by omega)
    have hb := ints_get b i (by omega)
    rw [Y_loop (L := L18_0) rfl]
    by_cases h5 : a.getD i 0 = b.getD i 0
    · simp only [go_sem, Nat.reduceAdd, Nat.reduceEqDiff, Nat.reduceLT, ↓reduceIte, decide_eq_true_eq, List.take_nil, beq_self_eq_true, bne_self_eq_false, List.take_zero, List.map_cons, List.map_nil, Int.reduceNeg, Bool.and_true, and_self, Bool.true_and, Bool.and_self, ne_eq, not_true_eq_false, decide_false, decide_true, Bool.false_eq_true, Nat.reduceAdd, Option.map_some, Option.map_none, Option.bind_some, Option.bind_none, List.length_nil, List.length_cons, List.append_nil, Bool.and_false, w64, demV_sl, Int.cast_ofNat_Int, Int.reduceLT, Int.reduceAdd, Int.reduceSub, Int.reduceLE, Int.reduceEq, Int.reduceToNat, Int.toNat_natCast, Nat.reduceSub, Nat.reduceMul, Nat.reduceLeDiff, Nat.zero_add, Int.zero_add, not_false_eq_true, Bool.not_true, Bool.not_false, Bool.false_and, List.cons_append, List.nil_append, h3, h4, ha, hb, h5, eqF, w64 (n := (i : Int) + 1) (by omega) (by omega)]
      exact ih
    · simp only [go_sem, Nat.reduceAdd, Nat.reduceEqDiff, Nat.reduceLT, ↓reduceIte, decide_eq_true_eq, List.take_nil, beq_self_eq_true, bne_self_eq_false, List.take_zero, List.map_cons, List.map_nil, Int.reduceNeg, Bool.and_true, and_self, Bool.true_and, Bool.and_self, ne_eq, not_true_eq_false, decide_false, decide_true, Bool.false_eq_true, Nat.reduceAdd, Option.map_some, Option.map_none, Option.bind_some, Option.bind_none, List.length_nil, List.length_cons, List.append_nil, Bool.and_false, w64, demV_sl, Int.cast_ofNat_Int, Int.reduceLT, Int.reduceAdd, Int.reduceSub, Int.reduceLE, Int.reduceEq, Int.reduceToNat, Int.toNat_natCast, Nat.reduceSub, Nat.reduceMul, Nat.reduceLeDiff, Nat.zero_add, Int.zero_add, not_false_eq_true, Bool.not_true, Bool.not_false, Bool.false_and, List.cons_append, List.nil_append, h3, h4, ha, hb, h5, eqF, w64 (n := (i : Int) + 1) (by omega) (by omega)]
      exact ⟨fun h => (nomatch h), fun _ => ⟨_, rfl, rfl⟩⟩
theorem eqF_iff (a b : List Int) (hl : a.length = b.length) : ∀ (k i : Nat), i + k = a.length → (eqF a b i k = true ↔ a.drop i = b.drop i)
  | 0, i, h => by simp [eqF, List.drop_of_length_le (show a.length ≤ i by omega), List.drop_of_length_le (show b.length ≤ i by omega)]
  | k + 1, i, h => by
    have ha : i < a.length := by omega
    have hb : i < b.length := by omega
    rw [List.drop_eq_getElem_cons ha, List.drop_eq_getElem_cons hb]
    simp only [eqF, List.getD_eq_getElem?_getD, List.getElem?_eq_getElem ha, List.getElem?_eq_getElem hb, Option.getD_some, List.cons.injEq]
    rw [← eqF_iff a b hl k (i + 1) (by omega)]
    split <;> simp_all
theorem c18 (a b : List Int) (hb : a.length ≤ 1000000000) : G0 18 [.sl .no 1 (ints a), .sl .no 1 (ints b)] [] = some (.bool (decide (a = b)), []) := by
  refine contract F18 rfl rfl rfl ?_
  by_cases hl : a.length = b.length
  · have h := l18 a b hl hb false a.length 0 (by omega)
    have he := eqF_iff a b hl a.length 0 (by omega)
    simp only [List.drop_zero] at he
    rw [Int.cast_ofNat_Int] at h
    have hl' : (a.length : Int) = b.length := by omega
    cases hc : eqF a b 0 a.length with
    | true =>
      obtain ⟨l', h⟩ := h.1 hc
      rw [hc] at he
      have := he.1 rfl
      rw [hl'] at h
      rw [decide_eq_true this]
      simp only [F18, go_sem, Nat.reduceAdd, Nat.reduceEqDiff, Nat.reduceLT, ↓reduceIte, decide_eq_true_eq, List.take_nil, beq_self_eq_true, bne_self_eq_false, List.take_zero, List.map_cons, List.map_nil, Int.reduceNeg, Bool.and_true, and_self, Bool.true_and, Bool.and_self, ne_eq, not_true_eq_false, decide_false, decide_true, Bool.false_eq_true, Nat.reduceAdd, Option.map_some, Option.map_none, Option.bind_some, Option.bind_none, List.length_nil, List.length_cons, List.append_nil, Bool.and_false, w64, demV_sl, Int.cast_ofNat_Int, Int.reduceLT, Int.reduceAdd, Int.reduceSub, Int.reduceLE, Int.reduceEq, Int.reduceToNat, Int.toNat_natCast, Nat.reduceSub, Nat.reduceMul, Nat.reduceLeDiff, Nat.zero_add, Int.zero_add, not_false_eq_true, Bool.not_true, Bool.not_false, Bool.false_and, List.cons_append, List.nil_append, ints_length, h, hl', look_setl, look_kill]
    | false =>
      obtain ⟨l', h4, h⟩ := h.2 hc
      have : ¬ a = b := fun e => by rw [he.2 e] at hc; cases hc
      rw [hl'] at h
      simp only [F18, go_sem, Nat.reduceAdd, Nat.reduceEqDiff, Nat.reduceLT, ↓reduceIte, decide_eq_true_eq, List.take_nil, beq_self_eq_true, bne_self_eq_false, List.take_zero, List.map_cons, List.map_nil, Int.reduceNeg, Bool.and_true, and_self, Bool.true_and, Bool.and_self, ne_eq, not_true_eq_false, decide_false, decide_true, Bool.false_eq_true, Nat.reduceAdd, Option.map_some, Option.map_none, Option.bind_some, Option.bind_none, List.length_nil, List.length_cons, List.append_nil, Bool.and_false, w64, demV_sl, Int.cast_ofNat_Int, Int.reduceLT, Int.reduceAdd, Int.reduceSub, Int.reduceLE, Int.reduceEq, Int.reduceToNat, Int.toNat_natCast, Nat.reduceSub, Nat.reduceMul, Nat.reduceLeDiff, Nat.zero_add, Int.zero_add, not_false_eq_true, Bool.not_true, Bool.not_false, Bool.false_and, List.cons_append, List.nil_append, ints_length, h, h4, hl', this]
  · have hl' : ¬ (a.length : Int) = b.length := by omega
    have : ¬ a = b := fun e => hl (by rw [e])
    simp only [F18, go_sem, Nat.reduceAdd, Nat.reduceEqDiff, Nat.reduceLT, ↓reduceIte, decide_eq_true_eq, List.take_nil, beq_self_eq_true, bne_self_eq_false, List.take_zero, List.map_cons, List.map_nil, Int.reduceNeg, Bool.and_true, and_self, Bool.true_and, Bool.and_self, ne_eq, not_true_eq_false, decide_false, decide_true, Bool.false_eq_true, Nat.reduceAdd, Option.map_some, Option.map_none, Option.bind_some, Option.bind_none, List.length_nil, List.length_cons, List.append_nil, Bool.and_false, w64, demV_sl, Int.cast_ofNat_Int, Int.reduceLT, Int.reduceAdd, Int.reduceSub, Int.reduceLE, Int.reduceEq, Int.reduceToNat, Int.toNat_natCast, Nat.reduceSub, Nat.reduceMul, Nat.reduceLeDiff, Nat.zero_add, Int.zero_add, not_false_eq_true, Bool.not_true, Bool.not_false, Bool.false_and, List.cons_append, List.nil_append, ints_length, hl', this]
def orF : List Int → Int
  | [] => 0
  | x :: xs => if x = 0 then orF xs else x
theorem l29 (a : List Int) (hb : a.length ≤ 1000000000) : ∀ (k i : Nat), i + k = a.length →
    (orF (a.drop i) = 0 → ∃ l', look .any l' 3 = .int .i64 0 ∧ execX G0 L29_0 (ST [(3, .int .i64 0), (6, .sl .no 1 (ints a)), (7, .int .i64 a.length), (8, .int .i64 i)] [] []) = some (.ex 0, ST l' [] [])) ∧
    (orF (a.drop i) ≠ 0 → ∃ l', look .any l' 2 = .int .i64 (orF (a.drop i)) ∧ execX G0 L29_0 (ST [(3, .int .i64 0), (6, .sl .no 1 (ints a)), (7, .int .i64 a.length), (8, .int .i64 i)] [] []) = some (.ret, ST l' [] []))
  | 0, i, h1 => by
    have : i = a.length := by omega
    subst this
    rw [Y_loop (L := L29_0) rfl]
    rw [List.drop_length]
    refine ⟨fun _ => ?_, fun h => absurd rfl h⟩
    simp only [go_sem, Nat.reduceAdd, Nat.reduceEqDiff, Nat.reduceLT, ↓reduceIte, decide_eq_true_eq, List.take_nil, beq_self_eq_true, bne_self_eq_false, List.take_zero, List.map_cons, List.map_nil, Int.reduceNeg, Bool.and_true, and_self, Bool.true_and, Bool.and_self, ne_eq, not_true_eq_false, decide_false, decide_true, Bool.false_eq_true, Nat.reduceAdd, Option.map_some, Option.map_none, Option.bind_some, Option.bind_none, List.length_nil, List.length_cons, List.append_nil, Bool.and_false, w64, demV_sl, Int.cast_ofNat_Int, Int.reduceLT, Int.reduceAdd, Int.reduceSub, Int.reduceLE, Int.reduceEq, Int.reduceToNat, Int.toNat_natCast, Nat.reduceSub, Nat.reduceMul, Nat.reduceLeDiff, Nat.zero_add, Int.zero_add, not_false_eq_true, Bool.not_true, Bool.not_false, Bool.false_and, List.cons_append, List.nil_append, Int.lt_irrefl]
    exact ⟨_, rfl, rfl⟩
  | k + 1, i, h1 => by
    have h3 : (i : Int) < a.length := by omega
    have h4 : (0 : Int) ≤ i := by omega
    have ih := l29 a hb k (i + 1) (by omega)
    rw [Int.natCast_succ] at ih
    have ha := ints_get a i (by omega)
    have hd : a.drop i = a.getD i 0 :: a.drop (i + 1) := by
      rw [List.drop_eq_getElem_cons (show i < a.length by omega)]; simp [List.getElem?_eq_getElem (show i < a.length by omega)]
    rw [hd]
    rw [Y_loop (L := L29_0) rfl]
    by_cases h5 : a.getD i 0 = 0
    · simp only [go_sem, Nat.reduceAdd, Nat.reduceEqDiff, Nat.reduceLT, ↓reduceIte, decide_eq_true_eq, List.take_nil, beq_self_eq_true, bne_self_eq_false, List.take_zero, List.map_cons, List.map_nil, Int.reduceNeg, Bool.and_true, and_self, Bool.true_and, Bool.and_self, ne_eq, not_true_eq_false, decide_false, decide_true, Bool.false_eq_true, Nat.reduceAdd, Option.map_some, Option.map_none, Option.bind_some, Option.bind_none, List.length_nil, List.length_cons, List.append_nil, Bool.and_false, w64, demV_sl, Int.cast_ofNat_Int, Int.reduceLT, Int.reduceAdd, Int.reduceSub, Int.reduceLE, Int.reduceEq, Int.reduceToNat, Int.toNat_natCast, Nat.reduceSub, Nat.reduceMul, Nat.reduceLeDiff, Nat.zero_add, Int.zero_add, not_false_eq_true, Bool.not_true, Bool.not_false, Bool.false_and, List.cons_append, List.nil_append, h3, h4, ha, h5, orF, w64 (n := (i : Int) + 1) (by omega) (by omega)]
      exact ih
    · simp only [go_sem, Nat.reduceAdd, Nat.reduceEqDiff, Nat.reduceLT, ↓reduceIte, decide_eq_true_eq, List.take_nil, beq_self_eq_true, bne_self_eq_false, List.take_zero, List.map_cons, List.map_nil, Int.reduceNeg, Bool.and_true, and_self, Bool.true_and, Bool.and_self, ne_eq, not_true_eq_false, decide_false, decide_true, Bool.false_eq_true, Nat.reduceAdd, Option.map_some, Option.map_none, Option.bind_some, Option.bind_none, List.length_nil, List.length_cons, List.append_nil, Bool.and_false, w64, demV_sl, Int.cast_ofNat_Int, Int.reduceLT, Int.reduceAdd, Int.reduceSub, Int.reduceLE, Int.reduceEq, Int.reduceToNat, Int.toNat_natCast, Nat.reduceSub, Nat.reduceMul, Nat.reduceLeDiff, Nat.zero_add, Int.zero_add, not_false_eq_true, Bool.not_true, Bool.not_false, Bool.false_and, List.cons_append, List.nil_append, h3, h4, ha, h5, orF, w64 (n := (i : Int) + 1) (by omega) (by omega)]
      exact ⟨fun h => (nomatch h), fun _ => ⟨_, rfl, rfl⟩⟩
theorem c29 (a : List Int) (hb : a.length ≤ 1000000000) : G0 29 [.sl .no 1 (ints a)] [] = some (.int .i64 (orF a), []) := by
  refine contract F29 rfl rfl rfl ?_
  have h := l29 a hb a.length 0 (by omega)
  rw [Int.cast_ofNat_Int, List.drop_zero] at h
  by_cases hc : orF a = 0
  · obtain ⟨l', h3, h⟩ := h.1 hc
    simp only [F29, go_sem, Nat.reduceAdd, Nat.reduceEqDiff, Nat.reduceLT, ↓reduceIte, decide_eq_true_eq, List.take_nil, beq_self_eq_true, bne_self_eq_false, List.take_zero, List.map_cons, List.map_nil, Int.reduceNeg, Bool.and_true, and_self, Bool.true_and, Bool.and_self, ne_eq, not_true_eq_false, decide_false, decide_true, Bool.false_eq_true, Nat.reduceAdd, Option.map_some, Option.map_none, Option.bind_some, Option.bind_none, List.length_nil, List.length_cons, List.append_nil, Bool.and_false, w64, demV_sl, Int.cast_ofNat_Int, Int.reduceLT, Int.reduceAdd, Int.reduceSub, Int.reduceLE, Int.reduceEq, Int.reduceToNat, Int.toNat_natCast, Nat.reduceSub, Nat.reduceMul, Nat.reduceLeDiff, Nat.zero_add, Int.zero_add, not_false_eq_true, Bool.not_true, Bool.not_false, Bool.false_and, List.cons_append, List.nil_append, ints_length, h, h3, hc, look_setl, look_kill]
  · obtain ⟨l', h3, h⟩ := h.2 hc
    simp only [F29, go_sem, Nat.reduceAdd, Nat.reduceEqDiff, Nat.reduceLT, ↓reduceIte, decide_eq_true_eq, List.take_nil, beq_self_eq_true, bne_self_eq_false, List.take_zero, List.map_cons, List.map_nil, Int.reduceNeg, Bool.and_true, and_self, Bool.true_and, Bool.and_self, ne_eq, not_true_eq_false, decide_false, decide_true, Bool.false_eq_true, Nat.reduceAdd, Option.map_some, Option.map_none, Option.bind_some, Option.bind_none, List.length_nil, List.length_cons, List.append_nil, Bool.and_false, w64, demV_sl, Int.cast_ofNat_Int, Int.reduceLT, Int.reduceAdd, Int.reduceSub, Int.reduceLE, Int.reduceEq, Int.reduceToNat, Int.toNat_natCast, Nat.reduceSub, Nat.reduceMul, Nat.reduceLeDiff, Nat.zero_add, Int.zero_add, not_false_eq_true, Bool.not_true, Bool.not_false, Bool.false_and, List.cons_append, List.nil_append, ints_length, h, h3]
def lists (a : List (List Int)) : List (List AV) := a.map fun x => [.sl .no 1 (ints x)]
theorem lists_length (l : List (List Int)) : (lists l).length = l.length := by simp [lists]
theorem lists_get (l : List (List Int)) (i : Nat) (h : i < l.length) : (lists l)[i]? = some [.sl .no 1 (ints (l.getD i []))] := by
  simp [lists, List.getElem?_eq_getElem h]
def sumW : Int → List (List Int) → Int
  | n, [] => n
  | n, x :: xs => sumW (IntKind.i64.wrap (n + x.length)) xs
theorem l8 (a : List (List Int)) (hb : a.length ≤ 1000000000) : ∀ (k i : Nat) (n : Int), i + k = a.length →
    ∃ l', look .any l' 3 = .int .i64 (sumW n (a.drop i)) ∧ execX G0 L8_0 (ST [(3, .int .i64 n), (6, .sl .no 1 (lists a)), (7, .int .i64 a.length), (8, .int .i64 i)] [] []) = some (.ex 0, ST l' [] [])
  | 0, i, n, h1 => by
    have : i = a.length := by omega
    subst this
    rw [Y_loop (L := L8_0) rfl]
    rw [List.drop_length]
    simp only [go_sem, Nat.reduceAdd, Nat.reduceEqDiff, Nat.reduceLT, ↓reduceIte, decide_eq_true_eq, List.take_nil, beq_self_eq_true, bne_self_eq_false, List.take_zero, List.map_cons, List.map_nil, Int.reduceNeg, Bool.and_true, and_self, Bool.true_and, Bool.and_self, ne_eq, not_true_eq_false, decide_false, decide_true, Bool.false_eq_true, Nat.reduceAdd, Option.map_some, Option.map_none, Option.bind_some, Option.bind_none, List.length_nil, List.length_cons, List.append_nil, Bool.and_false, w64, demV_sl, Int.cast_ofNat_Int, Int.reduceLT, Int.reduceAdd, Int.reduceSub, Int.reduceLE, Int.reduceEq, Int.reduceToNat, Int.toNat_natCast, Nat.reduceSub, Nat.reduceMul, Nat.reduceLeDiff, Nat.zero_add, Int.zero_add, not_false_eq_true, Bool.not_true, Bool.not_false, Bool.false_and, List.cons_append, List.nil_append, Int.lt_irrefl, sumW]
    exact ⟨_, rfl, rfl⟩
  | k + 1, i, n, h1 => by
    have h3 : (i : Int) < a.length := by omega
    have h4 : (0 : Int) ≤ i := by omega
    have hd : a.drop i = a.getD i [] :: a.drop (i + 1) := by
      rw [List.drop_eq_getElem_cons (show i < a.length by omega)]; simp [List.getElem?_eq_getElem (show i < a.length by omega)]
    rw [hd]
    simp only [sumW]
    have ih := l8 a hb k (i + 1) (IntKind.i64.wrap (n + (a.getD i []).length)) (by omega)
    rw [Int.natCast_succ] at ih
    have ha := lists_get a i (by omega)
    rw [Y_loop (L := L8_0) rfl]
    simp only [go_sem, Nat.reduceAdd, Nat.reduceEqDiff, Nat.reduceLT, ↓reduceIte, decide_eq_true_eq, List.take_nil, beq_self_eq_true, bne_self_eq_false, List.take_zero, List.map_cons, List.map_nil, Int.reduceNeg, Bool.and_true, and_self, Bool.true_and, Bool.and_self, ne_eq, not_true_eq_false, decide_false, decide_true, Bool.false_eq_true, Nat.reduceAdd, Option.map_some, Option.map_none, Option.bind_some, Option.bind_none, List.length_nil, List.length_cons, List.append_nil, Bool.and_false, w64, demV_sl, Int.cast_ofNat_Int, Int.reduceLT, Int.reduceAdd, Int.reduceSub, Int.reduceLE, Int.reduceEq, Int.reduceToNat, Int.toNat_natCast, Nat.reduceSub, Nat.reduceMul, Nat.reduceLeDiff, Nat.zero_add, Int.zero_add, not_false_eq_true, Bool.not_true, Bool.not_false, Bool.false_and, List.cons_append, List.nil_append, h3, h4, ha, ints_length, w64 (n := (i : Int) + 1) (by omega) (by omega)]
    exact ih
theorem c8 (a : List (List Int)) (hb : a.length ≤ 1000000000) : G0 8 [.sl .no 1 (lists a)] [] = some (.bool (decide (160 < sumW 0 a)), []) := by
  refine contract F8 rfl rfl rfl ?_
  obtain ⟨l', h3, h⟩ := l8 a hb a.length 0 0 (by omega)
  rw [Int.cast_ofNat_Int] at h
  simp only [List.drop_zero, Int.zero_add] at h3
  simp only [F8, go_sem, Nat.reduceAdd, Nat.reduceEqDiff, Nat.reduceLT, ↓reduceIte, decide_eq_true_eq, List.take_nil, beq_self_eq_true, bne_self_eq_false, List.take_zero, List.map_cons, List.map_nil, Int.reduceNeg, Bool.and_true, and_self, Bool.true_and, Bool.and_self, ne_eq, not_true_eq_false, decide_false, decide_true, Bool.false_eq_true, Nat.reduceAdd, Option.map_some, Option.map_none, Option.bind_some, Option.bind_none, List.length_nil, List.length_cons, List.append_nil, Bool.and_false, w64, demV_sl, Int.cast_ofNat_Int, Int.reduceLT, Int.reduceAdd, Int.reduceSub, Int.reduceLE, Int.reduceEq, Int.reduceToNat, Int.toNat_natCast, Nat.reduceSub, Nat.reduceMul, Nat.reduceLeDiff, Nat.zero_add, Int.zero_add, not_false_eq_true, Bool.not_true, Bool.not_false, Bool.false_and, List.cons_append, List.nil_append, lists_length, h, h3, look_setl, look_kill]
end Go.Av
