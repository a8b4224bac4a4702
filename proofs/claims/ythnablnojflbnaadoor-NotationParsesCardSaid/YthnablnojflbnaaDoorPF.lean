/- The fixed example, equal fragments, short fragments, made fragments; three of the laws. -/
import Derived.Test.YthnablnojflbnaaDoorPE
set_option linter.unusedSimpArgs false
set_option linter.unusedVariables false
namespace Go.Av
open Go.Nt
set_option linter.unusedSimpArgs false
set_option linter.unusedVariables false
set_option maxHeartbeats 16000000
set_option maxRecDepth 100000
theorem l22 (a b : List Tk) (hab : a.length = b.length) (ha : a.length ≤ 4611686018427387904) : ∀ (k i : Nat), i + k = a.length →
    (a.drop i = b.drop i → execX G0 L22_0 (ST [(0, .sl .no 3 (tks a)), (1, .sl .no 3 (tks b)), (10, .bool false), (12, .int .i64 a.length), (13, .int .i64 i)] [] []) = some (.ex 0, ST [(0, .sl .no 3 (tks a)), (1, .sl .no 3 (tks b)), (10, .bool false), (12, .int .i64 a.length), (13, .int .i64 a.length), (14, .bool false)] [] [])) ∧
    (a.drop i ≠ b.drop i → ∃ l', execX G0 L22_0 (ST [(0, .sl .no 3 (tks a)), (1, .sl .no 3 (tks b)), (10, .bool false), (12, .int .i64 a.length), (13, .int .i64 i)] [] []) = some (.ret, ST l' [] []) ∧ look .any l' 4 = .bool false)
  | 0, i, h => by
    have : i = a.length := by omega
    subst this
    refine ⟨fun _ => ?_, fun q => absurd (by rw [List.drop_length, hab, List.drop_length]) q⟩
    rw [Y_loop (L := L22_0) rfl]
    simp only [go_sem, op, mv, ↓reduceIte, Nat.reduceAdd, Nat.reduceEqDiff, Nat.reduceLT, Int.reduceNeg, Int.cast_ofNat_Int, Int.reduceLT, Int.reduceAdd, Int.reduceSub, Int.reduceLE, Int.reduceEq, Int.reduceToNat, Nat.reduceSub, Nat.reduceMul, Nat.reduceLeDiff, Int.lt_irrefl]
  | k + 1, i, h => by
    have hi : i < a.length := by omega
    have h4 : (i : Int) < (a.length : Int) := by omega
    have h0 : (0 : Int) ≤ (i : Int) := by omega
    have hw : IntKind.i64.wrap ((i : Int) + 1) = ((i + 1 : Nat) : Int) := by rw [w64 (by omega) (by omega)]; rfl
    have hg : a[i]? = some a[i] := List.getElem?_eq_getElem hi
    have hd : a.drop i = a[i] :: a.drop (i + 1) := List.drop_eq_getElem_cons hi
    generalize a[i] = T at hg hd
    have hg2 : b[i]? = some b[i] := List.getElem?_eq_getElem (by omega)
    have hd2 : b.drop i = b[i] :: b.drop (i + 1) := List.drop_eq_getElem_cons (by omega)
    generalize b[i] = U at hg2 hd2
    have hr := tks_at hg
    have hr2 := tks_at hg2
    have ih := l22 a b hab ha k (i + 1) (by omega)
    rw [hd, hd2]
    obtain ⟨k1, s1, i1⟩ := T
    obtain ⟨k2, s2, i2⟩ := U
    simp only [] at hr hr2
    by_cases hE : ((k1, s1, i1) : Tk) = (k2, s2, i2)
    · cases hE
      have e : (s1 == s1) = true := by simp
      have step : execX G0 L22_0 (ST [(0, .sl .no 3 (tks a)), (1, .sl .no 3 (tks b)), (10, .bool false), (12, .int .i64 a.length), (13, .int .i64 i)] [] []) = execX G0 L22_0 (ST [(0, .sl .no 3 (tks a)), (1, .sl .no 3 (tks b)), (10, .bool false), (12, .int .i64 a.length), (13, .int .i64 ((i + 1 : Nat) : Int))] [] []) := by
        conv => lhs; rw [Y_loop (L := L22_0) rfl]
        simp only [go_sem, op, mv, ↓reduceIte, Nat.reduceAdd, Nat.reduceEqDiff, Nat.reduceLT, Int.reduceNeg, Int.cast_ofNat_Int, Int.reduceLT, Int.reduceAdd, Int.reduceSub, Int.reduceLE, Int.reduceEq, Int.reduceToNat, Nat.reduceSub, Nat.reduceMul, Nat.reduceLeDiff, h4, h0, hr, hr2, hw, e]
      rw [step]
      refine ⟨fun q => ih.1 (by injection q), fun q => ih.2 (fun z => q (by rw [z]))⟩
    · refine ⟨fun q => absurd (by injection q) hE, fun _ => ?_⟩
      by_cases e1 : k1 = k2
      · subst e1
        by_cases e2 : s1 = s2
        · subst e2
          have e3 : ¬ i1 = i2 := fun q => hE (by rw [q])
          have e : (s1 == s1) = true := by simp
          refine Exists.intro ?_ (And.intro ?_ ?_)
          rotate_left 1
          · rw [Y_loop (L := L22_0) rfl]
            simp only [go_sem, op, mv, ↓reduceIte, Nat.reduceAdd, Nat.reduceEqDiff, Nat.reduceLT, Int.reduceNeg, Int.cast_ofNat_Int, Int.reduceLT, Int.reduceAdd, Int.reduceSub, Int.reduceLE, Int.reduceEq, Int.reduceToNat, Nat.reduceSub, Nat.reduceMul, Nat.reduceLeDiff, h4, h0, hr, hr2, hw, e, e3]
            rfl
          · rfl
        · have e : (s1 == s2) = false := by simpa using e2
          refine Exists.intro ?_ (And.intro ?_ ?_)
          rotate_left 1
          · rw [Y_loop (L := L22_0) rfl]
            simp only [go_sem, op, mv, ↓reduceIte, Nat.reduceAdd, Nat.reduceEqDiff, Nat.reduceLT, Int.reduceNeg, Int.cast_ofNat_Int, Int.reduceLT, Int.reduceAdd, Int.reduceSub, Int.reduceLE, Int.reduceEq, Int.reduceToNat, Nat.reduceSub, Nat.reduceMul, Nat.reduceLeDiff, h4, h0, hr, hr2, hw, e, Bool.false_and, Bool.and_false]
            rfl
          · rfl
      · refine Exists.intro ?_ (And.intro ?_ ?_)
        rotate_left 1
        · rw [Y_loop (L := L22_0) rfl]
          simp only [go_sem, op, mv, ↓reduceIte, Nat.reduceAdd, Nat.reduceEqDiff, Nat.reduceLT, Int.reduceNeg, Int.cast_ofNat_Int, Int.reduceLT, Int.reduceAdd, Int.reduceSub, Int.reduceLE, Int.reduceEq, Int.reduceToNat, Nat.reduceSub, Nat.reduceMul, Nat.reduceLeDiff, h4, h0, hr, hr2, hw, e1, decide_false, Bool.false_and, Bool.and_false]
          rfl
        · rfl
theorem c22 (a b : List Tk) (ha : a.length ≤ 4611686018427387904) : G0 22 [.sl .no 3 (tks a), .sl .no 3 (tks b)] [] = some (.bool (decide (a = b)), []) := by
  refine contract F22 rfl rfl rfl ?_
  by_cases hab : a.length = b.length
  · have hab' : (a.length : Int) = (b.length : Int) := by omega
    obtain ⟨x1, x2⟩ := l22 a b hab ha a.length 0 (by omega)
    have ec : ((0 : Nat) : Int) = 0 := rfl
    rw [List.drop_zero, List.drop_zero, ec] at x1 x2
    by_cases h : a = b
    · rw [decide_eq_true h]
      simp only [F22, go_sem, op, mv, ↓reduceIte, Nat.reduceAdd, Nat.reduceEqDiff, Nat.reduceLT, Int.reduceNeg, Int.cast_ofNat_Int, Int.reduceLT, Int.reduceAdd, Int.reduceSub, Int.reduceLE, Int.reduceEq, Int.reduceToNat, Nat.reduceSub, Nat.reduceMul, Nat.reduceLeDiff, tks_len, hab', x1 h]
      rw [hab'] at x1
      simp only [F22, go_sem, op, mv, ↓reduceIte, Nat.reduceAdd, Nat.reduceEqDiff, Nat.reduceLT, Int.reduceNeg, Int.cast_ofNat_Int, Int.reduceLT, Int.reduceAdd, Int.reduceSub, Int.reduceLE, Int.reduceEq, Int.reduceToNat, Nat.reduceSub, Nat.reduceMul, Nat.reduceLeDiff, tks_len, x1 h]
    · rw [decide_eq_false h]
      obtain ⟨l', y1, y2⟩ := x2 h
      rw [hab'] at y1
      simp only [F22, go_sem, op, mv, ↓reduceIte, Nat.reduceAdd, Nat.reduceEqDiff, Nat.reduceLT, Int.reduceNeg, Int.cast_ofNat_Int, Int.reduceLT, Int.reduceAdd, Int.reduceSub, Int.reduceLE, Int.reduceEq, Int.reduceToNat, Nat.reduceSub, Nat.reduceMul, Nat.reduceLeDiff, tks_len, hab', y1, y2]
  · have hab' : ¬ (a.length : Int) = (b.length : Int) := by omega
    have h : ¬ a = b := fun q => hab (by rw [q])
    rw [decide_eq_false h]
    simp only [F22, go_sem, op, mv, ↓reduceIte, Nat.reduceAdd, Nat.reduceEqDiff, Nat.reduceLT, Int.reduceNeg, Int.cast_ofNat_Int, Int.reduceLT, Int.reduceAdd, Int.reduceSub, Int.reduceLE, Int.reduceEq, Int.reduceToNat, Nat.reduceSub, Nat.reduceMul, Nat.reduceLeDiff, tks_len, hab']
def accW (f : List Tk) (n : Int) : Int := f.foldl (fun n t => IntKind.i64.wrap (n + (t.2.1.length : Int))) n
theorem accW_tot : ∀ (f : List Tk) (n : Nat), (∀ t ∈ f, t.2.1.length ≤ cap47) → n + f.length * cap47 ≤ 9000000000000000000 → accW f n = ((n + tot f : Nat) : Int)
  | [], n, _, _ => by simp [accW, tot]
  | t :: f, n, h, hn => by
    have ht := h t (by simp)
    rw [List.length_cons] at hn
    have e : accW (t :: f) n = accW f (IntKind.i64.wrap ((n : Int) + (t.2.1.length : Int))) := rfl
    simp only [cap47] at *
    have hw : IntKind.i64.wrap ((n : Int) + (t.2.1.length : Int)) = ((n + t.2.1.length : Nat) : Int) := by rw [w64 (by omega) (by omega)]; rfl
    rw [e, hw, accW_tot f _ (fun x hx => h x (by simp [hx])) (by simp only [cap47]; omega), tot_cons]
    congr 1; omega
theorem l30 (f : List Tk) (hl : f.length ≤ 4611686018427387904) : ∀ (k i : Nat) (n : Int), i + k = f.length →
    execX G0 L30_0 (ST [(0, .sl .no 3 (tks f)), (3, .int .i64 n), (6, .int .i64 f.length), (7, .int .i64 i)] [] []) = some (.ex 0, ST [(0, .sl .no 3 (tks f)), (3, .int .i64 (accW (f.drop i) n)), (6, .int .i64 f.length), (7, .int .i64 f.length), (8, .bool false)] [] [])
  | 0, i, n, h => by
    have : i = f.length := by omega
    subst this
    have e : accW (f.drop f.length) n = n := by rw [List.drop_length]; rfl
    rw [e, Y_loop (L := L30_0) rfl]
    simp only [go_sem, op, mv, ↓reduceIte, Nat.reduceAdd, Nat.reduceEqDiff, Nat.reduceLT, Int.reduceNeg, Int.cast_ofNat_Int, Int.reduceLT, Int.reduceAdd, Int.reduceSub, Int.reduceLE, Int.reduceEq, Int.reduceToNat, Nat.reduceSub, Nat.reduceMul, Nat.reduceLeDiff, Int.lt_irrefl]
  | k + 1, i, n, h => by
    have hi : i < f.length := by omega
    have h4 : (i : Int) < (f.length : Int) := by omega
    have h0 : (0 : Int) ≤ (i : Int) := by omega
    have hw : IntKind.i64.wrap ((i : Int) + 1) = ((i + 1 : Nat) : Int) := by rw [w64 (by omega) (by omega)]; rfl
    have hg : f[i]? = some f[i] := List.getElem?_eq_getElem hi
    have hd : f.drop i = f[i] :: f.drop (i + 1) := List.drop_eq_getElem_cons hi
    generalize f[i] = T at hg hd
    have hr := tks_at hg
    have ih := l30 f hl k (i + 1) (IntKind.i64.wrap (n + (T.2.1.length : Int))) (by omega)
    have e : accW (f.drop i) n = accW (f.drop (i + 1)) (IntKind.i64.wrap (n + (T.2.1.length : Int))) := by rw [hd]; rfl
    rw [e, Y_loop (L := L30_0) rfl]
    simp only [go_sem, op, mv, ↓reduceIte, Nat.reduceAdd, Nat.reduceEqDiff, Nat.reduceLT, Int.reduceNeg, Int.cast_ofNat_Int, Int.reduceLT, Int.reduceAdd, Int.reduceSub, Int.reduceLE, Int.reduceEq, Int.reduceToNat, Nat.reduceSub, Nat.reduceMul, Nat.reduceLeDiff, h4, h0, hr, hw]
    exact ih
def fewF (f : List Tk) : Bool := decide (f.length ≤ 40) && decide (tot f ≤ 600)
theorem c30 (f : List Tk) (hl : f.length ≤ 4611686018427387904) (hb : ∀ t ∈ f, t.2.1.length ≤ cap47) : G0 30 [.sl .no 3 (tks f)] [] = some (.bool (fewF f), []) := by
  refine contract F30 rfl rfl rfl ?_
  have x := l30 f hl f.length 0 0 (by omega)
  have ec : ((0 : Nat) : Int) = 0 := rfl
  rw [List.drop_zero, ec] at x
  unfold fewF
  by_cases h1 : f.length ≤ 40
  · have h1' : (f.length : Int) ≤ 40 := by omega
    have hc : f.length * cap47 ≤ 40 * cap47 := Nat.mul_le_mul_right _ h1
    have ht := accW_tot f 0 hb (by simp only [cap47] at *; omega)
    rw [Nat.zero_add, ec] at ht
    rw [ht] at x
    rw [decide_eq_true h1]
    by_cases h2 : tot f ≤ 600
    · have h2' : (tot f : Int) ≤ 600 := by omega
      simp only [F30, go_sem, op, mv, ↓reduceIte, Nat.reduceAdd, Nat.reduceEqDiff, Nat.reduceLT, Int.reduceNeg, Int.cast_ofNat_Int, Int.reduceLT, Int.reduceAdd, Int.reduceSub, Int.reduceLE, Int.reduceEq, Int.reduceToNat, Nat.reduceSub, Nat.reduceMul, Nat.reduceLeDiff, tks_len, x, h1', h2', h2, decide_true, Bool.and_self]
    · have h2' : ¬ (tot f : Int) ≤ 600 := by omega
      simp only [F30, go_sem, op, mv, ↓reduceIte, Nat.reduceAdd, Nat.reduceEqDiff, Nat.reduceLT, Int.reduceNeg, Int.cast_ofNat_Int, Int.reduceLT, Int.reduceAdd, Int.reduceSub, Int.reduceLE, Int.reduceEq, Int.reduceToNat, Nat.reduceSub, Nat.reduceMul, Nat.reduceLeDiff, tks_len, x, h1', h2', h2, decide_false, Bool.and_false]
  · have h1' : ¬ (f.length : Int) ≤ 40 := by omega
    rw [decide_eq_false h1]
    simp only [F30, go_sem, op, mv, ↓reduceIte, Nat.reduceAdd, Nat.reduceEqDiff, Nat.reduceLT, Int.reduceNeg, Int.cast_ofNat_Int, Int.reduceLT, Int.reduceAdd, Int.reduceSub, Int.reduceLE, Int.reduceEq, Int.reduceToNat, Nat.reduceSub, Nat.reduceMul, Nat.reduceLeDiff, tks_len, x, h1', Bool.false_and]
theorem tot_le {f : List Tk} : ∀ t ∈ f, t.2.1.length ≤ tot f := by
  induction f with
  | nil => intro t ht; cases ht
  | cons a f ih =>
    intro t ht
    rw [tot_cons]
    rcases List.mem_cons.1 ht with rfl | h
    · omega
    · have := ih t h; omega
theorem c34 (l : List Int) : ∃ f, f.length ≤ 8 ∧ tot f ≤ 144 ∧ vld f = 0 ∧ G0 34 [.sl .no 1 (ints l)] [] = some (.sl .no 3 (tks f), []) := by
  obtain ⟨n', f, f1, f2, f3, h42⟩ := c42 l
  refine ⟨f, f1, f2, f3, ?_⟩
  refine contract F34 rfl rfl rfl ?_
  have e : num l 0 = [.sl .no 1 (ints l), .int .i64 0] := rfl
  rw [e] at h42
  simp only [F34, go_sem, op, mv, ↓reduceIte, Nat.reduceAdd, Nat.reduceEqDiff, Nat.reduceLT, Int.reduceNeg, Int.cast_ofNat_Int, Int.reduceLT, Int.reduceAdd, Int.reduceSub, Int.reduceLE, Int.reduceEq, Int.reduceToNat, Nat.reduceSub, Nat.reduceMul, Nat.reduceLeDiff, h42, num_ok]
theorem kn1 : vld [(2, [98], 1), (1, [97, 60, 98], 0), (3, [98], 1), (5, [110], 0)] = 0 := by decide +kernel
theorem kn2 : fmt [(2, [98], 1), (1, [97, 60, 98], 0), (3, [98], 1), (5, [110], 0)] = [60, 49, 58, 98, 62, 97, 92, 60, 98, 60, 47, 49, 58, 98, 62, 123, 110, 125] := by decide +kernel
theorem kn3 : parse [60, 49, 58, 98, 62, 60, 47, 50, 58, 98, 62, 60, 47, 49, 58, 105, 62] = ([], 11, 7) := by decide +kernel
theorem c31 : G0 31 [] [] = some (.bool true, []) := by
  refine contract F31 rfl rfl rfl ?_
  have h1 := c32 [(2, [98], 1), (1, [97, 60, 98], 0), (3, [98], 1), (5, [110], 0)] (by decide) (by decide)
  have h2 := c35 [60, 49, 58, 98, 62, 60, 47, 50, 58, 98, 62, 60, 47, 49, 58, 105, 62] (by decide)
  rw [kn3] at h2
  unfold fmtE at h1
  rw [kn1, if_pos rfl, kn2] at h1
  have e : tks [(2, [98], 1), (1, [97, 60, 98], 0), (3, [98], 1), (5, [110], 0)] = [[.int .i64 2, .str [98], .int .i64 1], [.int .i64 1, .str [97, 60, 98], .int .i64 0], [.int .i64 3, .str [98], .int .i64 1], [.int .i64 5, .str [110], .int .i64 0]] := rfl
  rw [e] at h1
  have e11 : ((11 : Nat) : Int) = 11 := rfl
  simp only [e11, tks_nil] at h2
  have hm : mksA 3 [.int .i64 0, .str [], .int .i64 0] 4 [0, 1, 2, 3] [.agg [.int .i64 2, .str [98], .int .i64 1], .agg [.int .i64 1, .str [97, 60, 98], .int .i64 0], .agg [.int .i64 3, .str [98], .int .i64 1], .agg [.int .i64 5, .str [110], .int .i64 0]] = some (.sl .full 3 [[.int .i64 2, .str [98], .int .i64 1], [.int .i64 1, .str [97, 60, 98], .int .i64 0], [.int .i64 3, .str [98], .int .i64 1], [.int .i64 5, .str [110], .int .i64 0]]) := by rfl
  have eb : (([60, 49, 58, 98, 62, 97, 92, 60, 98, 60, 47, 49, 58, 98, 62, 123, 110, 125] : Bs) == [60, 49, 58, 98, 62, 97, 92, 60, 98, 60, 47, 49, 58, 98, 62, 123, 110, 125]) = true := by decide
  simp only [F31, go_sem, op, mv, ↓reduceIte, Nat.reduceAdd, Nat.reduceEqDiff, Nat.reduceLT, Int.reduceNeg, Int.cast_ofNat_Int, Int.reduceLT, Int.reduceAdd, Int.reduceSub, Int.reduceLE, Int.reduceEq, Int.reduceToNat, Nat.reduceSub, Nat.reduceMul, Nat.reduceLeDiff, hm, h1, h2, eb]
theorem hb_of {f : List Tk} {n : Nat} (h : tot f ≤ n) (hn : n ≤ cap47) : ∀ t ∈ f, t.2.1.length ≤ cap47 := fun t ht => by have := tot_le t ht; omega
theorem c6 (f : List Tk) (l : List Int) (hl : f.length ≤ 4398046511104) (hb : ∀ t ∈ f, t.2.1.length ≤ 140737488355328) : G0 6 [.sl .no 3 (tks f), .sl .no 1 (ints l)] [] = some (.bool true, []) := by
  refine contract F6 rfl rfl rfl ?_
  have h30 := c30 f (by omega) hb
  cases hf : fewF f with
  | false =>
    rw [hf] at h30
    simp only [F6, go_sem, op, mv, ↓reduceIte, Nat.reduceAdd, Nat.reduceEqDiff, Nat.reduceLT, Int.reduceNeg, Int.cast_ofNat_Int, Int.reduceLT, Int.reduceAdd, Int.reduceSub, Int.reduceLE, Int.reduceEq, Int.reduceToNat, Nat.reduceSub, Nat.reduceMul, Nat.reduceLeDiff, h30, c31]
  | true =>
    rw [hf] at h30
    by_cases h1 : (100 : Int) < (l.length : Int)
    · simp only [F6, go_sem, op, mv, ↓reduceIte, Nat.reduceAdd, Nat.reduceEqDiff, Nat.reduceLT, Int.reduceNeg, Int.cast_ofNat_Int, Int.reduceLT, Int.reduceAdd, Int.reduceSub, Int.reduceLE, Int.reduceEq, Int.reduceToNat, Nat.reduceSub, Nat.reduceMul, Nat.reduceLeDiff, h30, ints_length, h1, c31]
    · unfold fewF at hf
      simp only [Bool.and_eq_true, decide_eq_true_eq] at hf
      have h32 := c32 f (by omega) hb
      have h33 := c33 f (by omega) hb
      obtain ⟨g, g1, g2, g3, h34⟩ := c34 l
      have k32 := c32 g (by omega) (hb_of g2 (by decide))
      have k33 := c33 g (by omega) (hb_of g2 (by decide))
      generalize fmtE f = X at h32 h33
      generalize fmtE g = Y at k32 k33
      generalize vld f = v at h32 h33
      rw [g3] at k32 k33
      have b1 : (X == X) = true := by simp
      have b2 : (Y == Y) = true := by simp
      simp only [F6, go_sem, op, mv, ↓reduceIte, Nat.reduceAdd, Nat.reduceEqDiff, Nat.reduceLT, Int.reduceNeg, Int.cast_ofNat_Int, Int.reduceLT, Int.reduceAdd, Int.reduceSub, Int.reduceLE, Int.reduceEq, Int.reduceToNat, Nat.reduceSub, Nat.reduceMul, Nat.reduceLeDiff, h30, ints_length, h1, h32, h33, h34, k32, k33, b1, b2, c31]
theorem fmtE_ok {f : List Tk} (h : vld f = 0) : fmtE f = fmt f := by unfold fmtE; rw [if_pos h]
theorem c10 (l m : List Int) : G0 10 [.sl .no 1 (ints l), .sl .no 1 (ints m)] [] = some (.bool true, []) := by
  refine contract F10 rfl rfl rfl ?_
  by_cases h1 : (60 : Int) < (l.length : Int)
  · simp only [F10, go_sem, op, mv, ↓reduceIte, Nat.reduceAdd, Nat.reduceEqDiff, Nat.reduceLT, Int.reduceNeg, Int.cast_ofNat_Int, Int.reduceLT, Int.reduceAdd, Int.reduceSub, Int.reduceLE, Int.reduceEq, Int.reduceToNat, Nat.reduceSub, Nat.reduceMul, Nat.reduceLeDiff, ints_length, h1, c31]
  by_cases h2 : (60 : Int) < (m.length : Int)
  · simp only [F10, go_sem, op, mv, ↓reduceIte, Nat.reduceAdd, Nat.reduceEqDiff, Nat.reduceLT, Int.reduceNeg, Int.cast_ofNat_Int, Int.reduceLT, Int.reduceAdd, Int.reduceSub, Int.reduceLE, Int.reduceEq, Int.reduceToNat, Nat.reduceSub, Nat.reduceMul, Nat.reduceLeDiff, ints_length, h1, h2, c31]
  obtain ⟨f, f1, f2, f3, h34⟩ := c34 l
  obtain ⟨g, g1, g2, g3, k34⟩ := c34 m
  have h32 := c32 f (by omega) (hb_of f2 (by decide))
  have k32 := c32 g (by omega) (hb_of g2 (by decide))
  have h22 := c22 f g (by omega)
  rw [f3, fmtE_ok f3] at h32
  rw [g3, fmtE_ok g3] at k32
  by_cases he : f = g
  · subst he
    have b1 : (fmt f == fmt f) = true := by simp
    rw [decide_eq_true rfl] at h22
    simp only [F10, go_sem, op, mv, ↓reduceIte, Nat.reduceAdd, Nat.reduceEqDiff, Nat.reduceLT, Int.reduceNeg, Int.cast_ofNat_Int, Int.reduceLT, Int.reduceAdd, Int.reduceSub, Int.reduceLE, Int.reduceEq, Int.reduceToNat, Nat.reduceSub, Nat.reduceMul, Nat.reduceLeDiff, ints_length, h1, h2, h34, k34, h32, b1, h22, c31]
  · have b1 : (fmt f == fmt g) = false := by
      rw [beq_eq_false_iff_ne]
      exact fun q => he (fmt_inj f3 g3 q)
    rw [decide_eq_false he] at h22
    generalize fmt f = X at h32 b1
    generalize fmt g = Y at k32 b1
    simp only [F10, go_sem, op, mv, ↓reduceIte, Nat.reduceAdd, Nat.reduceEqDiff, Nat.reduceLT, Int.reduceNeg, Int.cast_ofNat_Int, Int.reduceLT, Int.reduceAdd, Int.reduceSub, Int.reduceLE, Int.reduceEq, Int.reduceToNat, Nat.reduceSub, Nat.reduceMul, Nat.reduceLeDiff, ints_length, h1, h2, h34, k34, h32, k32, b1, h22, c31]
end Go.Av
