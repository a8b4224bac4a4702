/- The reference's renaming, keys, first repetitions, the fixed example. -/
import Derived.Test.YthnablnojflbnaaDoorRA
set_option linter.unusedSimpArgs false
set_option linter.unusedVariables false
namespace Go.Av
open Go.Nt
set_option linter.unusedSimpArgs false
set_option linter.unusedVariables false
set_option maxHeartbeats 16000000
set_option maxRecDepth 100000
theorem l43a (f : List Tk) (fr to : List Int) (hfr : fr.length ≤ 1000000) (hto : to.length ≤ 1000000) (o : List Tk) (ho : o.length ≤ 1000000) (b : Bool) (kk : Int) (s : Bs) (id : Int) (n i : Int) : ∀ (g k : Nat), fr.length ≤ k + g →
    (∀ v, lkz (fr.drop k) (to.drop k) id = some v → execX G0 L43_0 (ST [(0, .sl .no 3 (tks f)), (1, .sl .no 1 (ints fr)), (2, .sl .no 1 (ints to)), (7, .sl (md b) 3 (tks o)), (9, .loc 9 0), (10, .int .i64 k), (12, .int .i64 n), (13, .int .i64 i), (14, .bool true), (22, .bool false)] [(9, some [.int .i64 kk, .str s, .int .i64 id])] []) = some (.ex 2, ST [(0, .sl .no 3 (tks f)), (1, .sl .no 1 (ints fr)), (2, .sl .no 1 (ints to)), (7, .sl .own 3 (tks (o ++ [(kk, s, v)]))), (12, .int .i64 n), (13, .int .i64 i), (14, .bool true), (22, .bool false), (36, .bool true), (45, .bool true)] [] [])) ∧
    (lkz (fr.drop k) (to.drop k) id = none → ∃ K : Int, execX G0 L43_0 (ST [(0, .sl .no 3 (tks f)), (1, .sl .no 1 (ints fr)), (2, .sl .no 1 (ints to)), (7, .sl (md b) 3 (tks o)), (9, .loc 9 0), (10, .int .i64 k), (12, .int .i64 n), (13, .int .i64 i), (14, .bool true), (22, .bool false)] [(9, some [.int .i64 kk, .str s, .int .i64 id])] []) = some (.ex 2, ST [(0, .sl .no 3 (tks f)), (1, .sl .no 1 (ints fr)), (2, .sl .no 1 (ints to)), (7, .sl (md b) 3 (tks o)), (9, .loc 9 0), (10, .int .i64 K), (12, .int .i64 n), (13, .int .i64 i), (14, .bool true), (22, .bool false), (36, .bool false)] [(9, some [.int .i64 kk, .str s, .int .i64 id])] []))
  | g, k, hg => by
    have h0 : (0 : Int) ≤ (k : Int) := by omega
    by_cases h1 : fr.length ≤ k
    · have h1' : ¬ (k : Int) < (fr.length : Int) := by omega
      refine ⟨fun v hv => (by rw [lkz_none (.inl h1)] at hv; cases hv), fun _ => ⟨(k : Int), ?_⟩⟩
      rw [Y_loop (L := L43_0) rfl]
      simp only [go_sem, op, mv, ↓reduceIte, Nat.reduceAdd, Nat.reduceEqDiff, Nat.reduceLT, Int.reduceNeg, Int.cast_ofNat_Int, Int.reduceLT, Int.reduceAdd, Int.reduceSub, Int.reduceLE, Int.reduceEq, Int.reduceToNat, Nat.reduceSub, Nat.reduceMul, Nat.reduceLeDiff, ints_length, h1']
    have h1' : (k : Int) < (fr.length : Int) := by omega
    by_cases h2 : to.length ≤ k
    · have h2' : ¬ (k : Int) < (to.length : Int) := by omega
      refine ⟨fun v hv => (by rw [lkz_none (.inr h2)] at hv; cases hv), fun _ => ⟨(k : Int), ?_⟩⟩
      rw [Y_loop (L := L43_0) rfl]
      simp only [go_sem, op, mv, ↓reduceIte, Nat.reduceAdd, Nat.reduceEqDiff, Nat.reduceLT, Int.reduceNeg, Int.cast_ofNat_Int, Int.reduceLT, Int.reduceAdd, Int.reduceSub, Int.reduceLE, Int.reduceEq, Int.reduceToNat, Nat.reduceSub, Nat.reduceMul, Nat.reduceLeDiff, ints_length, h1', h2']
    have h2' : (k : Int) < (to.length : Int) := by omega
    cases g with
    | zero => omega
    | succ g =>
      have hw : IntKind.i64.wrap ((k : Int) + 1) = ((k + 1 : Nat) : Int) := by rw [w64 (by omega) (by omega)]; rfl
      have g1 : fr[k]? = some fr[k] := List.getElem?_eq_getElem (by omega)
      have g2 : to[k]? = some to[k] := List.getElem?_eq_getElem (by omega)
      generalize fr[k] = a at g1
      generalize to[k] = c at g2
      have r1 := ints_at g1
      have r2 := ints_at g2
      have ih := l43a f fr to hfr hto o ho b kk s id n i g (k + 1) (by omega)
      rw [lkz_step g1 g2]
      by_cases hq : a = id
      · subst hq
        rw [if_pos rfl]
        refine ⟨fun v hv => ?_, fun q => (by cases q)⟩
        cases hv
        have ha := app_f b o (kk, s, c) ho
        simp only [] at ha
        rw [Y_loop (L := L43_0) rfl]
        simp only [go_sem, op, mv, ↓reduceIte, Nat.reduceAdd, Nat.reduceEqDiff, Nat.reduceLT, Int.reduceNeg, Int.cast_ofNat_Int, Int.reduceLT, Int.reduceAdd, Int.reduceSub, Int.reduceLE, Int.reduceEq, Int.reduceToNat, Nat.reduceSub, Nat.reduceMul, Nat.reduceLeDiff, ints_length, h0, h1', h2', r1, r2, demV_md, ha]
      · rw [if_neg hq]
        have step : execX G0 L43_0 (ST [(0, .sl .no 3 (tks f)), (1, .sl .no 1 (ints fr)), (2, .sl .no 1 (ints to)), (7, .sl (md b) 3 (tks o)), (9, .loc 9 0), (10, .int .i64 k), (12, .int .i64 n), (13, .int .i64 i), (14, .bool true), (22, .bool false)] [(9, some [.int .i64 kk, .str s, .int .i64 id])] []) = execX G0 L43_0 (ST [(0, .sl .no 3 (tks f)), (1, .sl .no 1 (ints fr)), (2, .sl .no 1 (ints to)), (7, .sl (md b) 3 (tks o)), (9, .loc 9 0), (10, .int .i64 ((k + 1 : Nat) : Int)), (12, .int .i64 n), (13, .int .i64 i), (14, .bool true), (22, .bool false)] [(9, some [.int .i64 kk, .str s, .int .i64 id])] []) := by
          conv => lhs; rw [Y_loop (L := L43_0) rfl]
          simp only [go_sem, op, mv, ↓reduceIte, Nat.reduceAdd, Nat.reduceEqDiff, Nat.reduceLT, Int.reduceNeg, Int.cast_ofNat_Int, Int.reduceLT, Int.reduceAdd, Int.reduceSub, Int.reduceLE, Int.reduceEq, Int.reduceToNat, Nat.reduceSub, Nat.reduceMul, Nat.reduceLeDiff, ints_length, h0, h1', h2', r1, r2, hq, hw]
        rw [step]
        exact ih
theorem l43 (f : List Tk) (hf : f.length ≤ 100000) (fr to : List Int) (hfr : fr.length ≤ 1000000) (hto : to.length ≤ 1000000) : ∀ (k i : Nat) (b : Bool) (o : List Tk), i + k = f.length → o.length ≤ i →
    ∃ b', execX G0 L43_1 (ST [(0, .sl .no 3 (tks f)), (1, .sl .no 1 (ints fr)), (2, .sl .no 1 (ints to)), (7, .sl (md b) 3 (tks o)), (12, .int .i64 f.length), (13, .int .i64 i)] [] []) = some (.ex 0, ST [(0, .sl .no 3 (tks f)), (1, .sl .no 1 (ints fr)), (2, .sl .no 1 (ints to)), (7, .sl (md b') 3 (tks (o ++ renF fr to (f.drop i)))), (12, .int .i64 f.length), (13, .int .i64 f.length), (14, .bool false)] [] [])
  | 0, i, b, o, h, ho => by
    have : i = f.length := by omega
    subst this
    refine ⟨b, ?_⟩
    have e : renF fr to (f.drop f.length) = [] := by rw [List.drop_length]; rfl
    rw [e, List.append_nil]
    rw [Y_loop (L := L43_1) rfl]
    simp only [go_sem, op, mv, ↓reduceIte, Nat.reduceAdd, Nat.reduceEqDiff, Nat.reduceLT, Int.reduceNeg, Int.cast_ofNat_Int, Int.reduceLT, Int.reduceAdd, Int.reduceSub, Int.reduceLE, Int.reduceEq, Int.reduceToNat, Nat.reduceSub, Nat.reduceMul, Nat.reduceLeDiff, Int.lt_irrefl]
  | k + 1, i, b, o, h, ho => by
    have hi : i < f.length := by omega
    have h4 : (i : Int) < (f.length : Int) := by omega
    have h0 : (0 : Int) ≤ (i : Int) := by omega
    have hw : IntKind.i64.wrap ((i : Int) + 1) = ((i + 1 : Nat) : Int) := by rw [w64 (by omega) (by omega)]; rfl
    have hg : f[i]? = some f[i] := List.getElem?_eq_getElem hi
    have hd : f.drop i = f[i] :: f.drop (i + 1) := List.drop_eq_getElem_cons hi
    generalize f[i] = T at hg hd
    have hr := tks_at hg
    obtain ⟨kk, s, id⟩ := T
    simp only [] at hr
    have c65 := c65 kk s id
    have e1 : md true = .own := rfl
    rw [hd, ren_cons]
    cases ht : isTag (kk, s, id) with
    | false =>
      rw [ht] at c65
      rw [renX_no ht]
      have ha := app_f b o (kk, s, id) (by omega)
      simp only [] at ha
      obtain ⟨b', ih⟩ := l43 f hf fr to hfr hto k (i + 1) true (o ++ [(kk, s, id)]) (by omega) (by simp; omega)
      refine ⟨b', ?_⟩
      rw [e1] at ih
      rw [Y_loop (L := L43_1) rfl]
      simp only [go_sem, op, mv, ↓reduceIte, Nat.reduceAdd, Nat.reduceEqDiff, Nat.reduceLT, Int.reduceNeg, Int.cast_ofNat_Int, Int.reduceLT, Int.reduceAdd, Int.reduceSub, Int.reduceLE, Int.reduceEq, Int.reduceToNat, Nat.reduceSub, Nat.reduceMul, Nat.reduceLeDiff, h4, h0, hr, hw, c65, ha, demV_md]
      rw [List.append_assoc] at ih
      exact ih
    | true =>
      rw [ht] at c65
      obtain ⟨x1, x2⟩ := l43a f fr to hfr hto o (by omega) b kk s id (f.length : Int) (i : Int) fr.length 0 (by omega)
      have ec : ((0 : Nat) : Int) = 0 := rfl
      rw [List.drop_zero, List.drop_zero, ec] at x1 x2
      cases hz : lkz fr to id with
      | none =>
        obtain ⟨K, x⟩ := x2 hz
        rw [renX_n ht hz]
        obtain ⟨b', ih⟩ := l43 f hf fr to hfr hto k (i + 1) b o (by omega) (by omega)
        refine ⟨b', ?_⟩
        rw [Y_loop (L := L43_1) rfl]
        simp only [go_sem, op, mv, ↓reduceIte, Nat.reduceAdd, Nat.reduceEqDiff, Nat.reduceLT, Int.reduceNeg, Int.cast_ofNat_Int, Int.reduceLT, Int.reduceAdd, Int.reduceSub, Int.reduceLE, Int.reduceEq, Int.reduceToNat, Nat.reduceSub, Nat.reduceMul, Nat.reduceLeDiff, h4, h0, hr, hw, c65, x, List.nil_append]
        exact ih
      | some v =>
        have x := x1 v hz
        rw [renX_y ht hz]
        obtain ⟨b', ih⟩ := l43 f hf fr to hfr hto k (i + 1) true (o ++ [(kk, s, v)]) (by omega) (by simp; omega)
        refine ⟨b', ?_⟩
        rw [e1] at ih
        rw [Y_loop (L := L43_1) rfl]
        simp only [go_sem, op, mv, ↓reduceIte, Nat.reduceAdd, Nat.reduceEqDiff, Nat.reduceLT, Int.reduceNeg, Int.cast_ofNat_Int, Int.reduceLT, Int.reduceAdd, Int.reduceSub, Int.reduceLE, Int.reduceEq, Int.reduceToNat, Nat.reduceSub, Nat.reduceMul, Nat.reduceLeDiff, h4, h0, hr, hw, c65, x]
        rw [List.append_assoc] at ih
        exact ih
theorem c43 (f : List Tk) (hf : f.length ≤ 100000) (hft : tot f ≤ 1000000) (fr to : List Int) (hfr : fr.length ≤ 1000000) (hto : to.length ≤ 1000000) : G0 43 [.sl .no 3 (tks f), .sl .no 1 (ints fr), .sl .no 1 (ints to)] [] = some (.sl .no 3 (tks (nrm (renF fr to f))), []) := by
  obtain ⟨b', x⟩ := l43 f hf fr to hfr hto f.length 0 false [] (by omega) (by simp)
  have ec : ((0 : Nat) : Int) = 0 := rfl
  have e2 : md false = .full := rfl
  rw [List.drop_zero, ec, e2, tks_nil, List.nil_append] at x
  obtain ⟨t1, t2⟩ := ren_tot fr to f
  have h57 := c57 (renF fr to f) (by omega) (by omega)
  refine contract F43 rfl rfl rfl ?_
  simp only [F43, go_sem, op, mv, ↓reduceIte, Nat.reduceAdd, Nat.reduceEqDiff, Nat.reduceLT, Int.reduceNeg, Int.cast_ofNat_Int, Int.reduceLT, Int.reduceAdd, Int.reduceSub, Int.reduceLE, Int.reduceEq, Int.reduceToNat, Nat.reduceSub, Nat.reduceMul, Nat.reduceLeDiff, tks_len, x, demV_md, demV_mdn, strV_sl, h57]
theorem c23 (f : List Tk) (h : vld f = 0) : G0 23 [.sl .no 3 (tks f)] [] = some (.sl .no 3 (tks (rnm f)), []) := by
  obtain ⟨h1, h2⟩ := vld_tot h
  have hn := nums_len f
  have h44 := c44 f (by omega)
  have h49 := c49 (nums f).length (by omega)
  have h43 := c43 f (by omega) (by omega) (nums f) (upto (nums f).length) (by omega) (by rw [upto_len]; omega)
  have er : renF (nums f) (upto (nums f).length) f = rnm f := rfl
  rw [er, rnm_nrm h] at h43
  refine contract F23 rfl rfl rfl ?_
  simp only [F23, go_sem, op, mv, ↓reduceIte, Nat.reduceAdd, Nat.reduceEqDiff, Nat.reduceLT, Int.reduceNeg, Int.cast_ofNat_Int, Int.reduceLT, Int.reduceAdd, Int.reduceSub, Int.reduceLE, Int.reduceEq, Int.reduceToNat, Nat.reduceSub, Nat.reduceMul, Nat.reduceLeDiff, h44, ints_length, h49, h43]
theorem vld_hb' {f : List Tk} (h : vld f = 0) : ∀ t ∈ f, t.2.1.length ≤ cap47 := fun t ht => by
  have := tot_le' t ht
  have := (vld_tot h).1
  simp only [cap47]; omega
theorem c20 (f : List Tk) (hl : f.length ≤ 1000000) (hb : ∀ t ∈ f, t.2.1.length ≤ cap47) : G0 20 [.sl .no 3 (tks f)] [] = some (.str (keyF f), []) := by
  have h46 := c46 f hl hb
  refine contract F20 rfl rfl rfl ?_
  by_cases h : vld f = 0
  · have h47 := c47 f h
    have hv := rnm_vld h
    have h32 := c32 (rnm f) (by have := (vld_tot hv).2; omega) (vld_hb' hv)
    have ek : keyF f = fmt (rnm f) := by unfold keyF; rw [if_pos h]
    have ef : fmtE (rnm f) = fmt (rnm f) := by unfold fmtE; rw [if_pos hv]
    rw [ef, ← ek] at h32
    rw [h] at h46
    simp only [F20, go_sem, op, mv, ↓reduceIte, Nat.reduceAdd, Nat.reduceEqDiff, Nat.reduceLT, Int.reduceNeg, Int.cast_ofNat_Int, Int.reduceLT, Int.reduceAdd, Int.reduceSub, Int.reduceLE, Int.reduceEq, Int.reduceToNat, Nat.reduceSub, Nat.reduceMul, Nat.reduceLeDiff, h46, h47, h32]
  · have ek : keyF f = [] := by unfold keyF; rw [if_neg h]
    rw [ek]
    simp only [F20, go_sem, op, mv, ↓reduceIte, Nat.reduceAdd, Nat.reduceEqDiff, Nat.reduceLT, Int.reduceNeg, Int.cast_ofNat_Int, Int.reduceLT, Int.reduceAdd, Int.reduceSub, Int.reduceLE, Int.reduceEq, Int.reduceToNat, Nat.reduceSub, Nat.reduceMul, Nat.reduceLeDiff, h46, h]
theorem c19 (f : List Tk) (hl : f.length ≤ 1000000) (hb : ∀ t ∈ f, t.2.1.length ≤ cap47) : G0 19 [.sl .no 3 (tks f)] [] = some (.tup [.str (keyF f), .bool (decide (vld f = 0))], []) := by
  have h21 := c21 f hl hb
  refine contract F19 rfl rfl rfl ?_
  by_cases h : vld f = 0
  · have h23 := c23 f h
    have hv := rnm_vld h
    have h33 := c33 (rnm f) (by have := (vld_tot hv).2; omega) (vld_hb' hv)
    have ek : keyF f = fmt (rnm f) := by unfold keyF; rw [if_pos h]
    have ef : fmtE (rnm f) = fmt (rnm f) := by unfold fmtE; rw [if_pos hv]
    rw [ef, ← ek] at h33
    rw [h] at h21
    rw [decide_eq_true h]
    simp only [F19, go_sem, op, mv, ↓reduceIte, Nat.reduceAdd, Nat.reduceEqDiff, Nat.reduceLT, Int.reduceNeg, Int.cast_ofNat_Int, Int.reduceLT, Int.reduceAdd, Int.reduceSub, Int.reduceLE, Int.reduceEq, Int.reduceToNat, Nat.reduceSub, Nat.reduceMul, Nat.reduceLeDiff, h21, h23, h33]
  · have ek : keyF f = [] := by unfold keyF; rw [if_neg h]
    rw [ek, decide_eq_false h]
    simp only [F19, go_sem, op, mv, ↓reduceIte, Nat.reduceAdd, Nat.reduceEqDiff, Nat.reduceLT, Int.reduceNeg, Int.cast_ofNat_Int, Int.reduceLT, Int.reduceAdd, Int.reduceSub, Int.reduceLE, Int.reduceEq, Int.reduceToNat, Nat.reduceSub, Nat.reduceMul, Nat.reduceLeDiff, h21, h]
theorem l24 (a b : List Int) (hab : a.length = b.length) (ha : a.length ≤ 1000000) : ∀ (k i : Nat), i + k = a.length →
    (a.drop i = b.drop i → ∃ l', execX G0 L24_0 (ST [(0, .sl .no 1 (ints a)), (1, .sl .no 1 (ints b)), (10, .bool false), (12, .int .i64 a.length), (13, .int .i64 i)] [] []) = some (.ex 0, ST l' [] [])) ∧
    (a.drop i ≠ b.drop i → ∃ l', execX G0 L24_0 (ST [(0, .sl .no 1 (ints a)), (1, .sl .no 1 (ints b)), (10, .bool false), (12, .int .i64 a.length), (13, .int .i64 i)] [] []) = some (.ret, ST l' [] []) ∧ look .any l' 4 = .bool false)
  | 0, i, h => by
    have : i = a.length := by omega
    subst this
    refine ⟨fun _ => ?_, fun q => absurd (by rw [List.drop_length, hab, List.drop_length]) q⟩
    refine Exists.intro ?_ ?_
    rotate_left 1
    rw [Y_loop (L := L24_0) rfl]
    simp only [go_sem, op, mv, ↓reduceIte, Nat.reduceAdd, Nat.reduceEqDiff, Nat.reduceLT, Int.reduceNeg, Int.cast_ofNat_Int, Int.reduceLT, Int.reduceAdd, Int.reduceSub, Int.reduceLE, Int.reduceEq, Int.reduceToNat, Nat.reduceSub, Nat.reduceMul, Nat.reduceLeDiff, Int.lt_irrefl]
    rfl
  | k + 1, i, h => by
    have hi : i < a.length := by omega
    have h4 : (i : Int) < (a.length : Int) := by omega
    have h0 : (0 : Int) ≤ (i : Int) := by omega
    have hw : IntKind.i64.wrap ((i : Int) + 1) = ((i + 1 : Nat) : Int) := by rw [w64 (by omega) (by omega)]; rfl
    have hg : a[i]? = some a[i] := List.getElem?_eq_getElem hi
    have hd : a.drop i = a[i] :: a.drop (i + 1) := List.drop_eq_getElem_cons hi
    generalize a[i] = T at hg hd
    have hg2 : b[i]? = some b[i] := List.getElem?_eq_getElem (by omega)
    have hd2 : b.drop i = b[i] :: b.drop (i + 1) := List.drop_eq_getElem_cons (by omega)
    generalize b[i] = U at hg2 hd2
    have hr := ints_at hg
    have hr2 := ints_at hg2
    have ih := l24 a b hab ha k (i + 1) (by omega)
    rw [hd, hd2]
    by_cases hE : T = U
    · subst hE
      have step : execX G0 L24_0 (ST [(0, .sl .no 1 (ints a)), (1, .sl .no 1 (ints b)), (10, .bool false), (12, .int .i64 a.length), (13, .int .i64 i)] [] []) = execX G0 L24_0 (ST [(0, .sl .no 1 (ints a)), (1, .sl .no 1 (ints b)), (10, .bool false), (12, .int .i64 a.length), (13, .int .i64 ((i + 1 : Nat) : Int))] [] []) := by
        conv => lhs; rw [Y_loop (L := L24_0) rfl]
        simp only [go_sem, op, mv, ↓reduceIte, Nat.reduceAdd, Nat.reduceEqDiff, Nat.reduceLT, Int.reduceNeg, Int.cast_ofNat_Int, Int.reduceLT, Int.reduceAdd, Int.reduceSub, Int.reduceLE, Int.reduceEq, Int.reduceToNat, Nat.reduceSub, Nat.reduceMul, Nat.reduceLeDiff, h4, h0, hr, hr2, hw]
      rw [step]
      refine ⟨fun q => ih.1 (by injection q), fun q => ih.2 (fun z => q (by rw [z]))⟩
    · refine ⟨fun q => absurd (by injection q) hE, fun _ => ?_⟩
      refine Exists.intro ?_ (And.intro ?_ ?_)
      rotate_left 1
      · rw [Y_loop (L := L24_0) rfl]
        simp only [go_sem, op, mv, ↓reduceIte, Nat.reduceAdd, Nat.reduceEqDiff, Nat.reduceLT, Int.reduceNeg, Int.cast_ofNat_Int, Int.reduceLT, Int.reduceAdd, Int.reduceSub, Int.reduceLE, Int.reduceEq, Int.reduceToNat, Nat.reduceSub, Nat.reduceMul, Nat.reduceLeDiff, h4, h0, hr, hr2, hw, hE]
        rfl
      · rfl
theorem c24 (a b : List Int) (ha : a.length ≤ 1000000) : G0 24 [.sl .no 1 (ints a), .sl .no 1 (ints b)] [] = some (.bool (decide (a = b)), []) := by
  refine contract F24 rfl rfl rfl ?_
  by_cases hab : a.length = b.length
  · have hab' : (a.length : Int) = (b.length : Int) := by omega
    obtain ⟨x1, x2⟩ := l24 a b hab ha a.length 0 (by omega)
    have ec : ((0 : Nat) : Int) = 0 := rfl
    rw [List.drop_zero, List.drop_zero, ec] at x1 x2
    rw [hab'] at x1 x2
    by_cases h : a = b
    · rw [decide_eq_true h]
      obtain ⟨l', y⟩ := x1 h
      simp only [F24, go_sem, op, mv, ↓reduceIte, Nat.reduceAdd, Nat.reduceEqDiff, Nat.reduceLT, Int.reduceNeg, Int.cast_ofNat_Int, Int.reduceLT, Int.reduceAdd, Int.reduceSub, Int.reduceLE, Int.reduceEq, Int.reduceToNat, Nat.reduceSub, Nat.reduceMul, Nat.reduceLeDiff, ints_length, hab', y, look_kill, look_setl, List.not_mem_nil, if_true, if_false]
    · rw [decide_eq_false h]
      obtain ⟨l', y1, y2⟩ := x2 h
      simp only [F24, go_sem, op, mv, ↓reduceIte, Nat.reduceAdd, Nat.reduceEqDiff, Nat.reduceLT, Int.reduceNeg, Int.cast_ofNat_Int, Int.reduceLT, Int.reduceAdd, Int.reduceSub, Int.reduceLE, Int.reduceEq, Int.reduceToNat, Nat.reduceSub, Nat.reduceMul, Nat.reduceLeDiff, ints_length, hab', y1, y2]
  · have hab' : ¬ (a.length : Int) = (b.length : Int) := by omega
    have h : ¬ a = b := fun q => hab (by rw [q])
    rw [decide_eq_false h]
    simp only [F24, go_sem, op, mv, ↓reduceIte, Nat.reduceAdd, Nat.reduceEqDiff, Nat.reduceLT, Int.reduceNeg, Int.cast_ofNat_Int, Int.reduceLT, Int.reduceAdd, Int.reduceSub, Int.reduceLE, Int.reduceEq, Int.reduceToNat, Nat.reduceSub, Nat.reduceMul, Nat.reduceLeDiff, ints_length, hab']
/-! first repetitions -/
abbrev Km := List (Bs × Int)
def kget : Km → Bs → Option Int
  | [], _ => none
  | (k, y) :: r, s => if s = k then some y else kget r s
def kmr (m : Km) : List (List AV) := m.map fun p => [.str p.1, .int .i64 p.2]
theorem lk_kmr (s : Bs) : ∀ m : Km, lkA [2] (.str s) (kmr m) = some ((kget m s).map (AV.int .i64))
  | [] => rfl
  | (k, y) :: r => by
    have ih := lk_kmr s r
    have e : kmr ((k, y) :: r) = [.str k, .int .i64 y] :: kmr r := rfl
    rw [e]
    simp only [lkA, keyEq, eqL, if_true, Option.map_some, Bool.and_true, kget]
    by_cases h : s = k
    · subst h; simp
    · have : (s == k) = false := by simpa using h
      simp only [this, h, if_false, ih]
theorem mu_kmr (s : Bs) (x : Int) : ∀ m : Km, kget m s = none → muA [2] (.str s) (.int .i64 x) (kmr m) = some (kmr (m ++ [(s, x)]))
  | [], _ => rfl
  | (k, y) :: r, h => by
    simp only [kget] at h
    split at h
    · cases h
    · rename_i hne
      have ih := mu_kmr s x r h
      have e : kmr ((k, y) :: r) = [.str k, .int .i64 y] :: kmr r := rfl
      rw [e]
      have : (s == k) = false := by simpa using hne
      simp only [muA, keyEq, eqL, if_true, Option.map_some, Bool.and_true, this, ih]
      rfl
def frs (L : List (List Tk)) : List (List AV) := L.map fun f => [.sl .no 3 (tks f)]
theorem frs_len (L : List (List Tk)) : (frs L).length = L.length := by simp [frs]
theorem frs_at {L : List (List Tk)} {i : Nat} {f : List Tk} (h : L[i]? = some f) : (frs L)[i]? = some [.sl .no 3 (tks f)] := by simp [frs, h]
def fst1 : Km → Nat → List (List Tk) → List Int
  | _, _, [] => []
  | m, i, f :: r => if vld f = 0 then (match kget m (keyF f) with
      | some k => k :: fst1 m (i + 1) r
      | none => (i : Int) :: fst1 (m ++ [(keyF f, (i : Int))]) (i + 1) r) else (i : Int) :: fst1 m (i + 1) r
def small (f : List Tk) : Prop := f.length ≤ 1000000 ∧ ∀ t ∈ f, t.2.1.length ≤ cap47
def firstF (L : List (List Tk)) : List Int := fst1 [] 0 L
end Go.Av
