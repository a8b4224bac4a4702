/- Renumbering in the program: numbers of tags, counting, other numbers. Renumbering: other numbers, the reference's functions, keys. -/
import Derived.Test.YthnablnojflbnaaDoorQC
import Derived.Test.YthnablnojflbnaaDoorN7
set_option linter.unusedSimpArgs false
set_option linter.unusedVariables false
namespace Go.Av
open Go.Nt
set_option linter.unusedSimpArgs false
set_option linter.unusedVariables false
set_option maxHeartbeats 16000000
set_option maxRecDepth 100000
def md (b : Bool) : Own := if b then .own else .full
def mdn (b : Bool) : Own := if b then .no else .full
theorem md_no (b : Bool) : md b ≠ .no := by cases b <;> decide
theorem demV_md (b : Bool) (z : Nat) (l : List (List AV)) : demV (.sl (md b) z l) = .sl (mdn b) z l := by cases b <;> rfl
theorem demV_mdn (b : Bool) (z : Nat) (l : List (List AV)) : demV (.sl (mdn b) z l) = .sl (mdn b) z l := by cases b <;> rfl
theorem app_i (b : Bool) (l : List Int) (i : Int) (h : l.length ≤ 1000000) : appA false 1 8 (.sl (md b) 1 (ints l)) (.sl .full 1 [[.int .i64 i]]) = some (.sl .own 1 (ints (l ++ [i]))) := by
  have ha : appOK 8 (l.length + 1) = true := appOK_le (by decide) (by omega)
  rw [appA_gen (md b) .full (md_no b) 1 8 (by decide), ints_length, List.length_singleton, if_pos ha]
  simp [ints]
theorem app_f (b1 : Bool) (fl : List Tk) (x : Tk) (h : fl.length ≤ 1000000) : appA false 3 32 (.sl (md b1) 3 (tks fl)) (.sl .full 3 [[.int .i64 x.1, .str x.2.1, .int .i64 x.2.2]]) = some (.sl .own 3 (tks (fl ++ [x]))) := by
  have ha : appOK 32 (fl.length + 1) = true := appOK_le (by decide) (by omega)
  rw [appA_gen (md b1) .full (md_no b1) 3 32 (by decide), tks_len, List.length_singleton, if_pos ha, ← tks_app]
  rfl
theorem mapOf1 (rows : List (List AV)) : mapOf [[.mapv rows]] 0 = some rows := rfl
def spm (l : List Int) : List (List AV) := l.map fun i => [.int .i64 i, .bool true]
theorem lk_spm (i : Int) : ∀ l : List Int, lkA [0] (.int .i64 i) (spm l) = some (if i ∈ l then some (.bool true) else none)
  | [] => rfl
  | k :: r => by
    have ih := lk_spm i r
    have e : spm (k :: r) = [.int .i64 k, .bool true] :: spm r := rfl
    rw [e]
    simp only [lkA, keyEq, eqL, if_true, Option.map_some, Bool.and_true]
    by_cases h : i = k
    · subst h; simp
    · have : (i == k) = false := by simpa using h
      simp only [this, ih, List.mem_cons, h, false_or]
theorem mu_spm (i : Int) : ∀ l : List Int, i ∉ l → muA [0] (.int .i64 i) (.bool true) (spm l) = some (spm (l ++ [i]))
  | [], _ => rfl
  | k :: r, h => by
    simp only [List.mem_cons, not_or] at h
    have ih := mu_spm i r h.2
    have e : spm (k :: r) = [.int .i64 k, .bool true] :: spm r := rfl
    rw [e]
    have : (i == k) = false := by simpa using h.1
    simp only [muA, keyEq, eqL, if_true, Option.map_some, Bool.and_true, this, ih]
    rfl
theorem lkRb1 (v : AV) : lkR false false [.bool false] (some v) = some v := rfl
theorem lkRb0 : lkR false false [.bool false] none = some (.bool false) := rfl
theorem addN_y {l : List Int} {x : Tk} (h1 : isTag x = true) (h2 : x.2.2 ∉ l) : addN l x = l ++ [x.2.2] := by unfold addN; rw [if_pos ⟨h1, h2⟩]
theorem addN_n {l : List Int} {x : Tk} (h : isTag x = false ∨ x.2.2 ∈ l) : addN l x = l := by
  unfold addN
  rw [if_neg]
  rintro ⟨a, b⟩
  rcases h with h | h
  · rw [h] at a; cases a
  · exact b h
theorem refs1 (rows : List (List AV)) : refsOk false 1 [[.mapv rows]] = true := rfl
theorem l71 (f : List Tk) (hf : f.length ≤ 100000) : ∀ (k i : Nat) (b : Bool) (l : List Int), i + k = f.length → l.length ≤ i →
    ∃ b', execX G0 L71_0 (ST [(3, .sl (md b) 1 (ints l)), (4, .mp 0), (8, .sl .no 3 (tks f)), (9, .int .i64 f.length), (10, .int .i64 i)] [] [[.mapv (spm l)]]) = some (.ex 0, ST [(3, .sl (md b') 1 (ints ((f.drop i).foldl addN l))), (4, .mp 0), (8, .sl .no 3 (tks f)), (9, .int .i64 f.length), (10, .int .i64 f.length), (11, .bool false)] [] [[.mapv (spm ((f.drop i).foldl addN l))]])
  | 0, i, b, l, h, hl => by
    have : i = f.length := by omega
    subst this
    refine ⟨b, ?_⟩
    rw [List.drop_length, List.foldl_nil]
    rw [Y_loop (L := L71_0) rfl]
    simp only [go_sem, op, mv, ↓reduceIte, Nat.reduceAdd, Nat.reduceEqDiff, Nat.reduceLT, Int.reduceNeg, Int.cast_ofNat_Int, Int.reduceLT, Int.reduceAdd, Int.reduceSub, Int.reduceLE, Int.reduceEq, Int.reduceToNat, Nat.reduceSub, Nat.reduceMul, Nat.reduceLeDiff, Int.lt_irrefl]
  | k + 1, i, b, l, h, hl => by
    have hi : i < f.length := by omega
    have h4 : (i : Int) < (f.length : Int) := by omega
    have h0 : (0 : Int) ≤ (i : Int) := by omega
    have hw : IntKind.i64.wrap ((i : Int) + 1) = ((i + 1 : Nat) : Int) := by rw [w64 (by omega) (by omega)]; rfl
    have hg : f[i]? = some f[i] := List.getElem?_eq_getElem hi
    have hd : f.drop i = f[i] :: f.drop (i + 1) := List.drop_eq_getElem_cons hi
    generalize f[i] = T at hg hd
    have hr := tks_at hg
    obtain ⟨kk, s, id⟩ := T
    simp only [] at hr
    have c69 := c69 kk s id
    have hlk := lk_spm id l
    have e1 : md true = .own := rfl
    rw [hd, List.foldl_cons]
    cases ht : isTag (kk, s, id) with
    | false =>
      rw [ht] at c69
      rw [addN_n (.inl ht)]
      obtain ⟨b', ih⟩ := l71 f hf k (i + 1) b l (by omega) (by omega)
      refine ⟨b', ?_⟩
      rw [Y_loop (L := L71_0) rfl]
      simp only [go_sem, op, mv, ↓reduceIte, Nat.reduceAdd, Nat.reduceEqDiff, Nat.reduceLT, Int.reduceNeg, Int.cast_ofNat_Int, Int.reduceLT, Int.reduceAdd, Int.reduceSub, Int.reduceLE, Int.reduceEq, Int.reduceToNat, Nat.reduceSub, Nat.reduceMul, Nat.reduceLeDiff, h4, h0, hr, hw, c69]
      exact ih
    | true =>
      rw [ht] at c69
      by_cases hm : id ∈ l
      · rw [if_pos hm] at hlk
        rw [addN_n (.inr hm)]
        obtain ⟨b', ih⟩ := l71 f hf k (i + 1) b l (by omega) (by omega)
        refine ⟨b', ?_⟩
        rw [Y_loop (L := L71_0) rfl]
        simp only [go_sem, op, mv, ↓reduceIte, Nat.reduceAdd, Nat.reduceEqDiff, Nat.reduceLT, Int.reduceNeg, Int.cast_ofNat_Int, Int.reduceLT, Int.reduceAdd, Int.reduceSub, Int.reduceLE, Int.reduceEq, Int.reduceToNat, Nat.reduceSub, Nat.reduceMul, Nat.reduceLeDiff, h4, h0, hr, hw, c69, mapOf1, hlk, lkRb1]
        exact ih
      · rw [if_neg hm] at hlk
        rw [addN_y ht hm]
        have hmu := mu_spm id l hm
        have ha := app_i b l id (by omega)
        obtain ⟨b', ih⟩ := l71 f hf k (i + 1) true (l ++ [id]) (by omega) (by simp; omega)
        refine ⟨b', ?_⟩
        rw [e1] at ih
        rw [Y_loop (L := L71_0) rfl]
        simp only [go_sem, op, mv, ↓reduceIte, Nat.reduceAdd, Nat.reduceEqDiff, Nat.reduceLT, Int.reduceNeg, Int.cast_ofNat_Int, Int.reduceLT, Int.reduceAdd, Int.reduceSub, Int.reduceLE, Int.reduceEq, Int.reduceToNat, Nat.reduceSub, Nat.reduceMul, Nat.reduceLeDiff, h4, h0, hr, hw, c69, mapOf1, hlk, lkRb0, hmu, ha, demV_md]
        exact ih
theorem c71 (f : List Tk) (hf : f.length ≤ 100000) : G0 71 [.sl .no 3 (tks f)] [] = some (.sl .no 1 (ints (nums f)), []) := by
  obtain ⟨b', x⟩ := l71 f hf f.length 0 false [] (by omega) (by simp)
  have ec : ((0 : Nat) : Int) = 0 := rfl
  have e2 : md false = .full := rfl
  have e3 : spm [] = [] := rfl
  rw [List.drop_zero, ec, e2, e3, ints_nil] at x
  have en : f.foldl addN [] = nums f := rfl
  rw [en] at x
  refine contract F71 rfl rfl rfl ?_
  have hsd : ∀ q, sameDead [] q = true := fun _ => rfl
  simp only [F71, go_sem, op, mv, ↓reduceIte, Nat.reduceAdd, Nat.reduceEqDiff, Nat.reduceLT, Int.reduceNeg, Int.cast_ofNat_Int, Int.reduceLT, Int.reduceAdd, Int.reduceSub, Int.reduceLE, Int.reduceEq, Int.reduceToNat, Nat.reduceSub, Nat.reduceMul, Nat.reduceLeDiff, tks_len, x, demV_md, demV_mdn, hsd]
/-! counting -/
def icl (l : List Int) : List AV := l.map (AV.int .i64)
theorem icl_len (l : List Int) : (icl l).length = l.length := by simp [icl]
theorem putL_app : ∀ (a : List AV) (x y : AV) (r : List AV), putL a.length [x] (a ++ y :: r) = some (a ++ x :: r)
  | [], x, y, r => by
    show putL 0 [x] (y :: r) = _
    simp only [putL_z, putL_nil, Option.map_some, List.nil_append]
  | c :: a, x, y, r => by
    have ih := putL_app a x y r
    simp only [List.length_cons, List.cons_append, putL_s, ih, Option.map_some]
theorem zeroRow_rep : ∀ n, zeroRow [AV.int .i64 0] n = List.replicate n (.int .i64 0)
  | 0 => rfl
  | n + 1 => by
    show [AV.int .i64 0] ++ zeroRow [AV.int .i64 0] n = _
    rw [zeroRow_rep n]; rfl
theorem rowsC_icl (l : List Int) : rowsC 0 l.length 1 (icl l) = some (ints l) := by
  have h1 : ∀ l : List Int, (icl l).all (fun x => flatB (demV x)) = true := by
    intro l
    induction l with
    | nil => rfl
    | cons c l ih =>
      show (flatB _ && (icl l).all _) = true
      rw [ih]; rfl
  have h2 : ∀ l : List Int, (icl l).map demV = icl l := by
    intro l
    induction l with
    | nil => rfl
    | cons c l ih =>
      show demV _ :: (icl l).map demV = _
      rw [ih]; rfl
  have h3 : ∀ l : List Int, rowsOf 1 l.length (icl l) = ints l := by
    intro l
    induction l with
    | nil => rfl
    | cons c l ih =>
      show (icl (c :: l)).take 1 :: rowsOf 1 l.length ((icl (c :: l)).drop 1) = _
      have e : (icl (c :: l)).drop 1 = icl l := rfl
      rw [e, ih]; rfl
  unfold rowsC
  have h4 : ((icl l).drop 0).take (l.length * 1) = icl l := by rw [List.drop_zero]; exact List.take_of_length_le (by rw [icl_len]; omega)
  rw [h4, h2, h3, if_pos ⟨by decide, by rw [icl_len]; omega, h1 l⟩]
def ccl (n i : Nat) : List AV := icl (upto i) ++ List.replicate (n - i) (.int .i64 0)
theorem ccl_put {n i : Nat} (h : i < n) : putL i [.int .i64 ((i : Int) + 1)] (ccl n i) = some (ccl n (i + 1)) := by
  have e : ccl n i = icl (upto i) ++ .int .i64 0 :: List.replicate (n - (i + 1)) (.int .i64 0) := by
    unfold ccl
    rw [show n - i = n - (i + 1) + 1 by omega, List.replicate_succ]
  have h1 := putL_app (icl (upto i)) (.int .i64 ((i : Int) + 1)) (.int .i64 0) (List.replicate (n - (i + 1)) (.int .i64 0))
  rw [icl_len, upto_len] at h1
  rw [e, h1]
  unfold ccl
  rw [upto_s]
  simp [icl]
theorem ccl_blk (n i : Nat) : blkB (ccl n i) = true := by
  have : ∀ l : List AV, (∀ x ∈ l, ∃ v, x = .int .i64 v) → blkB l = true := by
    intro l h
    cases l with
    | nil => rfl
    | cons c l =>
      obtain ⟨v, rfl⟩ := h c (by simp)
      rfl
  refine this _ fun x hx => ?_
  unfold ccl icl at hx
  rcases List.mem_append.1 hx with q | q
  · obtain ⟨v, _, rfl⟩ := List.mem_map.1 q; exact ⟨v, rfl⟩
  · exact ⟨0, (List.mem_replicate.1 q).2⟩
theorem l73 (n : Nat) (hn : n ≤ 1000000) : ∀ (k i : Nat), i + k = n →
    execX G0 L73_0 (ST [(3, .ss 0 0 n 1), (8, .int .i64 n), (9, .int .i64 i)] [] [ccl n i]) = some (.ex 0, ST [(3, .ss 0 0 n 1), (8, .int .i64 n), (9, .int .i64 n), (10, .bool false)] [] [ccl n n])
  | 0, i, h => by
    have : i = n := by omega
    subst this
    rw [Y_loop (L := L73_0) rfl]
    simp only [go_sem, op, mv, ↓reduceIte, Nat.reduceAdd, Nat.reduceEqDiff, Nat.reduceLT, Int.reduceNeg, Int.cast_ofNat_Int, Int.reduceLT, Int.reduceAdd, Int.reduceSub, Int.reduceLE, Int.reduceEq, Int.reduceToNat, Nat.reduceSub, Nat.reduceMul, Nat.reduceLeDiff, Int.lt_irrefl]
  | k + 1, i, h => by
    have h4 : (i : Int) < (n : Int) := by omega
    have h0 : (0 : Int) ≤ (i : Int) := by omega
    have hw : IntKind.i64.wrap ((i : Int) + 1) = (i : Int) + 1 := w64 (by omega) (by omega)
    have hp := ccl_put (n := n) (i := i) (by omega)
    have hb := ccl_blk n i
    have ih := l73 n hn k (i + 1) (by omega)
    have ec : ((i + 1 : Nat) : Int) = (i : Int) + 1 := rfl
    rw [ec] at ih
    rw [Y_loop (L := L73_0) rfl]
    simp only [go_sem, op, mv, ↓reduceIte, Nat.reduceAdd, Nat.reduceEqDiff, Nat.reduceLT, Int.reduceNeg, Int.cast_ofNat_Int, Int.reduceLT, Int.reduceAdd, Int.reduceSub, Int.reduceLE, Int.reduceEq, Int.reduceToNat, Nat.reduceSub, Nat.reduceMul, Nat.reduceLeDiff, h4, h0, hw, hb, Nat.mul_one, hp]
    exact ih
theorem c73 (n : Nat) (hn : n ≤ 1000000) : G0 73 [.int .i64 n] [] = some (.sl .no 1 (ints (upto n)), []) := by
  have x := l73 n hn n 0 (by omega)
  have ec : ((0 : Nat) : Int) = 0 := rfl
  have e0 : ccl n 0 = List.replicate n (.int .i64 0) := by unfold ccl upto icl; simp
  have e1 : ccl n n = icl (upto n) := by unfold ccl; simp
  rw [ec, e0, e1] at x
  have hr := rowsC_icl (upto n)
  rw [upto_len] at hr
  have h0 : (0 : Int) ≤ (n : Int) := by omega
  have hb : (n : Int) * 8 ≤ 140737488355328 := by omega
  have hc : (n : Int) ≤ 4611686018427387904 := by omega
  refine contract F73 rfl rfl rfl ?_
  have hsd : ∀ q, sameDead [] q = true := fun _ => rfl
  simp only [F73, go_sem, op, mv, ↓reduceIte, Nat.reduceAdd, Nat.reduceEqDiff, Nat.reduceLT, Int.reduceNeg, Int.cast_ofNat_Int, Int.reduceLT, Int.reduceAdd, Int.reduceSub, Int.reduceLE, Int.reduceEq, Int.reduceToNat, Nat.reduceSub, Nat.reduceMul, Nat.reduceLeDiff, h0, hb, hc, Int.le_refl, zeroRow_rep, x, hr, hsd]
/-! joining the texts of a right fragment -/
theorem bz : bytesRows [] = [] := rfl
theorem app_t0 (r : Bs) (h : r.length ≤ 1000000) : appA true 1 1 (.sl .full 1 []) (.str r) = some (.sl .own 1 (bytesRows r)) := by
  unfold appA
  have e : rowsA true 1 (.str r) = some (bytesRows r) := rfl
  simp only [e, Option.bind_some]
  rw [if_pos]
  · simp
  · refine ⟨.inl trivial, by decide, by decide, ?_, ?_⟩
    · rw [bytesRows_len]; simp; omega
    · rw [bytesRows_len]; simp; omega
theorem pos_len' {tx : Bs} (h : tx ≠ []) : (0 : Int) < (tx.length : Int) := by
  cases tx with
  | nil => exact absurd rfl h
  | cons c r => simp only [List.length_cons]; omega
theorem l99a (g : List Tk) (hl : g.length ≤ 1000000) (b : Bool) (o : List Tk) (i : Nat) (s : Bs) (id : Int) (hg : g[i]? = some (1, s, id)) (hs : s.length ≤ 1000000) (hn : ∀ y, g[i + 1]? = some y → y.1 ≠ 1) :
    execX G0 L99_0 (ST [(0, .sl .no 3 (tks g)), (3, .sl (md b) 3 (tks o)), (4, .int .i64 i), (5, .sl .full 1 []), (9, .bool true), (15, .bool false)] [] []) = some (.ex 2, ST [(0, .sl .no 3 (tks g)), (3, .sl (md b) 3 (tks o)), (4, .int .i64 ((i + 1 : Nat) : Int)), (5, .sl .own 1 (bytesRows s)), (9, .bool true), (15, .bool false), (36, .bool false)] [] []) := by
  have hi : i < g.length := by
    by_cases q : i < g.length
    · exact q
    · rw [List.getElem?_eq_none (by omega)] at hg; cases hg
  have h4 : (i : Int) < (g.length : Int) := by omega
  have h0 : (0 : Int) ≤ (i : Int) := by omega
  have hw : IntKind.i64.wrap ((i : Int) + 1) = ((i + 1 : Nat) : Int) := by rw [w64 (by omega) (by omega)]; rfl
  have hr := tks_at hg
  simp only [] at hr
  have ha := app_t0 s hs
  have h1 : execX G0 L99_0 (ST [(0, .sl .no 3 (tks g)), (3, .sl (md b) 3 (tks o)), (4, .int .i64 i), (5, .sl .full 1 []), (9, .bool true), (15, .bool false)] [] []) = execX G0 L99_0 (ST [(0, .sl .no 3 (tks g)), (3, .sl (md b) 3 (tks o)), (4, .int .i64 ((i + 1 : Nat) : Int)), (5, .sl .own 1 (bytesRows s)), (9, .bool true), (15, .bool false)] [] []) := by
    conv => lhs; rw [Y_loop (L := L99_0) rfl]
    simp only [go_sem, op, mv, ↓reduceIte, Nat.reduceAdd, Nat.reduceEqDiff, Nat.reduceLT, Int.reduceNeg, Int.cast_ofNat_Int, Int.reduceLT, Int.reduceAdd, Int.reduceSub, Int.reduceLE, Int.reduceEq, Int.reduceToNat, Nat.reduceSub, Nat.reduceMul, Nat.reduceLeDiff, tks_len, h4, h0, hr, hw, ha]
  rw [h1]
  by_cases q : i + 1 < g.length
  · have hg2 : g[i + 1]? = some g[i + 1] := List.getElem?_eq_getElem q
    have hne := hn _ hg2
    generalize g[i + 1] = Y at hg2 hne
    have hr2 := tks_at hg2
    have h4' : ((i + 1 : Nat) : Int) < (g.length : Int) := by omega
    have h0' : (0 : Int) ≤ ((i + 1 : Nat) : Int) := by omega
    rw [Y_loop (L := L99_0) rfl]
    simp only [go_sem, op, mv, ↓reduceIte, Nat.reduceAdd, Nat.reduceEqDiff, Nat.reduceLT, Int.reduceNeg, Int.cast_ofNat_Int, Int.reduceLT, Int.reduceAdd, Int.reduceSub, Int.reduceLE, Int.reduceEq, Int.reduceToNat, Nat.reduceSub, Nat.reduceMul, Nat.reduceLeDiff, tks_len, h4', h0', Int.toNat_natCast, hr2, hne]
  · have h4' : ¬ ((i + 1 : Nat) : Int) < (g.length : Int) := by omega
    rw [Y_loop (L := L99_0) rfl]
    simp only [go_sem, op, mv, ↓reduceIte, Nat.reduceAdd, Nat.reduceEqDiff, Nat.reduceLT, Int.reduceNeg, Int.cast_ofNat_Int, Int.reduceLT, Int.reduceAdd, Int.reduceSub, Int.reduceLE, Int.reduceEq, Int.reduceToNat, Nat.reduceSub, Nat.reduceMul, Nat.reduceLeDiff, tks_len, h4']
theorem l99 (g : List Tk) (hl : g.length ≤ 100000) (hv : VL g) (hb : ∀ t ∈ g, t.2.1.length ≤ 1000000) : ∀ (k i : Nat) (b : Bool), i + k = g.length →
    ∃ b', execX G0 L99_1 (ST [(0, .sl .no 3 (tks g)), (3, .sl (md b) 3 (tks (g.take i))), (4, .int .i64 i)] [] []) = some (.ex 0, ST [(0, .sl .no 3 (tks g)), (3, .sl (md b') 3 (tks g)), (4, .int .i64 g.length), (9, .bool false)] [] [])
  | 0, i, b, h => by
    have : i = g.length := by omega
    subst this
    refine ⟨b, ?_⟩
    rw [List.take_length]
    rw [Y_loop (L := L99_1) rfl]
    simp only [go_sem, op, mv, ↓reduceIte, Nat.reduceAdd, Nat.reduceEqDiff, Nat.reduceLT, Int.reduceNeg, Int.cast_ofNat_Int, Int.reduceLT, Int.reduceAdd, Int.reduceSub, Int.reduceLE, Int.reduceEq, Int.reduceToNat, Nat.reduceSub, Nat.reduceMul, Nat.reduceLeDiff, tks_len, Int.lt_irrefl]
  | k + 1, i, b, h => by
    have hi : i < g.length := by omega
    have h4 : (i : Int) < (g.length : Int) := by omega
    have h0 : (0 : Int) ≤ (i : Int) := by omega
    have hw : IntKind.i64.wrap ((i : Int) + 1) = ((i + 1 : Nat) : Int) := by rw [w64 (by omega) (by omega)]; rfl
    have hg : g[i]? = some g[i] := List.getElem?_eq_getElem hi
    have hm := hb _ (List.getElem_mem hi)
    generalize g[i] = T at hg hm
    have hr := tks_at hg
    have hts := take_step hg
    have hc := VL_at hv hg
    obtain ⟨kk, s, id⟩ := T
    simp only [] at hr hm
    have e1 : md true = .own := rfl
    have htl : (g.take i).length ≤ 1000000 := by rw [List.length_take]; omega
    obtain ⟨b', ih⟩ := l99 g hl hv hb k (i + 1) true (by omega)
    refine ⟨b', ?_⟩
    rw [hts, e1] at ih
    by_cases hk : kk = 1
    · subst hk
      obtain ⟨q1, q2, q3⟩ := (chk_text (x := (1, s, id)) rfl).1 hc
      simp only [] at q1 q2
      subst q2
      have hn : ∀ y, g[i + 1]? = some y → y.1 ≠ 1 := by
        intro y hy he
        have hc2 := VL_at hv hy
        have := ((chk_text he).1 hc2).2.2
        rw [hts, lastK_snoc] at this
        exact this rfl
      have h99 := l99a g (by omega) b (g.take i) i s 0 hg hm hn
      have ha := app_f b (g.take i) (1, s, 0) htl
      simp only [] at ha
      have hp := pos_len' q1
      have hbb := bytesOf_bcl s
      rw [Y_loop (L := L99_1) rfl]
      simp only [go_sem, op, mv, ↓reduceIte, Nat.reduceAdd, Nat.reduceEqDiff, Nat.reduceLT, Int.reduceNeg, Int.cast_ofNat_Int, Int.reduceLT, Int.reduceAdd, Int.reduceSub, Int.reduceLE, Int.reduceEq, Int.reduceToNat, Nat.reduceSub, Nat.reduceMul, Nat.reduceLeDiff, tks_len, h4, h0, hr, h99, bytesRows_len, hp, hbb, ha, demV_md]
      exact ih
    · have ha := app_f b (g.take i) (kk, s, id) htl
      simp only [] at ha
      rw [Y_loop (L := L99_1) rfl]
      simp only [go_sem, op, mv, ↓reduceIte, Nat.reduceAdd, Nat.reduceEqDiff, Nat.reduceLT, Int.reduceNeg, Int.cast_ofNat_Int, Int.reduceLT, Int.reduceAdd, Int.reduceSub, Int.reduceLE, Int.reduceEq, Int.reduceToNat, Nat.reduceSub, Nat.reduceMul, Nat.reduceLeDiff, tks_len, h4, h0, hr, hw, hk, ha, demV_md]
      exact ih
theorem c99 (g : List Tk) (hl : g.length ≤ 100000) (hv : VL g) (hb : ∀ t ∈ g, t.2.1.length ≤ 1000000) : G0 99 [.sl .no 3 (tks g)] [] = some (.sl .no 3 (tks g), []) := by
  obtain ⟨b', x⟩ := l99 g hl hv hb g.length 0 false (by omega)
  have ec : ((0 : Nat) : Int) = 0 := rfl
  have e2 : md false = .full := rfl
  rw [List.take_zero, tks_nil, ec, e2] at x
  refine contract F99 rfl rfl rfl ?_
  simp only [F99, go_sem, op, mv, ↓reduceIte, Nat.reduceAdd, Nat.reduceEqDiff, Nat.reduceLT, Int.reduceNeg, Int.cast_ofNat_Int, Int.reduceLT, Int.reduceAdd, Int.reduceSub, Int.reduceLE, Int.reduceEq, Int.reduceToNat, Nat.reduceSub, Nat.reduceMul, Nat.reduceLeDiff, x, demV_md, demV_mdn]
end Go.Av
namespace Go.Av
open Go.Nt
set_option linter.unusedSimpArgs false
set_option linter.unusedVariables false
set_option maxHeartbeats 16000000
set_option maxRecDepth 100000
/-! maps of integers -/
abbrev Im := List (Int × Int)
def mgI : Im → Int → Option Int
  | [], _ => none
  | (k, y) :: r, i => if i = k then some y else mgI r i
def msI : Im → Int → Int → Im
  | [], i, x => [(i, x)]
  | (k, y) :: r, i, x => if i = k then (i, x) :: r else (k, y) :: msI r i x
theorem mg_ms : ∀ (m : Im) (i x j : Int), mgI (msI m i x) j = if j = i then some x else mgI m j
  | [], i, x, j => by simp [msI, mgI]
  | (k, y) :: r, i, x, j => by
    have ih := mg_ms r i x j
    by_cases h : i = k
    · subst h
      simp only [msI, if_true, mgI]
      by_cases h2 : j = i <;> simp [h2]
    · simp only [msI, if_neg h, mgI]
      by_cases h2 : j = k
      · subst h2; simp [Ne.symm h]
      · simp only [h2, if_false, ih]
def imr (m : Im) : List (List AV) := m.map fun p => [.int .i64 p.1, .int .i64 p.2]
theorem lk_imr (i : Int) : ∀ m : Im, lkA [0] (.int .i64 i) (imr m) = some ((mgI m i).map (AV.int .i64))
  | [] => rfl
  | (k, y) :: r => by
    have ih := lk_imr i r
    have e : imr ((k, y) :: r) = [.int .i64 k, .int .i64 y] :: imr r := rfl
    rw [e]
    simp only [lkA, keyEq, eqL, if_true, Option.map_some, Bool.and_true, mgI]
    by_cases h : i = k
    · subst h; simp
    · have : (i == k) = false := by simpa using h
      simp only [this, h, if_false, ih]
theorem mu_imr (i x : Int) : ∀ m : Im, muA [0] (.int .i64 i) (.int .i64 x) (imr m) = some (imr (msI m i x))
  | [] => rfl
  | (k, y) :: r => by
    have ih := mu_imr i x r
    have e : imr ((k, y) :: r) = [.int .i64 k, .int .i64 y] :: imr r := rfl
    rw [e]
    simp only [muA, keyEq, eqL, if_true, Option.map_some, Bool.and_true, msI]
    by_cases h : i = k
    · subst h; simp [imr]
    · have : (i == k) = false := by simpa using h
      simp only [this, h, if_false, ih, Option.map_some]
      rfl
theorem lkRi1 (v : AV) : lkR true false [.int .i64 0] (some v) = some (.tup [v, .bool true]) := rfl
theorem lkRi0 : lkR true false [.int .i64 0] none = some (.tup [.int .i64 0, .bool false]) := rfl
theorem lkz_step {fr to : List Int} {k : Nat} {a b : Int} (h1 : fr[k]? = some a) (h2 : to[k]? = some b) (i : Int) : lkz (fr.drop k) (to.drop k) i = if a = i then some b else lkz (fr.drop (k + 1)) (to.drop (k + 1)) i := by
  have e1 : k < fr.length := by
    by_cases q : k < fr.length
    · exact q
    · rw [List.getElem?_eq_none (by omega)] at h1; cases h1
  have e2 : k < to.length := by
    by_cases q : k < to.length
    · exact q
    · rw [List.getElem?_eq_none (by omega)] at h2; cases h2
  rw [List.getElem?_eq_getElem e1] at h1
  rw [List.getElem?_eq_getElem e2] at h2
  simp only [Option.some.injEq] at h1 h2
  rw [List.drop_eq_getElem_cons e1, List.drop_eq_getElem_cons e2, h1, h2]
  rfl
theorem lkz_none {fr to : List Int} {k : Nat} (h : fr.length ≤ k ∨ to.length ≤ k) (i : Int) : lkz (fr.drop k) (to.drop k) i = none := by
  rcases h with h | h
  · rw [List.drop_of_length_le h]; rfl
  · rw [List.drop_of_length_le h]
    cases fr.drop k <;> rfl
theorem l72 (a0 : AV) (ha0 : ∀ k, scrubV k a0 = a0) (fr to : List Int) (h1 : fr.length = to.length) (hl : fr.length ≤ 1000000) : ∀ (k : Nat) (m : Im), k ≤ fr.length → (∀ i, mgI m i = lkz (fr.drop k) (to.drop k) i) →
    ∃ m', (∀ i, mgI m' i = lkz fr to i) ∧ execX G0 L72_0 (ST [(0, a0), (1, .sl .no 1 (ints fr)), (2, .sl .no 1 (ints to)), (7, .mp 0), (8, .int .i64 ((k : Int) - 1))] [] [[.mapv (imr m)]]) = some (.ex 0, ST [(0, a0), (1, .sl .no 1 (ints fr)), (2, .sl .no 1 (ints to)), (7, .mp 0), (8, .int .i64 (-1)), (22, .bool false)] [] [[.mapv (imr m')]])
  | 0, m, hk, hm => by
    refine ⟨m, by simpa using hm, ?_⟩
    have e : ((0 : Nat) : Int) - 1 = -1 := rfl
    rw [e, Y_loop (L := L72_0) rfl]
    simp only [go_sem, op, mv, ↓reduceIte, Nat.reduceAdd, Nat.reduceEqDiff, Nat.reduceLT, Int.reduceNeg, Int.cast_ofNat_Int, Int.reduceLT, Int.reduceAdd, Int.reduceSub, Int.reduceLE, Int.reduceEq, Int.reduceToNat, Nat.reduceSub, Nat.reduceMul, Nat.reduceLeDiff, ha0]
  | k + 1, m, hk, hm => by
    have e : ((k + 1 : Nat) : Int) - 1 = (k : Int) := by omega
    have h0 : (0 : Int) ≤ (k : Int) := by omega
    have hw : IntKind.i64.wrap ((k : Int) - 1) = (k : Int) - 1 := w64 (by omega) (by omega)
    have g1 : fr[k]? = some fr[k] := List.getElem?_eq_getElem (by omega)
    have g2 : to[k]? = some to[k] := List.getElem?_eq_getElem (by omega)
    generalize fr[k] = a at g1
    generalize to[k] = b at g2
    have r1 := ints_at g1
    have r2 := ints_at g2
    have hmu := mu_imr a b m
    obtain ⟨m', q1, q2⟩ := l72 a0 ha0 fr to h1 hl k (msI m a b) (by omega) (fun i => by
      rw [mg_ms, lkz_step g1 g2, hm]
      by_cases q : i = a
      · subst q; simp
      · rw [if_neg q, if_neg (Ne.symm q)])
    refine ⟨m', q1, ?_⟩
    rw [e, Y_loop (L := L72_0) rfl]
    simp only [go_sem, op, mv, ↓reduceIte, Nat.reduceAdd, Nat.reduceEqDiff, Nat.reduceLT, Int.reduceNeg, Int.cast_ofNat_Int, Int.reduceLT, Int.reduceAdd, Int.reduceSub, Int.reduceLE, Int.reduceEq, Int.reduceToNat, Nat.reduceSub, Nat.reduceMul, Nat.reduceLeDiff, ha0, h0, r1, r2, mapOf1, hmu, hw]
    exact q2
theorem renX_no {fr to : List Int} {k : Int} {s : Bs} {i : Int} (h : isTag (k, s, i) = false) : renX fr to (k, s, i) = some (k, s, i) := by unfold renX; rw [h]; rfl
theorem renX_y {fr to : List Int} {k : Int} {s : Bs} {i v : Int} (h : isTag (k, s, i) = true) (h2 : lkz fr to i = some v) : renX fr to (k, s, i) = some (k, s, v) := by unfold renX; rw [if_pos h, h2]; rfl
theorem renX_n {fr to : List Int} {k : Int} {s : Bs} {i : Int} (h : isTag (k, s, i) = true) (h2 : lkz fr to i = none) : renX fr to (k, s, i) = none := by unfold renX; rw [if_pos h, h2]; rfl
theorem ren_cons (fr to : List Int) (x : Tk) (f : List Tk) : renF fr to (x :: f) = (match renX fr to x with | some y => [y] | none => []) ++ renF fr to f := by
  unfold renF
  rw [List.filterMap_cons]
  cases renX fr to x <;> rfl
theorem l72b (f : List Tk) (hf : f.length ≤ 100000) (a1 a2 : AV) (s1 : ∀ k, scrubV k a1 = a1) (s2 : ∀ k, scrubV k a2 = a2) (fr to : List Int) (m : Im) (hm : ∀ i, mgI m i = lkz fr to i) : ∀ (k i : Nat) (b : Bool) (o : List Tk), i + k = f.length → o.length ≤ i →
    ∃ b', execX G0 L72_1 (ST [(1, a1), (2, a2), (7, .mp 0), (8, .int .i64 (-1)), (9, .sl (md b) 3 (tks o)), (22, .bool false), (34, .sl .no 3 (tks f)), (35, .int .i64 f.length), (36, .int .i64 i)] [] [[.mapv (imr m)]]) = some (.ex 2, ST [(1, a1), (2, a2), (7, .mp 0), (8, .int .i64 (-1)), (9, .sl (md b') 3 (tks (o ++ renF fr to (f.drop i)))), (22, .bool false), (34, .sl .no 3 (tks f)), (35, .int .i64 f.length), (36, .int .i64 f.length), (37, .bool false)] [] [[.mapv (imr m)]])
  | 0, i, b, o, h, ho => by
    have : i = f.length := by omega
    subst this
    refine ⟨b, ?_⟩
    have e : renF fr to (f.drop f.length) = [] := by rw [List.drop_length]; rfl
    rw [e, List.append_nil]
    rw [Y_loop (L := L72_1) rfl]
    simp only [go_sem, op, mv, ↓reduceIte, Nat.reduceAdd, Nat.reduceEqDiff, Nat.reduceLT, Int.reduceNeg, Int.cast_ofNat_Int, Int.reduceLT, Int.reduceAdd, Int.reduceSub, Int.reduceLE, Int.reduceEq, Int.reduceToNat, Nat.reduceSub, Nat.reduceMul, Nat.reduceLeDiff, s1, s2, Int.lt_irrefl]
  | k + 1, i, b, o, h, ho => by
    have hi : i < f.length := by omega
    have h4 : (i : Int) < (f.length : Int) := by omega
    have h0 : (0 : Int) ≤ (i : Int) := by omega
    have hw : IntKind.i64.wrap ((i : Int) + 1) = ((i + 1 : Nat) : Int) := by rw [w64 (by omega) (by omega)]; rfl
    have hg : f[i]? = some f[i] := List.getElem?_eq_getElem hi
    have hd : f.drop i = f[i] :: f.drop (i + 1) := List.drop_eq_getElem_cons hi
    generalize f[i] = T at hg hd
    have hr := tks_at hg
    obtain ⟨kk, s, id⟩ := T
    simp only [] at hr
    have c69 := c69 kk s id
    have hlk := lk_imr id m
    rw [hm] at hlk
    have e1 : md true = .own := rfl
    rw [hd, ren_cons]
    cases ht : isTag (kk, s, id) with
    | false =>
      rw [ht] at c69
      rw [renX_no ht]
      have ha := app_f b o (kk, s, id) (by omega)
      simp only [] at ha
      obtain ⟨b', ih⟩ := l72b f hf a1 a2 s1 s2 fr to m hm k (i + 1) true (o ++ [(kk, s, id)]) (by omega) (by simp; omega)
      refine ⟨b', ?_⟩
      rw [e1] at ih
      rw [Y_loop (L := L72_1) rfl]
      simp only [go_sem, op, mv, ↓reduceIte, Nat.reduceAdd, Nat.reduceEqDiff, Nat.reduceLT, Int.reduceNeg, Int.cast_ofNat_Int, Int.reduceLT, Int.reduceAdd, Int.reduceSub, Int.reduceLE, Int.reduceEq, Int.reduceToNat, Nat.reduceSub, Nat.reduceMul, Nat.reduceLeDiff, s1, s2, h4, h0, hr, hw, c69, ha, demV_md]
      rw [List.append_assoc] at ih
      exact ih
    | true =>
      rw [ht] at c69
      cases hz : lkz fr to id with
      | none =>
        rw [hz] at hlk
        simp only [Option.map_none] at hlk
        rw [renX_n ht hz]
        obtain ⟨b', ih⟩ := l72b f hf a1 a2 s1 s2 fr to m hm k (i + 1) b o (by omega) (by omega)
        refine ⟨b', ?_⟩
        rw [Y_loop (L := L72_1) rfl]
        simp only [go_sem, op, mv, ↓reduceIte, Nat.reduceAdd, Nat.reduceEqDiff, Nat.reduceLT, Int.reduceNeg, Int.cast_ofNat_Int, Int.reduceLT, Int.reduceAdd, Int.reduceSub, Int.reduceLE, Int.reduceEq, Int.reduceToNat, Nat.reduceSub, Nat.reduceMul, Nat.reduceLeDiff, s1, s2, h4, h0, hr, hw, c69, mapOf1, hlk, lkRi0, List.nil_append]
        exact ih
      | some v =>
        rw [hz] at hlk
        simp only [Option.map_some] at hlk
        rw [renX_y ht hz]
        have ha := app_f b o (kk, s, v) (by omega)
        simp only [] at ha
        obtain ⟨b', ih⟩ := l72b f hf a1 a2 s1 s2 fr to m hm k (i + 1) true (o ++ [(kk, s, v)]) (by omega) (by simp; omega)
        refine ⟨b', ?_⟩
        rw [e1] at ih
        rw [Y_loop (L := L72_1) rfl]
        simp only [go_sem, op, mv, ↓reduceIte, Nat.reduceAdd, Nat.reduceEqDiff, Nat.reduceLT, Int.reduceNeg, Int.cast_ofNat_Int, Int.reduceLT, Int.reduceAdd, Int.reduceSub, Int.reduceLE, Int.reduceEq, Int.reduceToNat, Nat.reduceSub, Nat.reduceMul, Nat.reduceLeDiff, s1, s2, h4, h0, hr, hw, c69, mapOf1, hlk, lkRi1, ha, demV_md]
        rw [List.append_assoc] at ih
        exact ih
theorem c72 (f : List Tk) (hf : f.length ≤ 100000) (fr to : List Int) (h1 : fr.length = to.length) (hl : fr.length ≤ 1000000) (hv : VL (renF fr to f)) (hr : (renF fr to f).length ≤ 100000) (hb : ∀ t ∈ renF fr to f, t.2.1.length ≤ 1000000) : G0 72 [.sl .no 3 (tks f), .sl .no 1 (ints fr), .sl .no 1 (ints to)] [] = some (.sl .no 3 (tks (renF fr to f)), []) := by
  obtain ⟨m', q1, q2⟩ := l72 (.sl .no 3 (tks f)) (fun _ => rfl) fr to h1 hl fr.length [] (Nat.le_refl _) (fun i => by rw [lkz_none (.inl (Nat.le_refl _))]; rfl)
  obtain ⟨b', q3⟩ := l72b f hf (.sl .no 1 (ints fr)) (.sl .no 1 (ints to)) (fun _ => rfl) (fun _ => rfl) fr to m' q1 f.length 0 false [] (by omega) (by simp)
  have ec : ((0 : Nat) : Int) = 0 := rfl
  have e2 : md false = .full := rfl
  have e3 : imr [] = [] := rfl
  rw [List.drop_zero, ec, e2, tks_nil, List.nil_append] at q3
  rw [e3] at q2
  have h99 := c99 (renF fr to f) hr hv hb
  have hl1 : (ints fr).length = (ints to).length := by rw [ints_length, ints_length, h1]
  have hmin : min (fr.length : Int) (fr.length : Int) = (fr.length : Int) := by omega
  have hw : IntKind.i64.wrap ((fr.length : Int) - 1) = (fr.length : Int) - 1 := w64 (by omega) (by omega)
  have hsd : ∀ q, sameDead [] q = true := fun _ => rfl
  refine contract F72 rfl rfl rfl ?_
  simp only [F72, go_sem, op, mv, ↓reduceIte, Nat.reduceAdd, Nat.reduceEqDiff, Nat.reduceLT, Int.reduceNeg, Int.cast_ofNat_Int, Int.reduceLT, Int.reduceAdd, Int.reduceSub, Int.reduceLE, Int.reduceEq, Int.reduceToNat, Nat.reduceSub, Nat.reduceMul, Nat.reduceLeDiff, ← hl1, ints_length, hmin, hw, q2, tks_len, q3, demV_md, demV_mdn, h99, hsd]
theorem tot_le' {f : List Tk} : ∀ t ∈ f, t.2.1.length ≤ tot f := by
  induction f with
  | nil => intro t ht; cases ht
  | cons a f ih =>
    intro t ht
    rw [tot_cons]
    rcases List.mem_cons.1 ht with rfl | h
    · omega
    · have := ih t h; omega
theorem ren_tot (fr to : List Int) : ∀ f : List Tk, (renF fr to f).length ≤ f.length ∧ tot (renF fr to f) ≤ tot f
  | [] => by simp [renF]
  | x :: f => by
    have ih := ren_tot fr to f
    rw [ren_cons, tot_app, tot_cons, List.length_append, List.length_cons]
    have : ∀ y, renX fr to x = some y → y.2.1 = x.2.1 := by
      intro y hy
      unfold renX at hy
      split at hy
      · obtain ⟨v, _, rfl⟩ := Option.map_eq_some_iff.1 hy; rfl
      · cases hy; rfl
    cases hx : renX fr to x with
    | none => simp only [List.length_nil, tot_nil]; omega
    | some y =>
      have := this y hx
      simp only [List.length_singleton, tot_cons, tot_nil, this]; omega
theorem vld_tot {f : List Tk} (h : vld f = 0) : tot f ≤ 40000 ∧ f.length ≤ 512 := by
  obtain ⟨h1, h2, h3⟩ := (vld_iff f).1 h
  have key : ∀ (n : Nat) (f : List Tk), f.length = n → VL f → tot f ≤ len f + 64 * f.length := by
    intro n
    induction n with
    | zero => intro f hf _; rw [List.eq_nil_of_length_eq_zero hf]; simp [tot]
    | succ n ih =>
      intro f hf hv
      rcases snoc_cases f with rfl | ⟨g, y, rfl⟩
      · simp [tot]
      · obtain ⟨a, b⟩ := (chks_snoc g y).1 hv
        have h1 := ih g (by simp at hf; exact hf) a
        have h2 : y.2.1.length ≤ wid y + 64 := by
          obtain ⟨k, s, i⟩ := y
          rcases chk_kind b with ⟨rfl, _⟩ | ⟨h64, _⟩
          · have : wid (1, s, i) = s.length := rfl
            simp only []; omega
          · simp only []; omega
        rw [tot_app, tot_cons, tot_nil, len_app, len_one, List.length_append, List.length_singleton]
        omega
  have := key _ f rfl h1
  omega
theorem c47 (f : List Tk) (h : vld f = 0) : G0 47 [.sl .no 3 (tks f)] [] = some (.sl .no 3 (tks (rnm f)), []) := by
  obtain ⟨h1, h2⟩ := vld_tot h
  have hn := nums_len f
  have h71 := c71 f (by omega)
  have h73 := c73 (nums f).length (by omega)
  obtain ⟨t1, t2⟩ := ren_tot (nums f) (upto (nums f).length) f
  have h72 := c72 f (by omega) (nums f) (upto (nums f).length) (by rw [upto_len]) (by omega) ((vld_iff _).1 (rnm_vld h)).1 (by omega) (fun t ht => by have := tot_le' t ht; omega)
  have er : renF (nums f) (upto (nums f).length) f = rnm f := rfl
  rw [er] at h72
  refine contract F47 rfl rfl rfl ?_
  simp only [F47, go_sem, op, mv, ↓reduceIte, Nat.reduceAdd, Nat.reduceEqDiff, Nat.reduceLT, Int.reduceNeg, Int.cast_ofNat_Int, Int.reduceLT, Int.reduceAdd, Int.reduceSub, Int.reduceLE, Int.reduceEq, Int.reduceToNat, Nat.reduceSub, Nat.reduceMul, Nat.reduceLeDiff, h71, ints_length, h73, h72]
/-! the reference -/
theorem l66 (l : List Int) (hl : l.length ≤ 1000000) (x : Int) : ∀ (k i : Nat), i + k = l.length →
    (x ∉ l.drop i → ∃ l', execX G0 L66_0 (ST [(0, .sl .no 1 (ints l)), (1, .int .i64 x), (7, .int .i64 l.length), (8, .int .i64 i)] [] []) = some (.ex 0, ST l' [] [])) ∧
    (x ∈ l.drop i → ∃ l', execX G0 L66_0 (ST [(0, .sl .no 1 (ints l)), (1, .int .i64 x), (7, .int .i64 l.length), (8, .int .i64 i)] [] []) = some (.ret, ST l' [] []) ∧ look .any l' 4 = .bool true)
  | 0, i, h => by
    have : i = l.length := by omega
    subst this
    refine ⟨fun _ => ?_, fun h => (by simp at h)⟩
    refine Exists.intro ?_ ?_
    rotate_left 1
    rw [Y_loop (L := L66_0) rfl]
    simp only [go_sem, op, mv, ↓reduceIte, Nat.reduceAdd, Nat.reduceEqDiff, Nat.reduceLT, Int.reduceNeg, Int.cast_ofNat_Int, Int.reduceLT, Int.reduceAdd, Int.reduceSub, Int.reduceLE, Int.reduceEq, Int.reduceToNat, Nat.reduceSub, Nat.reduceMul, Nat.reduceLeDiff, Int.lt_irrefl]
    rfl
  | k + 1, i, h => by
    have hi : i < l.length := by omega
    have h4 : (i : Int) < (l.length : Int) := by omega
    have h0 : (0 : Int) ≤ (i : Int) := by omega
    have hw : IntKind.i64.wrap ((i : Int) + 1) = ((i + 1 : Nat) : Int) := by rw [w64 (by omega) (by omega)]; rfl
    have hg : l[i]? = some l[i] := List.getElem?_eq_getElem hi
    have hd : l.drop i = l[i] :: l.drop (i + 1) := List.drop_eq_getElem_cons hi
    generalize l[i] = a at hg hd
    have hr := ints_at hg
    have ih := l66 l hl x k (i + 1) (by omega)
    rw [hd]
    by_cases q : a = x
    · subst q
      refine ⟨fun q => absurd (List.mem_cons_self ..) q, fun _ => ?_⟩
      refine Exists.intro ?_ (And.intro ?_ ?_)
      rotate_left 1
      · rw [Y_loop (L := L66_0) rfl]
        simp only [go_sem, op, mv, ↓reduceIte, Nat.reduceAdd, Nat.reduceEqDiff, Nat.reduceLT, Int.reduceNeg, Int.cast_ofNat_Int, Int.reduceLT, Int.reduceAdd, Int.reduceSub, Int.reduceLE, Int.reduceEq, Int.reduceToNat, Nat.reduceSub, Nat.reduceMul, Nat.reduceLeDiff, h4, h0, hr, hw]
        rfl
      · rfl
    · have step : execX G0 L66_0 (ST [(0, .sl .no 1 (ints l)), (1, .int .i64 x), (7, .int .i64 l.length), (8, .int .i64 i)] [] []) = execX G0 L66_0 (ST [(0, .sl .no 1 (ints l)), (1, .int .i64 x), (7, .int .i64 l.length), (8, .int .i64 ((i + 1 : Nat) : Int))] [] []) := by
        conv => lhs; rw [Y_loop (L := L66_0) rfl]
        simp only [go_sem, op, mv, ↓reduceIte, Nat.reduceAdd, Nat.reduceEqDiff, Nat.reduceLT, Int.reduceNeg, Int.cast_ofNat_Int, Int.reduceLT, Int.reduceAdd, Int.reduceSub, Int.reduceLE, Int.reduceEq, Int.reduceToNat, Nat.reduceSub, Nat.reduceMul, Nat.reduceLeDiff, h4, h0, hr, hw, q]
      rw [step]
      have em : (x ∈ a :: l.drop (i + 1)) ↔ x ∈ l.drop (i + 1) := by simp [Ne.symm q]
      rw [em]
      exact ih
theorem c66 (l : List Int) (hl : l.length ≤ 1000000) (x : Int) : G0 66 [.sl .no 1 (ints l), .int .i64 x] [] = some (.bool (decide (x ∈ l)), []) := by
  obtain ⟨x1, x2⟩ := l66 l hl x l.length 0 (by omega)
  have ec : ((0 : Nat) : Int) = 0 := rfl
  rw [List.drop_zero, ec] at x1 x2
  refine contract F66 rfl rfl rfl ?_
  by_cases h : x ∈ l
  · rw [decide_eq_true h]
    obtain ⟨l', y1, y2⟩ := x2 h
    simp only [F66, go_sem, op, mv, ↓reduceIte, Nat.reduceAdd, Nat.reduceEqDiff, Nat.reduceLT, Int.reduceNeg, Int.cast_ofNat_Int, Int.reduceLT, Int.reduceAdd, Int.reduceSub, Int.reduceLE, Int.reduceEq, Int.reduceToNat, Nat.reduceSub, Nat.reduceMul, Nat.reduceLeDiff, ints_length, y1, y2]
  · rw [decide_eq_false h]
    obtain ⟨l', y1⟩ := x1 h
    simp only [F66, go_sem, op, mv, ↓reduceIte, Nat.reduceAdd, Nat.reduceEqDiff, Nat.reduceLT, Int.reduceNeg, Int.cast_ofNat_Int, Int.reduceLT, Int.reduceAdd, Int.reduceSub, Int.reduceLE, Int.reduceEq, Int.reduceToNat, Nat.reduceSub, Nat.reduceMul, Nat.reduceLeDiff, ints_length, y1, look_kill, look_setl, List.not_mem_nil, if_true, if_false]
theorem l44 (f : List Tk) (hf : f.length ≤ 100000) : ∀ (k i : Nat) (b : Bool) (l : List Int), i + k = f.length → l.length ≤ i →
    ∃ b', execX G0 L44_0 (ST [(0, .sl .no 3 (tks f)), (3, .sl (md b) 1 (ints l)), (6, .int .i64 f.length), (7, .int .i64 i)] [] []) = some (.ex 0, ST [(0, .sl .no 3 (tks f)), (3, .sl (md b') 1 (ints ((f.drop i).foldl addN l))), (6, .int .i64 f.length), (7, .int .i64 f.length), (8, .bool false)] [] [])
  | 0, i, b, l, h, hl => by
    have : i = f.length := by omega
    subst this
    refine ⟨b, ?_⟩
    rw [List.drop_length, List.foldl_nil]
    rw [Y_loop (L := L44_0) rfl]
    simp only [go_sem, op, mv, ↓reduceIte, Nat.reduceAdd, Nat.reduceEqDiff, Nat.reduceLT, Int.reduceNeg, Int.cast_ofNat_Int, Int.reduceLT, Int.reduceAdd, Int.reduceSub, Int.reduceLE, Int.reduceEq, Int.reduceToNat, Nat.reduceSub, Nat.reduceMul, Nat.reduceLeDiff, Int.lt_irrefl]
  | k + 1, i, b, l, h, hl => by
    have hi : i < f.length := by omega
    have h4 : (i : Int) < (f.length : Int) := by omega
    have h0 : (0 : Int) ≤ (i : Int) := by omega
    have hw : IntKind.i64.wrap ((i : Int) + 1) = ((i + 1 : Nat) : Int) := by rw [w64 (by omega) (by omega)]; rfl
    have hg : f[i]? = some f[i] := List.getElem?_eq_getElem hi
    have hd : f.drop i = f[i] :: f.drop (i + 1) := List.drop_eq_getElem_cons hi
    generalize f[i] = T at hg hd
    have hr := tks_at hg
    obtain ⟨kk, s, id⟩ := T
    simp only [] at hr
    have c65 := c65 kk s id
    have h66 := c66 l (by omega) id
    have e1 : md true = .own := rfl
    rw [hd, List.foldl_cons]
    cases ht : isTag (kk, s, id) with
    | false =>
      rw [ht] at c65
      rw [addN_n (.inl ht)]
      obtain ⟨b', ih⟩ := l44 f hf k (i + 1) b l (by omega) (by omega)
      refine ⟨b', ?_⟩
      rw [Y_loop (L := L44_0) rfl]
      simp only [go_sem, op, mv, ↓reduceIte, Nat.reduceAdd, Nat.reduceEqDiff, Nat.reduceLT, Int.reduceNeg, Int.cast_ofNat_Int, Int.reduceLT, Int.reduceAdd, Int.reduceSub, Int.reduceLE, Int.reduceEq, Int.reduceToNat, Nat.reduceSub, Nat.reduceMul, Nat.reduceLeDiff, h4, h0, hr, hw, c65]
      exact ih
    | true =>
      rw [ht] at c65
      by_cases hm : id ∈ l
      · rw [decide_eq_true hm] at h66
        rw [addN_n (.inr hm)]
        obtain ⟨b', ih⟩ := l44 f hf k (i + 1) b l (by omega) (by omega)
        refine ⟨b', ?_⟩
        rw [Y_loop (L := L44_0) rfl]
        simp only [go_sem, op, mv, ↓reduceIte, Nat.reduceAdd, Nat.reduceEqDiff, Nat.reduceLT, Int.reduceNeg, Int.cast_ofNat_Int, Int.reduceLT, Int.reduceAdd, Int.reduceSub, Int.reduceLE, Int.reduceEq, Int.reduceToNat, Nat.reduceSub, Nat.reduceMul, Nat.reduceLeDiff, h4, h0, hr, hw, c65, demV_md, strV_sl, h66]
        exact ih
      · rw [decide_eq_false hm] at h66
        rw [addN_y ht hm]
        have ha := app_i b l id (by omega)
        obtain ⟨b', ih⟩ := l44 f hf k (i + 1) true (l ++ [id]) (by omega) (by simp; omega)
        refine ⟨b', ?_⟩
        rw [e1] at ih
        rw [Y_loop (L := L44_0) rfl]
        simp only [go_sem, op, mv, ↓reduceIte, Nat.reduceAdd, Nat.reduceEqDiff, Nat.reduceLT, Int.reduceNeg, Int.cast_ofNat_Int, Int.reduceLT, Int.reduceAdd, Int.reduceSub, Int.reduceLE, Int.reduceEq, Int.reduceToNat, Nat.reduceSub, Nat.reduceMul, Nat.reduceLeDiff, h4, h0, hr, hw, c65, demV_md, strV_sl, h66, ha]
        exact ih
theorem c44 (f : List Tk) (hf : f.length ≤ 100000) : G0 44 [.sl .no 3 (tks f)] [] = some (.sl .no 1 (ints (nums f)), []) := by
  obtain ⟨b', x⟩ := l44 f hf f.length 0 false [] (by omega) (by simp)
  have ec : ((0 : Nat) : Int) = 0 := rfl
  have e2 : md false = .full := rfl
  rw [List.drop_zero, ec, e2, ints_nil] at x
  have en : f.foldl addN [] = nums f := rfl
  rw [en] at x
  refine contract F44 rfl rfl rfl ?_
  simp only [F44, go_sem, op, mv, ↓reduceIte, Nat.reduceAdd, Nat.reduceEqDiff, Nat.reduceLT, Int.reduceNeg, Int.cast_ofNat_Int, Int.reduceLT, Int.reduceAdd, Int.reduceSub, Int.reduceLE, Int.reduceEq, Int.reduceToNat, Nat.reduceSub, Nat.reduceMul, Nat.reduceLeDiff, tks_len, x, demV_md, demV_mdn]
theorem l49 (n : Nat) (hn : n ≤ 100000) : ∀ (k j : Nat) (b : Bool), j + k = n →
    ∃ b', execX G0 L49_0 (ST [(0, .int .i64 n), (3, .sl (md b) 1 (ints (upto j))), (4, .int .i64 ((j : Int) + 1))] [] []) = some (.ex 0, ST [(0, .int .i64 n), (3, .sl (md b') 1 (ints (upto n))), (4, .int .i64 ((n : Int) + 1)), (7, .bool false)] [] [])
  | 0, j, b, h => by
    have : j = n := by omega
    subst this
    refine ⟨b, ?_⟩
    have h4 : ¬ (j : Int) + 1 ≤ (j : Int) := by omega
    rw [Y_loop (L := L49_0) rfl]
    simp only [go_sem, op, mv, ↓reduceIte, Nat.reduceAdd, Nat.reduceEqDiff, Nat.reduceLT, Int.reduceNeg, Int.cast_ofNat_Int, Int.reduceLT, Int.reduceAdd, Int.reduceSub, Int.reduceLE, Int.reduceEq, Int.reduceToNat, Nat.reduceSub, Nat.reduceMul, Nat.reduceLeDiff, h4]
  | k + 1, j, b, h => by
    have h4 : (j : Int) + 1 ≤ (n : Int) := by omega
    have hw : IntKind.i64.wrap ((j : Int) + 1 + 1) = ((j + 1 : Nat) : Int) + 1 := by rw [w64 (by omega) (by omega)]; rfl
    have ha := app_i b (upto j) ((j : Int) + 1) (by rw [upto_len]; omega)
    rw [← upto_s] at ha
    obtain ⟨b', ih⟩ := l49 n hn k (j + 1) true (by omega)
    have e1 : md true = .own := rfl
    rw [e1] at ih
    refine ⟨b', ?_⟩
    rw [Y_loop (L := L49_0) rfl]
    simp only [go_sem, op, mv, ↓reduceIte, Nat.reduceAdd, Nat.reduceEqDiff, Nat.reduceLT, Int.reduceNeg, Int.cast_ofNat_Int, Int.reduceLT, Int.reduceAdd, Int.reduceSub, Int.reduceLE, Int.reduceEq, Int.reduceToNat, Nat.reduceSub, Nat.reduceMul, Nat.reduceLeDiff, h4, hw, demV_md, ha]
    exact ih
theorem c49 (n : Nat) (hn : n ≤ 100000) : G0 49 [.int .i64 n] [] = some (.sl .no 1 (ints (upto n)), []) := by
  obtain ⟨b', x⟩ := l49 n hn n 0 false (by omega)
  have ec : ((0 : Nat) : Int) + 1 = 1 := rfl
  have e2 : md false = .full := rfl
  have e0 : ints (upto 0) = [] := rfl
  rw [ec, e2, e0] at x
  refine contract F49 rfl rfl rfl ?_
  simp only [F49, go_sem, op, mv, ↓reduceIte, Nat.reduceAdd, Nat.reduceEqDiff, Nat.reduceLT, Int.reduceNeg, Int.cast_ofNat_Int, Int.reduceLT, Int.reduceAdd, Int.reduceSub, Int.reduceLE, Int.reduceEq, Int.reduceToNat, Nat.reduceSub, Nat.reduceMul, Nat.reduceLeDiff, x, demV_md, demV_mdn]
end Go.Av
