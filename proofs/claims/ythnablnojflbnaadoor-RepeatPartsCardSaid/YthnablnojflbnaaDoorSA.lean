/- First repetitions over a list that lies in a shared object: the program's and the reference's. -/
import Derived.Test.YthnablnojflbnaaDoorRB
set_option linter.unusedSimpArgs false
set_option linter.unusedVariables false
namespace Go.Av
open Go.Nt
set_option linter.unusedSimpArgs false
set_option linter.unusedVariables false
set_option maxHeartbeats 16000000
set_option maxRecDepth 100000
/-- a value that reads as a list of fragments -/
structure LV (V : AV) (sh : List (List AV)) (L : List (List Tk)) : Prop where
  len : lenA' false V = some (.int .i64 (L.length : Int))
  scrub : ∀ k, scrubV k V = V
  dem : demV V = V
  arg : argB true V = true
  at_ : ∀ (i : Nat) (f : List Tk), L[i]? = some f → ∃ P, iaK 1 V (.int .i64 (i : Int)) = some P ∧ ∀ (X : List (List AV)) (m : List (Nat × Option (List AV))), ldA .sh false 1 m (sh ++ X) P = some (.sl .no 3 (tks f))
theorem LV_sl (L : List (List Tk)) (sh : List (List AV)) : LV (.sl .full 1 (frs L)) sh L := by
  refine ⟨by rw [← frs_len L]; rfl, fun _ => rfl, rfl, rfl, fun i f h => ?_⟩
  refine ⟨.ip [.sl .no 3 (tks f)], ?_, fun X m => rfl⟩
  have h0 : (0 : Int) ≤ (i : Int) := by omega
  rw [iaK_sl, if_pos h0, Int.toNat_natCast, frs_at h]
  rfl
def frc (L : List (List Tk)) : List AV := L.map fun f => .sl .no 3 (tks f)
theorem frc_len (L : List (List Tk)) : (frc L).length = L.length := by simp [frc]
theorem frc_app (L M : List (List Tk)) : frc (L ++ M) = frc L ++ frc M := by simp [frc]
theorem frc_at {L : List (List Tk)} {i : Nat} {f : List Tk} (h : L[i]? = some f) : (frc L)[i]? = some (.sl .no 3 (tks f)) := by simp [frc, h]
theorem LV_ss {L : List (List Tk)} {sh : List (List AV)} {o : Nat} (h : sh[o]? = some (frc L)) : LV (.ss o 0 L.length 1) sh L := by
  have ho : o < sh.length := by
    by_cases q : o < sh.length
    · exact q
    · rw [List.getElem?_eq_none (by omega)] at h; cases h
  refine ⟨rfl, fun _ => rfl, rfl, rfl, fun i f hf => ?_⟩
  have hi : i < L.length := by
    by_cases q : i < L.length
    · exact q
    · rw [List.getElem?_eq_none (by omega)] at hf; cases hf
  refine ⟨.ptr o i, ?_, fun X m => ?_⟩
  · rw [iaK_ss, if_pos (by omega), Int.toNat_natCast]; simp
  · rw [ldA_ptr, List.getElem?_append_left ho, h]
    simp only [Option.bind_some, ldC, Bool.false_eq_true, if_false, frc_at hf]
    rfl
def RokS (sh : List (List AV)) : Prop := (sh.all fun c => c.all (refLt sh.length)) = true
theorem RokS.app {sh : List (List AV)} (h : RokS sh) (X : List (List AV)) : refsOk false sh.length (sh ++ X) = true := by
  unfold refsOk
  rw [Bool.false_or, List.take_left]
  exact h
theorem RokS.self {sh : List (List AV)} (h : RokS sh) : refsOk false sh.length sh = true := by
  unfold refsOk
  rw [Bool.false_or, List.take_length]
  exact h
theorem mapOfE (sh rows : List (List AV)) : mapOf (sh ++ [[.mapv rows]]) sh.length = some rows := by
  unfold mapOf
  rw [gD]
theorem l25 {V : AV} {sh : List (List AV)} {L : List (List Tk)} (hV : LV V sh L) (hL : L.length ≤ 100000) (hb : ∀ f ∈ L, small f) : ∀ (k i : Nat) (b : Bool) (o : List Int) (m : Km), i + k = L.length → o.length ≤ i →
    ∃ b' m', execX G0 L25_0 (ST [(3, .mp sh.length), (4, .sl (md b) 1 (ints o)), (12, V), (13, .int .i64 L.length), (14, .int .i64 i)] [] (sh ++ [[.mapv (kmr m)]])) = some (.ex 0, ST [(3, .mp sh.length), (4, .sl (md b') 1 (ints (o ++ fst1 m i (L.drop i)))), (12, V), (13, .int .i64 L.length), (14, .int .i64 L.length), (15, .bool false)] [] (sh ++ [[.mapv (kmr m')]]))
  | 0, i, b, o, m, h, ho => by
    have : i = L.length := by omega
    subst this
    refine ⟨b, m, ?_⟩
    have e : fst1 m L.length (L.drop L.length) = [] := by rw [List.drop_length]; rfl
    have hs := hV.scrub
    rw [e, List.append_nil]
    rw [Y_loop (L := L25_0) rfl]
    simp only [go_sem, op, mv, ↓reduceIte, Nat.reduceAdd, Nat.reduceEqDiff, Nat.reduceLT, Int.reduceNeg, Int.cast_ofNat_Int, Int.reduceLT, Int.reduceAdd, Int.reduceSub, Int.reduceLE, Int.reduceEq, Int.reduceToNat, Nat.reduceSub, Nat.reduceMul, Nat.reduceLeDiff, hs, Int.lt_irrefl]
  | k + 1, i, b, o, m, h, ho => by
    have hi : i < L.length := by omega
    have h4 : (i : Int) < (L.length : Int) := by omega
    have h0 : (0 : Int) ≤ (i : Int) := by omega
    have hw : IntKind.i64.wrap ((i : Int) + 1) = ((i + 1 : Nat) : Int) := by rw [w64 (by omega) (by omega)]; rfl
    have hg : L[i]? = some L[i] := List.getElem?_eq_getElem hi
    have hd : L.drop i = L[i] :: L.drop (i + 1) := List.drop_eq_getElem_cons hi
    have hm := hb _ (List.getElem_mem hi)
    generalize L[i] = f at hg hd hm
    obtain ⟨P, hP, hld⟩ := hV.at_ i f hg
    have hs := hV.scrub
    have hdv := hV.dem
    have h46 := c46 f hm.1 hm.2
    have h20 := c20 f hm.1 hm.2
    have e1 : md true = .own := rfl
    rw [hd]
    by_cases hv : vld f = 0
    · rw [hv] at h46
      have hlk := lk_kmr (keyF f) m
      cases hk : kget m (keyF f) with
      | some v =>
        have es : fst1 m i (f :: L.drop (i + 1)) = v :: fst1 m (i + 1) (L.drop (i + 1)) := by
          simp only [fst1]; rw [if_pos hv, hk]
        rw [hk] at hlk
        simp only [Option.map_some] at hlk
        have ha := app_i b o v (by omega)
        obtain ⟨b', m', ih⟩ := l25 hV hL hb k (i + 1) true (o ++ [v]) m (by omega) (by simp; omega)
        refine ⟨b', m', ?_⟩
        rw [e1, List.append_assoc, List.singleton_append] at ih
        rw [es]
        rw [Y_loop (L := L25_0) rfl]
        simp only [go_sem, op, mv, ↓reduceIte, Nat.reduceAdd, Nat.reduceEqDiff, Nat.reduceLT, Int.reduceNeg, Int.cast_ofNat_Int, Int.reduceLT, Int.reduceAdd, Int.reduceSub, Int.reduceLE, Int.reduceEq, Int.reduceToNat, Nat.reduceSub, Nat.reduceMul, Nat.reduceLeDiff, hs, hdv, h4, h0, hP, hld, hw, h46, h20, mapOfE, hlk, lkRi1, demV_md, ha]
        exact ih
      | none =>
        have es : fst1 m i (f :: L.drop (i + 1)) = (i : Int) :: fst1 (m ++ [(keyF f, (i : Int))]) (i + 1) (L.drop (i + 1)) := by
          simp only [fst1]; rw [if_pos hv, hk]
        rw [hk] at hlk
        simp only [Option.map_none] at hlk
        have hmu := mu_kmr (keyF f) (i : Int) m hk
        have ha := app_i b o (i : Int) (by omega)
        obtain ⟨b', m', ih⟩ := l25 hV hL hb k (i + 1) true (o ++ [(i : Int)]) (m ++ [(keyF f, (i : Int))]) (by omega) (by simp; omega)
        refine ⟨b', m', ?_⟩
        rw [e1, List.append_assoc, List.singleton_append] at ih
        rw [es]
        rw [Y_loop (L := L25_0) rfl]
        simp only [go_sem, op, mv, ↓reduceIte, Nat.reduceAdd, Nat.reduceEqDiff, Nat.reduceLT, Int.reduceNeg, Int.cast_ofNat_Int, Int.reduceLT, Int.reduceAdd, Int.reduceSub, Int.reduceLE, Int.reduceEq, Int.reduceToNat, Nat.reduceSub, Nat.reduceMul, Nat.reduceLeDiff, hs, hdv, h4, h0, hP, hld, hw, h46, h20, mapOfE, hlk, lkRi0, hmu, sD, demV_md, ha]
        exact ih
    · have es : fst1 m i (f :: L.drop (i + 1)) = (i : Int) :: fst1 m (i + 1) (L.drop (i + 1)) := by
        simp only [fst1]; rw [if_neg hv]
      have ha := app_i b o (i : Int) (by omega)
      obtain ⟨b', m', ih⟩ := l25 hV hL hb k (i + 1) true (o ++ [(i : Int)]) m (by omega) (by simp; omega)
      refine ⟨b', m', ?_⟩
      rw [e1, List.append_assoc, List.singleton_append] at ih
      rw [es]
      rw [Y_loop (L := L25_0) rfl]
      simp only [go_sem, op, mv, ↓reduceIte, Nat.reduceAdd, Nat.reduceEqDiff, Nat.reduceLT, Int.reduceNeg, Int.cast_ofNat_Int, Int.reduceLT, Int.reduceAdd, Int.reduceSub, Int.reduceLE, Int.reduceEq, Int.reduceToNat, Nat.reduceSub, Nat.reduceMul, Nat.reduceLeDiff, hs, hdv, h4, h0, hP, hld, hw, h46, hv, demV_md, ha]
      exact ih
theorem c25 {V : AV} {sh : List (List AV)} {L : List (List Tk)} (hV : LV V sh L) (hR : RokS sh) (hL : L.length ≤ 100000) (hb : ∀ f ∈ L, small f) : G0 25 [V] sh = some (.sl .no 1 (ints (firstF L)), sh) := by
  obtain ⟨b', m', x⟩ := l25 hV hL hb L.length 0 false [] [] (by omega) (by simp)
  have ec : ((0 : Nat) : Int) = 0 := rfl
  have e2 : md false = .full := rfl
  have e3 : kmr [] = [] := rfl
  rw [List.drop_zero, ec, e2, e3, ints_nil, List.nil_append] at x
  have hs := hV.scrub
  have hdv := hV.dem
  have hlen := hV.len
  have hRa := hR.app
  refine contract F25 rfl rfl rfl ?_
  simp only [F25, go_sem, op, mv, ↓reduceIte, Nat.reduceAdd, Nat.reduceEqDiff, Nat.reduceLT, Int.reduceNeg, Int.cast_ofNat_Int, Int.reduceLT, Int.reduceAdd, Int.reduceSub, Int.reduceLE, Int.reduceEq, Int.reduceToNat, Nat.reduceSub, Nat.reduceMul, Nat.reduceLeDiff, hs, hdv, hlen, x, demV_md, demV_mdn, hRa, List.take_left]
  rfl
/-! the reference -/
def cnd (L : List (List Tk)) (s : Bs) (j : Nat) : Bool := match L[j]? with
  | some f => decide (vld f = 0) && (s == keyF f)
  | none => false
def dn (L : List (List Tk)) (s : Bs) : Nat → Int → Int
  | 0, d => d
  | j + 1, d => dn L s j (if cnd L s j = true then (j : Int) else d)
def gF (L : List (List Tk)) (i : Nat) : Int := match L[i]? with
  | some f => if vld f = 0 then dn L (keyF f) i (i : Int) else (i : Int)
  | none => 0
def firstG (L : List (List Tk)) : List Int := (List.range L.length).map (gF L)
theorem l26a {V : AV} {sh : List (List AV)} {L : List (List Tk)} (hV : LV V sh L) (hL : L.length ≤ 100000) (hb : ∀ f ∈ L, small f) (b : Bool) (o : List Int) (s : Bs) (n i : Int) : ∀ (j : Nat) (d : Int), j ≤ L.length →
    execX G0 L26_0 (ST [(0, V), (3, .sl (md b) 1 (ints o)), (5, .int .i64 d), (6, .str s), (7, .bool true), (8, .int .i64 ((j : Int) - 1)), (12, .int .i64 n), (13, .int .i64 i), (14, .bool true)] [] sh) = some (.ex 2, ST [(0, V), (3, .sl (md b) 1 (ints o)), (5, .int .i64 (dn L s j d)), (6, .str s), (7, .bool true), (8, .int .i64 (-1)), (12, .int .i64 n), (13, .int .i64 i), (14, .bool true), (31, .bool false)] [] sh)
  | 0, d, h => by
    have e : ((0 : Nat) : Int) - 1 = -1 := rfl
    have hs := hV.scrub
    rw [e, Y_loop (L := L26_0) rfl]
    simp only [go_sem, op, mv, ↓reduceIte, Nat.reduceAdd, Nat.reduceEqDiff, Nat.reduceLT, Int.reduceNeg, Int.cast_ofNat_Int, Int.reduceLT, Int.reduceAdd, Int.reduceSub, Int.reduceLE, Int.reduceEq, Int.reduceToNat, Nat.reduceSub, Nat.reduceMul, Nat.reduceLeDiff, hs, dn]
  | j + 1, d, h => by
    have e : ((j + 1 : Nat) : Int) - 1 = (j : Int) := by omega
    have h0 : (0 : Int) ≤ (j : Int) := by omega
    have hw : IntKind.i64.wrap ((j : Int) - 1) = (j : Int) - 1 := w64 (by omega) (by omega)
    have hg : L[j]? = some L[j] := List.getElem?_eq_getElem (by omega)
    have hm := hb _ (List.getElem_mem (show j < L.length by omega))
    generalize L[j] = f at hg hm
    obtain ⟨P, hP, hld⟩ := hV.at_ j f hg
    have hld := fun m => hld [] m
    rw [List.append_nil] at hld
    have hs := hV.scrub
    have hdv := hV.dem
    have h19 := c19 f hm.1 hm.2
    have ec : cnd L s j = (decide (vld f = 0) && (s == keyF f)) := by unfold cnd; rw [hg]
    have ed : dn L s (j + 1) d = dn L s j (if cnd L s j = true then (j : Int) else d) := rfl
    rw [ed, e, ec]
    by_cases hv : vld f = 0
    · rw [decide_eq_true hv] at h19 ⊢
      cases hq : (s == keyF f) with
      | true =>
        have ih := l26a hV hL hb b o s n i j (j : Int) (by omega)
        rw [Y_loop (L := L26_0) rfl]
        simp only [go_sem, op, mv, ↓reduceIte, Nat.reduceAdd, Nat.reduceEqDiff, Nat.reduceLT, Int.reduceNeg, Int.cast_ofNat_Int, Int.reduceLT, Int.reduceAdd, Int.reduceSub, Int.reduceLE, Int.reduceEq, Int.reduceToNat, Nat.reduceSub, Nat.reduceMul, Nat.reduceLeDiff, hs, hdv, h0, hP, hld, h19, hq, hw, Bool.and_self]
        exact ih
      | false =>
        have ih := l26a hV hL hb b o s n i j d (by omega)
        rw [Y_loop (L := L26_0) rfl]
        simp only [go_sem, op, mv, ↓reduceIte, Nat.reduceAdd, Nat.reduceEqDiff, Nat.reduceLT, Int.reduceNeg, Int.cast_ofNat_Int, Int.reduceLT, Int.reduceAdd, Int.reduceSub, Int.reduceLE, Int.reduceEq, Int.reduceToNat, Nat.reduceSub, Nat.reduceMul, Nat.reduceLeDiff, hs, hdv, h0, hP, hld, h19, hq, hw, Bool.and_false, Bool.false_eq_true]
        exact ih
    · rw [decide_eq_false hv] at h19 ⊢
      have ih := l26a hV hL hb b o s n i j d (by omega)
      rw [Y_loop (L := L26_0) rfl]
      simp only [go_sem, op, mv, ↓reduceIte, Nat.reduceAdd, Nat.reduceEqDiff, Nat.reduceLT, Int.reduceNeg, Int.cast_ofNat_Int, Int.reduceLT, Int.reduceAdd, Int.reduceSub, Int.reduceLE, Int.reduceEq, Int.reduceToNat, Nat.reduceSub, Nat.reduceMul, Nat.reduceLeDiff, hs, hdv, h0, hP, hld, h19, hw, Bool.false_and, Bool.false_eq_true]
      exact ih
theorem l26 {V : AV} {sh : List (List AV)} {L : List (List Tk)} (hV : LV V sh L) (hL : L.length ≤ 100000) (hb : ∀ f ∈ L, small f) : ∀ (k i : Nat) (b : Bool), i + k = L.length →
    ∃ b', execX G0 L26_1 (ST [(0, V), (3, .sl (md b) 1 (ints ((List.range i).map (gF L)))), (12, .int .i64 L.length), (13, .int .i64 i)] [] sh) = some (.ex 0, ST [(0, V), (3, .sl (md b') 1 (ints (firstG L))), (12, .int .i64 L.length), (13, .int .i64 L.length), (14, .bool false)] [] sh)
  | 0, i, b, h => by
    have : i = L.length := by omega
    subst this
    refine ⟨b, ?_⟩
    have hs := hV.scrub
    rw [Y_loop (L := L26_1) rfl]
    simp only [go_sem, op, mv, ↓reduceIte, Nat.reduceAdd, Nat.reduceEqDiff, Nat.reduceLT, Int.reduceNeg, Int.cast_ofNat_Int, Int.reduceLT, Int.reduceAdd, Int.reduceSub, Int.reduceLE, Int.reduceEq, Int.reduceToNat, Nat.reduceSub, Nat.reduceMul, Nat.reduceLeDiff, hs, Int.lt_irrefl]
    rfl
  | k + 1, i, b, h => by
    have hi : i < L.length := by omega
    have h4 : (i : Int) < (L.length : Int) := by omega
    have h0 : (0 : Int) ≤ (i : Int) := by omega
    have hw : IntKind.i64.wrap ((i : Int) + 1) = ((i + 1 : Nat) : Int) := by rw [w64 (by omega) (by omega)]; rfl
    have hw2 : IntKind.i64.wrap ((i : Int) - 1) = (i : Int) - 1 := w64 (by omega) (by omega)
    have hg : L[i]? = some L[i] := List.getElem?_eq_getElem hi
    have hm := hb _ (List.getElem_mem hi)
    generalize L[i] = f at hg hm
    obtain ⟨P, hP, hld⟩ := hV.at_ i f hg
    have hld := fun m => hld [] m
    rw [List.append_nil] at hld
    have hs := hV.scrub
    have hdv := hV.dem
    have h19 := c19 f hm.1 hm.2
    have e1 : md true = .own := rfl
    have er : (List.range (i + 1)).map (gF L) = (List.range i).map (gF L) ++ [gF L i] := by rw [List.range_succ, List.map_append]; rfl
    obtain ⟨b', ih⟩ := l26 hV hL hb k (i + 1) true (by omega)
    rw [er, e1] at ih
    have hol : ((List.range i).map (gF L)).length ≤ 1000000 := by simp; omega
    generalize (List.range i).map (gF L) = o at *
    have ha := app_i b o (gF L i) hol
    refine ⟨b', ?_⟩
    by_cases hv : vld f = 0
    · rw [decide_eq_true hv] at h19
      have hin := l26a hV hL hb b o (keyF f) (L.length : Int) (i : Int) i (i : Int) (by omega)
      have eg : gF L i = dn L (keyF f) i (i : Int) := by unfold gF; rw [hg]; simp only []; rw [if_pos hv]
      rw [← eg] at hin
      generalize gF L i = G at *
      rw [Y_loop (L := L26_1) rfl]
      simp only [go_sem, op, mv, ↓reduceIte, Nat.reduceAdd, Nat.reduceEqDiff, Nat.reduceLT, Int.reduceNeg, Int.cast_ofNat_Int, Int.reduceLT, Int.reduceAdd, Int.reduceSub, Int.reduceLE, Int.reduceEq, Int.reduceToNat, Nat.reduceSub, Nat.reduceMul, Nat.reduceLeDiff, hs, hdv, h4, h0, hP, hld, h19, hw, hw2, hin, demV_md, ha]
      exact ih
    · rw [decide_eq_false hv] at h19
      have eg : gF L i = (i : Int) := by unfold gF; rw [hg]; simp only []; rw [if_neg hv]
      rw [eg] at ha ih
      have hin : execX G0 L26_0 (ST [(0, V), (3, .sl (md b) 1 (ints o)), (5, .int .i64 (i : Int)), (6, .str (keyF f)), (7, .bool false), (8, .int .i64 ((i : Int) - 1)), (12, .int .i64 L.length), (13, .int .i64 i), (14, .bool true)] [] sh) = some (.ex 2, ST [(0, V), (3, .sl (md b) 1 (ints o)), (5, .int .i64 (i : Int)), (6, .str (keyF f)), (7, .bool false), (8, .int .i64 ((i : Int) - 1)), (12, .int .i64 L.length), (13, .int .i64 i), (14, .bool true), (31, .bool false)] [] sh) := by
        rw [Y_loop (L := L26_0) rfl]
        by_cases q : (0 : Int) ≤ (i : Int) - 1
        · simp only [go_sem, op, mv, ↓reduceIte, Nat.reduceAdd, Nat.reduceEqDiff, Nat.reduceLT, Int.reduceNeg, Int.cast_ofNat_Int, Int.reduceLT, Int.reduceAdd, Int.reduceSub, Int.reduceLE, Int.reduceEq, Int.reduceToNat, Nat.reduceSub, Nat.reduceMul, Nat.reduceLeDiff, hs, q]
        · simp only [go_sem, op, mv, ↓reduceIte, Nat.reduceAdd, Nat.reduceEqDiff, Nat.reduceLT, Int.reduceNeg, Int.cast_ofNat_Int, Int.reduceLT, Int.reduceAdd, Int.reduceSub, Int.reduceLE, Int.reduceEq, Int.reduceToNat, Nat.reduceSub, Nat.reduceMul, Nat.reduceLeDiff, hs, q]
      rw [Y_loop (L := L26_1) rfl]
      simp only [go_sem, op, mv, ↓reduceIte, Nat.reduceAdd, Nat.reduceEqDiff, Nat.reduceLT, Int.reduceNeg, Int.cast_ofNat_Int, Int.reduceLT, Int.reduceAdd, Int.reduceSub, Int.reduceLE, Int.reduceEq, Int.reduceToNat, Nat.reduceSub, Nat.reduceMul, Nat.reduceLeDiff, hs, hdv, h4, h0, hP, hld, h19, hw, hw2, hin, demV_md, ha]
      exact ih
theorem c26 {V : AV} {sh : List (List AV)} {L : List (List Tk)} (hV : LV V sh L) (hR : RokS sh) (hL : L.length ≤ 100000) (hb : ∀ f ∈ L, small f) : G0 26 [V] sh = some (.sl .no 1 (ints (firstG L)), sh) := by
  obtain ⟨b', x⟩ := l26 hV hL hb L.length 0 false (by omega)
  have ec : ((0 : Nat) : Int) = 0 := rfl
  have e2 : md false = .full := rfl
  have e3 : ints ((List.range 0).map (gF L)) = [] := rfl
  rw [ec, e2, e3] at x
  have hs := hV.scrub
  have hdv := hV.dem
  have hlen := hV.len
  have hRs := hR.self
  refine contract F26 rfl rfl rfl ?_
  simp only [F26, go_sem, op, mv, ↓reduceIte, Nat.reduceAdd, Nat.reduceEqDiff, Nat.reduceLT, Int.reduceNeg, Int.cast_ofNat_Int, Int.reduceLT, Int.reduceAdd, Int.reduceSub, Int.reduceLE, Int.reduceEq, Int.reduceToNat, Nat.reduceSub, Nat.reduceMul, Nat.reduceLeDiff, hs, hdv, hlen, x, demV_md, demV_mdn, hRs, List.take_length]
/-! both are one -/
def ff (L : List (List Tk)) (s : Bs) : Nat → Option Nat
  | 0 => none
  | i + 1 => match ff L s i with
    | some v => some v
    | none => if cnd L s i = true then some i else none
theorem dn_ff (L : List (List Tk)) (s : Bs) : ∀ (i : Nat) (d : Int), dn L s i d = match ff L s i with
    | some v => (v : Int)
    | none => d
  | 0, d => rfl
  | i + 1, d => by
    simp only [dn, dn_ff L s i, ff]
    cases ff L s i with
    | some v => rfl
    | none =>
      simp only []
      by_cases h : cnd L s i = true
      · rw [if_pos h, if_pos h]
      · rw [if_neg h, if_neg h]
theorem kget_app : ∀ (m : Km) (k : Bs) (v : Int) (s : Bs), kget (m ++ [(k, v)]) s = match kget m s with
    | some y => some y
    | none => if s = k then some v else none
  | [], k, v, s => by simp [kget]
  | (a, y) :: r, k, v, s => by
    have ih := kget_app r k v s
    simp only [List.cons_append, kget]
    by_cases h : s = a
    · simp [h]
    · simp only [h, if_false, ih]
theorem fst1_eq (L : List (List Tk)) : ∀ (k i : Nat) (m : Km), i + k = L.length → (∀ s, kget m s = Option.map (fun (n : Nat) => (n : Int)) (ff L s i)) → fst1 m i (L.drop i) = (List.range' i k).map (gF L)
  | 0, i, m, h, _ => by
    have : i = L.length := by omega
    subst this
    rw [List.drop_length]; rfl
  | k + 1, i, m, h, hm => by
    have hi : i < L.length := by omega
    have hg : L[i]? = some L[i] := List.getElem?_eq_getElem hi
    have hd : L.drop i = L[i] :: L.drop (i + 1) := List.drop_eq_getElem_cons hi
    generalize L[i] = f at hg hd
    have ec : ∀ s, cnd L s i = (decide (vld f = 0) && (s == keyF f)) := fun s => by unfold cnd; rw [hg]
    rw [hd, List.range'_succ, List.map_cons]
    simp only [fst1]
    by_cases hv : vld f = 0
    · rw [if_pos hv]
      have eg : gF L i = dn L (keyF f) i (i : Int) := by unfold gF; rw [hg]; simp only []; rw [if_pos hv]
      rw [eg, dn_ff, hm]
      cases hf : ff L (keyF f) i with
      | some v =>
        simp only [Option.map_some]
        congr 1
        refine fst1_eq L k (i + 1) m (by omega) fun s => ?_
        rw [hm]
        simp only [ff]
        cases hfs : ff L s i with
        | some w => rfl
        | none =>
          simp only []
          rw [ec, if_neg]
          intro q
          simp only [Bool.and_eq_true, beq_iff_eq] at q
          rw [q.2, hf] at hfs
          cases hfs
      | none =>
        simp only [Option.map_none]
        congr 1
        refine fst1_eq L k (i + 1) _ (by omega) fun s => ?_
        rw [kget_app, hm]
        simp only [ff]
        cases hfs : ff L s i with
        | some w => rfl
        | none =>
          simp only [Option.map_none]
          rw [ec, decide_eq_true hv, Bool.true_and]
          by_cases q : s = keyF f
          · rw [if_pos q, if_pos (by simp [q])]; rfl
          · rw [if_neg q, if_neg (by simp [q])]; rfl
    · rw [if_neg hv]
      have eg : gF L i = (i : Int) := by unfold gF; rw [hg]; simp only []; rw [if_neg hv]
      rw [eg]
      congr 1
      refine fst1_eq L k (i + 1) m (by omega) fun s => ?_
      rw [hm]
      simp only [ff]
      cases hfs : ff L s i with
      | some w => rfl
      | none =>
        simp only []
        rw [ec, decide_eq_false hv, Bool.false_and]
        rfl
theorem first_eq (L : List (List Tk)) : firstF L = firstG L := by
  have := fst1_eq L L.length 0 [] (by omega) (fun s => rfl)
  rw [List.drop_zero] at this
  unfold firstF firstG
  rw [this, List.range_eq_range']
theorem kn1 : firstF [[(1, [97], 0)], [(1, [98], 0)], [(1, [97], 0)], [(1, [97], 0)]] = [0, 1, 0, 0] := by decide +kernel
theorem kn2 : firstF [[(2, [98], 1), (3, [98], 1)], [(2, [98], 2), (3, [98], 2)]] = [0, 0] := by decide +kernel
end Go.Av
