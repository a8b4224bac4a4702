/- Groups of the reference, and the comparison. -/
import Derived.Test.YthnablnojflbnaaDoorSD
set_option linter.unusedSimpArgs false
set_option linter.unusedVariables false
namespace Go.Av
open Go.Nt
set_option linter.unusedSimpArgs false
set_option linter.unusedVariables false
set_option maxHeartbeats 16000000
set_option maxRecDepth 100000
def gls (G : List (List Int)) : List (List AV) := G.map fun g => [.sl .no 1 (ints g)]
theorem gls_len (G : List (List Int)) : (gls G).length = G.length := by simp [gls]
theorem gls_at {G : List (List Int)} {i : Nat} {g : List Int} (h : G[i]? = some g) : (gls G)[i]? = some [.sl .no 1 (ints g)] := by simp [gls, h]
theorem gls_nil : gls [] = [] := rfl
theorem app_g (b : Bool) (G : List (List Int)) (g : List Int) (h : G.length ≤ 1000000) : appA false 1 24 (.sl (md b) 1 (gls G)) (.sl .full 1 [[.sl .no 1 (ints g)]]) = some (.sl .own 1 (gls (G ++ [g]))) := by
  have ha : appOK 24 (G.length + 1) = true := appOK_le (by decide) (by omega)
  rw [appA_gen (md b) .full (md_no b) 1 24 (by decide), gls_len, List.length_singleton, if_pos ha]
  simp [gls]
theorem mksN (g : List Int) : mksA 1 [.sl .full 1 []] 1 [0] [.sl .no 1 (ints g)] = some (.sl .full 1 [[.sl .no 1 (ints g)]]) := rfl
def fsZ (φ : Nat → Nat) (n : Nat) : List Int := (List.range n).map fun i => (φ i : Int)
theorem fsZ_at (φ : Nat → Nat) {n i : Nat} (h : i < n) : (fsZ φ n)[i]? = some (φ i : Int) := by
  unfold fsZ
  rw [List.getElem?_map, List.getElem?_range h]; rfl
theorem zs_len (l : List Nat) : (zs l).length = l.length := by simp [zs]
theorem grpN_le (φ : Nat → Nat) (i h : Nat) : (grpN φ i h).length ≤ i := by
  unfold grpN
  have := List.length_filter_le (fun j => φ j == h) (List.range i)
  simpa using this
theorem heads_le (φ : Nat → Nat) (i : Nat) : (heads φ i).length ≤ i := by
  unfold heads
  have := List.length_filter_le (fun j => φ j == j) (List.range i)
  simpa using this
def neB (l : List Int) : Bool := !l.isEmpty
theorem neB_app (l : List Int) (i : Int) : neB (l ++ [i]) = true := by unfold neB; cases l <;> rfl
theorem neB_nil : neB [] = false := rfl
/-- the inner loop -/
theorem l29a {V : AV} (hs : ∀ k, scrubV k V = V) (sh : List (List AV)) (φ : Nat → Nat) (n : Nat) (hn : n ≤ 100000) (X : AV) (hX : ∀ k, scrubV k X = X) (i : Nat) : ∀ (k j : Nat), j + k = n →
    execX G0 L29_0 (ST [(0, V), (3, X), (4, .sl .no 1 (ints (fsZ φ n))), (5, .int .i64 i), (6, .sl (md (neB (zs (grpN φ j i)))) 1 (ints (zs (grpN φ j i)))), (11, .int .i64 n), (12, .int .i64 i), (13, .bool true), (20, .bool false), (22, .int .i64 n), (23, .int .i64 j)] [] sh) = some (.ex 2, ST [(0, V), (3, X), (4, .sl .no 1 (ints (fsZ φ n))), (5, .int .i64 i), (6, .sl (md (neB (zs (grpN φ n i)))) 1 (ints (zs (grpN φ n i)))), (11, .int .i64 n), (12, .int .i64 i), (13, .bool true), (20, .bool false), (22, .int .i64 n), (23, .int .i64 n), (24, .bool false)] [] sh)
  | 0, j, h => by
    have : j = n := by omega
    subst this
    rw [Y_loop (L := L29_0) rfl]
    simp only [go_sem, op, mv, ↓reduceIte, Nat.reduceAdd, Nat.reduceEqDiff, Nat.reduceLT, Int.reduceNeg, Int.cast_ofNat_Int, Int.reduceLT, Int.reduceAdd, Int.reduceSub, Int.reduceLE, Int.reduceEq, Int.reduceToNat, Nat.reduceSub, Nat.reduceMul, Nat.reduceLeDiff, hs, hX, Int.lt_irrefl]
  | k + 1, j, h => by
    have h4 : (j : Int) < (n : Int) := by omega
    have h0 : (0 : Int) ≤ (j : Int) := by omega
    have hw : IntKind.i64.wrap ((j : Int) + 1) = ((j + 1 : Nat) : Int) := by rw [w64 (by omega) (by omega)]; rfl
    have hr := ints_at (fsZ_at φ (show j < n by omega))
    have ih := l29a hs sh φ n hn X hX i k (j + 1) (by omega)
    have hgl := grpN_le φ j i
    by_cases hq : φ j = i
    · have eg : zs (grpN φ (j + 1) i) = zs (grpN φ j i) ++ [(j : Int)] := by rw [grpN_s, if_pos hq, zs_app]; rfl
      have ha := app_i (neB (zs (grpN φ j i))) (zs (grpN φ j i)) (j : Int) (by rw [zs_len]; omega)
      have hqi : ((φ j : Nat) : Int) = (i : Int) := by omega
      have e1 : md true = .own := rfl
      rw [eg, neB_app, e1] at ih
      generalize zs (grpN φ j i) = o at *
      rw [Y_loop (L := L29_0) rfl]
      simp only [go_sem, op, mv, ↓reduceIte, Nat.reduceAdd, Nat.reduceEqDiff, Nat.reduceLT, Int.reduceNeg, Int.cast_ofNat_Int, Int.reduceLT, Int.reduceAdd, Int.reduceSub, Int.reduceLE, Int.reduceEq, Int.reduceToNat, Nat.reduceSub, Nat.reduceMul, Nat.reduceLeDiff, hs, hX, h4, h0, hr, hqi, hw, ha]
      exact ih
    · have eg : zs (grpN φ (j + 1) i) = zs (grpN φ j i) := by rw [grpN_s, if_neg hq, List.append_nil]
      have hqi : ¬ ((φ j : Nat) : Int) = (i : Int) := by omega
      rw [eg] at ih
      generalize zs (grpN φ j i) = o at *
      rw [Y_loop (L := L29_0) rfl]
      simp only [go_sem, op, mv, ↓reduceIte, Nat.reduceAdd, Nat.reduceEqDiff, Nat.reduceLT, Int.reduceNeg, Int.cast_ofNat_Int, Int.reduceLT, Int.reduceAdd, Int.reduceSub, Int.reduceLE, Int.reduceEq, Int.reduceToNat, Nat.reduceSub, Nat.reduceMul, Nat.reduceLeDiff, hs, hX, h4, h0, hr, hqi, hw]
      exact ih
def gZ (φ : Nat → Nat) (n i : Nat) : List (List Int) := (heads φ i).map fun h => zs (grpN φ n h)
theorem gZ_self (φ : Nat → Nat) (n : Nat) : gZ φ n n = grpZ φ n := rfl
theorem gZ_len (φ : Nat → Nat) (n i : Nat) : (gZ φ n i).length = (heads φ i).length := by simp [gZ]
theorem l29 {V : AV} {L : List (List Tk)} {sh : List (List AV)} (hV : LV V sh L) (φ : Nat → Nat) (hn : L.length ≤ 100000) : ∀ (k i : Nat) (b : Bool), i + k = L.length →
    ∃ b', execX G0 L29_1 (ST [(0, V), (3, .sl (md b) 1 (gls (gZ φ L.length i))), (4, .sl .no 1 (ints (fsZ φ L.length))), (11, .int .i64 L.length), (12, .int .i64 i)] [] sh) = some (.ex 0, ST [(0, V), (3, .sl (md b') 1 (gls (gZ φ L.length L.length))), (4, .sl .no 1 (ints (fsZ φ L.length))), (11, .int .i64 L.length), (12, .int .i64 L.length), (13, .bool false)] [] sh)
  | 0, i, b, h => by
    have : i = L.length := by omega
    subst this
    refine ⟨b, ?_⟩
    have hs := hV.scrub
    rw [Y_loop (L := L29_1) rfl]
    simp only [go_sem, op, mv, ↓reduceIte, Nat.reduceAdd, Nat.reduceEqDiff, Nat.reduceLT, Int.reduceNeg, Int.cast_ofNat_Int, Int.reduceLT, Int.reduceAdd, Int.reduceSub, Int.reduceLE, Int.reduceEq, Int.reduceToNat, Nat.reduceSub, Nat.reduceMul, Nat.reduceLeDiff, hs, Int.lt_irrefl]
  | k + 1, i, b, h => by
    have h4 : (i : Int) < (L.length : Int) := by omega
    have h0 : (0 : Int) ≤ (i : Int) := by omega
    have hw : IntKind.i64.wrap ((i : Int) + 1) = ((i + 1 : Nat) : Int) := by rw [w64 (by omega) (by omega)]; rfl
    have hr := ints_at (fsZ_at φ (show i < L.length by omega))
    have hs := hV.scrub
    have hdv := hV.dem
    have hlen := hV.len
    by_cases hq : φ i = i
    · have hqi : ((φ i : Nat) : Int) = (i : Int) := by omega
      obtain ⟨b', ih⟩ := l29 hV φ hn k (i + 1) true (by omega)
      have eg : gZ φ L.length (i + 1) = gZ φ L.length i ++ [zs (grpN φ L.length i)] := by
        unfold gZ; rw [heads_s, if_pos hq, List.map_append]; rfl
      have hin := l29a hs sh φ L.length hn (.sl (md b) 1 (gls (gZ φ L.length i))) (fun _ => rfl) i L.length 0 (by omega)
      have ec : ((0 : Nat) : Int) = 0 := rfl
      have e0 : zs (grpN φ 0 i) = [] := rfl
      have e1 : md true = .own := rfl
      have e2 : md false = .full := rfl
      have hne : neB (zs (grpN φ L.length i)) = true := by
        have : i ∈ grpN φ L.length i := mem_grpN.2 ⟨by omega, hq⟩
        cases hg : grpN φ L.length i with
        | nil => rw [hg] at this; cases this
        | cons a r => rfl
      rw [ec, e0, neB_nil, e2, hne, e1, ints_nil] at hin
      rw [eg, e1] at ih
      have hgl := heads_le φ i
      have ha := app_g b (gZ φ L.length i) (zs (grpN φ L.length i)) (by rw [gZ_len]; omega)
      generalize zs (grpN φ L.length i) = g at *
      refine ⟨b', ?_⟩
      rw [Y_loop (L := L29_1) rfl]
      simp only [go_sem, op, mv, ↓reduceIte, Nat.reduceAdd, Nat.reduceEqDiff, Nat.reduceLT, Int.reduceNeg, Int.cast_ofNat_Int, Int.reduceLT, Int.reduceAdd, Int.reduceSub, Int.reduceLE, Int.reduceEq, Int.reduceToNat, Nat.reduceSub, Nat.reduceMul, Nat.reduceLeDiff, hs, hdv, hlen, h4, h0, hr, hqi, hw, hin, mksN, ha]
      exact ih
    · have hqi : ¬ ((φ i : Nat) : Int) = (i : Int) := by omega
      obtain ⟨b', ih⟩ := l29 hV φ hn k (i + 1) b (by omega)
      have eg : gZ φ L.length (i + 1) = gZ φ L.length i := by
        unfold gZ; rw [heads_s, if_neg hq, List.append_nil]
      rw [eg] at ih
      refine ⟨b', ?_⟩
      rw [Y_loop (L := L29_1) rfl]
      simp only [go_sem, op, mv, ↓reduceIte, Nat.reduceAdd, Nat.reduceEqDiff, Nat.reduceLT, Int.reduceNeg, Int.cast_ofNat_Int, Int.reduceLT, Int.reduceAdd, Int.reduceSub, Int.reduceLE, Int.reduceEq, Int.reduceToNat, Nat.reduceSub, Nat.reduceMul, Nat.reduceLeDiff, hs, hdv, hlen, h4, h0, hr, hqi, hw]
      exact ih
theorem firstG_fsZ (L : List (List Tk)) : firstG L = fsZ (phi L) L.length := firstG_phi L
theorem c29 {V : AV} {sh : List (List AV)} {L : List (List Tk)} (hV : LV V sh L) (hR : RokS sh) (hL : L.length ≤ 100000) (hb : ∀ f ∈ L, small f) : G0 29 [V] sh = some (.sl .no 1 (gls (grpZ (phi L) L.length)), sh) := by
  obtain ⟨b', x⟩ := l29 hV (phi L) hL L.length 0 false (by omega)
  have ec : ((0 : Nat) : Int) = 0 := rfl
  have e2 : md false = .full := rfl
  have e3 : gls (gZ (phi L) L.length 0) = [] := rfl
  rw [ec, e2, e3, gZ_self] at x
  have h26 := c26 hV hR hL hb
  rw [firstG_fsZ] at h26
  have hs := hV.scrub
  have hdv := hV.dem
  have hlen := hV.len
  have harg := hV.arg
  have hRs := hR.self
  refine contract F29 rfl rfl rfl ?_
  simp only [F29, go_sem, op, mv, ↓reduceIte, Nat.reduceAdd, Nat.reduceEqDiff, Nat.reduceLT, Int.reduceNeg, Int.cast_ofNat_Int, Int.reduceLT, Int.reduceAdd, Int.reduceSub, Int.reduceLE, Int.reduceEq, Int.reduceToNat, Nat.reduceSub, Nat.reduceMul, Nat.reduceLeDiff, hs, hdv, hlen, h26, x, harg, demV_md, demV_mdn, hRs, List.take_length]
theorem GS.arg {q : Nat} {v : AV} {E : List (List AV)} {G : List (List Int)} (h : GS q v E G) : argB true v = true := by
  rcases h with ⟨_, rfl, _⟩ | ⟨o, I, rfl, _⟩ <;> rfl
theorem l27 {S : List (List AV)} {Mp : List AV} {v : AV} {E : List (List AV)} {G : List (List Int)} (hG : GS S.length v E G) (G2 : List (List Int)) (he : G.length = G2.length) (hl : G.length ≤ 100000) (hgl : ∀ g ∈ G, g.length ≤ 1000000) : ∀ (k j : Nat), j + k = G.length →
    (G.drop j = G2.drop j → execX G0 L27_0 (ST [(0, v), (1, .sl .no 1 (gls G2)), (10, .bool false), (12, .int .i64 G.length), (13, .int .i64 j)] [] (S ++ (Mp :: E))) = some (.ex 0, ST [(0, v), (1, .sl .no 1 (gls G2)), (10, .bool false), (12, .int .i64 G.length), (13, .int .i64 G.length), (14, .bool false)] [] (S ++ (Mp :: E)))) ∧
    (G.drop j ≠ G2.drop j → ∃ l', execX G0 L27_0 (ST [(0, v), (1, .sl .no 1 (gls G2)), (10, .bool false), (12, .int .i64 G.length), (13, .int .i64 j)] [] (S ++ (Mp :: E))) = some (.ret, ST l' [] (S ++ (Mp :: E))) ∧ look .any l' 4 = .bool false)
  | 0, j, h => by
    have : j = G.length := by omega
    subst this
    have hs := hG.scrub
    refine ⟨fun _ => ?_, fun q => absurd (by rw [List.drop_length, he, List.drop_length]) q⟩
    rw [Y_loop (L := L27_0) rfl]
    simp only [go_sem, op, mv, ↓reduceIte, Nat.reduceAdd, Nat.reduceEqDiff, Nat.reduceLT, Int.reduceNeg, Int.cast_ofNat_Int, Int.reduceLT, Int.reduceAdd, Int.reduceSub, Int.reduceLE, Int.reduceEq, Int.reduceToNat, Nat.reduceSub, Nat.reduceMul, Nat.reduceLeDiff, hs, Int.lt_irrefl]
  | k + 1, j, h => by
    have hi : j < G.length := by omega
    have h4 : (j : Int) < (G.length : Int) := by omega
    have h0 : (0 : Int) ≤ (j : Int) := by omega
    have hw : IntKind.i64.wrap ((j : Int) + 1) = ((j + 1 : Nat) : Int) := by rw [w64 (by omega) (by omega)]; rfl
    have hg : G[j]? = some G[j] := List.getElem?_eq_getElem hi
    have hd : G.drop j = G[j] :: G.drop (j + 1) := List.drop_eq_getElem_cons hi
    have hgb := hgl _ (List.getElem_mem hi)
    generalize G[j] = g at hg hd hgb
    have hg2 : G2[j]? = some G2[j] := List.getElem?_eq_getElem (by omega)
    have hd2 : G2.drop j = G2[j] :: G2.drop (j + 1) := List.drop_eq_getElem_cons (by omega)
    generalize G2[j] = g2 at hg2 hd2
    have hr2 := gls_at hg2
    obtain ⟨P, o, q1, q2, q3⟩ := hG.read (Mp := Mp) hg
    have hsn : snapV (S ++ (Mp :: E)) (.ss o 0 g.length 1) = some (.sl .no 1 (ints g)) := by
      show ((S ++ (Mp :: E))[o]?).bind (fun cells => (rowsC 0 g.length 1 cells).map fun l => AV.sl .no 1 l) = _
      rw [q3, Option.bind_some, rowsC_icl]; rfl
    have h24 := c24 g g2 hgb
    have hs := hG.scrub
    have hdv := hG.dem
    have ih := l27 hG (Mp := Mp) G2 he hl hgl k (j + 1) (by omega)
    rw [hd, hd2]
    by_cases hE : g = g2
    · subst hE
      rw [decide_eq_true rfl] at h24
      have step : execX G0 L27_0 (ST [(0, v), (1, .sl .no 1 (gls G2)), (10, .bool false), (12, .int .i64 G.length), (13, .int .i64 j)] [] (S ++ (Mp :: E))) = execX G0 L27_0 (ST [(0, v), (1, .sl .no 1 (gls G2)), (10, .bool false), (12, .int .i64 G.length), (13, .int .i64 ((j + 1 : Nat) : Int))] [] (S ++ (Mp :: E))) := by
        conv => lhs; rw [Y_loop (L := L27_0) rfl]
        simp only [go_sem, op, mv, ↓reduceIte, Nat.reduceAdd, Nat.reduceEqDiff, Nat.reduceLT, Int.reduceNeg, Int.cast_ofNat_Int, Int.reduceLT, Int.reduceAdd, Int.reduceSub, Int.reduceLE, Int.reduceEq, Int.reduceToNat, Nat.reduceSub, Nat.reduceMul, Nat.reduceLeDiff, hs, hdv, h4, h0, q1, q2, hr2, hsn, h24, hw]
      rw [step]
      refine ⟨fun q => ih.1 (by injection q), fun q => ih.2 (fun z => q (by rw [z]))⟩
    · rw [decide_eq_false hE] at h24
      refine ⟨fun q => absurd (by injection q) hE, fun _ => ?_⟩
      refine Exists.intro ?_ (And.intro ?_ ?_)
      rotate_left 1
      · rw [Y_loop (L := L27_0) rfl]
        simp only [go_sem, op, mv, ↓reduceIte, Nat.reduceAdd, Nat.reduceEqDiff, Nat.reduceLT, Int.reduceNeg, Int.cast_ofNat_Int, Int.reduceLT, Int.reduceAdd, Int.reduceSub, Int.reduceLE, Int.reduceEq, Int.reduceToNat, Nat.reduceSub, Nat.reduceMul, Nat.reduceLeDiff, hs, hdv, h4, h0, q1, q2, hr2, hsn, h24, hw]
        rfl
      · rfl
theorem c27 {S : List (List AV)} {Mp : List AV} {v : AV} {E : List (List AV)} {G : List (List Int)} (hG : GS S.length v E G) (hR : RokS (S ++ (Mp :: E))) (G2 : List (List Int)) (hl : G.length ≤ 100000) (hgl : ∀ g ∈ G, g.length ≤ 1000000) : G0 27 [v, .sl .no 1 (gls G2)] (S ++ (Mp :: E)) = some (.bool (decide (G = G2)), S ++ (Mp :: E)) := by
  have hs := hG.scrub
  have hdv := hG.dem
  have hlen := hG.len
  have harg := hG.arg
  have hRs := hR.self
  refine contract F27 rfl rfl rfl ?_
  by_cases hab : G.length = G2.length
  · have hab' : (G.length : Int) = (G2.length : Int) := by omega
    obtain ⟨x1, x2⟩ := l27 hG (Mp := Mp) G2 hab hl hgl G.length 0 (by omega)
    have ec : ((0 : Nat) : Int) = 0 := rfl
    rw [List.drop_zero, List.drop_zero, ec] at x1 x2
    rw [hab'] at x1 x2 hlen
    by_cases h : G = G2
    · rw [decide_eq_true h]
      have y := x1 h
      simp only [F27, go_sem, op, mv, ↓reduceIte, Nat.reduceAdd, Nat.reduceEqDiff, Nat.reduceLT, Int.reduceNeg, Int.cast_ofNat_Int, Int.reduceLT, Int.reduceAdd, Int.reduceSub, Int.reduceLE, Int.reduceEq, Int.reduceToNat, Nat.reduceSub, Nat.reduceMul, Nat.reduceLeDiff, hs, hdv, hlen, harg, gls_len, y, hRs, List.take_length]
    · rw [decide_eq_false h]
      obtain ⟨l', y1, y2⟩ := x2 h
      simp only [F27, go_sem, op, mv, ↓reduceIte, Nat.reduceAdd, Nat.reduceEqDiff, Nat.reduceLT, Int.reduceNeg, Int.cast_ofNat_Int, Int.reduceLT, Int.reduceAdd, Int.reduceSub, Int.reduceLE, Int.reduceEq, Int.reduceToNat, Nat.reduceSub, Nat.reduceMul, Nat.reduceLeDiff, hs, hdv, hlen, harg, gls_len, y1, y2, hRs, List.take_length]
  · have hab' : ¬ (G.length : Int) = (G2.length : Int) := by omega
    have h : ¬ G = G2 := fun q => hab (by rw [q])
    rw [decide_eq_false h]
    simp only [F27, go_sem, op, mv, ↓reduceIte, Nat.reduceAdd, Nat.reduceEqDiff, Nat.reduceLT, Int.reduceNeg, Int.cast_ofNat_Int, Int.reduceLT, Int.reduceAdd, Int.reduceSub, Int.reduceLE, Int.reduceEq, Int.reduceToNat, Nat.reduceSub, Nat.reduceMul, Nat.reduceLeDiff, hs, hdv, hlen, harg, gls_len, hab', hRs, List.take_length]
end Go.Av
