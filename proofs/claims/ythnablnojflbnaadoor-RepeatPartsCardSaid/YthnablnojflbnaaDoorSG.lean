/- The law of the parts: the groups are a partition in order. -/
import Derived.Test.YthnablnojflbnaaDoorSF
set_option linter.unusedSimpArgs false
set_option linter.unusedVariables false
namespace Go.Av
open Go.Nt
set_option linter.unusedSimpArgs false
set_option linter.unusedVariables false
set_option maxHeartbeats 16000000
set_option maxRecDepth 100000
/-! counts that are nought or one -/
def cOf (n : Nat) (P : Nat → Bool) : List Int := (List.range n).map fun x => if P x = true then 1 else 0
theorem cOf_len (n : Nat) (P : Nat → Bool) : (cOf n P).length = n := by simp [cOf]
theorem cOf_at {n x : Nat} (h : x < n) (P : Nat → Bool) : (icl (cOf n P))[x]? = some (.int .i64 (if P x = true then 1 else 0)) := by
  unfold icl cOf
  rw [List.getElem?_map, List.getElem?_map, List.getElem?_range h]; rfl
theorem cOf_ext {n : Nat} {P Q : Nat → Bool} (h : ∀ x, x < n → P x = Q x) : cOf n P = cOf n Q := by
  unfold cOf
  apply List.map_congr_left
  intro x hx
  rw [h x (List.mem_range.1 hx)]
theorem cOf_put {n x : Nat} (h : x < n) (P : Nat → Bool) : putC x [.int .i64 1] (icl (cOf n P)) = some (icl (cOf n fun y => P y || y == x)) := by
  rw [putC_set (by rw [icl_len, cOf_len]; exact h)]
  congr 1
  apply List.ext_getElem?
  intro i
  rw [List.getElem?_set, icl_len, cOf_len]
  by_cases hi : i < n
  · rw [cOf_at hi, cOf_at hi]
    by_cases e : x = i
    · subst e; rw [if_pos rfl, if_pos hi]; simp
    · rw [if_neg e]
      have : (i == x) = false := by simpa using Ne.symm e
      rw [this, Bool.or_false]
  · have n1 : ∀ Q, (icl (cOf n Q))[i]? = none := fun Q => List.getElem?_eq_none (by rw [icl_len, cOf_len]; omega)
    rw [n1, n1]
    by_cases e : x = i
    · omega
    · rw [if_neg e]
theorem cOf_zero (n : Nat) : List.replicate n (AV.int .i64 0) = icl (cOf n fun _ => false) := by
  unfold icl cOf
  rw [List.map_map]
  apply List.ext_getElem?
  intro i
  rw [List.getElem?_replicate, List.getElem?_map]
  by_cases h : i < n
  · rw [if_pos h, List.getElem?_range h]; rfl
  · rw [if_neg h, List.getElem?_eq_none (by simp; omega)]; rfl
section
variable {A : List (List AV)} {T : List (List AV)}
theorem cA (c : List AV) : ((A ++ [c]) ++ T)[A.length]? = some c := by
  rw [List.append_assoc, List.getElem?_append_right (Nat.le_refl _), Nat.sub_self]; rfl
theorem cS (c x : List AV) : ((A ++ [c]) ++ T).set A.length x = (A ++ [x]) ++ T := by
  rw [List.append_assoc, List.set_append_right _ _ (Nat.le_refl _), Nat.sub_self, List.append_assoc]; rfl
end
theorem grpN_sorted (φ : Nat → Nat) (n h : Nat) : (grpN φ n h).Pairwise (· < ·) := List.pairwise_lt_range.filter _
theorem heads_sorted (φ : Nat → Nat) (n : Nat) : (heads φ n).Pairwise (· < ·) := List.pairwise_lt_range.filter _
theorem grpN_first {φ : Nat → Nat} (h1 : ∀ i, φ i ≤ i) {n h : Nat} (hh : h ∈ heads φ n) : (grpN φ n h)[0]? = some h := by
  obtain ⟨a, b⟩ := mem_heads.1 hh
  have hm : h ∈ grpN φ n h := mem_grpN.2 ⟨a, b⟩
  have hp := grpN_sorted φ n h
  have hall : ∀ x ∈ grpN φ n h, h ≤ x := fun x hx => by
    have := (mem_grpN.1 hx).2
    have := h1 x
    omega
  cases hg : grpN φ n h with
  | nil => rw [hg] at hm; cases hm
  | cons x r =>
    rw [hg] at hm hp hall
    rcases List.mem_cons.1 hm with e | e
    · rw [← e]; rfl
    · have := (List.pairwise_cons.1 hp).1 h e
      have := hall x (List.mem_cons_self ..)
      omega
theorem zs_at {l : List Nat} {i x : Nat} (h : l[i]? = some x) : (zs l)[i]? = some (x : Int) := by
  unfold zs; rw [List.getElem?_map, h]; rfl
theorem icl_at {l : List Int} {i : Nat} {x : Int} (h : l[i]? = some x) : (icl l)[i]? = some (.int .i64 x) := by
  unfold icl; rw [List.getElem?_map, h]; rfl
/-- one group: its elements are in order, have its head as their first, and are counted -/
theorem l5a {A : List (List AV)} {Mp : List AV} {E : List (List AV)} {v w C W : AV} (φ : Nat → Nat) (n : Nat) (p : List Nat) (h a Gn gi : Nat) (hn : n ≤ 100000) (hpl : p.length ≤ 100000)
    (hv : ∀ k, scrubV k v = v) (hvd : demV v = v) (hvl : lenA' false v = some (.int .i64 (n : Int))) (hw : ∀ k, scrubV k w = w)
    (hC : C = .ss A.length 0 n 1) (hW : W = .ss (A.length + 1 + 1 + a) 0 p.length 1) (hE : E[a]? = some (icl (zs p))) (hp : ∀ x ∈ p, x < n ∧ φ x = h) (hs : p.Pairwise (· < ·)) (h0p : p[0]? = some h) : ∀ (k t : Nat) (P : Nat → Bool), t + k = p.length → (∀ x ∈ p.drop t, P x = false) →
    execX G0 L5_0 (ST [(3, v), (4, .sl .no 1 (ints (fsZ φ n))), (5, C), (6, .int .i64 h), (8, W), (14, .bool false), (24, .bool false), (29, w), (30, .int .i64 Gn), (31, .int .i64 gi), (32, .bool true), (44, .bool false), (48, W), (49, .int .i64 p.length), (50, .int .i64 t)] [] ((A ++ [icl (cOf n P)]) ++ (Mp :: E))) = some (.ex 2, ST [(3, v), (4, .sl .no 1 (ints (fsZ φ n))), (5, C), (6, .int .i64 h), (8, W), (14, .bool false), (24, .bool false), (29, w), (30, .int .i64 Gn), (31, .int .i64 gi), (32, .bool true), (44, .bool false), (48, W), (49, .int .i64 p.length), (50, .int .i64 p.length), (51, .bool false)] [] ((A ++ [icl (cOf n fun y => P y || (p.drop t).contains y)]) ++ (Mp :: E)))
  | 0, t, P, hk, hP => by
    have : t = p.length := by omega
    subst this
    have e : (fun y => P y || (p.drop p.length).contains y) = P := by
      funext y; rw [List.drop_length]; simp
    have hWs : ∀ k, scrubV k W = W := fun _ => by rw [hW]; rfl
    have hCs : ∀ k, scrubV k C = C := fun _ => by rw [hC]; rfl
    rw [e, Y_loop (L := L5_0) rfl]
    simp only [go_sem, op, mv, ↓reduceIte, Nat.reduceAdd, Nat.reduceEqDiff, Nat.reduceLT, Int.reduceNeg, Int.cast_ofNat_Int, Int.reduceLT, Int.reduceAdd, Int.reduceSub, Int.reduceLE, Int.reduceEq, Int.reduceToNat, Nat.reduceSub, Nat.reduceMul, Nat.reduceLeDiff, hv, hw, hWs, hCs, Int.lt_irrefl]
  | k + 1, t, P, hk, hP => by
    have hi : t < p.length := by omega
    have h4 : (t : Int) < (p.length : Int) := by omega
    have h0 : (0 : Int) ≤ (t : Int) := by omega
    have hww : IntKind.i64.wrap ((t : Int) + 1) = ((t + 1 : Nat) : Int) := by rw [w64 (by omega) (by omega)]; rfl
    have hg : p[t]? = some p[t] := List.getElem?_eq_getElem hi
    have hd : p.drop t = p[t] :: p.drop (t + 1) := List.drop_eq_getElem_cons hi
    obtain ⟨x1, x2⟩ := hp _ (List.getElem_mem hi)
    have hprev : ∀ q : 0 < t, p[t - 1]'(by omega) < p[t] := fun q => List.pairwise_iff_getElem.1 hs (t - 1) t (by omega) hi (by omega)
    have hds : (p.drop t).Pairwise (· < ·) := hs.sublist (List.drop_sublist _ _)
    rw [hd] at hds hP
    have hnin := (List.pairwise_cons.1 hds).1
    have hprev' : ∀ q : 0 < t, ∃ y, p[t - 1]? = some y ∧ y < p[t] := fun q => ⟨_, List.getElem?_eq_getElem (by omega), hprev q⟩
    generalize p[t] = x at hg hd x1 x2 hP hnin hprev'
    have hx0 : P x = false := hP x (List.mem_cons_self ..)
    have hWs : ∀ k, scrubV k W = W := fun _ => by rw [hW]; rfl
    have hCs : ∀ k, scrubV k C = C := fun _ => by rw [hC]; rfl
    have hWd : demV W = W := by rw [hW]; rfl
    have hCd : demV C = C := by rw [hC]; rfl
    -- reading the group
    have rdW : ∀ (i y : Nat), p[i]? = some y → ∃ Q, iaK 1 W (.int .i64 (i : Int)) = some Q ∧ ∀ m, ldA .sh false 1 m ((A ++ [icl (cOf n P)]) ++ (Mp :: E)) Q = some (.int .i64 (y : Int)) := by
      intro i y hy
      have hyl := lt_of hy
      refine ⟨.ptr (A.length + 1 + 1 + a) i, ?_, fun m => ?_⟩
      · rw [hW, iaK_ss, if_pos (by omega), Int.toNat_natCast]; simp
      · have e := sg (S := A ++ [icl (cOf n P)]) (Mp := Mp) (E := E) a
        rw [List.length_append, List.length_singleton, hE] at e
        rw [ldA_ptr, e]
        simp only [Option.bind_some, ldC, Bool.false_eq_true, if_false, icl_at (zs_at hy)]
        rfl
    obtain ⟨Q, b1, b2⟩ := rdW t x hg
    obtain ⟨Q0, b3, b4⟩ := rdW 0 h h0p
    have ec : ((0 : Nat) : Int) = 0 := rfl
    rw [ec] at b3
    obtain ⟨Qc, c1, c2, c3⟩ : ∃ Qc, iaK 1 C (.int .i64 (x : Int)) = some Qc ∧ (∀ m, ldA .sh false 1 m ((A ++ [icl (cOf n P)]) ++ (Mp :: E)) Qc = some (.int .i64 0)) ∧ ∀ l m, stX .sh 1 l m ((A ++ [icl (cOf n P)]) ++ (Mp :: E)) Qc (some [.int .i64 1]) = some (ST l m ((A ++ [icl (cOf n fun y => P y || y == x)]) ++ (Mp :: E))) := by
      refine ⟨.ptr A.length x, ?_, fun m => ?_, fun l m => ?_⟩
      · rw [hC, iaK_ss, if_pos (by omega), Int.toNat_natCast]; simp
      · have ex := cOf_at x1 P
        rw [hx0] at ex
        rw [ldA_ptr, cA]
        simp only [Option.bind_some, ldC, Bool.false_eq_true, if_false, ex]
        rfl
      · rw [stX_ptr, cA]
        simp only [Option.bind_some]
        rw [if_pos (icl_blk _), cOf_put x1, Option.map_some, cS]
    have hr := ints_at (fsZ_at φ x1)
    rw [x2] at hr
    have x0 : (0 : Int) ≤ (x : Int) := by omega
    have x0' : ¬ (x : Int) < 0 := by omega
    have x1' : ¬ (n : Int) ≤ (x : Int) := by omega
    have hw1 : IntKind.i64.wrap 1 = 1 := w64 (by omega) (by omega)
    have ih := l5a (A := A) (Mp := Mp) φ n p h a Gn gi hn hpl hv hvd hvl hw hC hW hE hp hs h0p k (t + 1) (fun y => P y || y == x) (by omega) (fun y hy => by
      have e1 := hP y (List.mem_cons_of_mem _ hy)
      have e2 := hnin y hy
      have e3 : (y == x) = false := by simp; omega
      simp only [e1, e3, Bool.or_false])
    have eP : (fun y => P y || (p.drop t).contains y) = fun y => (P y || y == x) || (p.drop (t + 1)).contains y := by
      funext y; rw [hd, List.contains_cons, Bool.or_assoc]
    rw [eP]
    by_cases ht : 0 < t
    · have ht' : (0 : Int) < (t : Int) := by omega
      obtain ⟨y, hy, hyx⟩ := hprev' ht
      obtain ⟨Qp, d1, d2⟩ := rdW (t - 1) y hy
      have hw2 : IntKind.i64.wrap ((t : Int) - 1) = ((t - 1 : Nat) : Int) := by rw [w64 (by omega) (by omega)]; omega
      have hyx' : ¬ (x : Int) ≤ (y : Int) := by omega
      rw [Y_loop (L := L5_0) rfl]
      simp only [go_sem, op, mv, ↓reduceIte, Nat.reduceAdd, Nat.reduceEqDiff, Nat.reduceLT, Int.reduceNeg, Int.cast_ofNat_Int, Int.reduceLT, Int.reduceAdd, Int.reduceSub, Int.reduceLE, Int.reduceEq, Int.reduceToNat, Nat.reduceSub, Nat.reduceMul, Nat.reduceLeDiff, hv, hvd, hvl, hw, hWs, hCs, hWd, hCd, h4, h0, hww, b1, b2, b3, b4, c1, c2, c3, hr, x0, x0', x1', hw1, ht', hw2, d1, d2, hyx']
      exact ih
    · have ht' : ¬ (0 : Int) < (t : Int) := by omega
      rw [Y_loop (L := L5_0) rfl]
      simp only [go_sem, op, mv, ↓reduceIte, Nat.reduceAdd, Nat.reduceEqDiff, Nat.reduceLT, Int.reduceNeg, Int.cast_ofNat_Int, Int.reduceLT, Int.reduceAdd, Int.reduceSub, Int.reduceLE, Int.reduceEq, Int.reduceToNat, Nat.reduceSub, Nat.reduceMul, Nat.reduceLeDiff, hv, hvd, hvl, hw, hWs, hCs, hWd, hCd, h4, h0, hww, b1, b2, b3, b4, c1, c2, c3, hr, x0, x0', x1', hw1, ht']
      exact ih
theorem GS.read2 {q : Nat} {v : AV} {E : List (List AV)} {G : List (List Int)} (h : GS q v E G) {j : Nat} {g : List Int} (hg : G[j]? = some g) :
    ∃ P a, iaK 1 v (.int .i64 (j : Int)) = some P ∧ E[a]? = some (icl g) ∧ ∀ (S : List (List AV)) (Mp : List AV) m, S.length = q → ldA .sh false 1 m (S ++ (Mp :: E)) P = some (.ss (q + 1 + a) 0 g.length 1) := by
  have hjl := lt_of hg
  rcases h with ⟨rfl, _, _⟩ | ⟨o, I, rfl, h1, h2, h3, h4, h5, h6⟩
  · simp at hjl
  obtain ⟨a, ha⟩ := I_at h1 hjl
  refine ⟨.ptr (q + 1 + o) j, a, ?_, h5 j a g ha hg, fun S Mp m hS => ?_⟩
  · rw [iaK_ss, if_pos (by omega), Int.toNat_natCast]; simp
  · subst hS
    rw [ldA_ptr, sg, h2]
    simp only [Option.bind_some, ldC, Bool.false_eq_true, if_false, cellG_at ha hg]
    rfl
theorem l5b {A : List (List AV)} {Mp : List AV} {E : List (List AV)} {v w C : AV} (φ : Nat → Nat) (hφ : ∀ i, φ i ≤ i) (n : Nat) (hn : n ≤ 100000)
    (hv : ∀ k, scrubV k v = v) (hvd : demV v = v) (hvl : lenA' false v = some (.int .i64 (n : Int))) (hG : GS (A.length + 1) w E (grpZ φ n)) (hC : C = .ss A.length 0 n 1) : ∀ (k gi : Nat) (last : Int) (P : Nat → Bool), gi + k = (heads φ n).length → (∀ h ∈ (heads φ n).drop gi, last < (h : Int)) → (∀ x, x < n → φ x ∈ (heads φ n).drop gi → P x = false) →
    ∃ Pf last', (∀ y, y < n → (P y = true ∨ φ y ∈ (heads φ n).drop gi) → Pf y = true) ∧ execX G0 L5_1 (ST [(3, v), (4, .sl .no 1 (ints (fsZ φ n))), (5, C), (6, .int .i64 last), (14, .bool false), (24, .bool false), (29, w), (30, .int .i64 (heads φ n).length), (31, .int .i64 gi)] [] ((A ++ [icl (cOf n P)]) ++ (Mp :: E))) = some (.ex 0, ST [(3, v), (4, .sl .no 1 (ints (fsZ φ n))), (5, C), (6, .int .i64 last'), (14, .bool false), (24, .bool false), (29, w), (30, .int .i64 (heads φ n).length), (31, .int .i64 (heads φ n).length), (32, .bool false)] [] ((A ++ [icl (cOf n Pf)]) ++ (Mp :: E)))
  | 0, gi, last, P, hk, _, hP => by
    have : gi = (heads φ n).length := by omega
    subst this
    have hCs : ∀ k, scrubV k C = C := fun _ => by rw [hC]; rfl
    have hw := hG.scrub
    refine ⟨P, last, fun y hy q => ?_, ?_⟩
    · rcases q with q | q
      · exact q
      · rw [List.drop_length] at q; cases q
    rw [Y_loop (L := L5_1) rfl]
    simp only [go_sem, op, mv, ↓reduceIte, Nat.reduceAdd, Nat.reduceEqDiff, Nat.reduceLT, Int.reduceNeg, Int.cast_ofNat_Int, Int.reduceLT, Int.reduceAdd, Int.reduceSub, Int.reduceLE, Int.reduceEq, Int.reduceToNat, Nat.reduceSub, Nat.reduceMul, Nat.reduceLeDiff, hv, hw, hCs, Int.lt_irrefl]
  | k + 1, gi, last, P, hk, hlast, hP => by
    have hi : gi < (heads φ n).length := by omega
    have hhl := heads_le φ n
    have h4 : (gi : Int) < ((heads φ n).length : Int) := by omega
    have h0 : (0 : Int) ≤ (gi : Int) := by omega
    have hww : IntKind.i64.wrap ((gi : Int) + 1) = ((gi + 1 : Nat) : Int) := by rw [w64 (by omega) (by omega)]; rfl
    have hg : (heads φ n)[gi]? = some (heads φ n)[gi] := List.getElem?_eq_getElem hi
    have hd : (heads φ n).drop gi = (heads φ n)[gi] :: (heads φ n).drop (gi + 1) := List.drop_eq_getElem_cons hi
    have hmem := List.getElem_mem hi
    have hds : ((heads φ n).drop gi).Pairwise (· < ·) := (heads_sorted φ n).sublist (List.drop_sublist _ _)
    rw [hd] at hds hP hlast
    rw [hd]
    have hrest := (List.pairwise_cons.1 hds).1
    generalize (heads φ n)[gi] = h at hg hd hmem hds hP hlast hrest
    have hlh := hlast h (List.mem_cons_self ..)
    have hgz : (grpZ φ n)[gi]? = some (zs (grpN φ n h)) := by unfold grpZ; rw [List.getElem?_map, hg]; rfl
    obtain ⟨P0, a, q1, hE, q2⟩ := hG.read2 hgz
    have q2 := fun m => q2 (A ++ [icl (cOf n P)]) Mp m (by simp)
    have h0p := grpN_first hφ hmem
    have hpl := grpN_le φ n h
    have hin := l5a (A := A) (Mp := Mp) (E := E) (v := v) (w := w) (C := C) (W := .ss (A.length + 1 + 1 + a) 0 (grpN φ n h).length 1) φ n (grpN φ n h) h a (heads φ n).length gi hn (by omega) hv hvd hvl hG.scrub hC rfl hE (fun x hx => mem_grpN.1 hx) (grpN_sorted φ n h) h0p (grpN φ n h).length 0 P (by omega) (fun x hx => by
      rw [List.drop_zero] at hx
      obtain ⟨e1, e2⟩ := mem_grpN.1 hx
      exact hP x e1 (by rw [e2]; exact List.mem_cons_self ..))
    rw [List.drop_zero] at hin
    have ec : ((0 : Nat) : Int) = 0 := rfl
    rw [ec] at hin
    rw [zs_len] at q2
    have hpos := lt_of h0p
    obtain ⟨Q0, b3, b4⟩ : ∃ Q, iaK 1 (.ss (A.length + 1 + 1 + a) 0 (grpN φ n h).length 1) (.int .i64 0) = some Q ∧ ∀ m, ldA .sh false 1 m ((A ++ [icl (cOf n P)]) ++ (Mp :: E)) Q = some (.int .i64 (h : Int)) := by
      refine ⟨.ptr (A.length + 1 + 1 + a) 0, ?_, fun m => ?_⟩
      · rw [iaK_ss, if_pos (by omega)]; simp
      · have e := sg (S := A ++ [icl (cOf n P)]) (Mp := Mp) (E := E) a
        rw [List.length_append, List.length_singleton, hE] at e
        rw [ldA_ptr, e]
        simp only [Option.bind_some, ldC, Bool.false_eq_true, if_false, icl_at (zs_at h0p)]
        rfl
    have hWs : ∀ k, scrubV k (.ss (A.length + 1 + 1 + a) 0 (grpN φ n h).length 1) = .ss (A.length + 1 + 1 + a) 0 (grpN φ n h).length 1 := fun _ => rfl
    have hWd : demV (.ss (A.length + 1 + 1 + a) 0 (grpN φ n h).length 1) = .ss (A.length + 1 + 1 + a) 0 (grpN φ n h).length 1 := rfl
    have hWl : lenA' false (.ss (A.length + 1 + 1 + a) 0 (grpN φ n h).length 1) = some (.int .i64 ((grpN φ n h).length : Int)) := rfl
    generalize AV.ss (A.length + 1 + 1 + a) 0 (grpN φ n h).length 1 = W at *
    have hne : ¬ ((grpN φ n h).length : Int) = 0 := by omega
    have hlh' : ¬ (h : Int) ≤ last := by omega
    have hCs : ∀ k, scrubV k C = C := fun _ => by rw [hC]; rfl
    have hw := hG.scrub
    have hcon : ∀ y, y < n → (grpN φ n h).contains y = decide (φ y = h) := fun y hy => by
      rw [Bool.eq_iff_iff, List.contains_iff_mem, mem_grpN, decide_eq_true_iff]
      exact ⟨fun q => q.2, fun q => ⟨hy, q⟩⟩
    obtain ⟨Pf, last', i1, i2⟩ := l5b (A := A) (Mp := Mp) (E := E) φ hφ n hn hv hvd hvl hG hC k (gi + 1) (h : Int) (fun y => P y || (grpN φ n h).contains y) (by omega) (fun h' hh' => by have := hrest h' hh'; omega) (fun x hx hm => by
      have e1 := hP x hx (List.mem_cons_of_mem _ hm)
      have e2 := hrest _ hm
      rw [hcon x hx, e1, Bool.false_or, decide_eq_false_iff_not]
      omega)
    refine ⟨Pf, last', fun y hy q => i1 y hy ?_, ?_⟩
    · rcases q with q | q
      · exact .inl (by rw [q]; rfl)
      · rcases List.mem_cons.1 q with e | e
        · exact .inl (by rw [hcon y hy, decide_eq_true e, Bool.or_true])
        · exact .inr e
    rw [Y_loop (L := L5_1) rfl]
    simp only [go_sem, op, mv, ↓reduceIte, Nat.reduceAdd, Nat.reduceEqDiff, Nat.reduceLT, Int.reduceNeg, Int.cast_ofNat_Int, Int.reduceLT, Int.reduceAdd, Int.reduceSub, Int.reduceLE, Int.reduceEq, Int.reduceToNat, Nat.reduceSub, Nat.reduceMul, Nat.reduceLeDiff, hv, hw, hCs, hWs, hWd, hWl, h4, h0, hww, q1, q2, hne, b3, b4, hlh', hin]
    exact i2
theorem l5c {A : List (List AV)} {T : List (List AV)} {v w C : AV} (X : AV) (hX : ∀ k, scrubV k X = X) (n : Nat) (hn : n ≤ 100000) (last : Int) (Gn : Int)
    (hv : ∀ k, scrubV k v = v) (hw : ∀ k, scrubV k w = w) (hC : C = .ss A.length 0 n 1) (P : Nat → Bool) (hP : ∀ y, y < n → P y = true) : ∀ (k i : Nat), i + k = n →
    execX G0 L5_2 (ST [(3, v), (4, X), (5, C), (6, .int .i64 last), (14, .bool false), (24, .bool false), (29, w), (30, .int .i64 Gn), (31, .int .i64 Gn), (32, .bool false), (95, .int .i64 n), (96, .int .i64 i)] [] ((A ++ [icl (cOf n P)]) ++ T)) = some (.ex 4, ST [(3, v), (4, X), (5, C), (6, .int .i64 last), (14, .bool false), (24, .bool false), (29, w), (30, .int .i64 Gn), (31, .int .i64 Gn), (32, .bool false), (95, .int .i64 n), (96, .int .i64 n), (97, .bool false)] [] ((A ++ [icl (cOf n P)]) ++ T))
  | 0, i, hk => by
    have : i = n := by omega
    subst this
    have hCs : ∀ k, scrubV k C = C := fun _ => by rw [hC]; rfl
    rw [Y_loop (L := L5_2) rfl]
    simp only [go_sem, op, mv, ↓reduceIte, Nat.reduceAdd, Nat.reduceEqDiff, Nat.reduceLT, Int.reduceNeg, Int.cast_ofNat_Int, Int.reduceLT, Int.reduceAdd, Int.reduceSub, Int.reduceLE, Int.reduceEq, Int.reduceToNat, Nat.reduceSub, Nat.reduceMul, Nat.reduceLeDiff, hv, hw, hCs, hX, Int.lt_irrefl]
  | k + 1, i, hk => by
    have h4 : (i : Int) < (n : Int) := by omega
    have h0 : (0 : Int) ≤ (i : Int) := by omega
    have hww : IntKind.i64.wrap ((i : Int) + 1) = ((i + 1 : Nat) : Int) := by rw [w64 (by omega) (by omega)]; rfl
    have hCs : ∀ k, scrubV k C = C := fun _ => by rw [hC]; rfl
    have hCd : demV C = C := by rw [hC]; rfl
    obtain ⟨Qc, c1, c2⟩ : ∃ Qc, iaK 1 C (.int .i64 (i : Int)) = some Qc ∧ ∀ m, ldA .sh false 1 m ((A ++ [icl (cOf n P)]) ++ T) Qc = some (.int .i64 1) := by
      refine ⟨.ptr A.length i, ?_, fun m => ?_⟩
      · rw [hC, iaK_ss, if_pos (by omega), Int.toNat_natCast]; simp
      · have ex := cOf_at (show i < n by omega) P
        rw [hP i (by omega)] at ex
        rw [ldA_ptr, cA]
        simp only [Option.bind_some, ldC, Bool.false_eq_true, if_false, ex]
        rfl
    have ih := l5c (A := A) (T := T) X hX n hn last Gn hv hw hC P hP k (i + 1) (by omega)
    rw [Y_loop (L := L5_2) rfl]
    simp only [go_sem, op, mv, ↓reduceIte, Nat.reduceAdd, Nat.reduceEqDiff, Nat.reduceLT, Int.reduceNeg, Int.cast_ofNat_Int, Int.reduceLT, Int.reduceAdd, Int.reduceSub, Int.reduceLE, Int.reduceEq, Int.reduceToNat, Nat.reduceSub, Nat.reduceMul, Nat.reduceLeDiff, hv, hw, hCs, hCd, hX, h4, h0, hww, c1, c2]
    exact ih
theorem c5 (l : List Int) : G0 5 [.sl .no 1 (ints l)] [] = some (.bool true, []) := by
  refine contract F5 rfl rfl rfl ?_
  by_cases h1 : (200 : Int) < (l.length : Int)
  · simp only [F5, go_sem, op, mv, ↓reduceIte, Nat.reduceAdd, Nat.reduceEqDiff, Nat.reduceLT, Int.reduceNeg, Int.cast_ofNat_Int, Int.reduceLT, Int.reduceAdd, Int.reduceSub, Int.reduceLE, Int.reduceEq, Int.reduceToNat, Nat.reduceSub, Nat.reduceMul, Nat.reduceLeDiff, ints_length, h1, c16]
  obtain ⟨v, R, L, p, q1, q2, q3, h17⟩ := c17 l 8 (by decide) (by decide)
  have hs0 := q1.scrub
  have hd0 := q1.dem
  have hlen := q1.len
  have hsm : ∀ g ∈ L, small g := by
    intro g hg
    have hz := q2 g hg
    exact ⟨by have := hz.1; omega, fun t ht => by have := tot_le' t ht; have := hz.2; simp only [cap47]; omega⟩
  have hV := q1.lv l p
  have hRef := fun n => q1.ref n l p
  generalize num l p :: R = A at h17 hV hRef
  have hR := RokS_of (hRef _)
  have h25 := c25 hV hR (by omega) hsm
  rw [first_eq, firstG_fsZ] at h25
  have e0 := cOf_zero L.length
  have hV1 := hV.ext [icl (cOf L.length fun _ => false)]
  have hR1 : RokS (A ++ [icl (cOf L.length fun _ => false)]) := RokS_of ((hRef _).app (ref_icl _ _))
  obtain ⟨w, m, E, hG, h28⟩ := c28 hV1 hR1 (by omega) hsm
  rw [groups_eq, List.length_append, List.length_singleton] at hG
  have hgl : lenA' false w = some (.int .i64 ((heads (phi L) L.length).length : Int)) := by rw [hG.len, grpZ_len]
  have hs2 := hG.scrub
  have hd2 := hG.dem
  have ha1 := hV.arg
  have hfl : (fsZ (phi L) L.length).length = L.length := by simp [fsZ]
  obtain ⟨Pf, last', i1, i2⟩ := l5b (A := A) (Mp := [.mapv (imr m)]) (E := E) (v := v) (w := w) (C := .ss A.length 0 L.length 1) (phi L) (phi_le L) L.length (by omega) hs0 hd0 hlen hG rfl (heads (phi L) L.length).length 0 (-1) (fun _ => false) (by omega) (fun h _ => by omega) (fun _ _ _ => rfl)
  have i3 := l5c (A := A) (T := [.mapv (imr m)] :: E) (v := v) (w := w) (C := .ss A.length 0 L.length 1) (.sl .no 1 (ints (fsZ (phi L) L.length))) (fun _ => rfl) L.length (by omega) last' ((heads (phi L) L.length).length : Int) hs0 hs2 rfl Pf (fun y hy => i1 y hy (.inr (by
    rw [List.drop_zero]
    refine mem_heads.2 ⟨?_, phi_phi L y⟩
    have := phi_le L y
    omega))) L.length 0 (by omega)
  have ec : ((0 : Nat) : Int) = 0 := rfl
  rw [ec] at i2 i3
  have hn0 : (0 : Int) ≤ (L.length : Int) := by omega
  have hnb : (L.length : Int) * 8 ≤ 140737488355328 := by omega
  have hnc : (L.length : Int) ≤ 4611686018427387904 := by omega
  simp only [F5, go_sem, op, mv, ↓reduceIte, Nat.reduceAdd, Nat.reduceEqDiff, Nat.reduceLT, Int.reduceNeg, Int.cast_ofNat_Int, Int.reduceLT, Int.reduceAdd, Int.reduceSub, Int.reduceLE, Int.reduceEq, Int.reduceToNat, Nat.reduceSub, Nat.reduceMul, Nat.reduceLeDiff, ints_length, h1, h17, hs0, hd0, hlen, ha1, h25, hfl, hn0, hnb, hnc, Int.le_refl, zeroRow_rep, e0, h28, hs2, hd2, hgl, i2, i3, c16]
end Go.Av
