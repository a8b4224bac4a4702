/- Made lists of fragments, and the law of keys. -/
import Derived.Test.YthnablnojflbnaaDoorRC
set_option linter.unusedSimpArgs false
set_option linter.unusedVariables false
namespace Go.Av
open Go.Nt
set_option linter.unusedSimpArgs false
set_option linter.unusedVariables false
set_option maxHeartbeats 16000000
set_option maxRecDepth 100000
theorem l22 (a b : List Tk) (hab : a.length = b.length) (ha : a.length ≤ 4611686018427387904) : ∀ (k i : Nat), i + k = a.length →
    (a.drop i = b.drop i → execX G0 L22_0 (ST [(0, .sl .no 3 (tks a)), (1, .sl .no 3 (tks b)), (10, .bool false), (12, .int .i64 a.length), (13, .int .i64 i)] [] []) = some (.ex 0, ST [(0, .sl .no 3 (tks a)), (1, .sl .no 3 (tks b)), (10, .bool false), (12, .int .i64 a.length), (13, .int .i64 a.length), (14, .bool false)] [] [])) ∧
    (a.drop i ≠ b.drop i → ∃ l', execX G0 L22_0 (ST [(0, .sl .no 3 (tks a)), (1, .sl .no 3 (tks b)), (10, .bool false), (12, .int .i64 a.length), (13, .int .i64 i)] [] []) = some (.ret, ST l' [] []) ∧ look .any l' 4 = .bool false)
  | 0, i, h => by
    have : i = a.length := by omega
    subst this
    refine ⟨fun _ => ?_, fun q => absurd (by rw [List.drop_length, hab, List.drop_length]) q⟩
    rw [Y_loop (L := L22_0) rfl]
    simp only [go_sem, op, mv, ↓reduceIte, Nat.reduceAdd, Nat.reduceEqDiff, Nat.reduceLT, Int.reduceNeg, Int.cast_ofNat_Int, Int.reduceLT, Int.reduceAdd, Int.reduceSub, Int.reduceLE, Int.reduceEq, Int.reduceToNat, Nat.reduceSub, Nat.reduceMul, Nat.reduceLeDiff, Int.lt_irrefl]
  | k + 1, i, h => by
    have hi : i < a.length := by omega
    have h4 : (i : Int) < (a.length : Int) := by omega
    have h0 : (0 : Int) ≤ (i : Int) := by omega
    have hw : IntKind.i64.wrap ((i : Int) + 1) = ((i + 1 : Nat) : Int) := by rw [w64 (by omega) (by omega)]; rfl
    have hg : a[i]? = some a[i] := List.getElem?_eq_getElem hi
    have hd : a.drop i = a[i] :: a.drop (i + 1) := List.drop_eq_getElem_cons hi
    generalize a[i] = T at hg hd
    have hg2 : b[i]? = some b[i] := List.getElem?_eq_getElem (by omega)
    have hd2 : b.drop i = b[i] :: b.drop (i + 1) := List.drop_eq_getElem_cons (by omega)
    generalize b[i] = U at hg2 hd2
    have hr := tks_at hg
    have hr2 := tks_at hg2
    have ih := l22 a b hab ha k (i + 1) (by omega)
    rw [hd, hd2]
    obtain ⟨k1, s1, i1⟩ := T
    obtain ⟨k2, s2, i2⟩ := U
    simp only [] at hr hr2
    by_cases hE : ((k1, s1, i1) : Tk) = (k2, s2, i2)
    · cases hE
      have e : (s1 == s1) = true := by simp
      have step : execX G0 L22_0 (ST [(0, .sl .no 3 (tks a)), (1, .sl .no 3 (tks b)), (10, .bool false), (12, .int .i64 a.length), (13, .int .i64 i)] [] []) = execX G0 L22_0 (ST [(0, .sl .no 3 (tks a)), (1, .sl .no 3 (tks b)), (10, .bool false), (12, .int .i64 a.length), (13, .int .i64 ((i + 1 : Nat) : Int))] [] []) := by
        conv => lhs; rw [Y_loop (L := L22_0) rfl]
        simp only [go_sem, op, mv, ↓reduceIte, Nat.reduceAdd, Nat.reduceEqDiff, Nat.reduceLT, Int.reduceNeg, Int.cast_ofNat_Int, Int.reduceLT, Int.reduceAdd, Int.reduceSub, Int.reduceLE, Int.reduceEq, Int.reduceToNat, Nat.reduceSub, Nat.reduceMul, Nat.reduceLeDiff, h4, h0, hr, hr2, hw, e]
      rw [step]
      refine ⟨fun q => ih.1 (by injection q), fun q => ih.2 (fun z => q (by rw [z]))⟩
    · refine ⟨fun q => absurd (by injection q) hE, fun _ => ?_⟩
      by_cases e1 : k1 = k2
      · subst e1
        by_cases e2 : s1 = s2
        · subst e2
          have e3 : ¬ i1 = i2 := fun q => hE (by rw [q])
          have e : (s1 == s1) = true := by simp
          refine Exists.intro ?_ (And.intro ?_ ?_)
          rotate_left 1
          · rw [Y_loop (L := L22_0) rfl]
            simp only [go_sem, op, mv, ↓reduceIte, Nat.reduceAdd, Nat.reduceEqDiff, Nat.reduceLT, Int.reduceNeg, Int.cast_ofNat_Int, Int.reduceLT, Int.reduceAdd, Int.reduceSub, Int.reduceLE, Int.reduceEq, Int.reduceToNat, Nat.reduceSub, Nat.reduceMul, Nat.reduceLeDiff, h4, h0, hr, hr2, hw, e, e3]
            rfl
          · rfl
        · have e : (s1 == s2) = false := by simpa using e2
          refine Exists.intro ?_ (And.intro ?_ ?_)
          rotate_left 1
          · rw [Y_loop (L := L22_0) rfl]
            simp only [go_sem, op, mv, ↓reduceIte, Nat.reduceAdd, Nat.reduceEqDiff, Nat.reduceLT, Int.reduceNeg, Int.cast_ofNat_Int, Int.reduceLT, Int.reduceAdd, Int.reduceSub, Int.reduceLE, Int.reduceEq, Int.reduceToNat, Nat.reduceSub, Nat.reduceMul, Nat.reduceLeDiff, h4, h0, hr, hr2, hw, e, Bool.false_and, Bool.and_false]
            rfl
          · rfl
      · refine Exists.intro ?_ (And.intro ?_ ?_)
        rotate_left 1
        · rw [Y_loop (L := L22_0) rfl]
          simp only [go_sem, op, mv, ↓reduceIte, Nat.reduceAdd, Nat.reduceEqDiff, Nat.reduceLT, Int.reduceNeg, Int.cast_ofNat_Int, Int.reduceLT, Int.reduceAdd, Int.reduceSub, Int.reduceLE, Int.reduceEq, Int.reduceToNat, Nat.reduceSub, Nat.reduceMul, Nat.reduceLeDiff, h4, h0, hr, hr2, hw, e1, decide_false, Bool.false_and, Bool.and_false]
          rfl
        · rfl
theorem c22 (a b : List Tk) (ha : a.length ≤ 4611686018427387904) : G0 22 [.sl .no 3 (tks a), .sl .no 3 (tks b)] [] = some (.bool (decide (a = b)), []) := by
  refine contract F22 rfl rfl rfl ?_
  by_cases hab : a.length = b.length
  · have hab' : (a.length : Int) = (b.length : Int) := by omega
    obtain ⟨x1, x2⟩ := l22 a b hab ha a.length 0 (by omega)
    have ec : ((0 : Nat) : Int) = 0 := rfl
    rw [List.drop_zero, List.drop_zero, ec] at x1 x2
    by_cases h : a = b
    · rw [decide_eq_true h]
      simp only [F22, go_sem, op, mv, ↓reduceIte, Nat.reduceAdd, Nat.reduceEqDiff, Nat.reduceLT, Int.reduceNeg, Int.cast_ofNat_Int, Int.reduceLT, Int.reduceAdd, Int.reduceSub, Int.reduceLE, Int.reduceEq, Int.reduceToNat, Nat.reduceSub, Nat.reduceMul, Nat.reduceLeDiff, tks_len, hab', x1 h]
      rw [hab'] at x1
      simp only [F22, go_sem, op, mv, ↓reduceIte, Nat.reduceAdd, Nat.reduceEqDiff, Nat.reduceLT, Int.reduceNeg, Int.cast_ofNat_Int, Int.reduceLT, Int.reduceAdd, Int.reduceSub, Int.reduceLE, Int.reduceEq, Int.reduceToNat, Nat.reduceSub, Nat.reduceMul, Nat.reduceLeDiff, tks_len, x1 h]
    · rw [decide_eq_false h]
      obtain ⟨l', y1, y2⟩ := x2 h
      rw [hab'] at y1
      simp only [F22, go_sem, op, mv, ↓reduceIte, Nat.reduceAdd, Nat.reduceEqDiff, Nat.reduceLT, Int.reduceNeg, Int.cast_ofNat_Int, Int.reduceLT, Int.reduceAdd, Int.reduceSub, Int.reduceLE, Int.reduceEq, Int.reduceToNat, Nat.reduceSub, Nat.reduceMul, Nat.reduceLeDiff, tks_len, hab', y1, y2]
  · have hab' : ¬ (a.length : Int) = (b.length : Int) := by omega
    have h : ¬ a = b := fun q => hab (by rw [q])
    rw [decide_eq_false h]
    simp only [F22, go_sem, op, mv, ↓reduceIte, Nat.reduceAdd, Nat.reduceEqDiff, Nat.reduceLT, Int.reduceNeg, Int.cast_ofNat_Int, Int.reduceLT, Int.reduceAdd, Int.reduceSub, Int.reduceLE, Int.reduceEq, Int.reduceToNat, Nat.reduceSub, Nat.reduceMul, Nat.reduceLeDiff, tks_len, hab']
def frc (L : List (List Tk)) : List AV := L.map fun f => .sl .no 3 (tks f)
theorem frc_len (L : List (List Tk)) : (frc L).length = L.length := by simp [frc]
theorem frc_app (L M : List (List Tk)) : frc (L ++ M) = frc L ++ frc M := by simp [frc]
theorem frc_at {L : List (List Tk)} {i : Nat} {f : List Tk} (h : L[i]? = some f) : (frc L)[i]? = some (.sl .no 3 (tks f)) := by simp [frc, h]
theorem frc_blk (L : List (List Tk)) : blkB (frc L) = true := by
  cases L with
  | nil => rfl
  | cons a L => cases L <;> rfl
theorem frc_nown : ∀ L : List (List Tk), (frc L).all nownB = true
  | [] => rfl
  | a :: L => by
    show (nownB _ && (frc L).all nownB) = true
    rw [frc_nown L]; rfl
/-- the list that is made, and the objects behind the numbers -/
def OSt (v : AV) (R : List (List AV)) (L : List (List Tk)) : Prop :=
  (L = [] ∧ v = .sl .full 1 [] ∧ R = []) ∨ (1 ≤ L.length ∧ ∃ d : Nat, v = .ss (d + 1) 0 L.length 1 ∧ R = List.replicate d dead ++ [frc L])
theorem OSt.rok {v : AV} {R : List (List AV)} {L : List (List Tk)} (h : OSt v R L) : Rok R := by
  intro l n
  have hn : ∀ k, (num l n).all (refLt k) = true := fun k => rfl
  rcases h with ⟨_, _, rfl⟩ | ⟨_, d, _, rfl⟩
  · rfl
  · unfold refsOk
    rw [Bool.false_or, take_R, List.all_cons, hn, Bool.true_and, List.all_append, Bool.and_eq_true]
    constructor
    · rw [List.all_eq_true]
      intro c hc
      rw [(List.mem_replicate.1 hc).2]; rfl
    · have : ∀ (k : Nat) (L : List (List Tk)), (frc L).all (refLt k) = true := by
        intro k L
        induction L with
        | nil => rfl
        | cons a L ih =>
          show (refLt k _ && (frc L).all _) = true
          rw [ih]; rfl
      rw [List.all_cons, this]; rfl
theorem OSt.scrub {v : AV} {R : List (List AV)} {L : List (List Tk)} (h : OSt v R L) (k : List Nat) : scrubV k v = v := by
  rcases h with ⟨_, rfl, _⟩ | ⟨_, d, rfl, _⟩ <;> rfl
theorem OSt.dem {v : AV} {R : List (List AV)} {L : List (List Tk)} (h : OSt v R L) : demV v = v := by
  rcases h with ⟨_, rfl, _⟩ | ⟨_, d, rfl, _⟩ <;> rfl
theorem OSt.len {v : AV} {R : List (List AV)} {L : List (List Tk)} (h : OSt v R L) : lenA' false v = some (.int .i64 (L.length : Int)) := by
  rcases h with ⟨rfl, rfl, _⟩ | ⟨_, d, rfl, _⟩ <;> rfl
theorem rep_at (d : Nat) (x c : List AV) : (x :: (List.replicate d dead ++ [c]))[d + 1]? = some c := by
  rw [List.getElem?_cons_succ, List.getElem?_append_right (by simp)]; simp
theorem rep_set (d : Nat) (x c e : List AV) : (x :: (List.replicate d dead ++ [c])).set (d + 1) dead ++ [e] = x :: (List.replicate (d + 1) dead ++ [e]) := by
  rw [List.set_cons_succ, List.set_append_right _ _ (by simp)]
  simp [List.replicate_succ']
theorem appO {v : AV} {R : List (List AV)} {L : List (List Tk)} (h : OSt v R L) (f : List Tk) (hl : L.length ≤ 1000) (l : List Int) (n : Nat) : ∃ v' R', OSt v' R' (L ++ [f]) ∧ appSA 1 24 (num l n :: R) (some [[.sl .no 3 (tks f)]]) v = some (v', num l n :: R') := by
  have ha : appOK 24 (L.length + 1) = true := appOK_le (by decide) (by omega)
  rcases h with ⟨rfl, rfl, rfl⟩ | ⟨h1, d, rfl, rfl⟩
  · refine ⟨.ss 1 0 1 1, [frc [f]], .inr ⟨by simp, 0, rfl, rfl⟩, ?_⟩
    rw [appSA_nil 1 24 1 (by decide), if_pos (show appOK 24 (([] : List (List AV)).length + 1) = true from ha)]
    rfl
  · refine ⟨.ss (d + 1 + 1) 0 (L ++ [f]).length 1, List.replicate (d + 1) dead ++ [frc (L ++ [f])], .inr ⟨by simp, d + 1, rfl, rfl⟩, ?_⟩
    rw [appSA_ss (d + 1) L.length 24 1 (by decide), List.length_singleton, if_pos ha, rep_at]
    simp only [Option.bind_some]
    rw [if_pos ⟨frc_blk L, by rw [frc_len]; omega, frc_nown L⟩, rep_set, frc_app]
    simp [frc]
theorem mksF (f : List Tk) (o : Own) : mksA 1 [.sl .full 3 []] 1 [0] [.sl o 3 (tks f)] = some (.sl .full 1 [[.sl .no 3 (tks f)]]) := rfl
theorem nrm_sz (g : List Tk) : (nrm g).length ≤ g.length ∧ tot (nrm g) ≤ tot g := by
  have key : ∀ (g A : List Tk), (g.foldl pn A).length ≤ A.length + g.length ∧ tot (g.foldl pn A) ≤ tot A + tot g := by
    intro g
    induction g with
    | nil => intro A; simp [tot]
    | cons x g ih =>
      intro A
      obtain ⟨h1, h2⟩ := ih (pn A x)
      obtain ⟨h3, h4⟩ := tot_pn A x
      rw [List.foldl_cons, List.length_cons, tot_cons]
      omega
  have := key g []
  simpa [nrm, tot] using this
def Sz (t : Nat) (f : List Tk) : Prop := f.length ≤ 10 + t ∧ tot f ≤ 150 + 4 * t
theorem Sz.mono {t t' : Nat} {f : List Tk} (h : Sz t f) (ht : t ≤ t') : Sz t' f := ⟨by have := h.1; omega, by have := h.2; omega⟩
theorem mks6 : mksA 1 [.int .i64 0] 6 [0, 1, 2, 3, 4, 5] [.int .i64 9, .int .i64 4, .int .i64 6, .int .i64 2, .int .i64 8, .int .i64 3] = some (.sl .full 1 (ints [9, 4, 6, 2, 8, 3])) := rfl
theorem l17 (l : List Int) : ∀ (k p : Nat) (L : List (List Tk)) (v : AV) (R : List (List AV)), OSt v R L → (∀ f ∈ L, Sz L.length f) → k + L.length ≤ 8 → p ≤ 2000 * L.length + 10 →
    ∃ v' R' L' p', OSt v' R' L' ∧ (∀ f ∈ L', Sz 8 f) ∧ L'.length ≤ 8 ∧ execX G0 L17_0 (ST [(2, .bool false), (7, .ptr 0 0), (8, v), (9, .int .i64 k)] [] (num l p :: R)) = some (.ex 0, ST [(2, .bool false), (7, .ptr 0 0), (8, v'), (9, .int .i64 0), (19, .bool false)] [] (num l p' :: R'))
  | 0, p, L, v, R, hst, hs, hk, hp => by
    refine ⟨v, R, L, p, hst, fun f hf => (hs f hf).mono (by omega), by omega, ?_⟩
    have hs1 := hst.scrub
    rw [Y_loop (L := L17_0) rfl]
    simp only [go_sem, op, mv, ↓reduceIte, Nat.reduceAdd, Nat.reduceEqDiff, Nat.reduceLT, Int.reduceNeg, Int.cast_ofNat_Int, Int.reduceLT, Int.reduceAdd, Int.reduceSub, Int.reduceLE, Int.reduceEq, Int.reduceToNat, Nat.reduceSub, Nat.reduceMul, Nat.reduceLeDiff, hs1, Int.lt_irrefl]
  | k + 1, p, L, v, R, hst, hs, hk, hp => by
    have hs0 := hst.scrub
    have hd0 := hst.dem
    have hlen := hst.len
    have hR := hst.rok
    have hk0 : (0 : Int) < ((k + 1 : Nat) : Int) := by omega
    have hwk : IntKind.i64.wrap (((k + 1 : Nat) : Int) - 1) = (k : Int) := by rw [w64 (by omega) (by omega)]; omega
    obtain ⟨p1, f0, b1, b2, b3, b4, h42⟩ := c42r hR l p (by omega) 4 (by decide) (by decide)
    have fin : ∀ (f : List Tk) (p' : Nat), Sz (L.length + 1) f → p' ≤ 2000 * (L.length + 1) + 10 → ∃ v1 R1, OSt v1 R1 (L ++ [f]) ∧ appSA 1 24 (num l p' :: R) (some [[.sl .no 3 (tks f)]]) v = some (v1, num l p' :: R1) ∧
      ∃ v' R' L' p'', OSt v' R' L' ∧ (∀ f ∈ L', Sz 8 f) ∧ L'.length ≤ 8 ∧ execX G0 L17_0 (ST [(2, .bool false), (7, .ptr 0 0), (8, v1), (9, .int .i64 k)] [] (num l p' :: R1)) = some (.ex 0, ST [(2, .bool false), (7, .ptr 0 0), (8, v'), (9, .int .i64 0), (19, .bool false)] [] (num l p'' :: R')) := by
      intro f p' hf hp'
      obtain ⟨v1, R1, q1, q2⟩ := appO hst f (by omega) l p'
      refine ⟨v1, R1, q1, q2, ?_⟩
      exact l17 l k p' (L ++ [f]) v1 R1 q1 (fun g hg => by
        rw [List.length_append, List.length_singleton]
        rcases List.mem_append.1 hg with q | q
        · exact (hs g q).mono (by omega)
        · simp only [List.mem_singleton] at q; subst q; exact hf) (by rw [List.length_append, List.length_singleton]; omega) (by rw [List.length_append, List.length_singleton]; omega)
    have z0 : Sz (L.length + 1) f0 := ⟨by omega, by omega⟩
    by_cases hL : L.length = 0
    · have hl0 : ¬ (0 : Int) < (L.length : Int) := by omega
      obtain ⟨v1, R1, q1, q2, v', R', L', p'', i1, i2, i3, i4⟩ := fin f0 p1 z0 (by omega)
      have hs1 := q1.scrub
      have hd1 := q1.dem
      refine ⟨v', R', L', p'', i1, i2, i3, ?_⟩
      rw [Y_loop (L := L17_0) rfl]
      simp only [go_sem, op, mv, ↓reduceIte, Nat.reduceAdd, Nat.reduceEqDiff, Nat.reduceLT, Int.reduceNeg, Int.cast_ofNat_Int, Int.reduceLT, Int.reduceAdd, Int.reduceSub, Int.reduceLE, Int.reduceEq, Int.reduceToNat, Nat.reduceSub, Nat.reduceMul, Nat.reduceLeDiff, hk0, hs0, hd0, hlen, hl0, h42, mksF, q2, hs1, hd1, hwk]
      exact i4
    · have hl0 : (0 : Int) < (L.length : Int) := by omega
      have h41 := c41r hR l p1 2 (by omega) (by decide) (by decide)
      by_cases hy : nxt l p1 2 = 0
      · have h41b := c41r hR l (p1 + 1) (L.length : Int) (by omega) (by omega) (by omega)
        have hj := nxt_bd l (p1 + 1) (L.length : Int) (by omega)
        generalize nxt l (p1 + 1) (L.length : Int) = j at h41b hj
        obtain ⟨jn, rfl⟩ := Int.eq_ofNat_of_zero_le hj.1
        have hjl : jn < L.length := by omega
        have hg : L[jn]? = some L[jn] := List.getElem?_eq_getElem hjl
        have hfs := hs _ (List.getElem_mem hjl)
        generalize L[jn] = f at hg hfs
        have hr := frc_at hg
        have h41c := c41r hR l (p1 + 1 + 1) 3 (by omega) (by decide) (by decide)
        have hz := nxt_bd l (p1 + 1 + 1) 3 (by decide)
        generalize nxt l (p1 + 1 + 1) 3 = z at h41c hz
        obtain ⟨_, d, hvd, hRd⟩ : 1 ≤ L.length ∧ ∃ d : Nat, v = .ss (d + 1) 0 L.length 1 ∧ R = List.replicate d dead ++ [frc L] := by
          rcases hst with ⟨rfl, _, _⟩ | h
          · exact absurd rfl hL
          · exact h
        have hia : iaK 1 v (.int .i64 (jn : Int)) = some (.ptr (d + 1) jn) := by
          rw [hvd, iaK_ss, if_pos (by omega), Int.toNat_natCast]; simp
        have hat : ∀ x : List AV, (x :: R)[d + 1]? = some (frc L) := fun x => by rw [hRd]; exact rep_at d x (frc L)
        obtain ⟨s1, s2⟩ := hfs
        have c0 : z = 0 ∨ z = 1 ∨ z = 2 := by omega
        rcases c0 with rfl | rfl | rfl
        · have h44 := c44 f (by omega)
          have hnl := nums_len f
          have h43 := c43 f (by omega) (by omega) (nums f) [9, 4, 6, 2, 8, 3] (by omega) (by decide)
          obtain ⟨t1, t2⟩ := ren_tot (nums f) [9, 4, 6, 2, 8, 3] f
          obtain ⟨t3, t4⟩ := nrm_sz (renF (nums f) [9, 4, 6, 2, 8, 3] f)
          generalize nrm (renF (nums f) [9, 4, 6, 2, 8, 3] f) = g at h43 t3 t4
          obtain ⟨v1, R1, q1, q2, v', R', L', p'', i1, i2, i3, i4⟩ := fin g (p1 + 1 + 1 + 1) ⟨by omega, by omega⟩ (by omega)
          have hs1 := q1.scrub
          have hd1 := q1.dem
          refine ⟨v', R', L', p'', i1, i2, i3, ?_⟩
          rw [Y_loop (L := L17_0) rfl]
          simp only [go_sem, op, mv, ↓reduceIte, Nat.reduceAdd, Nat.reduceEqDiff, Nat.reduceLT, Int.reduceNeg, Int.cast_ofNat_Int, Int.reduceLT, Int.reduceAdd, Int.reduceSub, Int.reduceLE, Int.reduceEq, Int.reduceToNat, Nat.reduceSub, Nat.reduceMul, Nat.reduceLeDiff, hk0, hs0, hd0, hlen, hl0, h42, h41, hy, h41b, hia, hat, hr, h41c, h44, mks6, h43, mksF, q2, hs1, hd1, hwk]
          exact i4
        · have h37 := c37 f [(1, [32, 99, 97, 114], 0)] (by simp; omega) (by simp [tot]; simp [tot] at s2; omega)
          have et : tks [(1, [32, 99, 97, 114], 0)] = [[.int .i64 1, .str [32, 99, 97, 114], .int .i64 0]] := rfl
          rw [et] at h37
          obtain ⟨t3, t4⟩ := nrm_sz (f ++ [(1, [32, 99, 97, 114], 0)])
          rw [List.length_append, List.length_singleton] at t3
          rw [tot_app, tot_cons, tot_nil] at t4
          simp only [List.length_cons, List.length_nil] at t4
          generalize nrm (f ++ [(1, [32, 99, 97, 114], 0)]) = g at h37 t3 t4
          obtain ⟨v1, R1, q1, q2, v', R', L', p'', i1, i2, i3, i4⟩ := fin g (p1 + 1 + 1 + 1) ⟨by omega, by omega⟩ (by omega)
          have hs1 := q1.scrub
          have hd1 := q1.dem
          refine ⟨v', R', L', p'', i1, i2, i3, ?_⟩
          rw [Y_loop (L := L17_0) rfl]
          simp only [go_sem, op, mv, ↓reduceIte, Nat.reduceAdd, Nat.reduceEqDiff, Nat.reduceLT, Int.reduceNeg, Int.cast_ofNat_Int, Int.reduceLT, Int.reduceAdd, Int.reduceSub, Int.reduceLE, Int.reduceEq, Int.reduceToNat, Nat.reduceSub, Nat.reduceMul, Nat.reduceLeDiff, hk0, hs0, hd0, hlen, hl0, h42, h41, hy, h41b, hia, hat, hr, h41c, h37, mksF, q2, hs1, hd1, hwk]
          exact i4
        · obtain ⟨v1, R1, q1, q2, v', R', L', p'', i1, i2, i3, i4⟩ := fin f (p1 + 1 + 1 + 1) ⟨by omega, by omega⟩ (by omega)
          have hs1 := q1.scrub
          have hd1 := q1.dem
          refine ⟨v', R', L', p'', i1, i2, i3, ?_⟩
          rw [Y_loop (L := L17_0) rfl]
          simp only [go_sem, op, mv, ↓reduceIte, Nat.reduceAdd, Nat.reduceEqDiff, Nat.reduceLT, Int.reduceNeg, Int.cast_ofNat_Int, Int.reduceLT, Int.reduceAdd, Int.reduceSub, Int.reduceLE, Int.reduceEq, Int.reduceToNat, Nat.reduceSub, Nat.reduceMul, Nat.reduceLeDiff, hk0, hs0, hd0, hlen, hl0, h42, h41, hy, h41b, hia, hat, hr, h41c, mksF, q2, hs1, hd1, hwk]
          exact i4
      · obtain ⟨v1, R1, q1, q2, v', R', L', p'', i1, i2, i3, i4⟩ := fin f0 (p1 + 1) z0 (by omega)
        have hs1 := q1.scrub
        have hd1 := q1.dem
        refine ⟨v', R', L', p'', i1, i2, i3, ?_⟩
        rw [Y_loop (L := L17_0) rfl]
        simp only [go_sem, op, mv, ↓reduceIte, Nat.reduceAdd, Nat.reduceEqDiff, Nat.reduceLT, Int.reduceNeg, Int.cast_ofNat_Int, Int.reduceLT, Int.reduceAdd, Int.reduceSub, Int.reduceLE, Int.reduceEq, Int.reduceToNat, Nat.reduceSub, Nat.reduceMul, Nat.reduceLeDiff, hk0, hs0, hd0, hlen, hl0, h42, h41, hy, mksF, q2, hs1, hd1, hwk]
        exact i4
theorem Rok_nil : Rok [] := fun _ _ => rfl
theorem c17 (l : List Int) (N : Int) (hN : 1 ≤ N) (hN7 : N ≤ 8) : ∃ v R L p, OSt v R L ∧ (∀ f ∈ L, Sz 8 f) ∧ L.length ≤ 8 ∧ G0 17 [.sl .no 1 (ints l), .int .i64 N, .bool false] [] = some (v, num l p :: R) := by
  have h41 := c41r Rok_nil l 0 (N + 1) (by omega) (by omega) (by omega)
  have hb := nxt_bd l 0 (N + 1) (by omega)
  have hc : (((nxt l 0 (N + 1)).toNat : Nat) : Int) = nxt l 0 (N + 1) := by omega
  obtain ⟨v, R, L, p, q1, q2, q3, q4⟩ := l17 l (nxt l 0 (N + 1)).toNat 1 [] (.sl .full 1 []) [] (.inl ⟨rfl, rfl, rfl⟩) (by simp) (by simp; omega) (by simp)
  rw [hc] at q4
  refine ⟨v, R, L, p, q1, q2, q3, ?_⟩
  have hw : IntKind.i64.wrap (N + 1) = N + 1 := w64 (by omega) (by omega)
  have hs1 := q1.scrub
  have hd1 := q1.dem
  have e : num l 0 = [.sl .no 1 (ints l), .int .i64 0] := rfl
  rw [e] at h41
  refine contract F17 rfl rfl rfl ?_
  simp only [F17, go_sem, op, mv, ↓reduceIte, Nat.reduceAdd, Nat.reduceEqDiff, Nat.reduceLT, Int.reduceNeg, Int.cast_ofNat_Int, Int.reduceLT, Int.reduceAdd, Int.reduceSub, Int.reduceLE, Int.reduceEq, Int.reduceToNat, Nat.reduceSub, Nat.reduceMul, Nat.reduceLeDiff, hw, h41, q4, hs1, hd1]
  rcases q1 with ⟨_, rfl, rfl⟩ | ⟨_, d, rfl, rfl⟩
  · simp only [go_sem, op, mv, ↓reduceIte, Nat.reduceAdd, Nat.reduceEqDiff, Nat.reduceLT, Int.reduceNeg, Int.cast_ofNat_Int, Int.reduceLT, Int.reduceAdd, Int.reduceSub, Int.reduceLE, Int.reduceEq, Int.reduceToNat, Nat.reduceSub, Nat.reduceMul, Nat.reduceLeDiff]
  · simp only [go_sem, op, mv, ↓reduceIte, Nat.reduceAdd, Nat.reduceEqDiff, Nat.reduceLT, Int.reduceNeg, Int.cast_ofNat_Int, Int.reduceLT, Int.reduceAdd, Int.reduceSub, Int.reduceLE, Int.reduceEq, Int.reduceToNat, Nat.reduceSub, Nat.reduceMul, Nat.reduceLeDiff]
theorem c3 (f : List Tk) (l : List Int) (x y : Int) (hl : f.length ≤ 4398046511104) (hb : ∀ t ∈ f, t.2.1.length ≤ 140737488355328) : G0 3 [.sl .no 3 (tks f), .sl .no 1 (ints l), .int .i64 x, .int .i64 y] [] = some (.bool true, []) := by
  refine contract F3 rfl rfl rfl ?_
  by_cases h1 : (20 : Int) < (f.length : Int)
  · simp only [F3, go_sem, op, mv, ↓reduceIte, Nat.reduceAdd, Nat.reduceEqDiff, Nat.reduceLT, Int.reduceNeg, Int.cast_ofNat_Int, Int.reduceLT, Int.reduceAdd, Int.reduceSub, Int.reduceLE, Int.reduceEq, Int.reduceToNat, Nat.reduceSub, Nat.reduceMul, Nat.reduceLeDiff, tks_len, h1, c16]
  have h15 := c15 f (by omega) hb
  by_cases h2 : (300 : Int) < (len f : Int)
  · simp only [F3, go_sem, op, mv, ↓reduceIte, Nat.reduceAdd, Nat.reduceEqDiff, Nat.reduceLT, Int.reduceNeg, Int.cast_ofNat_Int, Int.reduceLT, Int.reduceAdd, Int.reduceSub, Int.reduceLE, Int.reduceEq, Int.reduceToNat, Nat.reduceSub, Nat.reduceMul, Nat.reduceLeDiff, tks_len, h1, h15, h2, c16]
  by_cases h3 : (120 : Int) < (l.length : Int)
  · simp only [F3, go_sem, op, mv, ↓reduceIte, Nat.reduceAdd, Nat.reduceEqDiff, Nat.reduceLT, Int.reduceNeg, Int.cast_ofNat_Int, Int.reduceLT, Int.reduceAdd, Int.reduceSub, Int.reduceLE, Int.reduceEq, Int.reduceToNat, Nat.reduceSub, Nat.reduceMul, Nat.reduceLeDiff, tks_len, h1, h15, h2, ints_length, h3, c16]
  obtain ⟨v, R, L, p, q1, q2, q3, h17⟩ := c17 l 4 (by decide) (by decide)
  obtain ⟨v1, R1, r1, r2⟩ := appO q1 f (by omega) l p
  have hd0 := q1.dem
  have hs0 := q1.scrub
  have hs1 := r1.scrub
  have hd1 := r1.dem
  have hlen := r1.len
  have hsm : ∀ g ∈ L ++ [f], small g := by
    intro g hg
    rcases List.mem_append.1 hg with q | q
    · have hz := q2 g q
      exact ⟨by have := hz.1; omega, fun t ht => by have := tot_le' t ht; have := hz.2; simp only [cap47]; omega⟩
    · simp only [List.mem_singleton] at q; subst q; exact ⟨by omega, hb⟩
  have hml : (L ++ [f]).length ≤ 9 := by simp; omega
  have hml1 : 1 ≤ (L ++ [f]).length := by simp
  generalize L ++ [f] = M at r1 hlen hsm hml hml1
  obtain ⟨_, d, hvd, hRd⟩ : 1 ≤ M.length ∧ ∃ d : Nat, v1 = .ss (d + 1) 0 M.length 1 ∧ R1 = List.replicate d dead ++ [frc M] := by
    rcases r1 with ⟨rfl, _, _⟩ | h
    · simp at hml1
    · exact h
  have hat : ∀ x : List AV, (x :: R1)[d + 1]? = some (frc M) := fun x => by rw [hRd]; exact rep_at d x (frc M)
  have pick : ∀ z : Int, ∃ (j : Nat) (g : List Tk), G0 18 [.int .i64 z, .int .i64 (M.length : Int)] [] = some (.int .i64 (j : Int), []) ∧ small g ∧ (frc M)[j]? = some (.sl .no 3 (tks g)) ∧ iaK 1 v1 (.int .i64 (j : Int)) = some (.ptr (d + 1) j) := by
    intro z
    have h18 := c18 z (M.length : Int) (by omega) (by omega)
    have hb1 := Int.emod_nonneg z (show (M.length : Int) ≠ 0 by omega)
    have hb2 := Int.emod_lt_of_pos z (show (0 : Int) < (M.length : Int) by omega)
    generalize z % (M.length : Int) = w at h18 hb1 hb2
    obtain ⟨j, rfl⟩ := Int.eq_ofNat_of_zero_le hb1
    have hj : j < M.length := by omega
    have hg : M[j]? = some M[j] := List.getElem?_eq_getElem hj
    have hm := hsm _ (List.getElem_mem hj)
    generalize M[j] = g at hg hm
    refine ⟨j, g, h18, hm, frc_at hg, ?_⟩
    rw [hvd, iaK_ss, if_pos (by omega), Int.toNat_natCast]; simp
  obtain ⟨j1, a, a1, a2, a3, a4⟩ := pick x
  obtain ⟨j2, b, b1, b2, b3, b4⟩ := pick y
  have a19 := c19 a a2.1 a2.2
  have a20 := c20 a a2.1 a2.2
  have a21 := c21 a a2.1 a2.2
  have b19 := c19 b b2.1 b2.2
  have b20 := c20 b b2.1 b2.2
  have b21 := c21 b b2.1 b2.2
  have ea : (keyF a != keyF a) = false := by simp
  have eb : (keyF b != keyF b) = false := by simp
  have hsd : ∀ q, sameDead [] q = true := fun _ => rfl
  by_cases va : vld a = 0
  · by_cases vb : vld b = 0
    · have a23 := c23 a va
      have b23 := c23 b vb
      have h22 := c22 (rnm a) (rnm b) (by have := (rnm_len a).1; have := (vld_tot va).2; omega)
      rw [va] at a21
      rw [vb] at b21
      have hk : (keyF a == keyF b) = decide (rnm a = rnm b) := by
        have := key_eq va vb
        by_cases q : rnm a = rnm b
        · rw [decide_eq_true q, beq_iff_eq]; exact this.2 q
        · rw [decide_eq_false q, beq_eq_false_iff_ne]; exact fun z => q (this.1 z)
      have hbb : (decide (rnm a = rnm b) == decide (rnm a = rnm b)) = true := by simp
      generalize decide (rnm a = rnm b) = D at h22 hk hbb
      generalize keyF a = X at a19 a20 ea hk
      generalize keyF b = Y at b19 b20 eb hk
      generalize decide (vld a = 0) = V1 at a19
      generalize decide (vld b = 0) = V2 at b19
      simp only [F3, go_sem, op, mv, ↓reduceIte, Nat.reduceAdd, Nat.reduceEqDiff, Nat.reduceLT, Int.reduceNeg, Int.cast_ofNat_Int, Int.reduceLT, Int.reduceAdd, Int.reduceSub, Int.reduceLE, Int.reduceEq, Int.reduceToNat, Nat.reduceSub, Nat.reduceMul, Nat.reduceLeDiff, tks_len, h1, h15, h2, ints_length, h3, h17, hd0, hs0, mksF, r2, hs1, hd1, hlen, a1, a3, a4, b1, b3, b4, hat, a19, a20, a21, b19, b20, b21, ea, eb, a23, b23, h22, hk, hbb, c16, hsd]
    · rw [va] at a21
      generalize keyF a = X at a19 a20 ea
      generalize keyF b = Y at b19 b20 eb
      generalize decide (vld a = 0) = V1 at a19
      generalize decide (vld b = 0) = V2 at b19
      simp only [F3, go_sem, op, mv, ↓reduceIte, Nat.reduceAdd, Nat.reduceEqDiff, Nat.reduceLT, Int.reduceNeg, Int.cast_ofNat_Int, Int.reduceLT, Int.reduceAdd, Int.reduceSub, Int.reduceLE, Int.reduceEq, Int.reduceToNat, Nat.reduceSub, Nat.reduceMul, Nat.reduceLeDiff, tks_len, h1, h15, h2, ints_length, h3, h17, hd0, hs0, mksF, r2, hs1, hd1, hlen, a1, a3, a4, b1, b3, b4, hat, a19, a20, a21, b19, b20, b21, vb, ea, eb, c16, hsd]
  · generalize keyF a = X at a19 a20 ea
    generalize keyF b = Y at b19 b20 eb
    generalize decide (vld a = 0) = V1 at a19
    generalize decide (vld b = 0) = V2 at b19
    simp only [F3, go_sem, op, mv, ↓reduceIte, Nat.reduceAdd, Nat.reduceEqDiff, Nat.reduceLT, Int.reduceNeg, Int.cast_ofNat_Int, Int.reduceLT, Int.reduceAdd, Int.reduceSub, Int.reduceLE, Int.reduceEq, Int.reduceToNat, Nat.reduceSub, Nat.reduceMul, Nat.reduceLeDiff, tks_len, h1, h15, h2, ints_length, h3, h17, hd0, hs0, mksF, r2, hs1, hd1, hlen, a1, a3, a4, b1, b3, b4, hat, a19, a20, a21, b19, b20, va, ea, eb, c16, hsd]
end Go.Av
