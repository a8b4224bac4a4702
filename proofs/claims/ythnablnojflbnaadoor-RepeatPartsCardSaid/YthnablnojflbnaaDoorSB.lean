/- The fixed example, items that need not be valid, made lists with such. -/
import Derived.Test.YthnablnojflbnaaDoorSA
import Derived.Test.YthnablnojflbnaaDoorRC
set_option linter.unusedSimpArgs false
set_option linter.unusedVariables false
namespace Go.Av
open Go.Nt
set_option linter.unusedSimpArgs false
set_option linter.unusedVariables false
set_option maxHeartbeats 16000000
set_option maxRecDepth 100000
theorem c16 : G0 16 [] [] = some (.bool true, []) := by
  have hR : RokS [] := rfl
  have h1 := c25 (LV_sl [[(1, [97], 0)], [(1, [98], 0)], [(1, [97], 0)], [(1, [97], 0)]] []) hR (by decide) (by intro f hf; simp only [List.mem_cons, List.not_mem_nil, or_false] at hf; rcases hf with rfl | rfl | rfl | rfl <;> exact ⟨by decide, by decide⟩)
  have h2 := c25 (LV_sl [[(2, [98], 1), (3, [98], 1)], [(2, [98], 2), (3, [98], 2)]] []) hR (by decide) (by intro f hf; simp only [List.mem_cons, List.not_mem_nil, or_false] at hf; rcases hf with rfl | rfl <;> exact ⟨by decide, by decide⟩)
  rw [kn1] at h1
  rw [kn2] at h2
  have k1 := c24 [0, 1, 0, 0] [0, 1, 0, 0] (by decide)
  have k2 := c24 [0, 0] [0, 0] (by decide)
  rw [decide_eq_true rfl] at k1 k2
  have e1 : frs [[(1, [97], 0)], [(1, [98], 0)], [(1, [97], 0)], [(1, [97], 0)]] = [[.sl .no 3 [[.int .i64 1, .str [97], .int .i64 0]]], [.sl .no 3 [[.int .i64 1, .str [98], .int .i64 0]]], [.sl .no 3 [[.int .i64 1, .str [97], .int .i64 0]]], [.sl .no 3 [[.int .i64 1, .str [97], .int .i64 0]]]] := rfl
  have e2 : frs [[(2, [98], 1), (3, [98], 1)], [(2, [98], 2), (3, [98], 2)]] = [[.sl .no 3 [[.int .i64 2, .str [98], .int .i64 1], [.int .i64 3, .str [98], .int .i64 1]]], [.sl .no 3 [[.int .i64 2, .str [98], .int .i64 2], [.int .i64 3, .str [98], .int .i64 2]]]] := rfl
  have i1 : ints [0, 1, 0, 0] = [[.int .i64 0], [.int .i64 1], [.int .i64 0], [.int .i64 0]] := rfl
  have i2 : ints [0, 0] = [[.int .i64 0], [.int .i64 0]] := rfl
  rw [e1, i1] at h1
  rw [e2, i2] at h2
  rw [i1] at k1
  rw [i2] at k2
  refine contract F16 rfl rfl rfl ?_
  have m1 : mksA 1 [.sl .full 3 []] 4 [0, 1, 2, 3] [.sl .full 3 [[.int .i64 1, .str [97], .int .i64 0]], .sl .full 3 [[.int .i64 1, .str [98], .int .i64 0]], .sl .full 3 [[.int .i64 1, .str [97], .int .i64 0]], .sl .full 3 [[.int .i64 1, .str [97], .int .i64 0]]] = some (.sl .full 1 [[.sl .no 3 [[.int .i64 1, .str [97], .int .i64 0]]], [.sl .no 3 [[.int .i64 1, .str [98], .int .i64 0]]], [.sl .no 3 [[.int .i64 1, .str [97], .int .i64 0]]], [.sl .no 3 [[.int .i64 1, .str [97], .int .i64 0]]]]) := by rfl
  have m2 : mksA 1 [.sl .full 3 []] 2 [0, 1] [.sl .full 3 [[.int .i64 2, .str [98], .int .i64 1], [.int .i64 3, .str [98], .int .i64 1]], .sl .full 3 [[.int .i64 2, .str [98], .int .i64 2], [.int .i64 3, .str [98], .int .i64 2]]] = some (.sl .full 1 [[.sl .no 3 [[.int .i64 2, .str [98], .int .i64 1], [.int .i64 3, .str [98], .int .i64 1]]], [.sl .no 3 [[.int .i64 2, .str [98], .int .i64 2], [.int .i64 3, .str [98], .int .i64 2]]]]) := by rfl
  have m3 : mksA 1 [.int .i64 0] 4 [0, 1, 2, 3] [.int .i64 0, .int .i64 1, .int .i64 0, .int .i64 0] = some (.sl .full 1 [[.int .i64 0], [.int .i64 1], [.int .i64 0], [.int .i64 0]]) := by rfl
  have m4 : mksA 1 [.int .i64 0] 2 [0, 1] [.int .i64 0, .int .i64 0] = some (.sl .full 1 [[.int .i64 0], [.int .i64 0]]) := by rfl
  simp only [F16, go_sem, op, mv, ↓reduceIte, Nat.reduceAdd, Nat.reduceEqDiff, Nat.reduceLT, Int.reduceNeg, Int.cast_ofNat_Int, Int.reduceLT, Int.reduceAdd, Int.reduceSub, Int.reduceLE, Int.reduceEq, Int.reduceToNat, Nat.reduceSub, Nat.reduceMul, Nat.reduceLeDiff, m1, m2, m3, m4, h1, h2, k1, k2]
theorem frc_blk (L : List (List Tk)) : blkB (frc L) = true := by
  cases L with
  | nil => rfl
  | cons a L => cases L <;> rfl
theorem frc_nown : ∀ L : List (List Tk), (frc L).all nownB = true
  | [] => rfl
  | a :: L => by
    show (nownB _ && (frc L).all nownB) = true
    rw [frc_nown L]; rfl
/-- the list that is made, and the objects behind the numbers -/
def OSt (v : AV) (R : List (List AV)) (L : List (List Tk)) : Prop :=
  (L = [] ∧ v = .sl .full 1 [] ∧ R = []) ∨ (1 ≤ L.length ∧ ∃ d : Nat, v = .ss (d + 1) 0 L.length 1 ∧ R = List.replicate d dead ++ [frc L])
theorem OSt.rok {v : AV} {R : List (List AV)} {L : List (List Tk)} (h : OSt v R L) : Rok R := by
  intro l n
  have hn : ∀ k, (num l n).all (refLt k) = true := fun k => rfl
  rcases h with ⟨_, _, rfl⟩ | ⟨_, d, _, rfl⟩
  · rfl
  · unfold refsOk
    rw [Bool.false_or, take_R, List.all_cons, hn, Bool.true_and, List.all_append, Bool.and_eq_true]
    constructor
    · rw [List.all_eq_true]
      intro c hc
      rw [(List.mem_replicate.1 hc).2]; rfl
    · have : ∀ (k : Nat) (L : List (List Tk)), (frc L).all (refLt k) = true := by
        intro k L
        induction L with
        | nil => rfl
        | cons a L ih =>
          show (refLt k _ && (frc L).all _) = true
          rw [ih]; rfl
      rw [List.all_cons, this]; rfl
theorem OSt.scrub {v : AV} {R : List (List AV)} {L : List (List Tk)} (h : OSt v R L) (k : List Nat) : scrubV k v = v := by
  rcases h with ⟨_, rfl, _⟩ | ⟨_, d, rfl, _⟩ <;> rfl
theorem OSt.dem {v : AV} {R : List (List AV)} {L : List (List Tk)} (h : OSt v R L) : demV v = v := by
  rcases h with ⟨_, rfl, _⟩ | ⟨_, d, rfl, _⟩ <;> rfl
theorem OSt.len {v : AV} {R : List (List AV)} {L : List (List Tk)} (h : OSt v R L) : lenA' false v = some (.int .i64 (L.length : Int)) := by
  rcases h with ⟨rfl, rfl, _⟩ | ⟨_, d, rfl, _⟩ <;> rfl
theorem rep_at (d : Nat) (x c : List AV) : (x :: (List.replicate d dead ++ [c]))[d + 1]? = some c := by
  rw [List.getElem?_cons_succ, List.getElem?_append_right (by simp)]; simp
theorem rep_set (d : Nat) (x c e : List AV) : (x :: (List.replicate d dead ++ [c])).set (d + 1) dead ++ [e] = x :: (List.replicate (d + 1) dead ++ [e]) := by
  rw [List.set_cons_succ, List.set_append_right _ _ (by simp)]
  simp [List.replicate_succ']
theorem appO {v : AV} {R : List (List AV)} {L : List (List Tk)} (h : OSt v R L) (f : List Tk) (hl : L.length ≤ 1000) (l : List Int) (n : Nat) : ∃ v' R', OSt v' R' (L ++ [f]) ∧ appSA 1 24 (num l n :: R) (some [[.sl .no 3 (tks f)]]) v = some (v', num l n :: R') := by
  have ha : appOK 24 (L.length + 1) = true := appOK_le (by decide) (by omega)
  rcases h with ⟨rfl, rfl, rfl⟩ | ⟨h1, d, rfl, rfl⟩
  · refine ⟨.ss 1 0 1 1, [frc [f]], .inr ⟨by simp, 0, rfl, rfl⟩, ?_⟩
    rw [appSA_nil 1 24 1 (by decide), if_pos (show appOK 24 (([] : List (List AV)).length + 1) = true from ha)]
    rfl
  · refine ⟨.ss (d + 1 + 1) 0 (L ++ [f]).length 1, List.replicate (d + 1) dead ++ [frc (L ++ [f])], .inr ⟨by simp, d + 1, rfl, rfl⟩, ?_⟩
    rw [appSA_ss (d + 1) L.length 24 1 (by decide), List.length_singleton, if_pos ha, rep_at]
    simp only [Option.bind_some]
    rw [if_pos ⟨frc_blk L, by rw [frc_len]; omega, frc_nown L⟩, rep_set, frc_app]
    simp [frc]
theorem mksF (f : List Tk) : mksA 1 [.sl .full 3 []] 1 [0] [.sl .no 3 (tks f)] = some (.sl .full 1 [[.sl .no 3 (tks f)]]) := rfl
theorem nrm_sz (g : List Tk) : (nrm g).length ≤ g.length ∧ tot (nrm g) ≤ tot g := by
  have key : ∀ (g A : List Tk), (g.foldl pn A).length ≤ A.length + g.length ∧ tot (g.foldl pn A) ≤ tot A + tot g := by
    intro g
    induction g with
    | nil => intro A; simp [tot]
    | cons x g ih =>
      intro A
      obtain ⟨h1, h2⟩ := ih (pn A x)
      obtain ⟨h3, h4⟩ := tot_pn A x
      rw [List.foldl_cons, List.length_cons, tot_cons]
      omega
  have := key g []
  simpa [nrm, tot] using this
def Sz (t : Nat) (f : List Tk) : Prop := f.length ≤ 10 + t ∧ tot f ≤ 150 + 4 * t
theorem Sz.mono {t t' : Nat} {f : List Tk} (h : Sz t f) (ht : t ≤ t') : Sz t' f := ⟨by have := h.1; omega, by have := h.2; omega⟩
theorem mks6 : mksA 1 [.int .i64 0] 6 [0, 1, 2, 3, 4, 5] [.int .i64 9, .int .i64 4, .int .i64 6, .int .i64 2, .int .i64 8, .int .i64 3] = some (.sl .full 1 (ints [9, 4, 6, 2, 8, 3])) := rfl
def tbR : List (List UInt8) := [[], [98], [97, 98, 32, 99], [97, 32, 104, 61, 49], [66], [110, 47], [105], [32, 120]]
theorem tbR5 : ∀ i, (tbR.getD i []).length ≤ 5
  | 0 => by decide
  | 1 => by decide
  | 2 => by decide
  | 3 => by decide
  | 4 => by decide
  | 5 => by decide
  | 6 => by decide
  | 7 => by decide
  | i + 8 => by simp [tbR]
theorem mR : mksA 1 [.str []] 8 [0, 1, 2, 3, 4, 5, 6, 7] [.str [], .str [98], .str [97, 98, 32, 99], .str [97, 32, 104, 61, 49], .str [66], .str [110, 47], .str [105], .str [32, 120]] = some (.sl .full 1 (strs tbR)) := by rfl
theorem l45 {R : List (List AV)} (hR : Rok R) (l : List Int) : ∀ (k p : Nat) (f : List Tk) (b : Bool), k + f.length ≤ 8 → p ≤ 100000 + 4 * f.length → tot f ≤ 5 * f.length →
    ∃ b' f' p', f'.length ≤ 8 ∧ tot f' ≤ 40 ∧ p' ≤ p + 4 * k ∧ execX G0 L45_0 (ST [(0, .ptr 0 0), (5, .sl (md b) 3 (tks f)), (6, .int .i64 k)] [] (num l p :: R)) = some (.ex 0, ST [(0, .ptr 0 0), (5, .sl (md b') 3 (tks f')), (6, .int .i64 0), (13, .bool false)] [] (num l p' :: R))
  | 0, p, f, b, h, hp, ht => by
    refine ⟨b, f, p, by omega, by omega, by omega, ?_⟩
    rw [Y_loop (L := L45_0) rfl]
    simp only [go_sem, op, mv, ↓reduceIte, Nat.reduceAdd, Nat.reduceEqDiff, Nat.reduceLT, Int.reduceNeg, Int.cast_ofNat_Int, Int.reduceLT, Int.reduceAdd, Int.reduceSub, Int.reduceLE, Int.reduceEq, Int.reduceToNat, Nat.reduceSub, Nat.reduceMul, Nat.reduceLeDiff, Int.lt_irrefl]
  | k + 1, p, f, b, h, hp, ht => by
    have hk0 : (0 : Int) < ((k + 1 : Nat) : Int) := by omega
    have hwk : IntKind.i64.wrap (((k + 1 : Nat) : Int) - 1) = (k : Int) := by rw [w64 (by omega) (by omega)]; omega
    have h1 := c41r hR l p 8 (by omega) (by decide) (by decide)
    have b1 := nxt_bd l p 8 (by decide)
    obtain ⟨x, xm, x5, hx, hx0⟩ := tb_at tbR tbR5 l (p + 1) 8 (by decide) rfl
    have h2 := c41r hR l (p + 1) 8 (by omega) (by decide) (by decide)
    have h3 := c41r hR l (p + 1 + 1) 4 (by omega) (by decide) (by decide)
    have h4 := c41r hR l (p + 1 + 1 + 1) 3 (by omega) (by decide) (by decide)
    have w1 : IntKind.i64.wrap (nxt l p 8 - 1) = nxt l p 8 - 1 := w64 (by omega) (by omega)
    have e1 : md true = .own := rfl
    by_cases hq : (0 : Int) < nxt l (p + 1 + 1 + 1) 3
    · have ha := app_f b f (nxt l p 8 - 1, x, 0) (by omega)
      simp only [] at ha
      obtain ⟨b', f', p', i1, i2, i3, ih⟩ := l45 hR l k (p + 1 + 1 + 1 + 1) (f ++ [(nxt l p 8 - 1, x, 0)]) true (by simp; omega) (by simp; omega) (by rw [tot_app, tot_cons, tot_nil]; simp only [List.length_append, List.length_singleton]; omega)
      refine ⟨b', f', p', i1, i2, by omega, ?_⟩
      rw [e1] at ih
      rw [Y_loop (L := L45_0) rfl]
      simp only [go_sem, op, mv, ↓reduceIte, Nat.reduceAdd, Nat.reduceEqDiff, Nat.reduceLT, Int.reduceNeg, Int.cast_ofNat_Int, Int.reduceLT, Int.reduceAdd, Int.reduceSub, Int.reduceLE, Int.reduceEq, Int.reduceToNat, Nat.reduceSub, Nat.reduceMul, Nat.reduceLeDiff, hk0, h1, h2, h3, h4, hx, hx0, mR, w1, hq, ha, demV_md, hwk]
      exact ih
    · have ha := app_f b f (nxt l p 8 - 1, x, nxt l (p + 1 + 1) 4) (by omega)
      simp only [] at ha
      obtain ⟨b', f', p', i1, i2, i3, ih⟩ := l45 hR l k (p + 1 + 1 + 1 + 1) (f ++ [(nxt l p 8 - 1, x, nxt l (p + 1 + 1) 4)]) true (by simp; omega) (by simp; omega) (by rw [tot_app, tot_cons, tot_nil]; simp only [List.length_append, List.length_singleton]; omega)
      refine ⟨b', f', p', i1, i2, by omega, ?_⟩
      rw [e1] at ih
      rw [Y_loop (L := L45_0) rfl]
      simp only [go_sem, op, mv, ↓reduceIte, Nat.reduceAdd, Nat.reduceEqDiff, Nat.reduceLT, Int.reduceNeg, Int.cast_ofNat_Int, Int.reduceLT, Int.reduceAdd, Int.reduceSub, Int.reduceLE, Int.reduceEq, Int.reduceToNat, Nat.reduceSub, Nat.reduceMul, Nat.reduceLeDiff, hk0, h1, h2, h3, h4, hx, hx0, mR, w1, hq, ha, demV_md, hwk]
      exact ih
theorem c45 {R : List (List AV)} (hR : Rok R) (l : List Int) (p : Nat) (hp : p ≤ 90000) : ∃ f p', f.length ≤ 8 ∧ tot f ≤ 40 ∧ p' ≤ p + 100 ∧ G0 45 [.ptr 0 0, .int .i64 4] (num l p :: R) = some (.sl .no 3 (tks f), num l p' :: R) := by
  have h1 := c41r hR l p 5 (by omega) (by decide) (by decide)
  have hb := nxt_bd l p 5 (by decide)
  obtain ⟨n, hn⟩ := Int.eq_ofNat_of_zero_le hb.1
  rw [hn] at h1 hb
  obtain ⟨b', f, p', i1, i2, i3, x⟩ := l45 hR l n (p + 1) [] false (by simp; omega) (by simp; omega) (by simp [tot])
  have e2 : md false = .full := rfl
  rw [e2, tks_nil] at x
  have hRn := hR l p'
  have htk := take_R (num l p') R
  refine ⟨f, p', i1, i2, by omega, ?_⟩
  have w1 : IntKind.i64.wrap ((4 : Int) + 1) = 5 := w64 (by decide) (by decide)
  refine contract F45 rfl rfl rfl ?_
  simp only [F45, go_sem, op, mv, ↓reduceIte, Nat.reduceAdd, Nat.reduceEqDiff, Nat.reduceLT, Int.reduceNeg, Int.cast_ofNat_Int, Int.reduceLT, Int.reduceAdd, Int.reduceSub, Int.reduceLE, Int.reduceEq, Int.reduceToNat, Nat.reduceSub, Nat.reduceMul, Nat.reduceLeDiff, w1, h1, x, demV_md, demV_mdn, hRn, htk]
theorem l17 (l : List Int) : ∀ (k p : Nat) (L : List (List Tk)) (v : AV) (R : List (List AV)), OSt v R L → (∀ f ∈ L, Sz L.length f) → k + L.length ≤ 8 → p ≤ 2000 * L.length + 10 →
    ∃ v' R' L' p', OSt v' R' L' ∧ (∀ f ∈ L', Sz 8 f) ∧ L'.length ≤ 8 ∧ execX G0 L17_0 (ST [(2, .bool true), (7, .ptr 0 0), (8, v), (9, .int .i64 k)] [] (num l p :: R)) = some (.ex 0, ST [(2, .bool true), (7, .ptr 0 0), (8, v'), (9, .int .i64 0), (19, .bool false)] [] (num l p' :: R'))
  | 0, p, L, v, R, hst, hs, hk, hp => by
    refine ⟨v, R, L, p, hst, fun f hf => (hs f hf).mono (by omega), by omega, ?_⟩
    have hs1 := hst.scrub
    rw [Y_loop (L := L17_0) rfl]
    simp only [go_sem, op, mv, ↓reduceIte, Nat.reduceAdd, Nat.reduceEqDiff, Nat.reduceLT, Int.reduceNeg, Int.cast_ofNat_Int, Int.reduceLT, Int.reduceAdd, Int.reduceSub, Int.reduceLE, Int.reduceEq, Int.reduceToNat, Nat.reduceSub, Nat.reduceMul, Nat.reduceLeDiff, hs1, Int.lt_irrefl]
  | k + 1, p, L, v, R, hst, hs, hk, hp => by
    have hs0 := hst.scrub
    have hd0 := hst.dem
    have hlen := hst.len
    have hR := hst.rok
    have hk0 : (0 : Int) < ((k + 1 : Nat) : Int) := by omega
    have hwk : IntKind.i64.wrap (((k + 1 : Nat) : Int) - 1) = (k : Int) := by rw [w64 (by omega) (by omega)]; omega
    obtain ⟨p1, f0, b1, b2, b3, b4, h42⟩ := c42r hR l p (by omega) 4 (by decide) (by decide)
    have fin : ∀ (f : List Tk) (p' : Nat), Sz (L.length + 1) f → p' ≤ 2000 * (L.length + 1) + 10 → ∃ v1 R1, OSt v1 R1 (L ++ [f]) ∧ appSA 1 24 (num l p' :: R) (some [[.sl .no 3 (tks f)]]) v = some (v1, num l p' :: R1) ∧
      ∃ v' R' L' p'', OSt v' R' L' ∧ (∀ f ∈ L', Sz 8 f) ∧ L'.length ≤ 8 ∧ execX G0 L17_0 (ST [(2, .bool true), (7, .ptr 0 0), (8, v1), (9, .int .i64 k)] [] (num l p' :: R1)) = some (.ex 0, ST [(2, .bool true), (7, .ptr 0 0), (8, v'), (9, .int .i64 0), (19, .bool false)] [] (num l p'' :: R')) := by
      intro f p' hf hp'
      obtain ⟨v1, R1, q1, q2⟩ := appO hst f (by omega) l p'
      refine ⟨v1, R1, q1, q2, ?_⟩
      exact l17 l k p' (L ++ [f]) v1 R1 q1 (fun g hg => by
        rw [List.length_append, List.length_singleton]
        rcases List.mem_append.1 hg with q | q
        · exact (hs g q).mono (by omega)
        · simp only [List.mem_singleton] at q; subst q; exact hf) (by rw [List.length_append, List.length_singleton]; omega) (by rw [List.length_append, List.length_singleton]; omega)
    have z0 : Sz (L.length + 1) f0 := ⟨by omega, by omega⟩
    by_cases hL : L.length = 0
    · have hl0 : ¬ (0 : Int) < (L.length : Int) := by omega
      have h4 := c41r hR l (p1) 4 (by omega) (by decide) (by decide)
      by_cases hq : nxt l (p1) 4 = 0
      · obtain ⟨fw, pw, w1, w2, w3, h45⟩ := c45 hR l (p1 + 1) (by omega)
        obtain ⟨v1, R1, q1, q2, v', R', L', p'', i1, i2, i3, i4⟩ := fin fw pw ⟨by omega, by omega⟩ (by omega)
        have hs1 := q1.scrub
        have hd1 := q1.dem
        refine ⟨v', R', L', p'', i1, i2, i3, ?_⟩
        rw [Y_loop (L := L17_0) rfl]
        simp only [go_sem, op, mv, ↓reduceIte, Nat.reduceAdd, Nat.reduceEqDiff, Nat.reduceLT, Int.reduceNeg, Int.cast_ofNat_Int, Int.reduceLT, Int.reduceAdd, Int.reduceSub, Int.reduceLE, Int.reduceEq, Int.reduceToNat, Nat.reduceSub, Nat.reduceMul, Nat.reduceLeDiff, hk0, hs0, hd0, hlen, hl0, h42, mksF, q2, hs1, hd1, hwk, h4, hq, h45]
        exact i4
      · obtain ⟨v1, R1, q1, q2, v', R', L', p'', i1, i2, i3, i4⟩ := fin f0 (p1 + 1) z0 (by omega)
        have hs1 := q1.scrub
        have hd1 := q1.dem
        refine ⟨v', R', L', p'', i1, i2, i3, ?_⟩
        rw [Y_loop (L := L17_0) rfl]
        simp only [go_sem, op, mv, ↓reduceIte, Nat.reduceAdd, Nat.reduceEqDiff, Nat.reduceLT, Int.reduceNeg, Int.cast_ofNat_Int, Int.reduceLT, Int.reduceAdd, Int.reduceSub, Int.reduceLE, Int.reduceEq, Int.reduceToNat, Nat.reduceSub, Nat.reduceMul, Nat.reduceLeDiff, hk0, hs0, hd0, hlen, hl0, h42, mksF, q2, hs1, hd1, hwk, h4, hq]
        exact i4
    · have hl0 : (0 : Int) < (L.length : Int) := by omega
      have h41 := c41r hR l p1 2 (by omega) (by decide) (by decide)
      by_cases hy : nxt l p1 2 = 0
      · have h41b := c41r hR l (p1 + 1) (L.length : Int) (by omega) (by omega) (by omega)
        have hj := nxt_bd l (p1 + 1) (L.length : Int) (by omega)
        generalize nxt l (p1 + 1) (L.length : Int) = j at h41b hj
        obtain ⟨jn, rfl⟩ := Int.eq_ofNat_of_zero_le hj.1
        have hjl : jn < L.length := by omega
        have hg : L[jn]? = some L[jn] := List.getElem?_eq_getElem hjl
        have hfs := hs _ (List.getElem_mem hjl)
        generalize L[jn] = f at hg hfs
        have hr := frc_at hg
        have h41c := c41r hR l (p1 + 1 + 1) 3 (by omega) (by decide) (by decide)
        have hz := nxt_bd l (p1 + 1 + 1) 3 (by decide)
        generalize nxt l (p1 + 1 + 1) 3 = z at h41c hz
        obtain ⟨_, d, hvd, hRd⟩ : 1 ≤ L.length ∧ ∃ d : Nat, v = .ss (d + 1) 0 L.length 1 ∧ R = List.replicate d dead ++ [frc L] := by
          rcases hst with ⟨rfl, _, _⟩ | h
          · exact absurd rfl hL
          · exact h
        have hia : iaK 1 v (.int .i64 (jn : Int)) = some (.ptr (d + 1) jn) := by
          rw [hvd, iaK_ss, if_pos (by omega), Int.toNat_natCast]; simp
        have hat : ∀ x : List AV, (x :: R)[d + 1]? = some (frc L) := fun x => by rw [hRd]; exact rep_at d x (frc L)
        obtain ⟨s1, s2⟩ := hfs
        have c0 : z = 0 ∨ z = 1 ∨ z = 2 := by omega
        rcases c0 with rfl | rfl | rfl
        · have h44 := c44 f (by omega)
          have hnl := nums_len f
          have h43 := c43 f (by omega) (by omega) (nums f) [9, 4, 6, 2, 8, 3] (by omega) (by decide)
          obtain ⟨t1, t2⟩ := ren_tot (nums f) [9, 4, 6, 2, 8, 3] f
          obtain ⟨t3, t4⟩ := nrm_sz (renF (nums f) [9, 4, 6, 2, 8, 3] f)
          generalize nrm (renF (nums f) [9, 4, 6, 2, 8, 3] f) = g at h43 t3 t4
          have h4 := c41r hR l (p1 + 1 + 1 + 1) 4 (by omega) (by decide) (by decide)
          by_cases hq : nxt l (p1 + 1 + 1 + 1) 4 = 0
          · obtain ⟨fw, pw, w1, w2, w3, h45⟩ := c45 hR l (p1 + 1 + 1 + 1 + 1) (by omega)
            obtain ⟨v1, R1, q1, q2, v', R', L', p'', i1, i2, i3, i4⟩ := fin fw pw ⟨by omega, by omega⟩ (by omega)
            have hs1 := q1.scrub
            have hd1 := q1.dem
            refine ⟨v', R', L', p'', i1, i2, i3, ?_⟩
            rw [Y_loop (L := L17_0) rfl]
            simp only [go_sem, op, mv, ↓reduceIte, Nat.reduceAdd, Nat.reduceEqDiff, Nat.reduceLT, Int.reduceNeg, Int.cast_ofNat_Int, Int.reduceLT, Int.reduceAdd, Int.reduceSub, Int.reduceLE, Int.reduceEq, Int.reduceToNat, Nat.reduceSub, Nat.reduceMul, Nat.reduceLeDiff, hk0, hs0, hd0, hlen, hl0, h42, h41, hy, h41b, hia, hat, hr, h41c, h44, mks6, h43, mksF, q2, hs1, hd1, hwk, h4, hq, h45]
            exact i4
          · obtain ⟨v1, R1, q1, q2, v', R', L', p'', i1, i2, i3, i4⟩ := fin g (p1 + 1 + 1 + 1 + 1) ⟨by omega, by omega⟩ (by omega)
            have hs1 := q1.scrub
            have hd1 := q1.dem
            refine ⟨v', R', L', p'', i1, i2, i3, ?_⟩
            rw [Y_loop (L := L17_0) rfl]
            simp only [go_sem, op, mv, ↓reduceIte, Nat.reduceAdd, Nat.reduceEqDiff, Nat.reduceLT, Int.reduceNeg, Int.cast_ofNat_Int, Int.reduceLT, Int.reduceAdd, Int.reduceSub, Int.reduceLE, Int.reduceEq, Int.reduceToNat, Nat.reduceSub, Nat.reduceMul, Nat.reduceLeDiff, hk0, hs0, hd0, hlen, hl0, h42, h41, hy, h41b, hia, hat, hr, h41c, h44, mks6, h43, mksF, q2, hs1, hd1, hwk, h4, hq]
            exact i4
        · have h37 := c37 f [(1, [32, 99, 97, 114], 0)] (by simp; omega) (by simp [tot]; simp [tot] at s2; omega)
          have et : tks [(1, [32, 99, 97, 114], 0)] = [[.int .i64 1, .str [32, 99, 97, 114], .int .i64 0]] := rfl
          rw [et] at h37
          obtain ⟨t3, t4⟩ := nrm_sz (f ++ [(1, [32, 99, 97, 114], 0)])
          rw [List.length_append, List.length_singleton] at t3
          rw [tot_app, tot_cons, tot_nil] at t4
          simp only [List.length_cons, List.length_nil] at t4
          generalize nrm (f ++ [(1, [32, 99, 97, 114], 0)]) = g at h37 t3 t4
          have h4 := c41r hR l (p1 + 1 + 1 + 1) 4 (by omega) (by decide) (by decide)
          by_cases hq : nxt l (p1 + 1 + 1 + 1) 4 = 0
          · obtain ⟨fw, pw, w1, w2, w3, h45⟩ := c45 hR l (p1 + 1 + 1 + 1 + 1) (by omega)
            obtain ⟨v1, R1, q1, q2, v', R', L', p'', i1, i2, i3, i4⟩ := fin fw pw ⟨by omega, by omega⟩ (by omega)
            have hs1 := q1.scrub
            have hd1 := q1.dem
            refine ⟨v', R', L', p'', i1, i2, i3, ?_⟩
            rw [Y_loop (L := L17_0) rfl]
            simp only [go_sem, op, mv, ↓reduceIte, Nat.reduceAdd, Nat.reduceEqDiff, Nat.reduceLT, Int.reduceNeg, Int.cast_ofNat_Int, Int.reduceLT, Int.reduceAdd, Int.reduceSub, Int.reduceLE, Int.reduceEq, Int.reduceToNat, Nat.reduceSub, Nat.reduceMul, Nat.reduceLeDiff, hk0, hs0, hd0, hlen, hl0, h42, h41, hy, h41b, hia, hat, hr, h41c, h37, mksF, q2, hs1, hd1, hwk, h4, hq, h45]
            exact i4
          · obtain ⟨v1, R1, q1, q2, v', R', L', p'', i1, i2, i3, i4⟩ := fin g (p1 + 1 + 1 + 1 + 1) ⟨by omega, by omega⟩ (by omega)
            have hs1 := q1.scrub
            have hd1 := q1.dem
            refine ⟨v', R', L', p'', i1, i2, i3, ?_⟩
            rw [Y_loop (L := L17_0) rfl]
            simp only [go_sem, op, mv, ↓reduceIte, Nat.reduceAdd, Nat.reduceEqDiff, Nat.reduceLT, Int.reduceNeg, Int.cast_ofNat_Int, Int.reduceLT, Int.reduceAdd, Int.reduceSub, Int.reduceLE, Int.reduceEq, Int.reduceToNat, Nat.reduceSub, Nat.reduceMul, Nat.reduceLeDiff, hk0, hs0, hd0, hlen, hl0, h42, h41, hy, h41b, hia, hat, hr, h41c, h37, mksF, q2, hs1, hd1, hwk, h4, hq]
            exact i4
        · skip
          have h4 := c41r hR l (p1 + 1 + 1 + 1) 4 (by omega) (by decide) (by decide)
          by_cases hq : nxt l (p1 + 1 + 1 + 1) 4 = 0
          · obtain ⟨fw, pw, w1, w2, w3, h45⟩ := c45 hR l (p1 + 1 + 1 + 1 + 1) (by omega)
            obtain ⟨v1, R1, q1, q2, v', R', L', p'', i1, i2, i3, i4⟩ := fin fw pw ⟨by omega, by omega⟩ (by omega)
            have hs1 := q1.scrub
            have hd1 := q1.dem
            refine ⟨v', R', L', p'', i1, i2, i3, ?_⟩
            rw [Y_loop (L := L17_0) rfl]
            simp only [go_sem, op, mv, ↓reduceIte, Nat.reduceAdd, Nat.reduceEqDiff, Nat.reduceLT, Int.reduceNeg, Int.cast_ofNat_Int, Int.reduceLT, Int.reduceAdd, Int.reduceSub, Int.reduceLE, Int.reduceEq, Int.reduceToNat, Nat.reduceSub, Nat.reduceMul, Nat.reduceLeDiff, hk0, hs0, hd0, hlen, hl0, h42, h41, hy, h41b, hia, hat, hr, h41c, mksF, q2, hs1, hd1, hwk, h4, hq, h45]
            exact i4
          · obtain ⟨v1, R1, q1, q2, v', R', L', p'', i1, i2, i3, i4⟩ := fin f (p1 + 1 + 1 + 1 + 1) ⟨by omega, by omega⟩ (by omega)
            have hs1 := q1.scrub
            have hd1 := q1.dem
            refine ⟨v', R', L', p'', i1, i2, i3, ?_⟩
            rw [Y_loop (L := L17_0) rfl]
            simp only [go_sem, op, mv, ↓reduceIte, Nat.reduceAdd, Nat.reduceEqDiff, Nat.reduceLT, Int.reduceNeg, Int.cast_ofNat_Int, Int.reduceLT, Int.reduceAdd, Int.reduceSub, Int.reduceLE, Int.reduceEq, Int.reduceToNat, Nat.reduceSub, Nat.reduceMul, Nat.reduceLeDiff, hk0, hs0, hd0, hlen, hl0, h42, h41, hy, h41b, hia, hat, hr, h41c, mksF, q2, hs1, hd1, hwk, h4, hq]
            exact i4
      · skip
        have h4 := c41r hR l (p1 + 1) 4 (by omega) (by decide) (by decide)
        by_cases hq : nxt l (p1 + 1) 4 = 0
        · obtain ⟨fw, pw, w1, w2, w3, h45⟩ := c45 hR l (p1 + 1 + 1) (by omega)
          obtain ⟨v1, R1, q1, q2, v', R', L', p'', i1, i2, i3, i4⟩ := fin fw pw ⟨by omega, by omega⟩ (by omega)
          have hs1 := q1.scrub
          have hd1 := q1.dem
          refine ⟨v', R', L', p'', i1, i2, i3, ?_⟩
          rw [Y_loop (L := L17_0) rfl]
          simp only [go_sem, op, mv, ↓reduceIte, Nat.reduceAdd, Nat.reduceEqDiff, Nat.reduceLT, Int.reduceNeg, Int.cast_ofNat_Int, Int.reduceLT, Int.reduceAdd, Int.reduceSub, Int.reduceLE, Int.reduceEq, Int.reduceToNat, Nat.reduceSub, Nat.reduceMul, Nat.reduceLeDiff, hk0, hs0, hd0, hlen, hl0, h42, h41, hy, mksF, q2, hs1, hd1, hwk, h4, hq, h45]
          exact i4
        · obtain ⟨v1, R1, q1, q2, v', R', L', p'', i1, i2, i3, i4⟩ := fin f0 (p1 + 1 + 1) z0 (by omega)
          have hs1 := q1.scrub
          have hd1 := q1.dem
          refine ⟨v', R', L', p'', i1, i2, i3, ?_⟩
          rw [Y_loop (L := L17_0) rfl]
          simp only [go_sem, op, mv, ↓reduceIte, Nat.reduceAdd, Nat.reduceEqDiff, Nat.reduceLT, Int.reduceNeg, Int.cast_ofNat_Int, Int.reduceLT, Int.reduceAdd, Int.reduceSub, Int.reduceLE, Int.reduceEq, Int.reduceToNat, Nat.reduceSub, Nat.reduceMul, Nat.reduceLeDiff, hk0, hs0, hd0, hlen, hl0, h42, h41, hy, mksF, q2, hs1, hd1, hwk, h4, hq]
          exact i4
theorem Rok_nil : Rok [] := fun _ _ => rfl
theorem c17 (l : List Int) (N : Int) (hN : 1 ≤ N) (hN7 : N ≤ 8) : ∃ v R L p, OSt v R L ∧ (∀ f ∈ L, Sz 8 f) ∧ L.length ≤ 8 ∧ G0 17 [.sl .no 1 (ints l), .int .i64 N, .bool true] [] = some (v, num l p :: R) := by
  have h41 := c41r Rok_nil l 0 (N + 1) (by omega) (by omega) (by omega)
  have hb := nxt_bd l 0 (N + 1) (by omega)
  have hc : (((nxt l 0 (N + 1)).toNat : Nat) : Int) = nxt l 0 (N + 1) := by omega
  obtain ⟨v, R, L, p, q1, q2, q3, q4⟩ := l17 l (nxt l 0 (N + 1)).toNat 1 [] (.sl .full 1 []) [] (.inl ⟨rfl, rfl, rfl⟩) (by simp) (by simp; omega) (by simp)
  rw [hc] at q4
  refine ⟨v, R, L, p, q1, q2, q3, ?_⟩
  have hw : IntKind.i64.wrap (N + 1) = N + 1 := w64 (by omega) (by omega)
  have hs1 := q1.scrub
  have hd1 := q1.dem
  have e : num l 0 = [.sl .no 1 (ints l), .int .i64 0] := rfl
  rw [e] at h41
  refine contract F17 rfl rfl rfl ?_
  simp only [F17, go_sem, op, mv, ↓reduceIte, Nat.reduceAdd, Nat.reduceEqDiff, Nat.reduceLT, Int.reduceNeg, Int.cast_ofNat_Int, Int.reduceLT, Int.reduceAdd, Int.reduceSub, Int.reduceLE, Int.reduceEq, Int.reduceToNat, Nat.reduceSub, Nat.reduceMul, Nat.reduceLeDiff, hw, h41, q4, hs1, hd1]
  rcases q1 with ⟨_, rfl, rfl⟩ | ⟨_, d, rfl, rfl⟩
  · simp only [go_sem, op, mv, ↓reduceIte, Nat.reduceAdd, Nat.reduceEqDiff, Nat.reduceLT, Int.reduceNeg, Int.cast_ofNat_Int, Int.reduceLT, Int.reduceAdd, Int.reduceSub, Int.reduceLE, Int.reduceEq, Int.reduceToNat, Nat.reduceSub, Nat.reduceMul, Nat.reduceLeDiff]
  · simp only [go_sem, op, mv, ↓reduceIte, Nat.reduceAdd, Nat.reduceEqDiff, Nat.reduceLT, Int.reduceNeg, Int.cast_ofNat_Int, Int.reduceLT, Int.reduceAdd, Int.reduceSub, Int.reduceLE, Int.reduceEq, Int.reduceToNat, Nat.reduceSub, Nat.reduceMul, Nat.reduceLeDiff]
end Go.Av
