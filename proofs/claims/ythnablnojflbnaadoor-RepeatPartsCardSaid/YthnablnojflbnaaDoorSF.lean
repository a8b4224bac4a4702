/- The law of the first repetitions. -/
import Derived.Test.YthnablnojflbnaaDoorSE
set_option linter.unusedSimpArgs false
set_option linter.unusedVariables false
namespace Go.Av
open Go.Nt
set_option linter.unusedSimpArgs false
set_option linter.unusedVariables false
set_option maxHeartbeats 16000000
set_option maxRecDepth 100000
theorem appO2 {v : AV} {R : List (List AV)} {L : List (List Tk)} (h : OSt v R L) (f g : List Tk) (hl : L.length ≤ 1000) (l : List Int) (n : Nat) : ∃ v' R', OSt v' R' (L ++ [f, g]) ∧ appSA 1 24 (num l n :: R) (some [[.sl .no 3 (tks f)], [.sl .no 3 (tks g)]]) v = some (v', num l n :: R') := by
  have ha : appOK 24 (L.length + 2) = true := appOK_le (by decide) (by omega)
  rcases h with ⟨rfl, rfl, rfl⟩ | ⟨h1, d, rfl, rfl⟩
  · refine ⟨.ss 1 0 2 1, [frc [f, g]], .inr ⟨by simp, 0, rfl, rfl⟩, ?_⟩
    rw [appSA_nil 1 24 1 (by decide), if_pos (show appOK 24 ([[AV.sl .no 3 (tks g)]].length + 1) = true from ha)]
    rfl
  · refine ⟨.ss (d + 1 + 1) 0 (L ++ [f, g]).length 1, List.replicate (d + 1) dead ++ [frc (L ++ [f, g])], .inr ⟨by simp, d + 1, rfl, rfl⟩, ?_⟩
    have e2 : [[AV.sl .no 3 (tks f)], [AV.sl .no 3 (tks g)]].length = 2 := rfl
    rw [appSA_ss (d + 1) L.length 24 1 (by decide), e2, if_pos ha, rep_at]
    simp only [Option.bind_some]
    rw [if_pos ⟨frc_blk L, by rw [frc_len]; omega, frc_nown L⟩, rep_set, frc_app]
    simp [frc]
theorem RokS_of {sh : List (List AV)} (h : REF sh.length sh) : RokS sh := by
  unfold RokS
  rw [List.all_eq_true]
  intro c hc
  rw [List.all_eq_true]
  exact h c hc
theorem ref_frc (n : Nat) (L : List (List Tk)) : ∀ x ∈ frc L, refLt n x = true := fun x hx => by
  obtain ⟨f, _, rfl⟩ := List.mem_map.1 hx
  rfl
theorem OSt.ref {v : AV} {R : List (List AV)} {L : List (List Tk)} (h : OSt v R L) (n : Nat) (l : List Int) (p : Nat) : REF n (num l p :: R) := by
  intro c hc x hx
  rcases List.mem_cons.1 hc with rfl | q
  · have : (num l p).all (refLt n) = true := rfl
    rw [List.all_eq_true] at this
    exact this x hx
  · rcases h with ⟨_, _, rfl⟩ | ⟨_, d, _, rfl⟩
    · cases q
    · rcases List.mem_append.1 q with q | q
      · rw [(List.mem_replicate.1 q).2] at hx; exact ref_dead n x hx
      · rw [List.mem_singleton] at q; subst q; exact ref_frc n L x hx
theorem OSt.lv {v : AV} {R : List (List AV)} {L : List (List Tk)} (h : OSt v R L) (l : List Int) (p : Nat) : LV v (num l p :: R) L := by
  rcases h with ⟨rfl, rfl, rfl⟩ | ⟨_, d, rfl, rfl⟩
  · exact LV_sl [] _
  · exact LV_ss (rep_at d (num l p) (frc L))
theorem mks2 (f g : List Tk) : mksA 1 [.sl .full 3 []] 2 [0, 1] [.sl .no 3 (tks f), .sl .no 3 (tks g)] = some (.sl .full 1 [[.sl .no 3 (tks f)], [.sl .no 3 (tks g)]]) := rfl
theorem grpZ_le (L : List (List Tk)) : (grpZ (phi L) L.length).length ≤ L.length ∧ ∀ g ∈ grpZ (phi L) L.length, g.length ≤ L.length := by
  refine ⟨by rw [grpZ_len]; exact heads_le _ _, fun g hg => ?_⟩
  obtain ⟨h, _, rfl⟩ := List.mem_map.1 hg
  rw [zs_len]; exact grpN_le _ _ _
theorem c4 (l : List Int) (f : List Tk) (hl : f.length ≤ 4398046511104) (hb : ∀ t ∈ f, t.2.1.length ≤ 140737488355328) : G0 4 [.sl .no 1 (ints l), .sl .no 3 (tks f)] [] = some (.bool true, []) := by
  refine contract F4 rfl rfl rfl ?_
  by_cases h1 : (200 : Int) < (l.length : Int)
  · simp only [F4, go_sem, op, mv, ↓reduceIte, Nat.reduceAdd, Nat.reduceEqDiff, Nat.reduceLT, Int.reduceNeg, Int.cast_ofNat_Int, Int.reduceLT, Int.reduceAdd, Int.reduceSub, Int.reduceLE, Int.reduceEq, Int.reduceToNat, Nat.reduceSub, Nat.reduceMul, Nat.reduceLeDiff, ints_length, tks_len, h1, c16]
  by_cases h2 : (20 : Int) < (f.length : Int)
  · simp only [F4, go_sem, op, mv, ↓reduceIte, Nat.reduceAdd, Nat.reduceEqDiff, Nat.reduceLT, Int.reduceNeg, Int.cast_ofNat_Int, Int.reduceLT, Int.reduceAdd, Int.reduceSub, Int.reduceLE, Int.reduceEq, Int.reduceToNat, Nat.reduceSub, Nat.reduceMul, Nat.reduceLeDiff, ints_length, tks_len, h1, h2, c16]
  have h15 := c15 f (by omega) hb
  by_cases h3 : (300 : Int) < (len f : Int)
  · simp only [F4, go_sem, op, mv, ↓reduceIte, Nat.reduceAdd, Nat.reduceEqDiff, Nat.reduceLT, Int.reduceNeg, Int.cast_ofNat_Int, Int.reduceLT, Int.reduceAdd, Int.reduceSub, Int.reduceLE, Int.reduceEq, Int.reduceToNat, Nat.reduceSub, Nat.reduceMul, Nat.reduceLeDiff, ints_length, tks_len, h1, h2, h15, h3, c16]
  obtain ⟨v, R, L, p, q1, q2, q3, h17⟩ := c17 l 8 (by decide) (by decide)
  obtain ⟨v1, R1, r1, r2⟩ := appO2 q1 f f (by omega) l p
  have hd0 := q1.dem
  have hs0 := q1.scrub
  have hs1 := r1.scrub
  have hd1 := r1.dem
  have hlen := r1.len
  have hsm : ∀ g ∈ L ++ [f, f], small g := by
    intro g hg
    rcases List.mem_append.1 hg with q | q
    · have hz := q2 g q
      exact ⟨by have := hz.1; omega, fun t ht => by have := tot_le' t ht; have := hz.2; simp only [cap47]; omega⟩
    · simp only [List.mem_cons, List.not_mem_nil, or_false, or_self] at q; subst q; exact ⟨by omega, hb⟩
  have hml : (L ++ [f, f]).length ≤ 10 := by simp; omega
  generalize L ++ [f, f] = M at r1 hlen hsm hml
  have hV := r1.lv l p
  have hR := RokS_of (r1.ref _ l p)
  have h25 := c25 hV hR (by omega) hsm
  have h26 := c26 hV hR (by omega) hsm
  have h24 := c24 (firstF M) (firstG M) (by rw [firstF_len]; omega)
  rw [decide_eq_true (first_eq M)] at h24
  obtain ⟨w, m, E, hG, h28⟩ := c28 hV hR (by omega) hsm
  have hR2 := hG.rok hR (imr m)
  have hV2 := hV.ext ([.mapv (imr m)] :: E)
  have h29 := c29 hV2 hR2 (by omega) hsm
  rw [groups_eq] at hG
  obtain ⟨z1, z2⟩ := grpZ_le M
  have h27 := c27 hG hR2 (grpZ (phi M) M.length) (by omega) (fun g hg => by have := z2 g hg; omega)
  rw [decide_eq_true rfl] at h27
  have hs2 := hG.scrub
  have hd2 := hG.dem
  have ha1 := hV.arg
  have ha2 := hG.arg
  rw [List.cons_append] at h28 h29 h27
  simp only [F4, go_sem, op, mv, ↓reduceIte, Nat.reduceAdd, Nat.reduceEqDiff, Nat.reduceLT, Int.reduceNeg, Int.cast_ofNat_Int, Int.reduceLT, Int.reduceAdd, Int.reduceSub, Int.reduceLE, Int.reduceEq, Int.reduceToNat, Nat.reduceSub, Nat.reduceMul, Nat.reduceLeDiff, ints_length, tks_len, h1, h2, h15, h3, h17, hd0, hs0, mks2, r2, hs1, hd1, hlen, h25, h26, h24, h28, h29, h27, hs2, hd2, ha1, ha2, c16]
end Go.Av
