/- Two laws: parsing against the reference; the limits of a notation. -/
import Derived.Test.YthnablnojflbnaaDoorPF
set_option linter.unusedSimpArgs false
set_option linter.unusedVariables false
namespace Go.Av
open Go.Nt
set_option linter.unusedSimpArgs false
set_option linter.unusedVariables false
set_option maxHeartbeats 16000000
set_option maxRecDepth 100000
theorem st7a (a b c u : Bs) (sh : List (List AV)) (i j : Int) (hi : 0 ≤ i) (hi2 : i < 3) (hw : IntKind.i64.wrap (i + 1) = j) (hg : ([.str a, .str b, .str c] : List AV)[i.toNat * 1]? = some (.str u)) (hu : u.length ≤ 50000) : execX G0 L7_0 (ST [(27, .bool false), (39, .bool true), (51, .agg [.str a, .str b, .str c]), (52, .int .i64 i)] [] sh) = execX G0 L7_0 (ST [(27, .bool false), (39, .bool true), (51, .agg [.str a, .str b, .str c]), (52, .int .i64 j)] [] sh) := by
  have h35 := c35 u (by omega)
  have h36 := c36 u hu
  have h22 : G0 22 [.sl .no 3 (tks (parse u).1), .sl .no 3 (tks (parse u).1)] [] = some (.bool true, []) := by
    have hl : (parse u).1.length ≤ 4611686018427387904 := by
      by_cases he : (parse u).2.2 = 0
      · obtain ⟨g, b', hp⟩ : ∃ g b, parse u = (g, b, 0) := ⟨(parse u).1, (parse u).2.1, by rw [← he]⟩
        have := ((vld_iff _).1 (parse_canon hp).1).2.1
        rw [hp]; simp only []; omega
      · obtain ⟨g, b', e, hp⟩ : ∃ g b e, parse u = (g, b, e) := ⟨(parse u).1, (parse u).2.1, (parse u).2.2, rfl⟩
        rw [hp] at he
        have := (parse_err hp he).2.1
        rw [hp, this]; simp
    have := c22 (parse u).1 (parse u).1 hl
    rw [decide_eq_true rfl] at this
    exact this
  generalize (parse u).1 = F at *
  generalize (parse u).2.1 = A at *
  generalize (parse u).2.2 = E at *
  conv => lhs; rw [Y_loop (L := L7_0) rfl]
  simp only [go_sem, op, mv, ↓reduceIte, Nat.reduceAdd, Nat.reduceEqDiff, Nat.reduceLT, Int.reduceNeg, Int.cast_ofNat_Int, Int.reduceLT, Int.reduceAdd, Int.reduceSub, Int.reduceLE, Int.reduceEq, Int.reduceToNat, Nat.reduceSub, Nat.reduceMul, Nat.reduceLeDiff, hi, hi2, hg, h35, h36, h22, hw]
theorem en7a (a b c : Bs) (sh : List (List AV)) : execX G0 L7_0 (ST [(27, .bool false), (39, .bool true), (51, .agg [.str a, .str b, .str c]), (52, .int .i64 3)] [] sh) = some (.ex 0, ST [(27, .bool false), (39, .bool true), (51, .agg [.str a, .str b, .str c]), (52, .int .i64 3), (53, .bool false)] [] sh) := by
  rw [Y_loop (L := L7_0) rfl]
  simp only [go_sem, op, mv, ↓reduceIte, Nat.reduceAdd, Nat.reduceEqDiff, Nat.reduceLT, Int.reduceNeg, Int.cast_ofNat_Int, Int.reduceLT, Int.reduceAdd, Int.reduceSub, Int.reduceLE, Int.reduceEq, Int.reduceToNat, Nat.reduceSub, Nat.reduceMul, Nat.reduceLeDiff, Int.lt_irrefl]
theorem st7b (z w : Int) (a b c u : Bs) (sh : List (List AV)) (i j : Int) (hi : 0 ≤ i) (hi2 : i < 3) (hw : IntKind.i64.wrap (i + 1) = j) (hg : ([.str a, .str b, .str c] : List AV)[i.toNat * 1]? = some (.str u)) (hu : u.length ≤ 50000) : execX G0 L7_0 (ST [(2, .int .i64 z), (3, .int .u8 w), (27, .bool false), (39, .bool false), (51, .agg [.str a, .str b, .str c]), (52, .int .i64 i)] [] sh) = execX G0 L7_0 (ST [(2, .int .i64 z), (3, .int .u8 w), (27, .bool false), (39, .bool false), (51, .agg [.str a, .str b, .str c]), (52, .int .i64 j)] [] sh) := by
  have h35 := c35 u (by omega)
  have h36 := c36 u hu
  have h22 : G0 22 [.sl .no 3 (tks (parse u).1), .sl .no 3 (tks (parse u).1)] [] = some (.bool true, []) := by
    have hl : (parse u).1.length ≤ 4611686018427387904 := by
      by_cases he : (parse u).2.2 = 0
      · obtain ⟨g, b', hp⟩ : ∃ g b, parse u = (g, b, 0) := ⟨(parse u).1, (parse u).2.1, by rw [← he]⟩
        have := ((vld_iff _).1 (parse_canon hp).1).2.1
        rw [hp]; simp only []; omega
      · obtain ⟨g, b', e, hp⟩ : ∃ g b e, parse u = (g, b, e) := ⟨(parse u).1, (parse u).2.1, (parse u).2.2, rfl⟩
        rw [hp] at he
        have := (parse_err hp he).2.1
        rw [hp, this]; simp
    have := c22 (parse u).1 (parse u).1 hl
    rw [decide_eq_true rfl] at this
    exact this
  generalize (parse u).1 = F at *
  generalize (parse u).2.1 = A at *
  generalize (parse u).2.2 = E at *
  conv => lhs; rw [Y_loop (L := L7_0) rfl]
  simp only [go_sem, op, mv, ↓reduceIte, Nat.reduceAdd, Nat.reduceEqDiff, Nat.reduceLT, Int.reduceNeg, Int.cast_ofNat_Int, Int.reduceLT, Int.reduceAdd, Int.reduceSub, Int.reduceLE, Int.reduceEq, Int.reduceToNat, Nat.reduceSub, Nat.reduceMul, Nat.reduceLeDiff, hi, hi2, hg, h35, h36, h22, hw]
theorem en7b (z w : Int) (a b c : Bs) (sh : List (List AV)) : execX G0 L7_0 (ST [(2, .int .i64 z), (3, .int .u8 w), (27, .bool false), (39, .bool false), (51, .agg [.str a, .str b, .str c]), (52, .int .i64 3)] [] sh) = some (.ex 0, ST [(2, .int .i64 z), (3, .int .u8 w), (27, .bool false), (39, .bool false), (51, .agg [.str a, .str b, .str c]), (52, .int .i64 3), (53, .bool false)] [] sh) := by
  rw [Y_loop (L := L7_0) rfl]
  simp only [go_sem, op, mv, ↓reduceIte, Nat.reduceAdd, Nat.reduceEqDiff, Nat.reduceLT, Int.reduceNeg, Int.cast_ofNat_Int, Int.reduceLT, Int.reduceAdd, Int.reduceSub, Int.reduceLE, Int.reduceEq, Int.reduceToNat, Nat.reduceSub, Nat.reduceMul, Nat.reduceLeDiff, Int.lt_irrefl]
theorem putL_bcl : ∀ (t : Bs) (k : Nat) (x : UInt8), k < t.length → putL k [AV.int .u8 (x.toNat : Int)] (bcl t) = some (bcl (t.set k x))
  | [], k, x, h => by simp at h
  | c :: t, 0, x, h => by
    have e : bcl (c :: t) = AV.int .u8 (c.toNat : Int) :: bcl t := rfl
    rw [e]
    have e2 : bcl ((c :: t).set 0 x) = AV.int .u8 (x.toNat : Int) :: bcl t := rfl
    rw [e2]
    simp only [putL_z, putL_nil, Option.map_some]
  | c :: t, k + 1, x, h => by
    have ih := putL_bcl t k x (by simpa using h)
    have e : bcl (c :: t) = AV.int .u8 (c.toNat : Int) :: bcl t := rfl
    rw [e]
    simp only [putL_s, ih, Option.map_some]
    rfl
theorem c7 (s : Bs) (l : List Int) (z w : Int) (hw : (Lit.int IntKind.u8 w).wf = true) : G0 7 [.str s, .sl .no 1 (ints l), .int .i64 z, .int .u8 w] [] = some (.bool true, []) := by
  have hwb : 0 ≤ w ∧ w ≤ 255 := by
    have h : IntKind.u8.min ≤ w ∧ w ≤ IntKind.u8.max := by simpa [Lit.wf] using hw
    have e1 : IntKind.u8.min = 0 := rfl
    have e2 : IntKind.u8.max = 255 := rfl
    omega
  obtain ⟨wb, hwb2⟩ : ∃ c : UInt8, (c.toNat : Int) = w := ⟨UInt8.ofNat w.toNat, by simp only [UInt8.toNat_ofNat']; omega⟩
  refine contract F7 rfl rfl rfl ?_
  by_cases h1 : (300 : Int) < (s.length : Int)
  · simp only [F7, go_sem, op, mv, ↓reduceIte, Nat.reduceAdd, Nat.reduceEqDiff, Nat.reduceLT, Int.reduceNeg, Int.cast_ofNat_Int, Int.reduceLT, Int.reduceAdd, Int.reduceSub, Int.reduceLE, Int.reduceEq, Int.reduceToNat, Nat.reduceSub, Nat.reduceMul, Nat.reduceLeDiff, h1, c31]
  by_cases h2 : (60 : Int) < (l.length : Int)
  · simp only [F7, go_sem, op, mv, ↓reduceIte, Nat.reduceAdd, Nat.reduceEqDiff, Nat.reduceLT, Int.reduceNeg, Int.cast_ofNat_Int, Int.reduceLT, Int.reduceAdd, Int.reduceSub, Int.reduceLE, Int.reduceEq, Int.reduceToNat, Nat.reduceSub, Nat.reduceMul, Nat.reduceLeDiff, ints_length, h1, h2, c31]
  obtain ⟨f, f1, f2, f3, h34⟩ := c34 l
  have h33 := c33 f (by omega) (hb_of f2 (by decide))
  have hf := vld_len f3
  rw [f3, fmtE_ok f3] at h33
  generalize fmt f = t at h33 hf
  have hs : s.length ≤ 50000 := by omega
  have hcap : t.length ≤ 140737488355328 := by omega
  have ebc : ∀ b : Bs, bcells b = bcl b := fun b => rfl
  by_cases h0 : t.length = 0
  · have hp : ¬ (0 : Int) < (t.length : Int) := by omega
    have ht : t = [] := List.eq_nil_of_length_eq_zero h0
    subst ht
    have e1 := st7b z w s [] [] s [[]] 0 1 (by decide) (by decide) (by decide) rfl hs
    have e2 := st7b z w s [] [] [] [[]] 1 2 (by decide) (by decide) (by decide) rfl (by simp)
    have e3 := st7b z w s [] [] [] [[]] 2 3 (by decide) (by decide) (by decide) rfl (by simp)
    have e4 := en7b z w s [] [] [[]]
    have hr := rowsC_bcl []
    have hb := bytesOf_bcl []
    have hz1 : bcl [] = [] := rfl
    have hz2 : bytesRows [] = [] := rfl
    simp only [List.length_nil, hz1, hz2] at hr hb
    simp only [F7, go_sem, op, mv, ↓reduceIte, Nat.reduceAdd, Nat.reduceEqDiff, Nat.reduceLT, Int.reduceNeg, Int.cast_ofNat_Int, Int.reduceLT, Int.reduceAdd, Int.reduceSub, Int.reduceLE, Int.reduceEq, Int.reduceToNat, Nat.reduceSub, Nat.reduceMul, Nat.reduceLeDiff, ints_length, h1, h2, h34, h33, hcap, hp, ebc, hz1, hr, hb, e1, e2, e3, e4, c31]
  · have hp : (0 : Int) < (t.length : Int) := by omega
    have h18 := c18 z (t.length : Int) (by omega) (by omega)
    have hb1 := Int.emod_nonneg z (show (t.length : Int) ≠ 0 by omega)
    have hb2 := Int.emod_lt_of_pos z hp
    generalize z % (t.length : Int) = y at h18 hb1 hb2
    obtain ⟨k, rfl⟩ := Int.eq_ofNat_of_zero_le hb1
    have hk : k < t.length := by omega
    have hpu := putL_bcl t k wb hk
    rw [hwb2] at hpu
    have hul : (t.set k wb).length = t.length := by simp
    have hr := rowsC_bcl (t.set k wb)
    have hb := bytesOf_bcl (t.set k wb)
    rw [hul] at hr
    have hblk := bcl_blk t
    generalize hu : t.set k wb = u at *
    have e1 := st7a s t u s [bcl u] 0 1 (by decide) (by decide) (by decide) rfl hs
    have e2 := st7a s t u t [bcl u] 1 2 (by decide) (by decide) (by decide) rfl hf
    have e3 := st7a s t u u [bcl u] 2 3 (by decide) (by decide) (by decide) rfl (by omega)
    have e4 := en7a s t u [bcl u]
    simp only [F7, go_sem, op, mv, ↓reduceIte, Nat.reduceAdd, Nat.reduceEqDiff, Nat.reduceLT, Int.reduceNeg, Int.cast_ofNat_Int, Int.reduceLT, Int.reduceAdd, Int.reduceSub, Int.reduceLE, Int.reduceEq, Int.reduceToNat, Nat.reduceSub, Nat.reduceMul, Nat.reduceLeDiff, ints_length, h1, h2, h34, h33, hcap, hp, h18, ebc, hb1, hb2, hblk, Nat.mul_one, hpu, hr, hb, e1, e2, e3, e4, c31]
theorem l12a (m M : Int) (K : Nat) (hK : K ≤ 2000) (h1 : IntKind.i64.wrap (M - 2) = M - 2) (h2 : IntKind.i64.wrap (M - 2 + m) = (K : Int)) : ∀ (k i : Nat), i + k = K →
    execX G0 L12_0 (ST [(0, .int .i64 m), (1, .bool true), (5, .str (sl1s i)), (6, .int .i64 M), (7, .int .i64 i), (15, .bool true)] [] []) = some (.ex 0, ST [(0, .int .i64 m), (1, .bool true), (5, .str (sl1s K)), (6, .int .i64 M), (7, .int .i64 K), (15, .bool true), (21, .bool false)] [] [])
  | 0, i, h => by
    have : i = K := by omega
    subst this
    rw [Y_loop (L := L12_0) rfl]
    simp only [go_sem, op, mv, ↓reduceIte, Nat.reduceAdd, Nat.reduceEqDiff, Nat.reduceLT, Int.reduceNeg, Int.cast_ofNat_Int, Int.reduceLT, Int.reduceAdd, Int.reduceSub, Int.reduceLE, Int.reduceEq, Int.reduceToNat, Nat.reduceSub, Nat.reduceMul, Nat.reduceLeDiff, h1, h2, Int.lt_irrefl]
  | k + 1, i, h => by
    have h4 : (i : Int) < (K : Int) := by omega
    have hw : IntKind.i64.wrap ((i : Int) + 1) = ((i + 1 : Nat) : Int) := by rw [w64 (by omega) (by omega)]; rfl
    have ih := l12a m M K hK h1 h2 k (i + 1) (by omega)
    have hl : (sl1s i).length ≤ 10000 := by rw [sl1s_len]; omega
    have ea : (sl1s i) ++ [123, 97, 125] = (sl1s (i + 1)) := by rw [sl1s_app]; rfl
    have ha := addS (sl1s i) [123, 97, 125] (by simp only [List.length_cons, List.length_nil]; omega)
    rw [ea] at ha
    rw [Y_loop (L := L12_0) rfl]
    simp only [ha, go_sem, op, mv, ↓reduceIte, Nat.reduceAdd, Nat.reduceEqDiff, Nat.reduceLT, Int.reduceNeg, Int.cast_ofNat_Int, Int.reduceLT, Int.reduceAdd, Int.reduceSub, Int.reduceLE, Int.reduceEq, Int.reduceToNat, Nat.reduceSub, Nat.reduceMul, Nat.reduceLeDiff, h1, h2, h4, hw]
    exact ih
theorem l12b (m M : Int) (K : Nat) (hK : K ≤ 2000) (h1 : IntKind.i64.wrap (M - 2) = M - 2) (h2 : IntKind.i64.wrap (M - 2 + m) = (K : Int)) : ∀ (k i : Nat), i + k = K →
    execX G0 L12_0 (ST [(0, .int .i64 m), (1, .bool false), (5, .str (List.replicate i (97 : UInt8))), (6, .int .i64 M), (7, .int .i64 i), (15, .bool false)] [] []) = some (.ex 0, ST [(0, .int .i64 m), (1, .bool false), (5, .str (List.replicate K (97 : UInt8))), (6, .int .i64 M), (7, .int .i64 K), (15, .bool false), (21, .bool false)] [] [])
  | 0, i, h => by
    have : i = K := by omega
    subst this
    rw [Y_loop (L := L12_0) rfl]
    simp only [go_sem, op, mv, ↓reduceIte, Nat.reduceAdd, Nat.reduceEqDiff, Nat.reduceLT, Int.reduceNeg, Int.cast_ofNat_Int, Int.reduceLT, Int.reduceAdd, Int.reduceSub, Int.reduceLE, Int.reduceEq, Int.reduceToNat, Nat.reduceSub, Nat.reduceMul, Nat.reduceLeDiff, h1, h2, Int.lt_irrefl]
  | k + 1, i, h => by
    have h4 : (i : Int) < (K : Int) := by omega
    have hw : IntKind.i64.wrap ((i : Int) + 1) = ((i + 1 : Nat) : Int) := by rw [w64 (by omega) (by omega)]; rfl
    have ih := l12b m M K hK h1 h2 k (i + 1) (by omega)
    have hl : (List.replicate i (97 : UInt8)).length ≤ 10000 := by rw [List.length_replicate]; omega
    have ea : (List.replicate i (97 : UInt8)) ++ [97] = (List.replicate (i + 1) (97 : UInt8)) := by rw [List.replicate_succ']
    have ha := addS (List.replicate i (97 : UInt8)) [97] (by simp only [List.length_cons, List.length_nil]; omega)
    rw [ea] at ha
    rw [Y_loop (L := L12_0) rfl]
    simp only [ha, go_sem, op, mv, ↓reduceIte, Nat.reduceAdd, Nat.reduceEqDiff, Nat.reduceLT, Int.reduceNeg, Int.cast_ofNat_Int, Int.reduceLT, Int.reduceAdd, Int.reduceSub, Int.reduceLE, Int.reduceEq, Int.reduceToNat, Nat.reduceSub, Nat.reduceMul, Nat.reduceLeDiff, h1, h2, h4, hw]
    exact ih
theorem len_as (k : Nat) : len [(1, List.replicate k 97, 0)] = k := by rw [len_one]; simp [wid]
theorem c12 (n : Int) (b : Bool) : G0 12 [.int .i64 n, .bool b] [] = some (.bool true, []) := by
  refine contract F12 rfl rfl rfl ?_
  have hu0 : 0 ≤ IntKind.u64.wrap n := by
    unfold IntKind.wrap
    have e : IntKind.u64.bits = 64 := rfl
    simp only [e, IntKind.signed, Bool.false_and, Bool.false_eq_true, if_false]
    omega
  generalize hN : IntKind.u64.wrap n = N at hu0
  have hm : N.tmod 5 = N % 5 := Int.tmod_eq_emod_of_nonneg hu0
  obtain ⟨m, hm2⟩ : ∃ m : Nat, N % 5 = (m : Int) := ⟨(N % 5).toNat, by omega⟩
  have hm4 : m ≤ 4 := by omega
  have w0 : IntKind.i64.wrap (m : Int) = (m : Int) := w64 (by omega) (by omega)
  have ec : ((0 : Nat) : Int) = 0 := rfl
  cases b with
  | true =>
    have w1 : IntKind.i64.wrap ((512 : Int) - 2) = (512 : Int) - 2 := w64 (by decide) (by decide)
    have w2 : IntKind.i64.wrap ((512 : Int) - 2 + (m : Int)) = ((510 + m : Nat) : Int) := by rw [w64 (by omega) (by omega)]; omega
    have hl := l12a (m : Int) 512 (510 + m) (by omega) w1 w2 (510 + m) 0 (by omega)
    have e0 : sl1s 0 = [] := rfl
    rw [e0, ec] at hl
    have h35 := c35 (sl1s (510 + m)) (by rw [sl1s_len]; omega)
    rw [parse_sl] at h35
    generalize sl1s (510 + m) = S at hl h35
    by_cases hk : m ≤ 2
    · rw [if_pos (by omega)] at h35
      have h2 : (m : Int) ≤ 2 := by omega
      have h15 := c15 (slf (510 + m)) (by simp [slf]; omega) (by intro t ht; simp [slf] at ht; rw [ht]; simp [cap47])
      rw [len_slf] at h15
      simp only [] at h35
      have w1' : IntKind.i64.wrap ((512 : Int) - 2) = 510 := w1
      have w2' : IntKind.i64.wrap ((510 : Int) + (m : Int)) = ((510 + m : Nat) : Int) := by rw [w64 (by omega) (by omega)]; omega
      simp only [F12, go_sem, op, mv, ↓reduceIte, Nat.reduceAdd, Nat.reduceEqDiff, Nat.reduceLT, Int.reduceNeg, Int.cast_ofNat_Int, Int.reduceLT, Int.reduceAdd, Int.reduceSub, Int.reduceLE, Int.reduceEq, Int.reduceToNat, Nat.reduceSub, Nat.reduceMul, Nat.reduceLeDiff, hN, hm, hm2, w0, hl, h35, h2, h15, w1', w2', c31]
    · rw [if_neg (by omega)] at h35
      have h2 : ¬ (m : Int) ≤ 2 := by omega
      have w3 : IntKind.i64.wrap (3 * (512 : Int)) = 1536 := w64 (by decide) (by decide)
      have e15 : ((1536 : Nat) : Int) = 1536 := rfl
      simp only [e15] at h35
      simp only [F12, go_sem, op, mv, ↓reduceIte, Nat.reduceAdd, Nat.reduceEqDiff, Nat.reduceLT, Int.reduceNeg, Int.cast_ofNat_Int, Int.reduceLT, Int.reduceAdd, Int.reduceSub, Int.reduceLE, Int.reduceEq, Int.reduceToNat, Nat.reduceSub, Nat.reduceMul, Nat.reduceLeDiff, hN, hm, hm2, w0, hl, h35, h2, w3, c31]
  | false =>
    have w1 : IntKind.i64.wrap ((1024 : Int) - 2) = (1024 : Int) - 2 := w64 (by decide) (by decide)
    have w2 : IntKind.i64.wrap ((1024 : Int) - 2 + (m : Int)) = ((1022 + m : Nat) : Int) := by rw [w64 (by omega) (by omega)]; omega
    have hl := l12b (m : Int) 1024 (1022 + m) (by omega) w1 w2 (1022 + m) 0 (by omega)
    have e0 : List.replicate 0 (97 : UInt8) = [] := rfl
    rw [e0, ec] at hl
    have h35 := c35 (List.replicate (1022 + m) 97) (by rw [List.length_replicate]; omega)
    rw [parse_as (by omega)] at h35
    by_cases hk : m ≤ 2
    · rw [if_pos (by omega)] at h35
      have h2 : (m : Int) ≤ 2 := by omega
      have h15 := c15 [(1, List.replicate (1022 + m) 97, 0)] (by simp) (by intro t ht; simp at ht; rw [ht]; simp [cap47]; omega)
      rw [len_as] at h15
      generalize List.replicate (1022 + m) (97 : UInt8) = S at hl h35 h15
      simp only [] at h35
      have w1' : IntKind.i64.wrap ((1024 : Int) - 2) = 1022 := w1
      have w2' : IntKind.i64.wrap ((1022 : Int) + (m : Int)) = ((1022 + m : Nat) : Int) := by rw [w64 (by omega) (by omega)]; omega
      simp only [F12, go_sem, op, mv, ↓reduceIte, Nat.reduceAdd, Nat.reduceEqDiff, Nat.reduceLT, Int.reduceNeg, Int.cast_ofNat_Int, Int.reduceLT, Int.reduceAdd, Int.reduceSub, Int.reduceLE, Int.reduceEq, Int.reduceToNat, Nat.reduceSub, Nat.reduceMul, Nat.reduceLeDiff, hN, hm, hm2, w0, hl, h35, h2, h15, w1', w2', c31]
    · rw [if_neg (by omega)] at h35
      generalize List.replicate (1022 + m) (97 : UInt8) = S at hl h35
      have h2 : ¬ (m : Int) ≤ 2 := by omega
      have e10 : ((1024 : Nat) : Int) = 1024 := rfl
      simp only [e10] at h35
      simp only [F12, go_sem, op, mv, ↓reduceIte, Nat.reduceAdd, Nat.reduceEqDiff, Nat.reduceLT, Int.reduceNeg, Int.cast_ofNat_Int, Int.reduceLT, Int.reduceAdd, Int.reduceSub, Int.reduceLE, Int.reduceEq, Int.reduceToNat, Nat.reduceSub, Nat.reduceMul, Nat.reduceLeDiff, hN, hm, hm2, w0, hl, h35, h2, c31]
end Go.Av
