/- Numbers, words, lines and fragments made of them, where further objects lie behind the numbers. -/
import Derived.Test.YthnablnojflbnaaDoorRB
set_option linter.unusedSimpArgs false
set_option linter.unusedVariables false
namespace Go.Av
open Go.Nt
set_option linter.unusedSimpArgs false
set_option linter.unusedVariables false
set_option maxHeartbeats 16000000
set_option maxRecDepth 100000
def Rok (R : List (List AV)) : Prop := ∀ (l : List Int) (n : Nat), refsOk false (R.length + 1) (num l n :: R) = true
theorem take_R (x : List AV) (R : List (List AV)) : (x :: R).take (R.length + 1) = x :: R := by rw [List.take_succ_cons, List.take_length]
theorem c41r {R : List (List AV)} (hR : Rok R) (l : List Int) (n : Nat) (m : Int) (hn : n ≤ 1000000) (h1 : 1 ≤ m) (h2 : m ≤ 1000000) : G0 41 [.ptr 0 0, .int .i64 m] (num l n :: R) = some (.int .i64 (nxt l n m), (num l (n + 1) :: R)) := by
  refine contract F41 rfl rfl rfl ?_
  have hw : IntKind.i64.wrap ((n : Int) + 1) = ((n + 1 : Nat) : Int) := by rw [w64 (by omega) (by omega)]; rfl
  have h0 : (0 : Int) ≤ (n : Int) := by omega
  have hnum : refsOk false (R.length + 1) ([.sl .no 1 (ints l), .int .i64 ((n + 1 : Nat) : Int)] :: R) = true := hR l (n + 1)
  have htk := take_R [.sl .no 1 (ints l), .int .i64 ((n + 1 : Nat) : Int)] R
  by_cases h3 : n < l.length
  · have h4 : (n : Int) < (l.length : Int) := by omega
    have hr := ints_at (l := l) (i := n) (x := l.getD n 0) (by simp [List.getD_eq_getElem?_getD, h3])
    simp only [F41, go_sem, op, mv, ↓reduceIte, Nat.reduceAdd, Nat.reduceEqDiff, Nat.reduceLT, Int.reduceNeg, Int.cast_ofNat_Int, Int.reduceLT, Int.reduceAdd, Int.reduceSub, Int.reduceLE, Int.reduceEq, Int.reduceToNat, Nat.reduceSub, Nat.reduceMul, Nat.reduceLeDiff, num, ints_length, h4, h0, hr, hw, c18 _ m h1 h2, nxt, h3, hnum, htk]
  · have h4 : ¬ (n : Int) < (l.length : Int) := by omega
    simp only [F41, go_sem, op, mv, ↓reduceIte, Nat.reduceAdd, Nat.reduceEqDiff, Nat.reduceLT, Int.reduceNeg, Int.cast_ofNat_Int, Int.reduceLT, Int.reduceAdd, Int.reduceSub, Int.reduceLE, Int.reduceEq, Int.reduceToNat, Nat.reduceSub, Nat.reduceMul, Nat.reduceLeDiff, num, ints_length, h4, h0, hw, c18 _ m h1 h2, nxt, h3, hnum, htk]

theorem c95r {R : List (List AV)} (hR : Rok R) (l : List Int) (n : Nat) (hn : n ≤ 1000000) : G0 95 [.ptr 0 0] (num l n :: R) = some (.str (wd l n), (num l (n + 1) :: R)) := by
  refine contract F95 rfl rfl rfl ?_
  have hm : mksA 1 [.str []] 24 [0, 1, 2, 3, 4, 5, 6, 7, 8, 9, 10, 11, 12, 13, 14, 15, 16, 17, 18, 19, 20, 21, 22, 23] [.str [114, 101, 100], .str [99, 97, 114], .str [82, 101, 100], .str [97], .str [99, 97, 114, 115], .str [49, 44, 53], .str [50, 50], .str [100, 111, 110, 39, 116], .str [46], .str [33], .str [32], .str [32, 32], .str [60], .str [38], .str [123], .str [34], .str [92], .str [120, 45, 121], .str [10], .str [61], .str [125], .str [62], .str [9], .str [98]] = some (.sl .full 1 (strs wds)) := by rfl
  have hb := nxt_bd l n 24 (by omega)
  have h0 : 0 ≤ nxt l n 24 := hb.1
  have hr := strs_at (l := wds) (i := (nxt l n 24).toNat) (s := wd l n) (by
    unfold wd
    rw [List.getD_eq_getElem?_getD, List.getElem?_eq_getElem (by simp [wds]; omega)]; rfl)
  have hnum := hR l (n + 1)
  have htk := take_R (num l (n + 1)) R
  simp only [F95, go_sem, op, mv, ↓reduceIte, Nat.reduceAdd, Nat.reduceEqDiff, Nat.reduceLT, Int.reduceNeg, Int.cast_ofNat_Int, Int.reduceLT, Int.reduceAdd, Int.reduceSub, Int.reduceLE, Int.reduceEq, Int.reduceToNat, Nat.reduceSub, Nat.reduceMul, Nat.reduceLeDiff, hm, c41r hR l n 24 hn (by decide) (by decide), h0, hr, hnum, htk]
theorem l63r {R : List (List AV)} (hR : Rok R) (l : List Int) : ∀ (k n : Nat) (out : List UInt8), n + 2 * k ≤ 1000000 → out.length + 6 * k ≤ 1000000 →
    execX G0 L63_0 (ST [(0, .ptr 0 0), (5, .str out), (6, .int .i64 k)] [] (num l n :: R)) = some (.ex 0, ST [(0, .ptr 0 0), (5, .str (lnF l k n out).1), (6, .int .i64 0), (13, .bool false)] [] (num l (lnF l k n out).2 :: R))
  | 0, n, out, h1, h2 => by
    rw [Y_loop (L := L63_0) rfl]
    simp only [go_sem, op, mv, ↓reduceIte, Nat.reduceAdd, Nat.reduceEqDiff, Nat.reduceLT, Int.reduceNeg, Int.cast_ofNat_Int, Int.reduceLT, Int.reduceAdd, Int.reduceSub, Int.reduceLE, Int.reduceEq, Int.reduceToNat, Nat.reduceSub, Nat.reduceMul, Nat.reduceLeDiff, Int.lt_irrefl, lnF]
  | k + 1, n, out, h1, h2 => by
    have hk : (0 : Int) < ((k + 1 : Nat) : Int) := by omega
    have hw : IntKind.i64.wrap (((k + 1 : Nat) : Int) - 1) = (k : Int) := by rw [w64 (by omega) (by omega)]; omega
    have hl := wd_len l n
    by_cases h3 : out = []
    · have ih := l63r hR l k (n + 1) (out ++ wd l n) (by omega) (by rw [List.length_append]; omega)
      have hc : out.length + (wd l n).length ≤ 140737488355328 := by omega
      subst h3
      rw [Y_loop (L := L63_0) rfl]
      simp only [go_sem, op, mv, ↓reduceIte, Nat.reduceAdd, Nat.reduceEqDiff, Nat.reduceLT, Int.reduceNeg, Int.cast_ofNat_Int, Int.reduceLT, Int.reduceAdd, Int.reduceSub, Int.reduceLE, Int.reduceEq, Int.reduceToNat, Nat.reduceSub, Nat.reduceMul, Nat.reduceLeDiff, hk, c95r hR l n (by omega), hc, hw, lnF]
      simp only [List.length_nil] at hc
      simp only [go_sem, op, mv, ↓reduceIte, Nat.reduceAdd, Nat.reduceEqDiff, Nat.reduceLT, Int.reduceNeg, Int.cast_ofNat_Int, Int.reduceLT, Int.reduceAdd, Int.reduceSub, Int.reduceLE, Int.reduceEq, Int.reduceToNat, Nat.reduceSub, Nat.reduceMul, Nat.reduceLeDiff] at ih
      have hc' : (wd l n).length ≤ 140737488355328 := by omega
      simp only [go_sem, op, mv, ↓reduceIte, Nat.reduceAdd, Nat.reduceEqDiff, Nat.reduceLT, Int.reduceNeg, Int.cast_ofNat_Int, Int.reduceLT, Int.reduceAdd, Int.reduceSub, Int.reduceLE, Int.reduceEq, Int.reduceToNat, Nat.reduceSub, Nat.reduceMul, Nat.reduceLeDiff, hc', ih]
    · have hne : (out != []) = true := by simp [h3]
      have h24 := c41r hR l (n + 1) 3 (by omega) (by decide) (by decide)
      by_cases h4 : 0 < nxt l (n + 1) 3
      · have ih := l63r hR l k (n + 2) (out ++ [32] ++ wd l n) (by omega) (by simp only [List.length_append, List.length_cons, List.length_nil]; omega)
        have hc : out.length + 1 ≤ 140737488355328 := by omega
        have hc2 : (out ++ [32]).length + (wd l n).length ≤ 140737488355328 := by simp only [List.length_append, List.length_cons, List.length_nil]; omega
        have e : lnF l (k + 1) n out = lnF l k (n + 2) (out ++ [32] ++ wd l n) := by simp only [lnF, h3, h4, if_true, if_false]
        rw [e, Y_loop (L := L63_0) rfl]
        simp only [go_sem, op, mv, ↓reduceIte, Nat.reduceAdd, Nat.reduceEqDiff, Nat.reduceLT, Int.reduceNeg, Int.cast_ofNat_Int, Int.reduceLT, Int.reduceAdd, Int.reduceSub, Int.reduceLE, Int.reduceEq, Int.reduceToNat, Nat.reduceSub, Nat.reduceMul, Nat.reduceLeDiff, hk, c95r hR l n (by omega), hne, h24, h4, hc, hc2, hw]
        exact ih
      · have ih := l63r hR l k (n + 2) (out ++ wd l n) (by omega) (by simp only [List.length_append]; omega)
        have hc : out.length + (wd l n).length ≤ 140737488355328 := by omega
        have e : lnF l (k + 1) n out = lnF l k (n + 2) (out ++ wd l n) := by simp only [lnF, h3, h4, if_true, if_false]
        rw [e, Y_loop (L := L63_0) rfl]
        simp only [go_sem, op, mv, ↓reduceIte, Nat.reduceAdd, Nat.reduceEqDiff, Nat.reduceLT, Int.reduceNeg, Int.cast_ofNat_Int, Int.reduceLT, Int.reduceAdd, Int.reduceSub, Int.reduceLE, Int.reduceEq, Int.reduceToNat, Nat.reduceSub, Nat.reduceMul, Nat.reduceLeDiff, hk, c95r hR l n (by omega), hne, h24, h4, hc, hw]
        exact ih
theorem c63r {R : List (List AV)} (hR : Rok R) (l : List Int) (n : Nat) (m : Int) (hn : n ≤ 900000) (h1 : 1 ≤ m) (h2 : m ≤ 1000) : G0 63 [.ptr 0 0, .int .i64 m] (num l n :: R) = some (.str (lineF l n m).1, (num l (lineF l n m).2 :: R)) := by
  refine contract F63 rfl rfl rfl ?_
  have hb := nxt_bd l n (m + 1) (by omega)
  have hx := l63r hR l (nxt l n (m + 1)).toNat (n + 1) [] (by omega) (by simp only [List.length_nil]; omega)
  have hc : (((nxt l n (m + 1)).toNat : Nat) : Int) = nxt l n (m + 1) := by omega
  rw [hc] at hx
  have hnum : ∀ j, refsOk false (R.length + 1) (num l j :: R) = true := fun j => hR l j
  simp only [F63, go_sem, op, mv, ↓reduceIte, Nat.reduceAdd, Nat.reduceEqDiff, Nat.reduceLT, Int.reduceNeg, Int.cast_ofNat_Int, Int.reduceLT, Int.reduceAdd, Int.reduceSub, Int.reduceLE, Int.reduceEq, Int.reduceToNat, Nat.reduceSub, Nat.reduceMul, Nat.reduceLeDiff, List.take_length, w64 (n := m + 1) (by omega) (by omega), c41r hR l n (m + 1) (by omega) (by omega) (by omega), hx, hnum, lineF]
structure FIr (B k n : Nat) (f ops : List Tk) (id : Int) (md : Own) : Prop where
  k8 : k ≤ 8
  n0 : n ≤ B + 20 * (9 - k) ∧ B ≤ 100000
  f0 : f.length ≤ 8 - k
  f1 : tot f ≤ 18 * (8 - k)
  o0 : ops.length ≤ 8 - k
  o1 : ∀ t ∈ ops, t.2.1.length ≤ 18
  i0 : 0 ≤ id
  i1 : id ≤ 8 - (k : Int)
  md0 : md ≠ .no
theorem l42r {R : List (List AV)} (hR : Rok R) (B : Nat) (l : List Int) : ∀ (k n : Nat) (f ops : List Tk) (id : Int) (md9 md10 : Own), FIr B k n f ops id md10 → FV f ops id →
    ∃ n' f' ops' id' md9' md10', n' ≤ B + 400 ∧ f'.length ≤ 8 ∧ tot f' ≤ 144 ∧ ops'.length ≤ 8 ∧ FV f' ops' id' ∧
      execX G0 L42_0 (ST [(0, .ptr 0 0), (2, .bool true), (3, .bool false), (9, .sl md9 3 (tks f)), (10, .sl md10 3 (tks ops)), (11, .int .i64 id), (12, .int .i64 k)] [] (num l n :: R)) = some (.ex 0, ST [(0, .ptr 0 0), (2, .bool true), (3, .bool false), (9, .sl md9' 3 (tks f')), (10, .sl md10' 3 (tks ops')), (11, .int .i64 id'), (12, .int .i64 0), (21, .bool false)] [] (num l n' :: R))
  | 0, n, f, ops, id, md9, md10, h, fv => by
    obtain ⟨k8, ⟨n0, nB⟩, f0, f1, o0, o1, i0, i1, md0⟩ := h
    refine ⟨n, f, ops, id, md9, md10, by omega, by omega, by omega, by omega, fv, ?_⟩
    rw [Y_loop (L := L42_0) rfl]
    simp only [go_sem, op, mv, ↓reduceIte, Nat.reduceAdd, Nat.reduceEqDiff, Nat.reduceLT, Int.reduceNeg, Int.cast_ofNat_Int, Int.reduceLT, Int.reduceAdd, Int.reduceSub, Int.reduceLE, Int.reduceEq, Int.reduceToNat, Nat.reduceSub, Nat.reduceMul, Nat.reduceLeDiff, Int.lt_irrefl]
  | k + 1, n, f, ops, id, md9, md10, h, fv => by
    obtain ⟨k8, ⟨n0, nB⟩, f0, f1, o0, o1, i0, i1, md0⟩ := h
    have hk : (0 : Int) < ((k + 1 : Nat) : Int) := by omega
    have hwk : IntKind.i64.wrap (((k + 1 : Nat) : Int) - 1) = (k : Int) := by rw [w64 (by omega) (by omega)]; omega
    have hl := line3 l n
    have h48 := c63r hR l n 3 (by omega) (by decide) (by decide)
    generalize hL : lineF l n 3 = L at hl h48
    obtain ⟨s, n1⟩ := L
    simp only [] at hl h48
    have h36 := c41r hR l n1 8 (by omega) (by decide) (by decide)
    have hy := nxt_bd l n1 8 (by decide)
    generalize nxt l n1 8 = y at h36 hy
    by_cases y0 : y = 0 ∨ y = 1
    · obtain ⟨x, xm, x5, hx, hx0⟩ := tb_at tbA tbA5 l (n1 + 1) 3 (by decide) rfl
      have h36b := c41r hR l (n1 + 1) 3 (by omega) (by decide) (by decide)
      obtain ⟨r2, r1⟩ := tot_pn f (5, x, 0)
      have r3 := c37x fv.vl (5, x, 0) (by omega) (by simp only [List.length_cons, List.length_nil]; omega)
      have fv' := fv_slot fv (tbA_nm x xm)
      simp only [List.length_cons, List.length_nil] at r1 r2 r3
      generalize pn f (5, x, 0) = r at r1 r2 r3 fv'
      obtain ⟨n', f', ops', id', md9', md10', p1, p2, p3, p4, pf, p5⟩ := l42r hR B l k (n1 + 2) r ops id .no md10 ⟨by omega, ⟨by omega, nB⟩, by omega, by omega, by omega, o1, i0, by omega, md0⟩ fv'
      refine ⟨n', f', ops', id', md9', md10', p1, p2, p3, p4, pf, ?_⟩
      rcases y0 with rfl | rfl
      · rw [Y_loop (L := L42_0) rfl]
        simp only [go_sem, op, mv, ↓reduceIte, Nat.reduceAdd, Nat.reduceEqDiff, Nat.reduceLT, Int.reduceNeg, Int.cast_ofNat_Int, Int.reduceLT, Int.reduceAdd, Int.reduceSub, Int.reduceLE, Int.reduceEq, Int.reduceToNat, Nat.reduceSub, Nat.reduceMul, Nat.reduceLeDiff, hk, h48, h36, h36b, mA, hx, hx0, hR l, r3, hwk]
        exact p5
      · rw [Y_loop (L := L42_0) rfl]
        simp only [go_sem, op, mv, ↓reduceIte, Nat.reduceAdd, Nat.reduceEqDiff, Nat.reduceLT, Int.reduceNeg, Int.cast_ofNat_Int, Int.reduceLT, Int.reduceAdd, Int.reduceSub, Int.reduceLE, Int.reduceEq, Int.reduceToNat, Nat.reduceSub, Nat.reduceMul, Nat.reduceLeDiff, hk, h48, h36, h36b, mA, hx, hx0, hR l, r3, hwk]
        exact p5
    have hid : IntKind.i64.wrap (id + 1) = id + 1 := w64 (by omega) (by omega)
    by_cases y2 : y = 2
    · obtain ⟨x, xm, x5, hx, hx0⟩ := tb_at tbB tbB5 l (n1 + 1) 2 (by decide) rfl
      have h36b := c41r hR l (n1 + 1) 2 (by omega) (by decide) (by decide)
      obtain ⟨r2, r1⟩ := tot_pn f (4, x, id + 1)
      have r3 := c37x fv.vl (4, x, id + 1) (by omega) (by simp only [List.length_cons, List.length_nil]; omega)
      have fv' := fv_tag (k := 4) fv (.inl ⟨rfl, tbB_c x xm⟩) (by omega)
      simp only [List.length_cons, List.length_nil] at r1 r2 r3
      generalize pn f (4, x, id + 1) = r at r1 r2 r3 fv'
      obtain ⟨n', f', ops', id', md9', md10', p1, p2, p3, p4, pf, p5⟩ := l42r hR B l k (n1 + 2) r ops (id + 1) .no md10 ⟨by omega, ⟨by omega, nB⟩, by omega, by omega, by omega, o1, by omega, by omega, md0⟩ fv'
      refine ⟨n', f', ops', id', md9', md10', p1, p2, p3, p4, pf, ?_⟩
      subst y2
      rw [Y_loop (L := L42_0) rfl]
      simp only [go_sem, op, mv, ↓reduceIte, Nat.reduceAdd, Nat.reduceEqDiff, Nat.reduceLT, Int.reduceNeg, Int.cast_ofNat_Int, Int.reduceLT, Int.reduceAdd, Int.reduceSub, Int.reduceLE, Int.reduceEq, Int.reduceToNat, Nat.reduceSub, Nat.reduceMul, Nat.reduceLeDiff, hk, h48, h36, h36b, mB, hx, hx0, hR l, r3, hwk, hid]
      exact p5
    by_cases y3 : y = 3 ∨ y = 4
    · obtain ⟨x, xm, x5, hx, hx0⟩ := tb_at tbC tbC5 l (n1 + 1) 3 (by decide) rfl
      have h36b := c41r hR l (n1 + 1) 3 (by omega) (by decide) (by decide)
      obtain ⟨r2, r1⟩ := tot_pn f (2, x, id + 1)
      have r3 := c37x fv.vl (2, x, id + 1) (by omega) (by simp only [List.length_cons, List.length_nil]; omega)
      have fv' := fv_open fv (tbC_c x xm) (by omega)
      simp only [List.length_cons, List.length_nil] at r1 r2 r3
      generalize pn f (2, x, id + 1) = r at r1 r2 r3 fv'
      have ha : appOK 32 (ops.length + 1) = true := appOK_le (by decide) (by omega)
      obtain ⟨n', f', ops', id', md9', md10', p1, p2, p3, p4, pf, p5⟩ := l42r hR B l k (n1 + 2) r (ops ++ [(2, x, id + 1)]) (id + 1) .no .own ⟨by omega, ⟨by omega, nB⟩, by omega, by omega, by simp only [List.length_append, List.length_cons, List.length_nil]; omega, fun t ht => by
        rcases List.mem_append.1 ht with h | h
        · exact o1 t h
        · simp only [List.mem_cons, List.not_mem_nil, or_false] at h; subst h; simp only; omega, by omega, by omega, by decide⟩ fv'
      refine ⟨n', f', ops', id', md9', md10', p1, p2, p3, p4, pf, ?_⟩
      have e4 : tks (ops ++ [(2, x, id + 1)]) = tks ops ++ [[.int .i64 2, .str x, .int .i64 (id + 1)]] := by rw [← tks_app]; rfl
      rw [e4] at p5
      rcases y3 with rfl | rfl
      · rw [Y_loop (L := L42_0) rfl]
        simp only [go_sem, op, mv, ↓reduceIte, Nat.reduceAdd, Nat.reduceEqDiff, Nat.reduceLT, Int.reduceNeg, Int.cast_ofNat_Int, Int.reduceLT, Int.reduceAdd, Int.reduceSub, Int.reduceLE, Int.reduceEq, Int.reduceToNat, Nat.reduceSub, Nat.reduceMul, Nat.reduceLeDiff, hk, h48, h36, h36b, mC, hx, hx0, hR l, r3, hwk, hid, appA_gen md10 .full md0 3 32 (by decide), tks_len, ha]
        exact p5
      · rw [Y_loop (L := L42_0) rfl]
        simp only [go_sem, op, mv, ↓reduceIte, Nat.reduceAdd, Nat.reduceEqDiff, Nat.reduceLT, Int.reduceNeg, Int.cast_ofNat_Int, Int.reduceLT, Int.reduceAdd, Int.reduceSub, Int.reduceLE, Int.reduceEq, Int.reduceToNat, Nat.reduceSub, Nat.reduceMul, Nat.reduceLeDiff, hk, h48, h36, h36b, mC, hx, hx0, hR l, r3, hwk, hid, appA_gen md10 .full md0 3 32 (by decide), tks_len, ha]
        exact p5
    by_cases y5 : y = 5 ∨ y = 6
    · by_cases hop : 1 ≤ ops.length
      · have hm1 : IntKind.i64.wrap ((ops.length : Int) - 1) = ((ops.length - 1 : Nat) : Int) := by rw [w64 (by omega) (by omega)]; omega
        have hge : (0 : Int) ≤ ((ops.length - 1 : Nat) : Int) := by omega
        have hp1 : IntKind.i64.wrap (((ops.length - 1 : Nat) : Int) + 1) = ((ops.length : Nat) : Int) := by rw [w64 (by omega) (by omega)]; omega
        have h36c := c41r hR l (n1 + 1) (ops.length : Int) (by omega) (by omega) (by omega)
        have hj := nxt_bd l (n1 + 1) (ops.length : Int) (by omega)
        generalize nxt l (n1 + 1) (ops.length : Int) = j at h36c hj
        obtain ⟨jn, rfl⟩ : ∃ jn : Nat, j = (jn : Int) := ⟨j.toNat, by omega⟩
        have hjl : jn < ops.length := by omega
        have hg : ops[jn]? = some ops[jn] := List.getElem?_eq_getElem hjl
        have ht := o1 _ (List.getElem_mem hjl)
        generalize ops[jn] = T at hg ht
        have hr := tks_at hg
        have nm2 := c64 T.2.1 (by omega)
        have nm1 := nameOf_le T.2.1
        have j0 : (0 : Int) ≤ (jn : Int) := by omega
        have j1 : (jn : Int) ≤ (ops.length : Int) := by omega
        have jw : IntKind.i64.wrap ((jn : Int) + 1) = ((jn + 1 : Nat) : Int) := by rw [w64 (by omega) (by omega)]; rfl
        have j2 : (0 : Int) ≤ ((jn + 1 : Nat) : Int) := by omega
        have j3 : ((jn + 1 : Nat) : Int) ≤ (ops.length : Int) := by omega
        obtain ⟨r2, r1⟩ := tot_pn f (3, nameOf T.2.1, T.2.2)
        have r3 := c37x fv.vl (3, nameOf T.2.1, T.2.2) (by omega) (by simp only [List.length_cons, List.length_nil]; omega)
        have fv' := fv_close fv (by omega) (split_at hg)
        simp only [List.length_cons, List.length_nil] at r1 r2 r3
        generalize pn f (3, nameOf T.2.1, T.2.2) = r at r1 r2 r3 fv'
        have ha : appOK 32 (ops.take jn).length = true := appOK_le (by decide) (by simp; omega)
        have ha2 : appOK 32 ((ops.take jn).length + (ops.drop (jn + 1)).length) = true := appOK_le (by decide) (by simp; omega)
        have tk : (tks ops).take jn = tks (ops.take jn) := by simp [tks, List.map_take]
        have td : (tks ops).drop (jn + 1) = tks (ops.drop (jn + 1)) := by simp [tks, List.map_drop]
        obtain ⟨n', f', ops', id', md9', md10', p1, p2, p3, p4, pf, p5⟩ := l42r hR B l k (n1 + 2) r (ops.take jn ++ ops.drop (jn + 1)) id .no .own ⟨by omega, ⟨by omega, nB⟩, by omega, by omega, by simp only [List.length_append, List.length_take, List.length_drop]; omega, fun t ht => by
          rcases List.mem_append.1 ht with h | h
          · exact o1 t (List.mem_of_mem_take h)
          · exact o1 t (List.mem_of_mem_drop h), i0, by omega, by decide⟩ fv'
        refine ⟨n', f', ops', id', md9', md10', p1, p2, p3, p4, pf, ?_⟩
        rcases y5 with rfl | rfl
        · rw [Y_loop (L := L42_0) rfl]
          simp only [go_sem, op, mv, ↓reduceIte, Nat.reduceAdd, Nat.reduceEqDiff, Nat.reduceLT, Int.reduceNeg, Int.cast_ofNat_Int, Int.reduceLT, Int.reduceAdd, Int.reduceSub, Int.reduceLE, Int.reduceEq, Int.reduceToNat, Nat.reduceSub, Nat.reduceMul, Nat.reduceLeDiff, hk, h48, h36, hR l, hwk, hm1, hge, hp1, h36c, hr, nm2, j0, j1, j2, j3, jw, tks_len, tk, td, appA_gen .full .no (by decide) 3 32 (by decide), appA_gen .own .no (by decide) 3 32 (by decide), ha, ha2, tks_app, r3]
          exact p5
        · rw [Y_loop (L := L42_0) rfl]
          simp only [go_sem, op, mv, ↓reduceIte, Nat.reduceAdd, Nat.reduceEqDiff, Nat.reduceLT, Int.reduceNeg, Int.cast_ofNat_Int, Int.reduceLT, Int.reduceAdd, Int.reduceSub, Int.reduceLE, Int.reduceEq, Int.reduceToNat, Nat.reduceSub, Nat.reduceMul, Nat.reduceLeDiff, hk, h48, h36, hR l, hwk, hm1, hge, hp1, h36c, hr, nm2, j0, j1, j2, j3, jw, tks_len, tk, td, appA_gen .full .no (by decide) 3 32 (by decide), appA_gen .own .no (by decide) 3 32 (by decide), ha, ha2, tks_app, r3]
          exact p5
      · have hop0 : ops = [] := List.eq_nil_of_length_eq_zero (by omega)
        subst hop0
        obtain ⟨r2, r1⟩ := tot_pn f (3, [98], id + 1)
        have r3 := c37x fv.vl (3, [98], id + 1) (by omega) (by simp only [List.length_cons, List.length_nil]; omega)
        have fv' := fv_tag (k := 3) (s := [98]) fv (.inr ⟨rfl, by decide⟩) (by omega)
        simp only [List.length_cons, List.length_nil] at r1 r2 r3
        generalize pn f (3, [98], id + 1) = r at r1 r2 r3 fv'
        obtain ⟨n', f', ops', id', md9', md10', p1, p2, p3, p4, pf, p5⟩ := l42r hR B l k (n1 + 1) r [] (id + 1) .no md10 ⟨by omega, ⟨by omega, nB⟩, by omega, by omega, by simp, by simp, by omega, by omega, md0⟩ fv'
        refine ⟨n', f', ops', id', md9', md10', p1, p2, p3, p4, pf, ?_⟩
        rw [tks_nil] at p5
        rcases y5 with rfl | rfl
        · rw [Y_loop (L := L42_0) rfl]
          simp only [go_sem, op, mv, ↓reduceIte, Nat.reduceAdd, Nat.reduceEqDiff, Nat.reduceLT, Int.reduceNeg, Int.cast_ofNat_Int, Int.reduceLT, Int.reduceAdd, Int.reduceSub, Int.reduceLE, Int.reduceEq, Int.reduceToNat, Nat.reduceSub, Nat.reduceMul, Nat.reduceLeDiff, hk, h48, h36, hR l, hwk, tks_nil, hid, r3]
          exact p5
        · rw [Y_loop (L := L42_0) rfl]
          simp only [go_sem, op, mv, ↓reduceIte, Nat.reduceAdd, Nat.reduceEqDiff, Nat.reduceLT, Int.reduceNeg, Int.cast_ofNat_Int, Int.reduceLT, Int.reduceAdd, Int.reduceSub, Int.reduceLE, Int.reduceEq, Int.reduceToNat, Nat.reduceSub, Nat.reduceMul, Nat.reduceLeDiff, hk, h48, h36, hR l, hwk, tks_nil, hid, r3]
          exact p5
    · have y7 : y = 7 := by omega
      subst y7
      obtain ⟨r2, r1⟩ := tot_pn f (1, s, 0)
      have r3 := c37x fv.vl (1, s, 0) (by omega) (by simp only [List.length_cons, List.length_nil]; omega)
      have fv' := fv_text fv (x := (1, s, 0)) rfl
      simp only [List.length_cons, List.length_nil] at r1 r2 r3
      generalize pn f (1, s, 0) = r at r1 r2 r3 fv'
      obtain ⟨n', f', ops', id', md9', md10', p1, p2, p3, p4, pf, p5⟩ := l42r hR B l k (n1 + 1) r ops id .no md10 ⟨by omega, ⟨by omega, nB⟩, by omega, by omega, by omega, o1, i0, by omega, md0⟩ fv'
      refine ⟨n', f', ops', id', md9', md10', p1, p2, p3, p4, pf, ?_⟩
      rw [Y_loop (L := L42_0) rfl]
      simp only [go_sem, op, mv, ↓reduceIte, Nat.reduceAdd, Nat.reduceEqDiff, Nat.reduceLT, Int.reduceNeg, Int.cast_ofNat_Int, Int.reduceLT, Int.reduceAdd, Int.reduceSub, Int.reduceLE, Int.reduceEq, Int.reduceToNat, Nat.reduceSub, Nat.reduceMul, Nat.reduceLeDiff, hk, h48, h36, hR l, hwk, r3]
      exact p5
theorem c42r {R : List (List AV)} (hR : Rok R) (l : List Int) (p : Nat) (hp : p ≤ 90000) (N : Int) (hN : 1 ≤ N) (hN8 : N ≤ 8) : ∃ n' f, n' ≤ p + 500 ∧ f.length ≤ 8 ∧ tot f ≤ 144 ∧ vld f = 0 ∧ G0 42 [.ptr 0 0, .int .i64 N, .bool true, .bool false] (num l p :: R) = some (.sl .no 3 (tks f), (num l n' :: R)) := by
  have hb := nxt_bd l p (N + 1) (by omega)
  have h36 := c41r hR l p (N + 1) (by omega) (by omega) (by omega)
  have hc : (((nxt l p (N + 1)).toNat : Nat) : Int) = nxt l p (N + 1) := by omega
  obtain ⟨n', f, ops, id, md9, md10, p1, p2, p3, p4, pf, p5⟩ := l42r hR p l (nxt l p (N + 1)).toNat (p + 1) [] [] 0 .full .full ⟨by omega, ⟨by omega, by omega⟩, by simp, by rw [tot_nil]; omega, by simp, by simp, by omega, by omega, by decide⟩ fv_nil
  rw [hc] at p5
  simp only [tks_nil] at p5
  have hL := len_le f
  refine ⟨n', f, by omega, p2, p3, (vld_iff f).2 ⟨pf.vl, by omega, by omega⟩, ?_⟩
  refine contract F42 rfl rfl rfl ?_
  have hwN : IntKind.i64.wrap (N + 1) = N + 1 := w64 (by omega) (by omega)
  have htk := take_R (num l n') R
  have hRn := hR l n'
  have hw : IntKind.i64.wrap ((ops.length : Int) - 1) = (ops.length : Int) - 1 := w64 (by omega) (by omega)
  by_cases h : (0 : Int) ≤ (ops.length : Int) - 1
  · simp only [F42, go_sem, op, mv, ↓reduceIte, Nat.reduceAdd, Nat.reduceEqDiff, Nat.reduceLT, Int.reduceNeg, Int.cast_ofNat_Int, Int.reduceLT, Int.reduceAdd, Int.reduceSub, Int.reduceLE, Int.reduceEq, Int.reduceToNat, Nat.reduceSub, Nat.reduceMul, Nat.reduceLeDiff, hwN, htk, hRn, h36, p5, tks_len, hw, hR l]
    rw [Y_loop (L := L42_1) rfl]
    simp only [go_sem, op, mv, ↓reduceIte, Nat.reduceAdd, Nat.reduceEqDiff, Nat.reduceLT, Int.reduceNeg, Int.cast_ofNat_Int, Int.reduceLT, Int.reduceAdd, Int.reduceSub, Int.reduceLE, Int.reduceEq, Int.reduceToNat, Nat.reduceSub, Nat.reduceMul, Nat.reduceLeDiff, h, htk, hRn]
  · simp only [F42, go_sem, op, mv, ↓reduceIte, Nat.reduceAdd, Nat.reduceEqDiff, Nat.reduceLT, Int.reduceNeg, Int.cast_ofNat_Int, Int.reduceLT, Int.reduceAdd, Int.reduceSub, Int.reduceLE, Int.reduceEq, Int.reduceToNat, Nat.reduceSub, Nat.reduceMul, Nat.reduceLeDiff, hwN, htk, hRn, h36, p5, tks_len, hw, hR l]
    rw [Y_loop (L := L42_1) rfl]
    simp only [go_sem, op, mv, ↓reduceIte, Nat.reduceAdd, Nat.reduceEqDiff, Nat.reduceLT, Int.reduceNeg, Int.cast_ofNat_Int, Int.reduceLT, Int.reduceAdd, Int.reduceSub, Int.reduceLE, Int.reduceEq, Int.reduceToNat, Nat.reduceSub, Nat.reduceMul, Nat.reduceLeDiff, h, htk, hRn]
end Go.Av
