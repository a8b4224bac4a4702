/- A part of the proof: D15. No conditions. -/
import Derived.Test.YthbgidickbhojaaD14
set_option linter.unusedSimpArgs false
set_option linter.unusedVariables false
namespace Go.Av
set_option linter.unusedSimpArgs false
set_option maxHeartbeats 4000000
theorem lnF_n (l : List Int) : ∀ (k n : Nat) (out : List UInt8), (lnF l k n out).2 ≤ n + 2 * k
  | 0, n, out => by simp [lnF]
  | k + 1, n, out => by
    simp only [lnF]
    split
    · have := lnF_n l k (n + 1) (out ++ wd l n); omega
    · have := lnF_n l k (n + 2) ((if 0 < nxt l (n + 1) 3 then out ++ [32] else out) ++ wd l n); omega
theorem line3 (l : List Int) (n : Nat) : (lineF l n 3).1.length ≤ 1000 ∧ (lineF l n 3).2 ≤ n + 10 := by
  have hb := nxt_bd l n 4 (by omega)
  have h1 := lnF_len l (nxt l n 4).toNat (n + 1) []
  have h2 := lnF_n l (nxt l n 4).toNat (n + 1) []
  simp only [List.length_nil] at h1
  show (lnF l (nxt l n 4).toNat (n + 1) []).1.length ≤ 1000 ∧ (lnF l (nxt l n 4).toNat (n + 1) []).2 ≤ n + 10
  omega
def tbA : List (List UInt8) := [[110], [110, 97, 109, 101], [120, 49]]
def tbB : List (List UInt8) := [[98, 114], [105, 109, 103, 32, 97]]
def tbC : List (List UInt8) := [[98], [105], [97, 32, 104, 61, 49]]
theorem tb_at (tb : List (List UInt8)) (hl : ∀ i, (tb.getD i []).length ≤ 5) (l : List Int) (n : Nat) (m : Int) (hm : 1 ≤ m) (h : m = (tb.length : Int)) : ∃ x : List UInt8, x.length ≤ 5 ∧ (strs tb)[(nxt l n m).toNat]? = some [.str x] ∧ 0 ≤ nxt l n m := by
  have hb := nxt_bd l n m hm
  refine ⟨tb.getD (nxt l n m).toNat [], hl _, ?_, hb.1⟩
  apply strs_at
  rw [List.getD_eq_getElem?_getD, List.getElem?_eq_getElem (by omega)]; rfl
theorem tbA5 : ∀ i, (tbA.getD i []).length ≤ 5
  | 0 => by decide
  | 1 => by decide
  | 2 => by decide
  | i + 3 => by simp [tbA]
theorem tbB5 : ∀ i, (tbB.getD i []).length ≤ 5
  | 0 => by decide
  | 1 => by decide
  | i + 2 => by simp [tbB]
theorem tbC5 : ∀ i, (tbC.getD i []).length ≤ 5
  | 0 => by decide
  | 1 => by decide
  | 2 => by decide
  | i + 3 => by simp [tbC]
/-- What holds of the lists while a fragment is made. -/
structure FI (k n : Nat) (f op : List Tk) (id : Int) (md : Own) : Prop where
  k8 : k ≤ 8
  n0 : n ≤ 20 * (9 - k)
  f0 : f.length ≤ 8 - k
  f1 : tot f ≤ 1000 * (8 - k)
  o0 : op.length ≤ 8 - k
  o1 : ∀ t ∈ op, t.2.1.length ≤ 1000
  i0 : 0 ≤ id
  i1 : id ≤ 8 - (k : Int)
  md0 : md ≠ .no
theorem mA : mksA 1 [.str []] 3 [0, 1, 2] [.str [110], .str [110, 97, 109, 101], .str [120, 49]] = some (.sl .full 1 (strs tbA)) := by rfl
theorem mB : mksA 1 [.str []] 2 [0, 1] [.str [98, 114], .str [105, 109, 103, 32, 97]] = some (.sl .full 1 (strs tbB)) := by rfl
theorem mC : mksA 1 [.str []] 3 [0, 1, 2] [.str [98], .str [105], .str [97, 32, 104, 61, 49]] = some (.sl .full 1 (strs tbC)) := by rfl
theorem num_ok (l : List Int) (n : Nat) : refsOk false 1 [num l n] = true := rfl
def fr50 (md9 md10 : Own) (f op : List Tk) (id k : Int) : List (Nat × AV) := [(0, .ptr 0 0), (2, .bool true), (3, .bool false), (9, .sl md9 3 (tks f)), (10, .sl md10 3 (tks op)), (11, .int .i64 id), (12, .int .i64 k)]
theorem l50 (l : List Int) : ∀ (k n : Nat) (f op : List Tk) (id : Int) (md9 md10 : Own), FI k n f op id md10 →
    ∃ n' f' op' id' md9' md10', n' ≤ 400 ∧ f'.length ≤ 8 ∧ tot f' ≤ 8000 ∧ op'.length ≤ 8 ∧
      execX G0 L50_0 (ST [(0, .ptr 0 0), (2, .bool true), (3, .bool false), (9, .sl md9 3 (tks f)), (10, .sl md10 3 (tks op)), (11, .int .i64 id), (12, .int .i64 k)] [] [num l n]) = some (.ex 0, ST [(0, .ptr 0 0), (2, .bool true), (3, .bool false), (9, .sl md9' 3 (tks f')), (10, .sl md10' 3 (tks op')), (11, .int .i64 id'), (12, .int .i64 0), (21, .bool false)] [] [num l n'])
  | 0, n, f, op, id, md9, md10, h => by
    obtain ⟨k8, n0, f0, f1, o0, o1, i0, i1, md0⟩ := h
    refine ⟨n, f, op, id, md9, md10, by omega, by omega, by omega, by omega, ?_⟩
    rw [Y_loop (L := L50_0) rfl]
    simp only [go_sem, List.set_cons_zero, List.set_cons_succ, List.take_succ_cons, and_false, false_and, and_true, true_and, Nat.reduceAdd, Nat.reduceEqDiff, Nat.reduceLT, ↓reduceIte, decide_eq_true_eq, List.take_nil, beq_self_eq_true, bne_self_eq_false, List.take_zero, List.map_cons, List.map_nil, Int.reduceNeg, Bool.and_true, and_self, Bool.true_and, Bool.and_self, ne_eq, not_true_eq_false, decide_false, decide_true, Bool.false_eq_true, Nat.reduceAdd, Option.map_some, Option.map_none, Option.bind_some, Option.bind_none, List.length_nil, List.length_cons, List.append_nil, Bool.and_false, w64, demV_sl, Int.cast_ofNat_Int, Int.reduceLT, Int.reduceAdd, Int.reduceSub, Int.reduceLE, Int.reduceEq, Int.reduceToNat, Int.toNat_natCast, Nat.reduceSub, Nat.reduceMul, Nat.reduceLeDiff, Nat.zero_add, Int.zero_add, not_false_eq_true, Bool.not_true, Bool.not_false, Bool.false_and, List.cons_append, List.nil_append, Int.lt_irrefl]
  | k + 1, n, f, op, id, md9, md10, h => by
    obtain ⟨k8, n0, f0, f1, o0, o1, i0, i1, md0⟩ := h
    have hk : (0 : Int) < ((k + 1 : Nat) : Int) := by omega
    have hwk : IntKind.i64.wrap (((k + 1 : Nat) : Int) - 1) = (k : Int) := by rw [w64 (by omega) (by omega)]; omega
    have hl := line3 l n
    have h48 := c48 l n 3 (by omega) (by decide) (by decide)
    generalize hL : lineF l n 3 = L at hl h48
    obtain ⟨s, n1⟩ := L
    simp only at hl h48
    have h36 := c36 l n1 8 (by omega) (by decide) (by decide)
    have hy := nxt_bd l n1 8 (by decide)
    generalize nxt l n1 8 = y at h36 hy
    by_cases y0 : y = 0 ∨ y = 1
    · obtain ⟨x, x5, hx, hx0⟩ := tb_at tbA tbA5 l (n1 + 1) 3 (by decide) rfl
      have h36b := c36 l (n1 + 1) 3 (by omega) (by decide) (by decide)
      obtain ⟨r, r1, r2, r3⟩ := c68 f [(5, x, 0)] (by simp only [List.length_cons, List.length_nil]; omega) (by simp only [tot]; omega)
      simp only [List.length_cons, List.length_nil, tot] at r1 r2
      obtain ⟨n', f', op', id', md9', md10', p1, p2, p3, p4, p5⟩ := l50 l k (n1 + 2) r op id .no md10 ⟨by omega, by omega, by omega, by omega, by omega, o1, i0, by omega, md0⟩
      refine ⟨n', f', op', id', md9', md10', p1, p2, p3, p4, ?_⟩
      have e3 : tks [(5, x, 0)] = [[.int .i64 5, .str x, .int .i64 0]] := rfl
      rw [e3] at r3
      rcases y0 with rfl | rfl
      · rw [Y_loop (L := L50_0) rfl]
        simp only [go_sem, List.set_cons_zero, List.set_cons_succ, List.take_succ_cons, and_false, false_and, and_true, true_and, Nat.reduceAdd, Nat.reduceEqDiff, Nat.reduceLT, ↓reduceIte, decide_eq_true_eq, List.take_nil, beq_self_eq_true, bne_self_eq_false, List.take_zero, List.map_cons, List.map_nil, Int.reduceNeg, Bool.and_true, and_self, Bool.true_and, Bool.and_self, ne_eq, not_true_eq_false, decide_false, decide_true, Bool.false_eq_true, Nat.reduceAdd, Option.map_some, Option.map_none, Option.bind_some, Option.bind_none, List.length_nil, List.length_cons, List.append_nil, Bool.and_false, w64, demV_sl, Int.cast_ofNat_Int, Int.reduceLT, Int.reduceAdd, Int.reduceSub, Int.reduceLE, Int.reduceEq, Int.reduceToNat, Int.toNat_natCast, Nat.reduceSub, Nat.reduceMul, Nat.reduceLeDiff, Nat.zero_add, Int.zero_add, not_false_eq_true, Bool.not_true, Bool.not_false, Bool.false_and, List.cons_append, List.nil_append, hk, h48, h36, h36b, mA, hx, hx0, num_ok, r3, hwk]
        exact p5
      · rw [Y_loop (L := L50_0) rfl]
        simp only [go_sem, List.set_cons_zero, List.set_cons_succ, List.take_succ_cons, and_false, false_and, and_true, true_and, Nat.reduceAdd, Nat.reduceEqDiff, Nat.reduceLT, ↓reduceIte, decide_eq_true_eq, List.take_nil, beq_self_eq_true, bne_self_eq_false, List.take_zero, List.map_cons, List.map_nil, Int.reduceNeg, Bool.and_true, and_self, Bool.true_and, Bool.and_self, ne_eq, not_true_eq_false, decide_false, decide_true, Bool.false_eq_true, Nat.reduceAdd, Option.map_some, Option.map_none, Option.bind_some, Option.bind_none, List.length_nil, List.length_cons, List.append_nil, Bool.and_false, w64, demV_sl, Int.cast_ofNat_Int, Int.reduceLT, Int.reduceAdd, Int.reduceSub, Int.reduceLE, Int.reduceEq, Int.reduceToNat, Int.toNat_natCast, Nat.reduceSub, Nat.reduceMul, Nat.reduceLeDiff, Nat.zero_add, Int.zero_add, not_false_eq_true, Bool.not_true, Bool.not_false, Bool.false_and, List.cons_append, List.nil_append, hk, h48, h36, h36b, mA, hx, hx0, num_ok, r3, hwk]
        exact p5
    have hid : IntKind.i64.wrap (id + 1) = id + 1 := w64 (by omega) (by omega)
    by_cases y2 : y = 2
    · obtain ⟨x, x5, hx, hx0⟩ := tb_at tbB tbB5 l (n1 + 1) 2 (by decide) rfl
      have h36b := c36 l (n1 + 1) 2 (by omega) (by decide) (by decide)
      obtain ⟨r, r1, r2, r3⟩ := c68 f [(4, x, id + 1)] (by simp only [List.length_cons, List.length_nil]; omega) (by simp only [tot]; omega)
      simp only [List.length_cons, List.length_nil, tot] at r1 r2
      obtain ⟨n', f', op', id', md9', md10', p1, p2, p3, p4, p5⟩ := l50 l k (n1 + 2) r op (id + 1) .no md10 ⟨by omega, by omega, by omega, by omega, by omega, o1, by omega, by omega, md0⟩
      refine ⟨n', f', op', id', md9', md10', p1, p2, p3, p4, ?_⟩
      have e3 : tks [(4, x, id + 1)] = [[.int .i64 4, .str x, .int .i64 (id + 1)]] := rfl
      rw [e3] at r3
      subst y2
      rw [Y_loop (L := L50_0) rfl]
      simp only [go_sem, List.set_cons_zero, List.set_cons_succ, List.take_succ_cons, and_false, false_and, and_true, true_and, Nat.reduceAdd, Nat.reduceEqDiff, Nat.reduceLT, ↓reduceIte, decide_eq_true_eq, List.take_nil, beq_self_eq_true, bne_self_eq_false, List.take_zero, List.map_cons, List.map_nil, Int.reduceNeg, Bool.and_true, and_self, Bool.true_and, Bool.and_self, ne_eq, not_true_eq_false, decide_false, decide_true, Bool.false_eq_true, Nat.reduceAdd, Option.map_some, Option.map_none, Option.bind_some, Option.bind_none, List.length_nil, List.length_cons, List.append_nil, Bool.and_false, w64, demV_sl, Int.cast_ofNat_Int, Int.reduceLT, Int.reduceAdd, Int.reduceSub, Int.reduceLE, Int.reduceEq, Int.reduceToNat, Int.toNat_natCast, Nat.reduceSub, Nat.reduceMul, Nat.reduceLeDiff, Nat.zero_add, Int.zero_add, not_false_eq_true, Bool.not_true, Bool.not_false, Bool.false_and, List.cons_append, List.nil_append, hk, h48, h36, h36b, mB, hx, hx0, num_ok, r3, hwk, hid]
      exact p5
    by_cases y3 : y = 3 ∨ y = 4
    · obtain ⟨x, x5, hx, hx0⟩ := tb_at tbC tbC5 l (n1 + 1) 3 (by decide) rfl
      have h36b := c36 l (n1 + 1) 3 (by omega) (by decide) (by decide)
      obtain ⟨r, r1, r2, r3⟩ := c68 f [(2, x, id + 1)] (by simp only [List.length_cons, List.length_nil]; omega) (by simp only [tot]; omega)
      simp only [List.length_cons, List.length_nil, tot] at r1 r2
      have ha : appOK 32 (op.length + 1) = true := appOK_le (by decide) (by omega)
      obtain ⟨n', f', op', id', md9', md10', p1, p2, p3, p4, p5⟩ := l50 l k (n1 + 2) r (op ++ [(2, x, id + 1)]) (id + 1) .no .own ⟨by omega, by omega, by omega, by omega, by simp only [List.length_append, List.length_cons, List.length_nil]; omega, fun t ht => by
        rcases List.mem_append.1 ht with h | h
        · exact o1 t h
        · simp only [List.mem_cons, List.not_mem_nil, or_false] at h; subst h; simp only; omega, by omega, by omega, by decide⟩
      refine ⟨n', f', op', id', md9', md10', p1, p2, p3, p4, ?_⟩
      have e3 : tks [(2, x, id + 1)] = [[.int .i64 2, .str x, .int .i64 (id + 1)]] := rfl
      rw [e3] at r3
      have e4 : tks (op ++ [(2, x, id + 1)]) = tks op ++ [[.int .i64 2, .str x, .int .i64 (id + 1)]] := by rw [← tks_app, e3]
      rw [e4] at p5
      rcases y3 with rfl | rfl
      · rw [Y_loop (L := L50_0) rfl]
        simp only [go_sem, List.set_cons_zero, List.set_cons_succ, List.take_succ_cons, and_false, false_and, and_true, true_and, Nat.reduceAdd, Nat.reduceEqDiff, Nat.reduceLT, ↓reduceIte, decide_eq_true_eq, List.take_nil, beq_self_eq_true, bne_self_eq_false, List.take_zero, List.map_cons, List.map_nil, Int.reduceNeg, Bool.and_true, and_self, Bool.true_and, Bool.and_self, ne_eq, not_true_eq_false, decide_false, decide_true, Bool.false_eq_true, Nat.reduceAdd, Option.map_some, Option.map_none, Option.bind_some, Option.bind_none, List.length_nil, List.length_cons, List.append_nil, Bool.and_false, w64, demV_sl, Int.cast_ofNat_Int, Int.reduceLT, Int.reduceAdd, Int.reduceSub, Int.reduceLE, Int.reduceEq, Int.reduceToNat, Int.toNat_natCast, Nat.reduceSub, Nat.reduceMul, Nat.reduceLeDiff, Nat.zero_add, Int.zero_add, not_false_eq_true, Bool.not_true, Bool.not_false, Bool.false_and, List.cons_append, List.nil_append, hk, h48, h36, h36b, mC, hx, hx0, num_ok, r3, hwk, hid, appA_gen md10 .full md0 3 32 (by decide), tks_len, ha]
        exact p5
      · rw [Y_loop (L := L50_0) rfl]
        simp only [go_sem, List.set_cons_zero, List.set_cons_succ, List.take_succ_cons, and_false, false_and, and_true, true_and, Nat.reduceAdd, Nat.reduceEqDiff, Nat.reduceLT, ↓reduceIte, decide_eq_true_eq, List.take_nil, beq_self_eq_true, bne_self_eq_false, List.take_zero, List.map_cons, List.map_nil, Int.reduceNeg, Bool.and_true, and_self, Bool.true_and, Bool.and_self, ne_eq, not_true_eq_false, decide_false, decide_true, Bool.false_eq_true, Nat.reduceAdd, Option.map_some, Option.map_none, Option.bind_some, Option.bind_none, List.length_nil, List.length_cons, List.append_nil, Bool.and_false, w64, demV_sl, Int.cast_ofNat_Int, Int.reduceLT, Int.reduceAdd, Int.reduceSub, Int.reduceLE, Int.reduceEq, Int.reduceToNat, Int.toNat_natCast, Nat.reduceSub, Nat.reduceMul, Nat.reduceLeDiff, Nat.zero_add, Int.zero_add, not_false_eq_true, Bool.not_true, Bool.not_false, Bool.false_and, List.cons_append, List.nil_append, hk, h48, h36, h36b, mC, hx, hx0, num_ok, r3, hwk, hid, appA_gen md10 .full md0 3 32 (by decide), tks_len, ha]
        exact p5
    by_cases y5 : y = 5 ∨ y = 6
    · by_cases hop : 1 ≤ op.length
      · have hm1 : IntKind.i64.wrap ((op.length : Int) - 1) = ((op.length - 1 : Nat) : Int) := by rw [w64 (by omega) (by omega)]; omega
        have hge : (0 : Int) ≤ ((op.length - 1 : Nat) : Int) := by omega
        have hp1 : IntKind.i64.wrap (((op.length - 1 : Nat) : Int) + 1) = ((op.length : Nat) : Int) := by rw [w64 (by omega) (by omega)]; omega
        have h36c := c36 l (n1 + 1) (op.length : Int) (by omega) (by omega) (by omega)
        have hj := nxt_bd l (n1 + 1) (op.length : Int) (by omega)
        generalize nxt l (n1 + 1) (op.length : Int) = j at h36c hj
        obtain ⟨jn, rfl⟩ : ∃ jn : Nat, j = (jn : Int) := ⟨j.toNat, by omega⟩
        have hjl : jn < op.length := by omega
        have hg : op[jn]? = some op[jn] := List.getElem?_eq_getElem hjl
        have ht := o1 _ (List.getElem_mem hjl)
        generalize op[jn] = T at hg ht
        have hr := tks_at hg
        obtain ⟨nm, nm1, nm2⟩ := c67 T.2.1 (by omega)
        have j0 : (0 : Int) ≤ (jn : Int) := by omega
        have j1 : (jn : Int) ≤ (op.length : Int) := by omega
        have jw : IntKind.i64.wrap ((jn : Int) + 1) = ((jn + 1 : Nat) : Int) := by rw [w64 (by omega) (by omega)]; rfl
        have j2 : (0 : Int) ≤ ((jn + 1 : Nat) : Int) := by omega
        have j3 : ((jn + 1 : Nat) : Int) ≤ (op.length : Int) := by omega
        obtain ⟨r, r1, r2, r3⟩ := c68 f [(3, nm, T.2.2)] (by simp only [List.length_cons, List.length_nil]; omega) (by simp only [tot]; omega)
        simp only [List.length_cons, List.length_nil, tot] at r1 r2
        have ha : appOK 32 (op.take jn).length = true := appOK_le (by decide) (by simp; omega)
        have ha2 : appOK 32 ((op.take jn).length + (op.drop (jn + 1)).length) = true := appOK_le (by decide) (by simp; omega)
        have tk : (tks op).take jn = tks (op.take jn) := by simp [tks, List.map_take]
        have td : (tks op).drop (jn + 1) = tks (op.drop (jn + 1)) := by simp [tks, List.map_drop]
        obtain ⟨n', f', op', id', md9', md10', p1, p2, p3, p4, p5⟩ := l50 l k (n1 + 2) r (op.take jn ++ op.drop (jn + 1)) id .no .own ⟨by omega, by omega, by omega, by omega, by simp only [List.length_append, List.length_take, List.length_drop]; omega, fun t ht => by
          rcases List.mem_append.1 ht with h | h
          · exact o1 t (List.mem_of_mem_take h)
          · exact o1 t (List.mem_of_mem_drop h), i0, by omega, by decide⟩
        refine ⟨n', f', op', id', md9', md10', p1, p2, p3, p4, ?_⟩
        have e3 : tks [(3, nm, T.2.2)] = [[.int .i64 3, .str nm, .int .i64 T.2.2]] := rfl
        rw [e3] at r3
        rcases y5 with rfl | rfl
        · rw [Y_loop (L := L50_0) rfl]
          simp only [go_sem, List.set_cons_zero, List.set_cons_succ, List.take_succ_cons, and_false, false_and, and_true, true_and, Nat.reduceAdd, Nat.reduceEqDiff, Nat.reduceLT, ↓reduceIte, decide_eq_true_eq, List.take_nil, beq_self_eq_true, bne_self_eq_false, List.take_zero, List.map_cons, List.map_nil, Int.reduceNeg, Bool.and_true, and_self, Bool.true_and, Bool.and_self, ne_eq, not_true_eq_false, decide_false, decide_true, Bool.false_eq_true, Nat.reduceAdd, Option.map_some, Option.map_none, Option.bind_some, Option.bind_none, List.length_nil, List.length_cons, List.append_nil, Bool.and_false, w64, demV_sl, Int.cast_ofNat_Int, Int.reduceLT, Int.reduceAdd, Int.reduceSub, Int.reduceLE, Int.reduceEq, Int.reduceToNat, Int.toNat_natCast, Nat.reduceSub, Nat.reduceMul, Nat.reduceLeDiff, Nat.zero_add, Int.zero_add, not_false_eq_true, Bool.not_true, Bool.not_false, Bool.false_and, List.cons_append, List.nil_append, hk, h48, h36, num_ok, hwk, hm1, hge, hp1, h36c, hr, nm2, j0, j1, j2, j3, jw, tks_len, tk, td, appA_gen .full .no (by decide) 3 32 (by decide), appA_gen .own .no (by decide) 3 32 (by decide), ha, ha2, tks_app, r3]
          exact p5
        · rw [Y_loop (L := L50_0) rfl]
          simp only [go_sem, List.set_cons_zero, List.set_cons_succ, List.take_succ_cons, and_false, false_and, and_true, true_and, Nat.reduceAdd, Nat.reduceEqDiff, Nat.reduceLT, ↓reduceIte, decide_eq_true_eq, List.take_nil, beq_self_eq_true, bne_self_eq_false, List.take_zero, List.map_cons, List.map_nil, Int.reduceNeg, Bool.and_true, and_self, Bool.true_and, Bool.and_self, ne_eq, not_true_eq_false, decide_false, decide_true, Bool.false_eq_true, Nat.reduceAdd, Option.map_some, Option.map_none, Option.bind_some, Option.bind_none, List.length_nil, List.length_cons, List.append_nil, Bool.and_false, w64, demV_sl, Int.cast_ofNat_Int, Int.reduceLT, Int.reduceAdd, Int.reduceSub, Int.reduceLE, Int.reduceEq, Int.reduceToNat, Int.toNat_natCast, Nat.reduceSub, Nat.reduceMul, Nat.reduceLeDiff, Nat.zero_add, Int.zero_add, not_false_eq_true, Bool.not_true, Bool.not_false, Bool.false_and, List.cons_append, List.nil_append, hk, h48, h36, num_ok, hwk, hm1, hge, hp1, h36c, hr, nm2, j0, j1, j2, j3, jw, tks_len, tk, td, appA_gen .full .no (by decide) 3 32 (by decide), appA_gen .own .no (by decide) 3 32 (by decide), ha, ha2, tks_app, r3]
          exact p5
      · have hop0 : op = [] := List.eq_nil_of_length_eq_zero (by omega)
        subst hop0
        obtain ⟨r, r1, r2, r3⟩ := c68 f [(3, [98], id + 1)] (by simp only [List.length_cons, List.length_nil]; omega) (by simp only [tot, List.length_cons, List.length_nil]; omega)
        simp only [List.length_cons, List.length_nil, tot] at r1 r2
        obtain ⟨n', f', op', id', md9', md10', p1, p2, p3, p4, p5⟩ := l50 l k (n1 + 1) r [] (id + 1) .no md10 ⟨by omega, by omega, by omega, by omega, by simp, by simp, by omega, by omega, md0⟩
        refine ⟨n', f', op', id', md9', md10', p1, p2, p3, p4, ?_⟩
        have e3 : tks [(3, [98], id + 1)] = [[.int .i64 3, .str [98], .int .i64 (id + 1)]] := rfl
        rw [e3] at r3
        rw [tks_nil] at p5
        rcases y5 with rfl | rfl
        · rw [Y_loop (L := L50_0) rfl]
          simp only [go_sem, List.set_cons_zero, List.set_cons_succ, List.take_succ_cons, and_false, false_and, and_true, true_and, Nat.reduceAdd, Nat.reduceEqDiff, Nat.reduceLT, ↓reduceIte, decide_eq_true_eq, List.take_nil, beq_self_eq_true, bne_self_eq_false, List.take_zero, List.map_cons, List.map_nil, Int.reduceNeg, Bool.and_true, and_self, Bool.true_and, Bool.and_self, ne_eq, not_true_eq_false, decide_false, decide_true, Bool.false_eq_true, Nat.reduceAdd, Option.map_some, Option.map_none, Option.bind_some, Option.bind_none, List.length_nil, List.length_cons, List.append_nil, Bool.and_false, w64, demV_sl, Int.cast_ofNat_Int, Int.reduceLT, Int.reduceAdd, Int.reduceSub, Int.reduceLE, Int.reduceEq, Int.reduceToNat, Int.toNat_natCast, Nat.reduceSub, Nat.reduceMul, Nat.reduceLeDiff, Nat.zero_add, Int.zero_add, not_false_eq_true, Bool.not_true, Bool.not_false, Bool.false_and, List.cons_append, List.nil_append, hk, h48, h36, num_ok, hwk, tks_nil, hid, r3]
          exact p5
        · rw [Y_loop (L := L50_0) rfl]
          simp only [go_sem, List.set_cons_zero, List.set_cons_succ, List.take_succ_cons, and_false, false_and, and_true, true_and, Nat.reduceAdd, Nat.reduceEqDiff, Nat.reduceLT, ↓reduceIte, decide_eq_true_eq, List.take_nil, beq_self_eq_true, bne_self_eq_false, List.take_zero, List.map_cons, List.map_nil, Int.reduceNeg, Bool.and_true, and_self, Bool.true_and, Bool.and_self, ne_eq, not_true_eq_false, decide_false, decide_true, Bool.false_eq_true, Nat.reduceAdd, Option.map_some, Option.map_none, Option.bind_some, Option.bind_none, List.length_nil, List.length_cons, List.append_nil, Bool.and_false, w64, demV_sl, Int.cast_ofNat_Int, Int.reduceLT, Int.reduceAdd, Int.reduceSub, Int.reduceLE, Int.reduceEq, Int.reduceToNat, Int.toNat_natCast, Nat.reduceSub, Nat.reduceMul, Nat.reduceLeDiff, Nat.zero_add, Int.zero_add, not_false_eq_true, Bool.not_true, Bool.not_false, Bool.false_and, List.cons_append, List.nil_append, hk, h48, h36, num_ok, hwk, tks_nil, hid, r3]
          exact p5
    · have y7 : y = 7 := by omega
      subst y7
      obtain ⟨r, r1, r2, r3⟩ := c68 f [(1, s, 0)] (by simp only [List.length_cons, List.length_nil]; omega) (by simp only [tot]; omega)
      simp only [List.length_cons, List.length_nil, tot] at r1 r2
      obtain ⟨n', f', op', id', md9', md10', p1, p2, p3, p4, p5⟩ := l50 l k (n1 + 1) r op id .no md10 ⟨by omega, by omega, by omega, by omega, by omega, o1, i0, by omega, md0⟩
      refine ⟨n', f', op', id', md9', md10', p1, p2, p3, p4, ?_⟩
      have e3 : tks [(1, s, 0)] = [[.int .i64 1, .str s, .int .i64 0]] := rfl
      rw [e3] at r3
      rw [Y_loop (L := L50_0) rfl]
      simp only [go_sem, List.set_cons_zero, List.set_cons_succ, List.take_succ_cons, and_false, false_and, and_true, true_and, Nat.reduceAdd, Nat.reduceEqDiff, Nat.reduceLT, ↓reduceIte, decide_eq_true_eq, List.take_nil, beq_self_eq_true, bne_self_eq_false, List.take_zero, List.map_cons, List.map_nil, Int.reduceNeg, Bool.and_true, and_self, Bool.true_and, Bool.and_self, ne_eq, not_true_eq_false, decide_false, decide_true, Bool.false_eq_true, Nat.reduceAdd, Option.map_some, Option.map_none, Option.bind_some, Option.bind_none, List.length_nil, List.length_cons, List.append_nil, Bool.and_false, w64, demV_sl, Int.cast_ofNat_Int, Int.reduceLT, Int.reduceAdd, Int.reduceSub, Int.reduceLE, Int.reduceEq, Int.reduceToNat, Int.toNat_natCast, Nat.reduceSub, Nat.reduceMul, Nat.reduceLeDiff, Nat.zero_add, Int.zero_add, not_false_eq_true, Bool.not_true, Bool.not_false, Bool.false_and, List.cons_append, List.nil_append, hk, h48, h36, num_ok, hwk, r3]
      exact p5
end Go.Av
