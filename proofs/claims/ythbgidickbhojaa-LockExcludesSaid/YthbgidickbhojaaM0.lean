/- What the texts about leases share: rows of leases, lists of numbers, the numbers that are drawn. -/
import Derived.Test.YthbgidickbhojaaSm
import Derived.Test.YthbgidickbhojaaCv20
import Derived.IntWalk
set_option linter.unusedSimpArgs false
set_option linter.unusedVariables false
namespace Go.Av
set_option linter.unusedSimpArgs false
set_option maxHeartbeats 4000000
/-- the byte at a place -/
def bt (s : List UInt8) (n : Nat) : Int := ((s.getD n 0).toNat : Int)
theorem at_bt {s : List UInt8} {n : Nat} (h : n < s.length) : s[n]? = some (s.getD n 0) := by
  simp [List.getD_eq_getElem?_getD, h]
theorem btd (s : List UInt8) (n : Nat) : (((s.getD n 0).toNat : Nat) : Int) = bt s n := rfl
abbrev Tk := Int × List UInt8 × Int
def tkR (t : Tk) : List AV := [.int .i64 t.1, .str t.2.1, .int .i64 t.2.2]
def tks (l : List Tk) : List (List AV) := l.map tkR
theorem tks_len (l : List Tk) : (tks l).length = l.length := by simp [tks]
theorem tks_one (k : Int) (s : List UInt8) (i : Int) : [[AV.int .i64 k, AV.str s, AV.int .i64 i]] = tks [(k, s, i)] := rfl
theorem tks_app (x y : List Tk) : tks x ++ tks y = tks (x ++ y) := by simp [tks]
theorem tmod_emod (a b : Int) (hb : 1 ≤ b) : (if a.tmod b < 0 then a.tmod b + b else a.tmod b) = a % b := by
  have e := Int.tmod_eq_emod (a := a) (b := b)
  have h1 := Int.emod_nonneg a (by omega : b ≠ 0)
  have h2 := Int.emod_lt_of_pos a (by omega : 0 < b)
  have hd : ¬ (0 ≤ a ∨ b ∣ a) → a % b ≠ 0 := fun h h0 => h (.inr (Int.dvd_of_emod_eq_zero h0))
  by_cases h : 0 ≤ a ∨ b ∣ a
  · rw [if_pos h] at e
    rw [e]
    rw [if_neg (by omega)]
    omega
  · rw [if_neg h] at e
    have := hd h
    rw [e]
    rw [if_pos (by omega)]
    omega
theorem tmod_bd (a b : Int) (hb : 1 ≤ b) : -b < a.tmod b ∧ a.tmod b < b := by
  have := tmod_emod a b hb
  have h1 := Int.emod_nonneg a (by omega : b ≠ 0)
  have h2 := Int.emod_lt_of_pos a (by omega : 0 < b)
  have h3 := Int.lt_tmod_of_pos a (by omega : 0 < b)
  have h4 := Int.tmod_lt_of_pos a (by omega : 0 < b)
  omega
theorem c24 (a b : Int) (hb : 1 ≤ b) (hb2 : b ≤ 1000000) : G0 24 [.int .i64 a, .int .i64 b] [] = some (.int .i64 (a % b), []) := by
  refine contract F24 rfl rfl rfl ?_
  have h0 : ¬ b = 0 := by omega
  have h1 := tmod_bd a b hb
  rw [← tmod_emod a b hb]
  simp only [F24, go_sem, List.set_cons_zero, List.set_cons_succ, List.take_succ_cons, and_false, false_and, and_true, true_and, Nat.reduceAdd, Nat.reduceEqDiff, Nat.reduceLT, ↓reduceIte, decide_eq_true_eq, List.take_nil, beq_self_eq_true, bne_self_eq_false, List.take_zero, List.map_cons, List.map_nil, Int.reduceNeg, Bool.and_true, and_self, Bool.true_and, Bool.and_self, ne_eq, not_true_eq_false, decide_false, decide_true, Bool.false_eq_true, Nat.reduceAdd, Option.map_some, Option.map_none, Option.bind_some, Option.bind_none, List.length_nil, List.length_cons, List.append_nil, Bool.and_false, w64, demV_sl, Int.cast_ofNat_Int, Int.reduceLT, Int.reduceAdd, Int.reduceSub, Int.reduceLE, Int.reduceEq, Int.reduceToNat, Int.toNat_natCast, Nat.reduceSub, Nat.reduceMul, Nat.reduceLeDiff, Nat.zero_add, Int.zero_add, not_false_eq_true, Bool.not_true, Bool.not_false, Bool.false_and, List.cons_append, List.nil_append, h0]
  split
  · rw [w64 (by omega) (by omega)]
  · rfl
def ints (l : List Int) : List (List AV) := l.map fun x => [.int .i64 x]
theorem ints_length (l : List Int) : (ints l).length = l.length := by simp [ints]
theorem ints_at {l : List Int} {i : Nat} {x : Int} (h : l[i]? = some x) : (ints l)[i]? = some [.int .i64 x] := by simp [ints, h]
theorem ints_nil : ints [] = [] := rfl
def num (l : List Int) (n : Nat) : List AV := [.sl .no 1 (ints l), .int .i64 n]
def nxt (l : List Int) (n : Nat) (m : Int) : Int := (if n < l.length then l.getD n 0 else 0) % m
theorem nxt_bd (l : List Int) (n : Nat) (m : Int) (h : 1 ≤ m) : 0 ≤ nxt l n m ∧ nxt l n m < m := ⟨Int.emod_nonneg _ (by omega), Int.emod_lt_of_pos _ (by omega)⟩
theorem c36 (l : List Int) (n : Nat) (m : Int) (hn : n ≤ 1000000) (h1 : 1 ≤ m) (h2 : m ≤ 1000000) : G0 36 [.ptr 0 0, .int .i64 m] [num l n] = some (.int .i64 (nxt l n m), [num l (n + 1)]) := by
  refine contract F36 rfl rfl rfl ?_
  have hw : IntKind.i64.wrap ((n : Int) + 1) = ((n + 1 : Nat) : Int) := by rw [w64 (by omega) (by omega)]; rfl
  have h0 : (0 : Int) ≤ (n : Int) := by omega
  have hnum : refsOk false 1 [[.sl .no 1 (ints l), .int .i64 ((n + 1 : Nat) : Int)]] = true := rfl
  by_cases h3 : n < l.length
  · have h4 : (n : Int) < (l.length : Int) := by omega
    have hr := ints_at (l := l) (i := n) (x := l.getD n 0) (by simp [List.getD_eq_getElem?_getD, h3])
    simp only [F36, go_sem, List.set_cons_zero, List.set_cons_succ, List.take_succ_cons, and_false, false_and, and_true, true_and, Nat.reduceAdd, Nat.reduceEqDiff, Nat.reduceLT, ↓reduceIte, decide_eq_true_eq, List.take_nil, beq_self_eq_true, bne_self_eq_false, List.take_zero, List.map_cons, List.map_nil, Int.reduceNeg, Bool.and_true, and_self, Bool.true_and, Bool.and_self, ne_eq, not_true_eq_false, decide_false, decide_true, Bool.false_eq_true, Nat.reduceAdd, Option.map_some, Option.map_none, Option.bind_some, Option.bind_none, List.length_nil, List.length_cons, List.append_nil, Bool.and_false, w64, demV_sl, Int.cast_ofNat_Int, Int.reduceLT, Int.reduceAdd, Int.reduceSub, Int.reduceLE, Int.reduceEq, Int.reduceToNat, Int.toNat_natCast, Nat.reduceSub, Nat.reduceMul, Nat.reduceLeDiff, Nat.zero_add, Int.zero_add, not_false_eq_true, Bool.not_true, Bool.not_false, Bool.false_and, List.cons_append, List.nil_append, num, ints_length, h4, h0, hr, hw, c24 _ m h1 h2, nxt, h3, hnum]
  · have h4 : ¬ (n : Int) < (l.length : Int) := by omega
    simp only [F36, go_sem, List.set_cons_zero, List.set_cons_succ, List.take_succ_cons, and_false, false_and, and_true, true_and, Nat.reduceAdd, Nat.reduceEqDiff, Nat.reduceLT, ↓reduceIte, decide_eq_true_eq, List.take_nil, beq_self_eq_true, bne_self_eq_false, List.take_zero, List.map_cons, List.map_nil, Int.reduceNeg, Bool.and_true, and_self, Bool.true_and, Bool.and_self, ne_eq, not_true_eq_false, decide_false, decide_true, Bool.false_eq_true, Nat.reduceAdd, Option.map_some, Option.map_none, Option.bind_some, Option.bind_none, List.length_nil, List.length_cons, List.append_nil, Bool.and_false, w64, demV_sl, Int.cast_ofNat_Int, Int.reduceLT, Int.reduceAdd, Int.reduceSub, Int.reduceLE, Int.reduceEq, Int.reduceToNat, Int.toNat_natCast, Nat.reduceSub, Nat.reduceMul, Nat.reduceLeDiff, Nat.zero_add, Int.zero_add, not_false_eq_true, Bool.not_true, Bool.not_false, Bool.false_and, List.cons_append, List.nil_append, num, ints_length, h4, h0, hw, c24 _ m h1 h2, nxt, h3, hnum]

def fl (l : List Tk) : List AV := (tks l).flatten
theorem fl_app (x y : List Tk) : fl (x ++ y) = fl x ++ fl y := by simp [fl, tks]
theorem fl_one (t : Tk) : fl [t] = [.int .i64 t.1, .str t.2.1, .int .i64 t.2.2] := rfl
theorem fl_cons (t : Tk) (l : List Tk) : fl (t :: l) = .int .i64 t.1 :: .str t.2.1 :: .int .i64 t.2.2 :: fl l := rfl
theorem fl_len : ∀ l : List Tk, (fl l).length = l.length * 3
  | [] => rfl
  | t :: l => by rw [fl_cons]; simp only [List.length_cons, fl_len l]; omega
theorem fl_nown : ∀ l : List Tk, (fl l).all nownB = true
  | [] => rfl
  | t :: l => by rw [fl_cons]; simp only [List.all_cons, fl_nown l, nownB, Bool.and_self]
theorem fl_blk (l : List Tk) : blkB (fl l) = true := by
  cases l with
  | nil => rfl
  | cons a l => rfl
theorem fl_at (o : List Tk) (t : Tk) (j : Nat) : (fl (o ++ [t]))[o.length * 3 + j]? = [AV.int .i64 t.1, .str t.2.1, .int .i64 t.2.2][j]? := by
  rw [fl_app, fl_one, List.getElem?_append_right (by rw [fl_len]; omega), fl_len]
  congr 1; omega
theorem fl_put (o : List Tk) (t u : Tk) : putL (o.length * 3) [AV.int .i64 u.1, .str u.2.1, .int .i64 u.2.2] (fl (o ++ [t])) = some (fl (o ++ [u])) := by
  have : ∀ (a : List AV), putL a.length [AV.int .i64 u.1, .str u.2.1, .int .i64 u.2.2] (a ++ [AV.int .i64 t.1, .str t.2.1, .int .i64 t.2.2]) = some (a ++ [AV.int .i64 u.1, .str u.2.1, .int .i64 u.2.2]) := by
    intro a
    induction a with
    | nil => rfl
    | cons x a ih => simp only [List.length_cons, List.cons_append, putL_s, ih, Option.map_some]
  have h := this (fl o)
  rw [fl_len] at h
  rw [fl_app, fl_one, fl_app, fl_one]
  exact h
theorem rowsC_fl (l : List Tk) : rowsC 0 l.length 3 (fl l) = some (tks l) := by
  have h1 : ∀ l : List Tk, (fl l).all (fun x => flatB (demV x)) = true := by
    intro l
    induction l with
    | nil => rfl
    | cons a l ih => rw [fl_cons]; simp only [List.all_cons, Bool.and_eq_true]; exact ⟨rfl, rfl, rfl, ih⟩
  have h2 : ∀ l : List Tk, (fl l).map demV = fl l := by
    intro l
    induction l with
    | nil => rfl
    | cons a l ih => rw [fl_cons]; simp only [List.map_cons, ih, demV]
  have h3 : ∀ l : List Tk, rowsOf 3 l.length (fl l) = tks l := by
    intro l
    induction l with
    | nil => rfl
    | cons a l ih => rw [fl_cons]; simp only [List.length_cons, rowsOf, List.take_succ_cons, List.take_zero, List.drop_succ_cons, List.drop_zero, ih]; rfl
  unfold rowsC
  have h4 : ((fl l).drop 0).take (l.length * 3) = fl l := by rw [List.drop_zero]; exact List.take_of_length_le (by rw [fl_len]; exact Nat.le_refl _)
  rw [h4, h2, h3, if_pos ⟨by decide, by rw [fl_len]; omega, h1 l⟩]
theorem tks_at {l : List Tk} {i : Nat} {t : Tk} (h : l[i]? = some t) : (tks l)[i]? = some [.int .i64 t.1, .str t.2.1, .int .i64 t.2.2] := by simp [tks, tkR, h]
def strs (l : List (List UInt8)) : List (List AV) := l.map fun s => [.str s]
theorem strs_at {l : List (List UInt8)} {i : Nat} {s : List UInt8} (h : l[i]? = some s) : (strs l)[i]? = some [.str s] := by simp [strs, h]
theorem tks_nil : tks [] = [] := rfl
/-- an element, where it is known to be there -/
def tk0 : Tk := (0, [], 0)
theorem tks_d {l : List Tk} {i : Nat} (h : i < l.length) : (tks l)[i]? = some [.int .i64 (l.getD i tk0).1, .str (l.getD i tk0).2.1, .int .i64 (l.getD i tk0).2.2] :=
  tks_at (by simp [List.getD_eq_getElem?_getD, h])
end Go.Av
