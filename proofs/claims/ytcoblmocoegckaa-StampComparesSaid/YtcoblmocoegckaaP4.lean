/- A part of the proof: P4. No conditions. -/
import Derived.Test.YtcoblmocoegckaaC4
set_option linter.unusedSimpArgs false
set_option linter.unusedVariables false
namespace Go.Av
def lsF (f : Int → Int) : Nat → Nat
  | 0 => 0
  | n + 1 => if f n = 0 then lsF f n else n + 1
def tr8 (f : Int → Int) : List Int := (List.range (lsF f 8)).map fun (i : Nat) => f (i : Int)
theorem lsF_le (f : Int → Int) : ∀ n, lsF f n ≤ n
  | 0 => by simp [lsF]
  | n + 1 => by
    have := lsF_le f n
    simp only [lsF]; split <;> omega
theorem lsF_zero (f : Int → Int) : ∀ (n i : Nat), lsF f n ≤ i → i < n → f i = 0
  | 0, i, h, h2 => by omega
  | n + 1, i, h, h2 => by
    simp only [lsF] at h
    split at h
    · by_cases hi : i = n
      · subst hi; assumption
      · exact lsF_zero f n i h (by omega)
    · omega
theorem jl_map (a b : List Int) : ∀ (k i : Nat), jl a b i k = (List.range' i k).map fun (x : Nat) => mxF a b (x : Int)
  | 0, i => by simp [jl]
  | k + 1, i => by
    have := jl_map a b k (i + 1)
    rw [Int.natCast_succ] at this
    simp only [jl, List.range'_succ, List.map_cons, this]
theorem lst_ls (a b : List Int) : ∀ (k i : Nat), lst a b (lsF (mxF a b) i : Int) i k = (lsF (mxF a b) (i + k) : Int)
  | 0, i => by simp [lst]
  | k + 1, i => by
    have := lst_ls a b k (i + 1)
    simp only [lst]
    rw [show i + (k + 1) = i + 1 + k by omega, ← this]
    simp only [lsF]
    split <;> simp
theorem joinF_tr (a b : List Int) : joinF a b = tr8 (mxF a b) := by
  have h1 := jl_map a b 8 0
  have h2 : lst a b 0 0 8 = (lsF (mxF a b) 8 : Int) := lst_ls a b 8 0
  have h3 := lsF_le (mxF a b) 8
  simp only [Int.natCast_zero] at h1
  unfold joinF tr8
  have e : List.range' 0 8 = List.range' 0 (lsF (mxF a b) 8) ++ List.range' (lsF (mxF a b) 8) (8 - lsF (mxF a b) 8) := by
    have := List.range'_append (s := 0) (m := lsF (mxF a b) 8) (n := 8 - lsF (mxF a b) 8) (step := 1)
    simp only [Nat.one_mul, Nat.zero_add] at this
    rw [this]; congr 1; omega
  rw [h2, h1, ← List.map_take, Int.toNat_natCast, e, List.take_left' (by simp), List.range_eq_range']
theorem fillT_map (v : List Int) : ∀ (k n : Nat), fillT v n k = (List.range' n k).map fun (x : Nat) => atF v (x : Int)
  | 0, n => by simp [fillT]
  | k + 1, n => by simp only [fillT, List.range'_succ, List.map_cons, fillT_map v k (n + 1)]
theorem trl_ls (v : List Int) : ∀ (k i : Nat), trl v ((List.range' 0 (lsF (atF v) i)).map fun (x : Nat) => atF v (x : Int)) i k = (List.range' 0 (lsF (atF v) (i + k))).map fun (x : Nat) => atF v (x : Int)
  | 0, i => by simp [trl]
  | k + 1, i => by
    have ih := trl_ls v k (i + 1)
    have hl := lsF_le (atF v) i
    rw [show i + (k + 1) = i + 1 + k by omega, ← ih]
    simp only [trl, lsF]
    have hn := atF_nn v i
    by_cases h : atF v i = 0
    · rw [if_pos h, if_neg (by omega)]
    · rw [if_neg h, if_pos (by omega), fillT_map, List.length_map, List.length_range', ← List.map_append]
      congr 1
      have e : List.range' 0 (lsF (atF v) i) ++ List.range' (lsF (atF v) i) (i - lsF (atF v) i) = List.range' 0 i := by
        have := List.range'_append (s := 0) (m := lsF (atF v) i) (n := i - lsF (atF v) i) (step := 1)
        simp only [Nat.one_mul, Nat.zero_add] at this
        rw [this]; congr 1; omega
      rw [e, List.range'_concat]
      simp
theorem trl_tr (v : List Int) : trl v [] 0 8 = tr8 (atF v) := by
  have h := trl_ls v 8 0
  have h' : trl v [] 0 8 = _ := h
  rw [h']; unfold tr8; rw [List.range_eq_range', Nat.zero_add]
theorem atF_out (v : List Int) (i : Int) (h : i < 0 ∨ 8 ≤ i) : atF v i = 0 := by
  unfold atF
  split; rfl; split; rfl; split; rfl; omega
theorem atF_nil (i : Int) : atF [] i = 0 := by
  unfold atF
  split; rfl; rw [if_pos (by simp; omega)]
theorem mxF_out (a b : List Int) (i : Int) (h : i < 0 ∨ 8 ≤ i) : mxF a b i = 0 := by
  simp [mxF, atF_out _ _ h]
theorem mxF_nn (a b : List Int) (i : Int) : 0 ≤ mxF a b i := by
  have := atF_nn a i; unfold mxF; omega
theorem at_tr8 (f : Int → Int) (h0 : ∀ i, 0 ≤ f i) (h1 : ∀ i, (i < 0 ∨ 8 ≤ i) → f i = 0) (i : Int) : atF (tr8 f) i = f i := by
  have hl := lsF_le f 8
  have hlen : (tr8 f).length = lsF f 8 := by simp [tr8]
  by_cases c1 : i < 0 ∨ 8 ≤ i
  · rw [atF_out _ _ c1, h1 i c1]
  · unfold atF
    rw [if_neg (by omega), hlen]
    by_cases c2 : (lsF f 8 : Int) ≤ i
    · rw [if_pos c2]
      have := lsF_zero f 8 i.toNat (by omega) (by omega)
      rw [Int.toNat_of_nonneg (by omega)] at this
      exact this.symm
    · rw [if_neg c2, if_neg (by omega)]
      have hi : i.toNat < lsF f 8 := by omega
      have : (tr8 f).getD i.toNat 0 = f i := by
        simp only [tr8, List.getD_eq_getElem?_getD, List.getElem?_map, List.getElem?_range hi, Option.map_some, Option.getD_some]
        rw [Int.toNat_of_nonneg (by omega)]
      rw [this]
      have := h0 i
      omega
theorem at_join (a b : List Int) (i : Int) : atF (joinF a b) i = mxF a b i := by
  rw [joinF_tr]
  exact at_tr8 _ (mxF_nn a b) (mxF_out a b) i
theorem at_trim (a : List Int) (i : Int) : atF (joinF a []) i = atF a i := by
  rw [at_join]; unfold mxF; rw [atF_nil]; have := atF_nn a i; omega
theorem atF_jl (a b : List Int) (i : Int) : atF (jl a b 0 8) i = mxF a b i := by
  have h1 := jl_map a b 8 0
  simp only [Int.natCast_zero] at h1
  have hlen := jl_len a b 8 0
  by_cases c1 : i < 0 ∨ 8 ≤ i
  · rw [atF_out _ _ c1, mxF_out a b i c1]
  · unfold atF
    rw [if_neg (by omega), hlen, if_neg (by omega), if_neg (by omega)]
    have : (jl a b 0 8).getD i.toNat 0 = mxF a b i := by
      rw [h1, ← List.range_eq_range']
      simp only [List.getD_eq_getElem?_getD, List.getElem?_map, List.getElem?_range (show i.toNat < 8 by omega), Option.map_some, Option.getD_some]
      rw [Int.toNat_of_nonneg (by omega)]
    rw [this]
    have := mxF_nn a b i
    omega
theorem join_same (a b : List Int) : trl (jl a b 0 8) [] 0 8 = joinF a b := by
  rw [trl_tr, joinF_tr]
  congr 1
  funext i
  exact atF_jl a b i
theorem trim_same (a : List Int) : joinF a [] = trl a [] 0 8 := by
  rw [trl_tr, joinF_tr]
  congr 1
  funext i
  unfold mxF; rw [atF_nil]; have := atF_nn a i; omega
theorem join_eq (a b c d : List Int) (h : ∀ i, mxF a b i = mxF c d i) : joinF a b = joinF c d := by
  rw [joinF_tr, joinF_tr]
  congr 1
  funext i
  exact h i
theorem join_comm (a b : List Int) : joinF a b = joinF b a := join_eq _ _ _ _ fun i => by unfold mxF; omega
theorem join_assoc (a b c : List Int) : joinF (joinF a b) c = joinF a (joinF b c) := join_eq _ _ _ _ fun i => by
  unfold mxF; rw [at_join, at_join]; unfold mxF; omega
theorem join_idem (a : List Int) : joinF a a = joinF a [] := join_eq _ _ _ _ fun i => by
  unfold mxF; rw [atF_nil]; have := atF_nn a i; omega
theorem cont_iff (a b : List Int) : ∀ (k : Nat) (i : Int), contF a b i k = true ↔ ∀ j, i ≤ j → j < i + k → atF b j ≤ atF a j
  | 0, i => by simp only [contF, true_iff]; intro j h1 h2; omega
  | k + 1, i => by
    simp only [contF]
    by_cases h : atF a i < atF b i
    · rw [if_pos h]
      constructor
      · intro h; cases h
      · intro h2; have := h2 i (by omega) (by omega); omega
    · rw [if_neg h, cont_iff a b k (i + 1)]
      constructor
      · intro h2 j h3 h4
        by_cases e : j = i
        · subst e; omega
        · exact h2 j (by omega) (by omega)
      · intro h2 j h3 h4; exact h2 j (by omega) (by omega)
def Le (b a : List Int) : Prop := ∀ i, atF b i ≤ atF a i
theorem cont8 (a b : List Int) : contF a b 0 8 = true ↔ Le b a := by
  rw [cont_iff]
  constructor
  · intro h j
    by_cases c : j < 0 ∨ 8 ≤ j
    · rw [atF_out _ _ c, atF_out _ _ c]; omega
    · exact h j (by omega) (by omega)
  · intro h j _ _; exact h j
theorem contm (a b : List Int) : contF a b 0 (min b.length 8) = true ↔ Le b a := by
  rw [cont_iff]
  constructor
  · intro h j
    by_cases c : j < 0 ∨ 8 ≤ j
    · rw [atF_out _ _ c, atF_out _ _ c]; omega
    · by_cases c2 : (b.length : Int) ≤ j
      · have : atF b j = 0 := by unfold atF; rw [if_neg (by omega), if_pos c2]
        rw [this]; exact atF_nn a j
      · exact h j (by omega) (by omega)
  · intro h j _ _; exact h j
theorem cont_same (a b : List Int) : contF a b 0 (min b.length 8) = contF a b 0 8 := by
  rw [Bool.eq_iff_iff, cont8, contm]
theorem le_join1 (a b : List Int) : Le a (joinF a b) := fun i => by rw [at_join]; unfold mxF; omega
theorem le_join2 (a b : List Int) : Le b (joinF a b) := fun i => by rw [at_join]; unfold mxF; omega
theorem join_le (a b c : List Int) : Le (joinF a b) c ↔ Le a c ∧ Le b c := by
  unfold Le
  constructor
  · intro h
    refine ⟨fun i => ?_, fun i => ?_⟩ <;> have := h i <;> rw [at_join] at this <;> unfold mxF at this <;> omega
  · intro h i
    have h1 := h.1 i
    have h2 := h.2 i
    rw [at_join]; unfold mxF; omega
theorem le_anti (a b : List Int) (h1 : Le a b) (h2 : Le b a) : joinF a [] = joinF b [] := join_eq _ _ _ _ fun i => by
  have := h1 i; have := h2 i; unfold mxF; omega
theorem joinF_len (a b : List Int) : (joinF a b).length ≤ 8 := by
  rw [joinF_tr]; simp [tr8]; exact lsF_le _ 8
theorem trl_len (a : List Int) : (trl a [] 0 8).length ≤ 8 := by rw [← trim_same]; exact joinF_len _ _
end Go.Av
