/- A part of the proof: D20. No conditions. -/
import Derived.Test.YthbgidickbhojaaD17
set_option linter.unusedSimpArgs false
set_option linter.unusedVariables false
namespace Go.Av
set_option linter.unusedSimpArgs false
set_option maxHeartbeats 4000000
/-- What the reference's occurrences are: by the place where they begin. -/
def occR (w : List (List UInt8)) : Nat → List Tk → List (Int × Int)
  | _, [] => []
  | p, t :: T => if cnt t.1 = true ∧ (phr (t :: T)).take w.length = w then ((p : Int), (plc p (t :: T)).getD (w.length - 1) 0 + 1) :: occR w (p + 1) T else occR w (p + 1) T
/-- The same off the counted tokens alone. -/
def occS (w : List (List UInt8)) : List Int → List (List UInt8) → List (Int × Int)
  | p :: P, k :: K => if (k :: K).take w.length = w then (p, (p :: P).getD (w.length - 1) 0 + 1) :: occS w P K else occS w P K
  | _, _ => []
theorem occR_S (w : List (List UInt8)) : ∀ (T : List Tk) (p : Nat), occR w p T = occS w (plc p T) (phr T)
  | [], p => by simp [occR, plc, phr, occS]
  | t :: T, p => by
    have ih := occR_S w T (p + 1)
    simp only [occR]
    by_cases h : cnt t.1 = true
    · have e1 : plc p (t :: T) = (p : Int) :: plc (p + 1) T := by simp only [plc, h, if_true]
      rw [phr_yes h, e1]
      simp only [occS, h, true_and, ih]
    · have e1 : plc p (t :: T) = plc (p + 1) T := by simp only [plc, h, if_false]; simp
      rw [e1, phr_no (by simpa using h), if_neg (fun q => h q.1)]
      exact ih
theorem occ_S (w : List (List UInt8)) (hw : 1 ≤ w.length) (P : List Int) (K : List (List UInt8)) (hPK : P.length = K.length) : ∀ (k i : Nat), K.length + 1 ≤ i + k → occ P K w k i = occS w (P.drop i) (K.drop i)
  | 0, i, h => by
    have : K.drop i = [] := List.drop_eq_nil_of_le (by omega)
    rw [this]
    cases P.drop i <;> simp [occ, occS]
  | k + 1, i, h => by
    have ih := occ_S w hw P K hPK k (i + 1) (by omega)
    simp only [occ]
    by_cases h1 : i < K.length
    · have dk : K.drop i = K[i] :: K.drop (i + 1) := List.drop_eq_getElem_cons h1
      have dp : P.drop i = P[i] :: P.drop (i + 1) := List.drop_eq_getElem_cons (by omega)
      have hs : (K.take (i + w.length)).drop i = (K.drop i).take w.length := by
        rw [List.drop_take]; congr 1; omega
      rw [hs, dp, dk]
      simp only [occS]
      rw [← dk, ← dp]
      by_cases h2 : (K.drop i).take w.length = w
      · have h3 : i + w.length ≤ K.length := by
          have := congrArg List.length h2
          simp at this; omega
        rw [if_pos h3, if_pos h2, if_pos h2, ih]
        have g1 : P.getD i 0 = P[i] := by simp [List.getD_eq_getElem?_getD, (show i < P.length by omega)]
        have g2 : (P.drop i).getD (w.length - 1) 0 = P.getD (i + w.length - 1) 0 := by
          rw [List.getD_eq_getElem?_getD, List.getD_eq_getElem?_getD, List.getElem?_drop]
          congr 2; omega
        rw [g1, g2]
      · rw [if_neg h2, if_neg h2, ih]
        split
        · rfl
        · rename_i h3
          have hz : ∀ (a : List Int) (b : List (List UInt8)), b.length < w.length → occS w a b = [] := by
            intro a
            induction a with
            | nil => intro b _; cases b <;> rfl
            | cons x a iha =>
              intro b hb
              cases b with
              | nil => rfl
              | cons y b =>
                simp only [occS]
                rw [if_neg (fun e => by have := congrArg List.length e; simp at this hb; omega)]
                exact iha b (by simp at hb; omega)
          exact (hz _ _ (by simp; omega)).symm
    · have : K.drop i = [] := List.drop_eq_nil_of_le (by omega)
      rw [this, if_neg (by omega)]
      cases P.drop i <;> rfl
theorem occF_R (w : List (List UInt8)) (hw : 1 ≤ w.length) (T : List Tk) : occF w T = occR w 0 T := by
  unfold occF
  rw [if_neg (by omega), occ_S w hw _ _ (plc_len T 0) _ 0 (by omega), List.drop_zero, List.drop_zero, occR_S]
end Go.Av
