/- A part of the proof: M14. No conditions. -/
import Derived.Test.YthbgidickbhojaaM13
set_option linter.unusedSimpArgs false
set_option linter.unusedVariables false
namespace Go.Av
set_option linter.unusedSimpArgs false
set_option maxHeartbeats 8000000
set_option maxRecDepth 100000
theorem val_get (L : List Tk) : ∀ (k i : Nat), i + k = L.length → valI L k i = 0 → ∀ j, i ≤ j → j < L.length → goodT (L.getD j tk0) ∧ (0 < j → (L.getD (j - 1) tk0).1 < (L.getD j tk0).1)
  | 0, i, h, _, j, h1, h2 => by omega
  | k + 1, i, h, hv, j, h1, h2 => by
    simp only [valI] at hv
    split at hv
    · cases hv
    rename_i a1
    split at hv
    · cases hv
    rename_i a2
    split at hv
    · cases hv
    rename_i a3
    split at hv
    · cases hv
    rename_i a4
    split at hv
    · cases hv
    rename_i a5
    rcases Nat.lt_or_ge i j with hij | hij
    · exact val_get L k (i + 1) (by omega) hv j (by omega) h2
    · have : j = i := by omega
      subst this
      have a4' : isN (L.getD j tk0).2.1 = true := by simpa using a4
      exact ⟨⟨by omega, by omega, by omega, a4'⟩, fun h0 => by
        rcases Int.lt_or_le (L.getD (j - 1) tk0).1 (L.getD j tk0).1 with q | q
        · exact q
        · exact absurd ⟨h0, q⟩ a5⟩
theorem val_srt {L : List Tk} (h : valF L = 0) : L.length ≤ 512 ∧ (∀ j, j < L.length → goodT (L.getD j tk0)) ∧ ∀ p q, p < q → q < L.length → (L.getD p tk0).1 < (L.getD q tk0).1 := by
  unfold valF at h
  split at h
  · cases h
  · rename_i hl
    have hg := val_get L L.length 0 (by omega) h
    refine ⟨by omega, fun j hj => (hg j (by omega) hj).1, fun p q => ?_⟩
    induction q with
    | zero => intro h1; omega
    | succ q ih =>
      intro h1 h2
      have h3 := (hg (q + 1) (by omega) h2).2 (by omega)
      rw [show q + 1 - 1 = q from rfl] at h3
      rcases Nat.lt_or_ge p q with h4 | h4
      · have := ih h4 (by omega); omega
      · have : p = q := by omega
        subst this; exact h3
theorem bs_inv (L : List Tk) (g : Int) (hs : ∀ p q, p < q → q < L.length → (L.getD p tk0).1 < (L.getD q tk0).1) : ∀ (k i j : Nat), j ≤ L.length → j - i < k → i ≤ j → (∀ p, p < i → (L.getD p tk0).1 < g) → (∀ p, j ≤ p → p < L.length → g ≤ (L.getD p tk0).1) →
    (∀ p, p < bsI L g k i j → (L.getD p tk0).1 < g) ∧ (∀ p, bsI L g k i j ≤ p → p < L.length → g ≤ (L.getD p tk0).1)
  | 0, i, j, _, h, _, _, _ => by omega
  | k + 1, i, j, h1, h2, h3, h4, h5 => by
    simp only [bsI]
    split
    · rename_i hij
      split
      · rename_i hc
        refine bs_inv L g hs k ((i + j) / 2 + 1) j h1 (by omega) (by omega) (fun p hp => ?_) h5
        rcases Nat.lt_or_ge p ((i + j) / 2) with q | q
        · have := hs p ((i + j) / 2) q (by omega); omega
        · have : p = (i + j) / 2 := by omega
          subst this; exact hc
      · rename_i hc
        refine bs_inv L g hs k i ((i + j) / 2) (by omega) (by omega) (by omega) h4 (fun p hp hl => ?_)
        rcases Nat.lt_or_ge ((i + j) / 2) p with q | q
        · have := hs ((i + j) / 2) p q hl; omega
        · have : p = (i + j) / 2 := by omega
          subst this; omega
    · have : i = j := by omega
      subst this
      exact ⟨h4, h5⟩
theorem cmpI_eq (x y : Int) : cmpI x y = 0 ↔ x = y := by
  unfold cmpI
  split
  · constructor
    · intro h; exact absurd h (by decide)
    · intro h; omega
  · split
    · constructor
      · intro h; exact absurd h (by decide)
      · intro h; omega
    · constructor
      · intro h; omega
      · intro _; rfl
theorem pl_facts (L : List Tk) (g : Int) (hs : ∀ p q, p < q → q < L.length → (L.getD p tk0).1 < (L.getD q tk0).1) :
    plN L g ≤ L.length ∧ (∀ t ∈ L.take (plN L g), t.1 < g) ∧
    (plB L g = false → ∀ t ∈ L.drop (plN L g), g < t.1) ∧
    (plB L g = true → plN L g < L.length ∧ (L.getD (plN L g) tk0).1 = g ∧ ∀ t ∈ L.drop (plN L g + 1), g < t.1) := by
  have hle := (bsI_le L g (L.length + 1) 0 L.length (by omega)).2
  obtain ⟨h1, h2⟩ := bs_inv L g hs (L.length + 1) 0 L.length (by omega) (by omega) (by omega) (fun p hp => by omega) (fun p hp hl => by omega)
  have ep : bsI L g (L.length + 1) 0 L.length = plN L g := rfl
  rw [ep] at h1 h2 hle
  refine ⟨hle, fun t ht => ?_, fun hb t ht => ?_, fun hb => ?_⟩
  · obtain ⟨p, hp⟩ := List.mem_iff_getElem?.1 ht
    have hl := (List.getElem?_eq_some_iff.1 hp).1
    rw [List.length_take] at hl
    rw [List.getElem?_take_of_lt (by omega)] at hp
    have := h1 p (by omega)
    rw [List.getD_eq_getElem?_getD, hp] at this
    exact this
  · obtain ⟨p, hp⟩ := List.mem_iff_getElem?.1 ht
    rw [List.getElem?_drop] at hp
    have hl := (List.getElem?_eq_some_iff.1 hp).1
    have h3 := h2 (plN L g + p) (by omega) hl
    have e : L.getD (plN L g + p) tk0 = t := by rw [List.getD_eq_getElem?_getD, hp]; rfl
    unfold plB at hb
    rw [if_pos (by omega)] at hb
    have h4 : ¬ (L.getD (plN L g) tk0).1 = g := fun q => by
      have := (cmpI_eq _ _).2 q
      rw [this] at hb
      exact absurd hb (by decide)
    rcases Nat.eq_zero_or_pos p with h0 | h0
    · subst h0
      rw [Nat.add_zero] at e h3
      rw [e] at h3 h4
      omega
    · have h5 := hs (plN L g) (plN L g + p) (by omega) hl
      have h6 := h2 (plN L g) (Nat.le_refl _) (by omega)
      rw [e] at h5; omega
  · unfold plB at hb
    split at hb
    · rename_i hlt
      have h4 : (L.getD (plN L g) tk0).1 = g := (cmpI_eq _ _).1 (by simpa using hb)
      refine ⟨hlt, h4, fun t ht => ?_⟩
      obtain ⟨p, hp⟩ := List.mem_iff_getElem?.1 ht
      rw [List.getElem?_drop] at hp
      have hl := (List.getElem?_eq_some_iff.1 hp).1
      have h5 := hs (plN L g) (plN L g + 1 + p) (by omega) hl
      have e : L.getD (plN L g + 1 + p) tk0 = t := by rw [List.getD_eq_getElem?_getD, hp]; rfl
      rw [e, h4] at h5; exact h5
    · cases hb
theorem fil_lt {A : List Tk} {g : Int} (h : ∀ t ∈ A, t.1 < g) : A.filter (neF g) = A ∧ A.filter (ltF g) = A ∧ A.filter (gtF g) = [] := by
  refine ⟨List.filter_eq_self.2 fun t ht => ?_, List.filter_eq_self.2 fun t ht => ?_, List.filter_eq_nil_iff.2 fun t ht => ?_⟩
  · have := h t ht; simp only [neF, Bool.not_eq_true', decide_eq_false_iff_not]; omega
  · have := h t ht; simp only [ltF, decide_eq_true_eq]; omega
  · have := h t ht; simp only [gtF, decide_eq_true_eq]; omega
theorem fil_gt {A : List Tk} {g : Int} (h : ∀ t ∈ A, g < t.1) : A.filter (neF g) = A ∧ A.filter (ltF g) = [] ∧ A.filter (gtF g) = A := by
  refine ⟨List.filter_eq_self.2 fun t ht => ?_, List.filter_eq_nil_iff.2 fun t ht => ?_, List.filter_eq_self.2 fun t ht => ?_⟩
  · have := h t ht; simp only [neF, Bool.not_eq_true', decide_eq_false_iff_not]; omega
  · have := h t ht; simp only [ltF, decide_eq_true_eq]; omega
  · have := h t ht; simp only [gtF, decide_eq_true_eq]; omega
theorem mx_no {g : Int} {b : Bool} : ∀ {A : List Tk} {x : Int}, (∀ t ∈ A, t.1 ≠ g) → mxF g b A x = x
  | [], _, _ => rfl
  | t :: A, x, h => by
    simp only [mxF]
    rw [if_neg (fun q => h t (by simp) q.2)]
    exact mx_no fun t ht => h t (by simp [ht])
theorem mx_app (g : Int) (b : Bool) : ∀ (A C : List Tk) (x : Int), mxF g b (A ++ C) x = mxF g b C (mxF g b A x)
  | [], _, _ => rfl
  | t :: A, C, x => by simp only [List.cons_append, mxF, mx_app g b A C]
/-- No lease yet: the new one is put in its place. -/
theorem acq_ins {L : List Tk} {g : Int} {u : List UInt8} {n t : Int} (hv : valF L = 0) (hb : plB L g = false) (he : acqE L g u n t = 0) :
    acqL L g u n t = L.take (plN L g) ++ [(g, u, n + t)] ++ L.drop (plN L g) ∧ (L.filter (neF g)).length = L.length := by
  obtain ⟨_, _, hs⟩ := val_srt hv
  obtain ⟨_, p2, p3, _⟩ := pl_facts L g hs
  obtain ⟨a1, a2, a3⟩ := fil_lt p2
  obtain ⟨b1, b2, b3⟩ := fil_gt (p3 hb)
  have hL : L.take (plN L g) ++ L.drop (plN L g) = L := List.take_append_drop _ _
  have hn : L.filter (neF g) = L := by
    conv => lhs; rw [← hL]
    rw [List.filter_append, a1, b1, hL]
  have hlt : L.filter (ltF g) = L.take (plN L g) := by
    conv => lhs; rw [← hL]
    rw [List.filter_append, a2, b2, List.append_nil]
  have hgt : L.filter (gtF g) = L.drop (plN L g) := by
    conv => lhs; rw [← hL]
    rw [List.filter_append, a3, b3, List.nil_append]
  have hmx : ∀ (b : Bool) (x : Int), mxF g b L x = x := fun b x => by
    refine mx_no fun t ht => ?_
    rw [← hL] at ht
    rcases List.mem_append.1 ht with h | h
    · have := p2 t h; omega
    · have := p3 hb t h; omega
  refine ⟨?_, by rw [hn]⟩
  unfold acqL
  rw [if_pos he, hn, hlt, hgt, hmx]
/-- A lease of the segment: the new one is put in its stead. -/
theorem acq_set {L : List Tk} {g : Int} {u : List UInt8} {n t : Int} (hv : valF L = 0) (hb : plB L g = true) (he : acqE L g u n t = 0) :
    acqL L g u n t = L.set (plN L g) (g, u, if (hoF L g n == u) = true then max (n + t) (L.getD (plN L g) tk0).2.2 else n + t) ∧ (L.filter (neF g)).length ≠ L.length := by
  obtain ⟨_, _, hs⟩ := val_srt hv
  obtain ⟨_, p2, _, p4⟩ := pl_facts L g hs
  obtain ⟨q1, q2, q3⟩ := p4 hb
  obtain ⟨a1, a2, a3⟩ := fil_lt p2
  obtain ⟨b1, b2, b3⟩ := fil_gt q3
  obtain ⟨T, hT⟩ : ∃ T, T = L.getD (plN L g) tk0 := ⟨_, rfl⟩
  rw [← hT] at q2 ⊢
  have hL : L.take (plN L g) ++ T :: L.drop (plN L g + 1) = L := by rw [hT, ← drop_d q1, List.take_append_drop]
  have hnt : neF g T = false := by simp only [neF, q2, decide_true, Bool.not_true]
  have hn : L.filter (neF g) = L.take (plN L g) ++ L.drop (plN L g + 1) := by
    conv => lhs; rw [← hL]
    rw [List.filter_append, List.filter_cons, hnt, a1, b1]
    rfl
  have hlt : (L.filter (neF g)).filter (ltF g) = L.take (plN L g) := by rw [hn, List.filter_append, a2, b2, List.append_nil]
  have hgt : (L.filter (neF g)).filter (gtF g) = L.drop (plN L g + 1) := by rw [hn, List.filter_append, a3, b3, List.nil_append]
  have hmx : ∀ (b : Bool) (x : Int), mxF g b L x = if b = true then max x T.2.2 else x := fun b x => by
    conv => lhs; rw [← hL]
    rw [mx_app, mx_no (A := L.take (plN L g)) (fun t ht => by have := p2 t ht; omega)]
    simp only [mxF]
    rw [mx_no (A := L.drop (plN L g + 1)) (fun t ht => by have := q3 t ht; omega)]
    cases b
    · rw [if_neg (fun q => by cases q.1)]; rfl
    · rw [if_pos ⟨rfl, q2⟩]; rfl
  refine ⟨?_, by rw [hn, List.length_append, List.length_take, List.length_drop]; omega⟩
  unfold acqL
  rw [if_pos he, hlt, hgt, hmx, List.append_assoc]
  have hset : ∀ x : Tk, L.set (plN L g) x = L.take (plN L g) ++ x :: L.drop (plN L g + 1) := fun x => List.set_eq_take_append_cons_drop.trans (by rw [if_pos q1])
  rw [hset]
  rfl
end Go.Av
