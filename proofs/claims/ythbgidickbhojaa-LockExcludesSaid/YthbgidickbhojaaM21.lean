/- A part of the proof: M21. No conditions. -/
import Derived.Test.YthbgidickbhojaaM20
set_option linter.unusedSimpArgs false
set_option linter.unusedVariables false
namespace Go.Av
set_option linter.unusedSimpArgs false
set_option maxHeartbeats 16000000
set_option maxRecDepth 100000
/-! plain laws of leases -/
theorem val_pw {L : List Tk} (h : valF L = 0) : L.length ≤ 512 ∧ (∀ t ∈ L, goodT t) ∧ L.Pairwise fun a b => a.1 < b.1 := by
  obtain ⟨h1, h2, h3⟩ := val_srt h
  refine ⟨h1, fun t ht => ?_, List.pairwise_iff_getElem.2 fun i j hi hj hij => ?_⟩
  · obtain ⟨i, hi, rfl⟩ := List.getElem_of_mem ht
    have := h2 i hi
    rwa [getD_get hi] at this
  · have := h3 i j hij hj
    rwa [getD_get hi, getD_get hj] at this
theorem hoL_one {g n : Int} {t : Tk} : ∀ {L : List Tk}, (L.Pairwise fun a b => a.1 < b.1) → t ∈ L → t.1 = g → hoL g n L = if n < t.2.2 then some t.2.1 else none
  | a :: L, hp, hm, hg => by
    obtain ⟨p1, p2⟩ := List.pairwise_cons.1 hp
    simp only [hoL]
    rcases List.mem_cons.1 hm with h | h
    · subst h
      rw [if_pos hg]
      split
      · rfl
      · refine hoL_mem fun s hs => ?_
        have := p1 s hs
        omega
    · have := p1 t h
      rw [if_neg (by omega)]
      exact hoL_one p2 h hg
theorem hoL_same {g n : Int} {L M : List Tk} (hL : L.Pairwise fun a b => a.1 < b.1) (hM : M.Pairwise fun a b => a.1 < b.1) (h : ∀ t : Tk, t.1 = g → (t ∈ L ↔ t ∈ M)) : hoL g n L = hoL g n M := by
  by_cases hx : ∃ t ∈ L, t.1 = g
  · obtain ⟨t, ht, hg⟩ := hx
    rw [hoL_one hL ht hg, hoL_one hM ((h t hg).1 ht) hg]
  · rw [hoL_mem (L := L) (fun t ht hg => hx ⟨t, ht, hg⟩), hoL_mem (L := M) (fun t ht hg => hx ⟨t, (h t hg).2 ht, hg⟩)]
theorem mxF_ge {g : Int} {b : Bool} : ∀ (L : List Tk) (x : Int), x ≤ mxF g b L x
  | [], _ => Int.le_refl _
  | t :: L, x => by
    simp only [mxF]
    refine Int.le_trans ?_ (mxF_ge L _)
    split
    · omega
    · omega
theorem mxF_le {g m : Int} {b : Bool} : ∀ (L : List Tk) (x : Int), x ≤ m → (∀ t ∈ L, t.2.2 ≤ m) → mxF g b L x ≤ m
  | [], _, h, _ => h
  | t :: L, x, h, hL => by
    simp only [mxF]
    refine mxF_le L _ ?_ (fun s hs => hL s (by simp [hs]))
    have := hL t (by simp)
    split
    · omega
    · omega
theorem mxF_f {g : Int} : ∀ (L : List Tk) (x : Int), mxF g false L x = x
  | [], _ => rfl
  | t :: L, x => by
    simp only [mxF, Bool.false_eq_true, false_and, if_false]
    exact mxF_f L x
theorem acqE_ok {L : List Tk} {g : Int} {u : List UInt8} {n t : Int} (h : acqE L g u n t = 0) : valF L = 0 ∧ 1 ≤ g ∧ 0 ≤ n ∧ 1 ≤ t ∧ n + t ≤ 1073741824 ∧ isN u = true ∧ (hoF L g n = [] ∨ hoF L g n = u) ∧ ¬ ((L.filter (neF g)).length = L.length ∧ 512 ≤ L.length) := by
  unfold acqE at h
  split at h
  · rename_i h1; exact absurd h h1
  rename_i h1
  split at h
  · exact absurd h (by decide)
  split at h
  · exact absurd h (by decide)
  split at h
  · exact absurd h (by decide)
  split at h
  · exact absurd h (by decide)
  split at h
  · exact absurd h (by decide)
  split at h
  · exact absurd h (by decide)
  rename_i h7
  split at h
  · exact absurd h (by decide)
  rename_i h8
  split at h
  · exact absurd h (by decide)
  rename_i h9
  refine ⟨Classical.byContradiction h1, by omega, by omega, by omega, by omega, by simpa using h7, ?_, h9⟩
  by_cases q : hoF L g n = []
  · exact .inl q
  · exact .inr (Classical.byContradiction fun q2 => h8 ⟨q, q2⟩)
theorem acqL_mem {L : List Tk} {g : Int} {u : List UInt8} {n t : Int} (h : acqE L g u n t = 0) (s : Tk) : s ∈ acqL L g u n t ↔ (s ∈ L ∧ s.1 ≠ g) ∨ s = (g, u, mxF g (hoF L g n == u) L (n + t)) := by
  unfold acqL
  rw [if_pos h]
  simp only [List.mem_append, List.mem_filter, List.mem_singleton, neF, ltF, gtF, Bool.not_eq_true', decide_eq_false_iff_not, decide_eq_true_eq]
  constructor
  · rintro ((⟨⟨h1, h2⟩, _⟩ | h1) | ⟨⟨h1, h2⟩, _⟩)
    · exact .inl ⟨h1, h2⟩
    · exact .inr h1
    · exact .inl ⟨h1, h2⟩
  · rintro (⟨h1, h2⟩ | h1)
    · rcases Int.lt_or_le s.1 g with h3 | h3
      · exact .inl (.inl ⟨⟨h1, h2⟩, h3⟩)
      · exact .inr ⟨⟨h1, h2⟩, by omega⟩
    · exact .inl (.inr h1)
theorem fil_cnt (g : Int) : ∀ L : List Tk, (L.filter (ltF g)).length + (L.filter (gtF g)).length ≤ L.length
  | [] => Nat.le_refl _
  | t :: L => by
    have ih := fil_cnt g L
    rw [List.filter_cons, List.filter_cons]
    by_cases h1 : t.1 < g
    · rw [if_pos (show ltF g t = true from decide_eq_true h1), if_neg (show ¬ gtF g t = true by simp only [gtF, decide_eq_true_eq]; omega)]
      simp only [List.length_cons]; omega
    · rw [if_neg (show ¬ ltF g t = true by simp only [ltF, decide_eq_true_eq]; exact h1)]
      split
      · simp only [List.length_cons]; omega
      · simp only [List.length_cons]; omega
theorem acq_val {L : List Tk} {g : Int} {u : List UInt8} {n t : Int} (h : acqE L g u n t = 0) : valF (acqL L g u n t) = 0 := by
  obtain ⟨a1, a2, a3, a4, a5, a6, a7, a8⟩ := acqE_ok h
  obtain ⟨b1, b2, b3⟩ := val_pw a1
  refine val_list _ ?_ (fun s hs => ?_) ?_
  · unfold acqL
    rw [if_pos h]
    simp only [List.length_append, List.length_cons, List.length_nil]
    have c1 := fil_cnt g (L.filter (neF g))
    have c2 := List.length_filter_le (neF g) L
    omega
  · rcases (acqL_mem h s).1 hs with ⟨h1, _⟩ | h1
    · exact b2 s h1
    · subst h1
      have c1 := mxF_ge (g := g) (b := hoF L g n == u) L (n + t)
      have c2 := mxF_le (g := g) (b := hoF L g n == u) (m := 1073741824) L (n + t) a5 (fun s hs => (b2 s hs).2.2.1)
      exact ⟨a2, by simp only []; omega, c2, a6⟩
  · unfold acqL
    rw [if_pos h]
    have c1 := (b3.filter (neF g))
    rw [List.pairwise_append, List.pairwise_append]
    refine ⟨⟨c1.filter _, List.pairwise_singleton _ _, fun a ha b hb => ?_⟩, c1.filter _, fun a ha b hb => ?_⟩
    · simp only [List.mem_filter, ltF, decide_eq_true_eq] at ha
      simp only [List.mem_singleton] at hb
      subst hb
      exact ha.2
    · simp only [List.mem_append, List.mem_filter, ltF, gtF, decide_eq_true_eq, List.mem_singleton] at ha hb
      rcases ha with ha | ha
      · omega
      · subst ha; exact hb.2
theorem rel_val {L : List Tk} {g : Int} (h : valF L = 0) : valF (L.filter (neF g)) = 0 := by
  obtain ⟨b1, b2, b3⟩ := val_pw h
  have := List.length_filter_le (neF g) L
  exact val_list _ (by omega) (fun s hs => b2 s (List.mem_filter.1 hs).1) (b3.filter _)
/-- what an acquisition leaves -/
def stA (L : List Tk) (g : Int) (u : List UInt8) (n t : Int) : List Tk := if acqE L g u n t = 0 then acqL L g u n t else L
/-- what a release leaves -/
def stR (L : List Tk) (g : Int) (u : List UInt8) (n : Int) : List Tk := if relE L g u n = 0 then relL L g u n else L
theorem stA_val {L : List Tk} {g : Int} {u : List UInt8} {n t : Int} (h : valF L = 0) : valF (stA L g u n t) = 0 := by
  unfold stA
  split
  · rename_i h1; exact acq_val h1
  · exact h
theorem relL_eq {L : List Tk} {g : Int} {u : List UInt8} {n : Int} (h : relE L g u n = 0) : relL L g u n = L.filter (neF g) := by
  unfold relL; rw [if_pos h]
theorem stR_val {L : List Tk} {g : Int} {u : List UInt8} {n : Int} (h : valF L = 0) : valF (stR L g u n) = 0 := by
  unfold stR
  split
  · rename_i h1; rw [relL_eq h1]; exact rel_val h
  · exact h
theorem stA_mem {L : List Tk} {g : Int} {u : List UInt8} {n t : Int} (s : Tk) (hs : s.1 ≠ g) : s ∈ stA L g u n t ↔ s ∈ L := by
  unfold stA
  split
  · rename_i h1
    rw [acqL_mem h1]
    constructor
    · rintro (h | h)
      · exact h.1
      · subst h; exact absurd rfl hs
    · intro h; exact .inl ⟨h, hs⟩
  · exact Iff.rfl
theorem stR_mem {L : List Tk} {g : Int} {u : List UInt8} {n : Int} (s : Tk) (hs : s.1 ≠ g) : s ∈ stR L g u n ↔ s ∈ L := by
  unfold stR
  split
  · rename_i h1
    rw [relL_eq h1]
    simp only [List.mem_filter, neF, Bool.not_eq_true', decide_eq_false_iff_not]
    exact ⟨fun h => h.1, fun h => ⟨h, hs⟩⟩
  · exact Iff.rfl
theorem ho_same {L M : List Tk} {g n : Int} (hL : valF L = 0) (hM : valF M = 0) (h : ∀ t : Tk, t.1 = g → (t ∈ L ↔ t ∈ M)) : hoF L g n = hoF M g n := by
  rw [hoF_L, hoF_L, hoL_same (val_pw hL).2.2 (val_pw hM).2.2 h]
theorem ho_one {L : List Tk} {t : Tk} {n : Int} (hL : valF L = 0) (ht : t ∈ L) : hoF L t.1 n = if n < t.2.2 then t.2.1 else [] := by
  rw [hoF_L, hoL_one (val_pw hL).2.2 ht rfl]
  split <;> rfl
theorem isN_ne {u : List UInt8} (h : isN u = true) : u ≠ [] := by
  rintro rfl
  exact absurd h (by decide)
theorem acq_ho {L : List Tk} {g : Int} {u : List UInt8} {n t : Int} (h : acqE L g u n t = 0) : hoF (acqL L g u n t) g n ≠ [] := by
  obtain ⟨a1, a2, a3, a4, a5, a6, a7, a8⟩ := acqE_ok h
  have hm := (acqL_mem h (g, u, mxF g (hoF L g n == u) L (n + t))).2 (.inr rfl)
  have := ho_one (n := n) (acq_val h) hm
  simp only [] at this
  rw [this, if_pos (by have := mxF_ge (g := g) (b := hoF L g n == u) L (n + t); omega)]
  exact isN_ne a6
end Go.Av
