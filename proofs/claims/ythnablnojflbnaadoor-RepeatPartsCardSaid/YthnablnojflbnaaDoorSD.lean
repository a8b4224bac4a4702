/- Groups of repetitions as plain data. -/
import Derived.Test.YthnablnojflbnaaDoorSC
set_option linter.unusedSimpArgs false
set_option linter.unusedVariables false
namespace Go.Av
open Go.Nt
set_option linter.unusedSimpArgs false
set_option linter.unusedVariables false
set_option maxHeartbeats 16000000
def heads (φ : Nat → Nat) (i : Nat) : List Nat := (List.range i).filter fun j => φ j == j
def grpN (φ : Nat → Nat) (i h : Nat) : List Nat := (List.range i).filter fun j => φ j == h
def zs (l : List Nat) : List Int := l.map fun (n : Nat) => (n : Int)
theorem zs_app (a b : List Nat) : zs (a ++ b) = zs a ++ zs b := by simp [zs]
theorem heads_s (φ : Nat → Nat) (i : Nat) : heads φ (i + 1) = heads φ i ++ (if φ i = i then [i] else []) := by
  unfold heads
  rw [List.range_succ, List.filter_append]
  by_cases h : φ i = i <;> simp [h]
theorem grpN_s (φ : Nat → Nat) (i h : Nat) : grpN φ (i + 1) h = grpN φ i h ++ (if φ i = h then [i] else []) := by
  unfold grpN
  rw [List.range_succ, List.filter_append]
  by_cases q : φ i = h <;> simp [q]
theorem mem_heads {φ : Nat → Nat} {i h : Nat} : h ∈ heads φ i ↔ h < i ∧ φ h = h := by
  unfold heads; simp
theorem mem_grpN {φ : Nat → Nat} {i h j : Nat} : j ∈ grpN φ i h ↔ j < i ∧ φ j = h := by
  unfold grpN; simp
theorem heads_nodup (φ : Nat → Nat) (i : Nat) : (heads φ i).Nodup := List.nodup_range.filter _
theorem nodup_at {l : List Nat} (h : l.Nodup) {a b x : Nat} (h1 : l[a]? = some x) (h2 : l[b]? = some x) : a = b := by
  have ha := lt_of h1
  exact (List.getElem?_inj ha h).1 (by rw [h1, h2])
def grpZ (φ : Nat → Nat) (i : Nat) : List (List Int) := (heads φ i).map fun h => zs (grpN φ i h)
theorem grpZ_len (φ : Nat → Nat) (i : Nat) : (grpZ φ i).length = (heads φ i).length := by simp [grpZ]
theorem grpF_eq (φ : Nat → Nat) (h1 : ∀ i, φ i ≤ i) (h2 : ∀ i, φ (φ i) = φ i) : ∀ (k i : Nat) (m : Im), (∀ f a : Int, mgI m f = some a ↔ ∃ an h : Nat, a = (an : Int) ∧ f = (h : Int) ∧ (heads φ i)[an]? = some h) →
    grpF m (grpZ φ i) i ((List.range' i k).map fun j => (φ j : Int)) = grpZ φ (i + k)
  | 0, i, m, _ => rfl
  | k + 1, i, m, hm => by
    rw [List.range'_succ, List.map_cons]
    simp only [grpF]
    rw [show i + (k + 1) = i + 1 + k by omega]
    cases hk : mgI m (φ i : Int) with
    | some a =>
      obtain ⟨an, h, rfl, hh, ha⟩ := (hm _ _).1 hk
      have hfh : φ i = h := by omega
      have hhd := mem_heads.1 (List.mem_of_getElem? ha)
      have hne : ¬ φ i = i := by omega
      have eh : heads φ (i + 1) = heads φ i := by rw [heads_s, if_neg hne, List.append_nil]
      have hal := lt_of ha
      have eg : (grpZ φ i).set (an : Int).toNat ((grpZ φ i).getD (an : Int).toNat [] ++ [(i : Int)]) = grpZ φ (i + 1) := by
        rw [Int.toNat_natCast]
        apply List.ext_getElem?
        intro b
        rw [List.getElem?_set, grpZ_len]
        have ez : (grpZ φ i).getD an [] = zs (grpN φ i h) := by
          rw [List.getD_eq_getElem?_getD]; unfold grpZ; rw [List.getElem?_map, ha]; rfl
        rw [ez]
        by_cases hb : an = b
        · subst hb
          rw [if_pos rfl, if_pos hal]
          unfold grpZ
          rw [eh, List.getElem?_map, ha, Option.map_some, grpN_s, if_pos hfh, zs_app]
          rfl
        · rw [if_neg hb]
          unfold grpZ
          rw [eh, List.getElem?_map, List.getElem?_map]
          cases hx : (heads φ i)[b]? with
          | none => rfl
          | some x =>
            have hxh : ¬ φ i = x := fun q => hb (nodup_at (heads_nodup φ i) ha (by rw [hx, ← q, hfh]))
            rw [Option.map_some, Option.map_some, grpN_s, if_neg hxh, List.append_nil]
      simp only []
      rw [eg]
      exact grpF_eq φ h1 h2 k (i + 1) m (by rw [eh]; exact hm)
    | none =>
      have hnh : φ i ∉ heads φ i := by
        intro q
        obtain ⟨an, ha⟩ := List.mem_iff_getElem?.1 q
        have := (hm (φ i : Int) (an : Int)).2 ⟨an, φ i, rfl, rfl, ha⟩
        rw [hk] at this
        cases this
      have hii : φ i = i := by
        by_cases q : φ i < i
        · exact absurd (mem_heads.2 ⟨q, h2 i⟩) hnh
        · have := h1 i; omega
      have eh : heads φ (i + 1) = heads φ i ++ [i] := by rw [heads_s, if_pos hii]
      have eg : grpZ φ i ++ [[(i : Int)]] = grpZ φ (i + 1) := by
        unfold grpZ
        rw [eh, List.map_append, List.map_cons, List.map_nil]
        congr 1
        · apply List.map_congr_left
          intro h hh
          have := (mem_heads.1 hh).1
          rw [grpN_s, if_neg (by omega), List.append_nil]
        · have e : grpN φ i i = [] := by
            apply List.eq_nil_iff_forall_not_mem.2
            intro j hj
            obtain ⟨a, b⟩ := mem_grpN.1 hj
            have := h1 j
            omega
          rw [grpN_s, if_pos hii, e]; rfl
      simp only []
      rw [eg]
      refine grpF_eq φ h1 h2 k (i + 1) _ fun f a => ?_
      rw [mg_ms, hii, grpZ_len]
      constructor
      · intro q
        split at q
        · rename_i e
          cases q
          refine ⟨(heads φ i).length, i, rfl, e, ?_⟩
          rw [eh, List.getElem?_append_right (Nat.le_refl _), Nat.sub_self]; rfl
        · obtain ⟨an, h, e1, e2, e3⟩ := (hm _ _).1 q
          exact ⟨an, h, e1, e2, by rw [eh, List.getElem?_append_left (lt_of e3)]; exact e3⟩
      · rintro ⟨an, h, rfl, rfl, q⟩
        rw [eh] at q
        by_cases ql : an < (heads φ i).length
        · rw [List.getElem?_append_left ql] at q
          have := (mem_heads.1 (List.mem_of_getElem? q)).1
          rw [if_neg (by omega)]
          exact (hm _ _).2 ⟨an, h, rfl, rfl, q⟩
        · rw [List.getElem?_append_right (by omega)] at q
          have ql2 := lt_of q
          rw [List.length_singleton] at ql2
          rw [show an - (heads φ i).length = 0 by omega] at q
          cases q
          rw [if_pos rfl]
          congr 1
          omega
/-! the first repetitions -/
def phi (L : List (List Tk)) (i : Nat) : Nat := if i < L.length then (gF L i).toNat else i
theorem ff_le (L : List (List Tk)) (s : Bs) : ∀ (i v : Nat), ff L s i = some v → v < i ∧ cnd L s v = true
  | 0, v, h => by cases h
  | i + 1, v, h => by
    simp only [ff] at h
    cases hf : ff L s i with
    | some w =>
      rw [hf] at h
      cases h
      have := ff_le L s i _ hf
      exact ⟨by omega, this.2⟩
    | none =>
      rw [hf] at h
      simp only [] at h
      split at h
      · cases h; rename_i q; exact ⟨by omega, q⟩
      · cases h
theorem ff_pre (L : List (List Tk)) (s : Bs) : ∀ (i v : Nat), ff L s i = some v → ff L s v = none
  | 0, v, h => by cases h
  | i + 1, v, h => by
    simp only [ff] at h
    cases hf : ff L s i with
    | some w =>
      rw [hf] at h
      cases h
      exact ff_pre L s i _ hf
    | none =>
      rw [hf] at h
      simp only [] at h
      split at h
      · cases h; exact hf
      · cases h
theorem gF_bad {L : List (List Tk)} {i : Nat} {f : List Tk} (h : L[i]? = some f) (hv : ¬ vld f = 0) : gF L i = (i : Int) := by unfold gF; rw [h]; simp only []; rw [if_neg hv]
theorem gF_ok {L : List (List Tk)} {i : Nat} {f : List Tk} (h : L[i]? = some f) (hv : vld f = 0) : gF L i = match ff L (keyF f) i with
    | some v => (v : Int)
    | none => (i : Int) := by
  unfold gF; rw [h]; simp only []; rw [if_pos hv, dn_ff]
  cases ff L (keyF f) i <;> rfl
theorem gF_fact (L : List (List Tk)) (i : Nat) (hi : i < L.length) : ∃ v : Nat, gF L i = (v : Int) ∧ v ≤ i ∧ gF L v = (v : Int) := by
  cases hL : L[i]? with
  | none => rw [List.getElem?_eq_none_iff] at hL; omega
  | some f =>
    by_cases hv : vld f = 0
    · have e := gF_ok hL hv
      cases hf : ff L (keyF f) i with
      | none => rw [hf] at e; exact ⟨i, e, Nat.le_refl _, e⟩
      | some v =>
        rw [hf] at e
        obtain ⟨a, b⟩ := ff_le L _ i v hf
        refine ⟨v, e, by omega, ?_⟩
        unfold cnd at b
        cases hLv : L[v]? with
        | none => rw [hLv] at b; cases b
        | some g =>
          rw [hLv] at b
          simp only [Bool.and_eq_true, decide_eq_true_eq, beq_iff_eq] at b
          rw [gF_ok hLv b.1, ← b.2, ff_pre L _ i v hf]
    · exact ⟨i, gF_bad hL hv, Nat.le_refl _, gF_bad hL hv⟩
theorem phi_eq {L : List (List Tk)} {i : Nat} (hi : i < L.length) : (phi L i : Int) = gF L i := by
  obtain ⟨v, e, _⟩ := gF_fact L i hi
  unfold phi; rw [if_pos hi, e]; rfl
theorem phi_le (L : List (List Tk)) (i : Nat) : phi L i ≤ i := by
  by_cases hi : i < L.length
  · obtain ⟨v, e, h, _⟩ := gF_fact L i hi
    have := phi_eq hi
    omega
  · unfold phi; rw [if_neg hi]; exact Nat.le_refl _
theorem phi_phi (L : List (List Tk)) (i : Nat) : phi L (phi L i) = phi L i := by
  by_cases hi : i < L.length
  · obtain ⟨v, e, hv, h⟩ := gF_fact L i hi
    have e1 : phi L i = v := by have := phi_eq hi; omega
    have e2 := phi_eq (L := L) (i := v) (by omega)
    rw [e1]; omega
  · have e : phi L i = i := by unfold phi; rw [if_neg hi]
    rw [e, e]
theorem firstG_phi (L : List (List Tk)) : firstG L = (List.range L.length).map fun i => (phi L i : Int) := by
  unfold firstG
  apply List.map_congr_left
  intro i hi
  rw [phi_eq (List.mem_range.1 hi)]
theorem groups_eq (L : List (List Tk)) : grpF [] [] 0 (firstF L) = grpZ (phi L) L.length := by
  have := grpF_eq (phi L) (phi_le L) (phi_phi L) L.length 0 [] (fun f a => ⟨fun h => (by cases h), fun ⟨an, h, _, _, q⟩ => (by simp [heads] at q)⟩)
  rw [Nat.zero_add] at this
  rw [first_eq, firstG_phi, List.range_eq_range']
  exact this
end Go.Av
