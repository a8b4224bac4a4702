/- Renumbering the tags of a fragment as plain data: valid fragments stay valid. -/
import Derived.Test.YthnablnojflbnaaDoorNN
set_option linter.unusedSimpArgs false
set_option linter.unusedVariables false
namespace Go.Nt
set_option linter.unusedSimpArgs false
set_option linter.unusedVariables false
set_option maxRecDepth 100000
def addN (l : List Int) (x : It) : List Int := if isTag x = true ∧ x.2.2 ∉ l then l ++ [x.2.2] else l
def nums (f : List It) : List Int := f.foldl addN []
def lkz : List Int → List Int → Int → Option Int
  | a :: as, b :: bs, i => if a = i then some b else lkz as bs i
  | _, _, _ => none
def renX (fr to : List Int) (x : It) : Option It := if isTag x = true then (lkz fr to x.2.2).map fun n => (x.1, x.2.1, n) else some x
def renF (fr to : List Int) (f : List It) : List It := f.filterMap (renX fr to)
def upto (n : Nat) : List Int := (List.range n).map fun (i : Nat) => (i : Int) + 1
def rnm (f : List It) : List It := renF (nums f) (upto (nums f).length) f
theorem upto_len (n : Nat) : (upto n).length = n := by simp [upto]
theorem upto_s (n : Nat) : upto (n + 1) = upto n ++ [(n : Int) + 1] := by simp [upto, List.range_succ]
theorem addN_mem (l : List Int) (x : It) (i : Int) (h : i ∈ l) : i ∈ addN l x := by
  unfold addN; split
  · simp [h]
  · exact h
theorem fold_mem : ∀ (f : List It) (l : List Int) (i : Int), i ∈ l → i ∈ f.foldl addN l
  | [], l, i, h => h
  | x :: f, l, i, h => fold_mem f _ i (addN_mem l x i h)
theorem fold_tag : ∀ (f : List It) (l : List Int) (x : It), x ∈ f → isTag x = true → x.2.2 ∈ f.foldl addN l
  | y :: f, l, x, h, ht => by
    rw [List.foldl_cons]
    rcases List.mem_cons.1 h with rfl | h
    · refine fold_mem f _ _ ?_
      unfold addN
      by_cases q : x.2.2 ∈ l
      · rw [if_neg (fun z => z.2 q)]; exact q
      · rw [if_pos ⟨ht, q⟩]; simp
    · exact fold_tag f _ x h ht
theorem nums_tag {f : List It} {x : It} (h : x ∈ f) (ht : isTag x = true) : x.2.2 ∈ nums f := fold_tag f [] x h ht
theorem fold_len : ∀ (f : List It) (l : List Int), (f.foldl addN l).length ≤ l.length + f.length
  | [], l => by simp
  | x :: f, l => by
    have := fold_len f (addN l x)
    have h2 : (addN l x).length ≤ l.length + 1 := by unfold addN; split <;> simp
    rw [List.foldl_cons, List.length_cons]; omega
theorem nums_len (f : List It) : (nums f).length ≤ f.length := by have := fold_len f []; simpa [nums] using this
theorem lkz_at : ∀ (l to : List Int) (i v : Int), lkz l to i = some v → ∃ j : Nat, l[j]? = some i ∧ to[j]? = some v
  | [], _, i, v, h => by simp [lkz] at h
  | a :: as, [], i, v, h => by simp [lkz] at h
  | a :: as, b :: bs, i, v, h => by
    simp only [lkz] at h
    split at h
    · rename_i e; cases h; exact ⟨0, by simp [e], rfl⟩
    · obtain ⟨j, h1, h2⟩ := lkz_at as bs i v h
      exact ⟨j + 1, by simpa using h1, by simpa using h2⟩
theorem lkz_some : ∀ (l to : List Int) (i : Int), l.length ≤ to.length → i ∈ l → ∃ v, lkz l to i = some v
  | [], _, i, _, h => by cases h
  | a :: as, [], i, h, _ => by simp at h
  | a :: as, b :: bs, i, h, hm => by
    simp only [lkz]
    by_cases e : a = i
    · exact ⟨b, by rw [if_pos e]⟩
    · rw [if_neg e]
      refine lkz_some as bs i (by simpa using h) ?_
      rcases List.mem_cons.1 hm with q | q
      · exact absurd q.symm e
      · exact q
theorem upto_at {n j : Nat} {v : Int} (h : (upto n)[j]? = some v) : v = (j : Int) + 1 ∧ j < n := by
  unfold upto at h
  rw [List.getElem?_map, Option.map_eq_some_iff] at h
  obtain ⟨a, h1, h2⟩ := h
  rw [List.getElem?_eq_some_iff] at h1
  obtain ⟨h3, h4⟩ := h1
  simp at h3 h4
  omega
def sig (f : List It) (i : Int) : Int := (lkz (nums f) (upto (nums f).length) i).getD 0
theorem sig_some {f : List It} {i : Int} (h : i ∈ nums f) : lkz (nums f) (upto (nums f).length) i = some (sig f i) := by
  obtain ⟨v, hv⟩ := lkz_some (nums f) (upto (nums f).length) i (by rw [upto_len]; exact Nat.le_refl _) h
  rw [hv]; unfold sig; rw [hv]; rfl
theorem sig_bd {f : List It} {i : Int} (h : i ∈ nums f) : 1 ≤ sig f i ∧ sig f i ≤ ((nums f).length : Int) := by
  obtain ⟨j, h1, h2⟩ := lkz_at _ _ _ _ (sig_some h)
  obtain ⟨h3, h4⟩ := upto_at h2
  omega
theorem sig_inj {f : List It} {i k : Int} (hi : i ∈ nums f) (hk : k ∈ nums f) (h : sig f i = sig f k) : i = k := by
  obtain ⟨j, h1, h2⟩ := lkz_at _ _ _ _ (sig_some hi)
  obtain ⟨j', h1', h2'⟩ := lkz_at _ _ _ _ (sig_some hk)
  obtain ⟨h3, _⟩ := upto_at h2
  obtain ⟨h3', _⟩ := upto_at h2'
  have : j = j' := by omega
  subst this
  rw [h1] at h1'
  cases h1'; rfl
def phi (f : List It) (x : It) : It := if isTag x = true then (x.1, x.2.1, sig f x.2.2) else x
theorem rnm_map (f : List It) : rnm f = f.map (phi f) := by
  have key : ∀ g : List It, (∀ x ∈ g, x ∈ f) → g.filterMap (renX (nums f) (upto (nums f).length)) = g.map (phi f) := by
    intro g
    induction g with
    | nil => intro _; rfl
    | cons x g ih =>
      intro h
      rw [List.filterMap_cons, List.map_cons, ← ih (fun y hy => h y (by simp [hy]))]
      have e : renX (nums f) (upto (nums f).length) x = some (phi f x) := by
        unfold renX phi
        by_cases ht : isTag x = true
        · rw [if_pos ht, if_pos ht, sig_some (nums_tag (h x (by simp)) ht)]; rfl
        · rw [if_neg ht, if_neg ht]
      rw [e]
  exact key f (fun x hx => hx)
theorem phi_k (f : List It) (x : It) : (phi f x).1 = x.1 ∧ (phi f x).2.1 = x.2.1 := by unfold phi; split <;> simp
theorem phi_tag (f : List It) (x : It) : isTag (phi f x) = isTag x := by unfold isTag; rw [(phi_k f x).1]
theorem phi_wid (f : List It) (x : It) : wid (phi f x) = wid x := by unfold wid; rw [(phi_k f x).1, (phi_k f x).2]
theorem phi_lastK (f A : List It) : lastK (A.map (phi f)) = lastK A := by
  rcases snoc_cases A with rfl | ⟨B, y, rfl⟩
  · rfl
  · rw [List.map_append, List.map_singleton, lastK_snoc, lastK_snoc, (phi_k f y).1]
theorem phi_clash {f : List It} {x y : It} (hx : x ∈ f) (hy : y ∈ f) (ht : isTag x = true) : clash (phi f x) (phi f y) = clash x y := by
  unfold clash
  rw [phi_tag, (phi_k f x).1, (phi_k f x).2, (phi_k f y).1, (phi_k f y).2]
  cases hty : isTag y with
  | false => rfl
  | true =>
    have e : decide ((phi f y).2.2 = (phi f x).2.2) = decide (y.2.2 = x.2.2) := by
      unfold phi
      rw [if_pos hty, if_pos ht, decide_eq_decide]
      exact ⟨fun q => sig_inj (nums_tag hy hty) (nums_tag hx ht) q, fun q => by simp only []; rw [q]⟩
    rw [e]
theorem phi_chk {f A : List It} {x : It} (hn : (nums f).length ≤ 999) (hA : ∀ y ∈ A, y ∈ f) (hx : x ∈ f) (h : chk A x = 0) : chk (A.map (phi f)) (phi f x) = 0 := by
  rw [chk_wfB] at h ⊢
  have hw : wfB A x = true := by
    cases q : wfB A x with
    | true => rfl
    | false => rw [q] at h; simp at h
  rw [hw] at h
  have hw2 : wfB (A.map (phi f)) (phi f x) = true := by
    by_cases ht : isTag x = true
    · have hb := sig_bd (nums_tag hx ht)
      have h1 : ¬ x.1 = 1 := fun q => by rw [text_no q] at ht; cases ht
      have h5 : ¬ x.1 = 5 := fun q => by unfold isTag at ht; rw [q] at ht; simp at ht
      unfold wfB at hw ⊢
      rw [(phi_k f x).1, (phi_k f x).2]
      rw [if_neg h1, if_neg h5] at hw ⊢
      have e : (phi f x).2.2 = sig f x.2.2 := by unfold phi; rw [if_pos ht]
      rw [e]
      split at hw
      · rename_i q
        rw [if_pos q]
        simp only [Bool.and_eq_true, decide_eq_true_eq] at hw ⊢
        exact ⟨hw.1, by omega, by omega⟩
      · rename_i q
        rw [if_neg q]
        split at hw
        · rename_i q3
          rw [if_pos q3]
          simp only [Bool.and_eq_true, decide_eq_true_eq] at hw ⊢
          exact ⟨hw.1, by omega, by omega⟩
        · cases hw
    · have e : phi f x = x := by unfold phi; rw [if_neg ht]
      rw [e]
      unfold wfB at hw ⊢
      rw [phi_lastK]
      exact hw
  rw [hw2, phi_tag]
  simp only [if_true] at h ⊢
  cases ht : isTag x with
  | false => rfl
  | true =>
    rw [ht] at h
    simp only [if_true] at h ⊢
    have e : fitsB (A.map (phi f)) (phi f x) = fitsB A x := by
      unfold fitsB
      congr 1
      rw [List.any_map]
      have : ∀ B : List It, (∀ y ∈ B, y ∈ f) → B.any (clash (phi f x) ∘ phi f) = B.any (clash x) := by
        intro B
        induction B with
        | nil => intro _; rfl
        | cons y B ih =>
          intro hB
          rw [List.any_cons, List.any_cons, ih (fun z hz => hB z (by simp [hz]))]
          show (clash (phi f x) (phi f y) || _) = _
          rw [phi_clash hx (hB y (by simp)) ht]
      exact this A hA
    rw [e]
    exact h
theorem phi_chks {f : List It} (hn : (nums f).length ≤ 999) : ∀ (B A : List It), (∀ y ∈ A, y ∈ f) → (∀ y ∈ B, y ∈ f) → chks A B = 0 → chks (A.map (phi f)) (B.map (phi f)) = 0
  | [], A, _, _, _ => rfl
  | x :: B, A, hA, hB, h => by
    simp only [chks] at h
    have h0 : chk A x = 0 := by
      by_cases q : chk A x = 0
      · exact q
      · rw [if_pos q] at h; exact absurd h q
    rw [if_neg (by simp [h0])] at h
    have h1 := phi_chk hn hA (hB x (by simp)) h0
    have ih := phi_chks hn B (A ++ [x]) (fun y hy => by
      rcases List.mem_append.1 hy with q | q
      · exact hA y q
      · simp only [List.mem_singleton] at q; subst q; exact hB y (by simp)) (fun y hy => hB y (by simp [hy])) h
    rw [List.map_append, List.map_singleton] at ih
    rw [List.map_cons]
    simp only [chks]
    rw [if_neg (by simp [h1])]
    exact ih
theorem rnm_len (f : List It) : (rnm f).length = f.length ∧ len (rnm f) = len f := by
  rw [rnm_map]
  refine ⟨by simp, ?_⟩
  unfold len
  rw [List.map_map]
  congr 1
  refine List.map_congr_left fun x _ => ?_
  exact phi_wid f x
theorem rnm_vld {f : List It} (h : vld f = 0) : vld (rnm f) = 0 := by
  obtain ⟨h1, h2, h3⟩ := (vld_iff f).1 h
  obtain ⟨l1, l2⟩ := rnm_len f
  refine (vld_iff _).2 ⟨?_, by omega, by omega⟩
  have := nums_len f
  have := phi_chks (f := f) (by omega) f [] (by simp) (fun y hy => hy) h1
  unfold VL
  rw [rnm_map]
  exact this
theorem rnm_nrm {f : List It} (h : vld f = 0) : nrm (rnm f) = rnm f := nrm_VL ((vld_iff _).1 (rnm_vld h)).1
/-- the key of a fragment -/
def keyF (f : List It) : Bs := if vld f = 0 then fmt (rnm f) else []
theorem key_eq {f g : List It} (hf : vld f = 0) (hg : vld g = 0) : keyF f = keyF g ↔ rnm f = rnm g := by
  unfold keyF
  rw [if_pos hf, if_pos hg]
  exact ⟨fun q => fmt_inj (rnm_vld hf) (rnm_vld hg) q, fun q => by rw [q]⟩
end Go.Nt
