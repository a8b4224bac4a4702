/- A part of the proof: Ev14. No conditions. -/
import Derived.Test.YthnablnojflbnaaDoorEv13
set_option linter.unusedSimpArgs false
set_option linter.unusedVariables false
namespace Go.Av
set_option linter.unusedSectionVars false
variable [Gtab]
open Go.RowKit

def sel (D : Nat → Bool) : Nat → List AOper → List AOper
  | _, [] => []
  | k, o :: os => if D k then o :: sel D (k + 1) os else sel D (k + 1) os

section
variable {G : Calls'}

theorem sel_snoc (D : Nat → Bool) (o : AOper) : ∀ (l : List AOper) (k : Nat), sel D k (l ++ [o]) = sel D k l ++ (if D (k + l.length) then [o] else [])
  | [], k => by simp [sel]
  | p :: l, k => by
    simp only [List.cons_append, sel, List.length_cons]
    have e : k + (l.length + 1) = k + 1 + l.length := by omega
    rw [sel_snoc D o l (k + 1)]
    simp only [e]
    by_cases h : D k = true <;> simp [h]

theorem mem_sel {D : Nat → Bool} {p : AOper} : ∀ {l : List AOper} {k : Nat}, p ∈ sel D k l → ∃ j, l[j]? = some p ∧ D (k + j) = true
  | [], _, h => by simp [sel] at h
  | o :: l, k, h => by
    simp only [sel] at h
    have hrec : p ∈ sel D (k + 1) l → ∃ j, (o :: l)[j]? = some p ∧ D (k + j) = true := fun h => by
      obtain ⟨j, h1, h2⟩ := mem_sel h
      exact ⟨j + 1, by simpa using h1, by rwa [show k + (j + 1) = k + 1 + j from by omega]⟩
    split at h
    · rename_i hk
      rcases List.mem_cons.1 h with rfl | h
      · exact ⟨0, rfl, hk⟩
      · exact hrec h
    · exact hrec h

theorem runA_append (l m : List AOper) : ∀ σ, runA G (l ++ m) σ = (runA G l σ).bind (runA G m) := by
  induction l with
  | nil => intro σ; rfl
  | cons o l ih =>
    intro σ
    simp only [List.cons_append, runA]
    cases stepA G o σ with
    | none => rfl
    | some σ1 => exact ih σ1

theorem runA_one (o : AOper) (σ : AS) : runA G [o] σ = stepA G o σ := by
  simp only [runA]
  cases stepA G o σ <;> rfl

theorem comm_all {o : AOper} : ∀ {l : List AOper}, (∀ p ∈ l, indep p o = true) → ∀ σ, (runA G l σ).bind (stepA G o) = (stepA G o σ).bind (runA G l)
  | [], _, σ => by
    show stepA G o σ = _
    cases stepA G o σ <;> rfl
  | p :: l, h, σ => by
    simp only [runA]
    have h1 : ((stepA G p σ).bind (runA G l)).bind (stepA G o) = ((stepA G p σ).bind (stepA G o)).bind (runA G l) := by
      cases stepA G p σ with
      | none => rfl
      | some τ => exact comm_all (fun q hq => h q (by simp [hq])) τ
    rw [h1, step_comm (h p (by simp)) σ]
    cases stepA G o σ with
    | none => rfl
    | some τ => rfl

theorem split_run (D : Nat → Bool) (l : List AOper) (h : ∀ (j i : Nat) (oj oi : AOper), j < i → l[j]? = some oj → l[i]? = some oi → D j = false → D i = true → indep oj oi = true) :
    ∀ n, n ≤ l.length → ∀ σ, runA G (l.take n) σ = (runA G (sel D 0 (l.take n)) σ).bind (runA G (sel (fun i => !D i) 0 (l.take n)))
  | 0, _, σ => by simp [sel, runA]
  | n + 1, hn, σ => by
    have hlt : n < l.length := by omega
    have htake : l.take (n + 1) = l.take n ++ [l[n]] := List.take_succ_eq_append_getElem hlt
    rw [htake, runA_append, split_run D l h n (by omega), sel_snoc, sel_snoc]
    have hl : 0 + (l.take n).length = n := by simp; omega
    rw [hl]
    by_cases hd : D n = true
    · have hcomm : ∀ p ∈ sel (fun i => !D i) 0 (l.take n), indep p l[n] = true := by
        intro p hp
        obtain ⟨j, h1, h2⟩ := mem_sel hp
        rw [List.getElem?_take] at h1
        split at h1
        · rename_i hj
          refine h j n p l[n] hj h1 (List.getElem?_eq_getElem hlt) ?_ hd
          simpa using h2
        · cases h1
      simp only [hd, if_true, Bool.not_true, Bool.false_eq_true, if_false, List.append_nil]
      rw [runA_append]
      cases hr : runA G (sel D 0 (l.take n)) σ with
      | none => rfl
      | some τ =>
        have := comm_all (G := G) hcomm τ
        show (runA G _ τ).bind (runA G [l[n]]) = (runA G [l[n]] τ).bind _
        rw [runA_one, ← this]
        cases runA G (sel (fun i => !D i) 0 (l.take n)) τ with
        | none => rfl
        | some υ => exact runA_one _ _
    · have hd' : D n = false := by simpa using hd
      simp only [hd', Bool.false_eq_true, if_false, List.append_nil, Bool.not_false, if_true]
      cases hr : runA G (sel D 0 (l.take n)) σ with
      | none => rfl
      | some τ =>
        show (runA G _ τ).bind (runA G [l[n]]) = runA G _ τ
        rw [runA_append]

theorem add_run (D : Nat → Bool) (l : List AOper) (i : Nat) (hi : D i = false) (oi : AOper) (hoi : l[i]? = some oi)
    (h : ∀ (j : Nat) (oj : AOper), i < j → l[j]? = some oj → D j = true → indep oi oj = true) :
    ∀ n, i < n → n ≤ l.length → ∀ σ, runA G (sel (fun k => D k || k == i) 0 (l.take n)) σ = (runA G (sel D 0 (l.take n)) σ).bind (stepA G oi)
  | 0, h0, _, _ => by omega
  | n + 1, h0, hn, σ => by
    have hlt : n < l.length := by omega
    have htake : l.take (n + 1) = l.take n ++ [l[n]] := List.take_succ_eq_append_getElem hlt
    rw [htake, sel_snoc, sel_snoc]
    have hl : 0 + (l.take n).length = n := by simp; omega
    rw [hl]
    by_cases he : n = i
    · subst he
      have hoi' : l[n] = oi := by
        rw [List.getElem?_eq_getElem hlt] at hoi
        injection hoi
      have hsame : ∀ (m : List AOper) (k : Nat), k + m.length ≤ n → sel (fun k => D k || k == n) k m = sel D k m := by
        intro m
        induction m with
        | nil => intro k _; rfl
        | cons o m ih =>
          intro k hk
          simp only [sel]
          have hne : (k == n) = false := by simp at hk ⊢; omega
          simp only [hne, Bool.or_false]
          rw [ih (k + 1) (by simp at hk; omega)]
      rw [hsame _ 0 (by simp; omega)]
      simp only [hi, BEq.rfl, Bool.or_true, if_true, Bool.false_eq_true, if_false, List.append_nil]
      rw [runA_append, hoi']
      cases runA G (sel D 0 (l.take n)) σ with
      | none => rfl
      | some τ => exact runA_one _ _
    · have hne : (n == i) = false := by simpa using he
      have hrec := add_run D l i hi oi hoi h n (by omega) (by omega) σ
      by_cases hd : D n = true
      · simp only [hd, Bool.true_or, if_true]
        rw [runA_append, runA_append, hrec]
        have hc := h n l[n] (by omega) (List.getElem?_eq_getElem hlt) hd
        cases runA G (sel D 0 (l.take n)) σ with
        | none => rfl
        | some τ =>
          show (stepA G oi τ).bind (runA G [l[n]]) = (runA G [l[n]] τ).bind (stepA G oi)
          rw [runA_one]
          rw [← step_comm hc τ]
          cases stepA G oi τ with
          | none => rfl
          | some υ => exact runA_one _ _
      · have hd' : D n = false := by simpa using hd
        simp only [hd', hne, Bool.or_self, Bool.false_eq_true, if_false, List.append_nil]
        exact hrec

end

def depsOf (o : Oper) : List Nat := (o.after.toList.filter (Region.binds .any)).map (·.on)
def maskOf (acc : List Nat) (d : List Nat) : Nat := d.foldl (fun m e => m ||| (2 ^ e) ||| acc.getD e 0) 0
def ancGo (acc : List Nat) : List (List Nat) → List Nat
  | [] => acc
  | d :: ds => ancGo (acc ++ [maskOf acc d]) ds

theorem mask_mem {acc : List Nat} : ∀ {d : List Nat} {m j : Nat}, (d.foldl (fun m e => m ||| (2 ^ e) ||| acc.getD e 0) m).testBit j = true → m.testBit j = true ∨ ∃ e ∈ d, j = e ∨ (acc.getD e 0).testBit j = true
  | [], m, j, h => .inl h
  | e :: d, m, j, h => by
    simp only [List.foldl_cons] at h
    rcases mask_mem h with h | ⟨e', h1, h2⟩
    · rw [Nat.testBit_or, Nat.testBit_or, Bool.or_eq_true, Bool.or_eq_true] at h
      rcases h with (h | h) | h
      · exact .inl h
      · rw [Nat.testBit_two_pow] at h
        exact .inr ⟨e, by simp, .inl (by simpa using (of_decide_eq_true h).symm)⟩
      · exact .inr ⟨e, by simp, .inr h⟩
    · exact .inr ⟨e', by simp [h1], h2⟩

theorem anc_closed {D : Nat → Bool} : ∀ {ds : List (List Nat)} {acc : List Nat} (all : Nat → List Nat), (∀ i, (hi : i < ds.length) → all (acc.length + i) = ds[i]) →
    (∀ i, D i = true → ∀ e ∈ all i, D e = true) → (∀ i j, D i = true → (acc.getD i 0).testBit j = true → D j = true) →
    ∀ i j, D i = true → ((ancGo acc ds).getD i 0).testBit j = true → D j = true
  | [], acc, all, _, _, hacc => hacc
  | d :: ds, acc, all, hall, hcl, hacc => by
    intro i j hi hj
    simp only [ancGo] at hj
    refine anc_closed (ds := ds) (acc := acc ++ [maskOf acc d]) all ?_ hcl ?_ i j hi hj
    · intro k hk
      have := hall (k + 1) (by simp; omega)
      simp only [List.length_append, List.length_singleton]
      rw [show acc.length + 1 + k = acc.length + (k + 1) from by omega]
      simpa using this
    · intro i j hi hj
      by_cases hlt : i < acc.length
      · rw [List.getD_eq_getElem?_getD, List.getElem?_append_left hlt, ← List.getD_eq_getElem?_getD] at hj
        exact hacc i j hi hj
      · by_cases he : i = acc.length
        · subst he
          rw [List.getD_eq_getElem?_getD, List.getElem?_append_right (Nat.le_refl _)] at hj
          simp at hj
          have hd : all acc.length = d := by
            have := hall 0 (by simp)
            simpa only [Nat.add_zero, List.getElem_cons_zero] using this
          rcases mask_mem hj with h | ⟨e, h1, h2⟩
          · simp at h
          · have hDe := hcl _ hi e (by rw [hd]; exact h1)
            rcases h2 with rfl | h2
            · exact hDe
            · exact hacc e j hDe h2
        · rw [List.getD_eq_getElem?_getD, List.getElem?_eq_none (by simp; omega)] at hj
          simp at hj

def pairsOk (ms : List Nat) (aos : List AOper) : Bool :=
  aos.zipIdx.all fun x => (aos.take x.2).zipIdx.all fun y => (ms.getD x.2 0).testBit y.2 || indep y.1 x.1

def drawOk (ops : Array Oper) (aos : List AOper) : Bool :=
  let ds := ops.toList.map depsOf
  ds.zipIdx.all (fun x => x.1.all (· < x.2)) && pairsOk (ancGo [] ds) aos && aos.length == ops.size

theorem pairsOk_spec {ms : List Nat} {aos : List AOper} (h : pairsOk ms aos = true) {j i : Nat} {oj oi : AOper} (hji : j < i) (hj : aos[j]? = some oj) (hi : aos[i]? = some oi) : (ms.getD i 0).testBit j = true ∨ indep oj oi = true := by
  unfold pairsOk at h
  rw [List.all_eq_true] at h
  have h1 := h (oi, i) (by rw [List.mk_mem_zipIdx_iff_getElem?]; exact hi)
  simp only at h1
  rw [List.all_eq_true] at h1
  have h2 := h1 (oj, j) (by rw [List.mk_mem_zipIdx_iff_getElem?, List.getElem?_take_of_lt hji]; exact hj)
  simpa using h2

section
variable {P : Program} {E : Env} {σ σ' : AS} {a : Act} {w : World} {Q : Exit → Act → World → Prop} {ops : Array Oper} {G : Calls'}

theorem okOs_get : ∀ {os : List Oper} {aos : List AOper}, okOs P E.nt ops os aos = true → ∀ {i : Nat} {o : Oper} {ao : AOper}, os[i]? = some o → aos[i]? = some ao → okO P E.nt ops o ao = true
  | o :: os, ao :: aos, h, 0, _, _, h1, h2 => by
    simp at h1 h2; subst h1; subst h2
    simp only [okOs, Bool.and_eq_true] at h
    exact h.1
  | o :: os, ao :: aos, h, i + 1, _, _, h1, h2 => by
    simp only [okOs, Bool.and_eq_true] at h
    exact okOs_get h.2 (i := i) (by simpa using h1) (by simpa using h2)
  | [], _, _, _, _, _, h1, _ => by simp at h1
  | _ :: _, [], h, _, _, _, _, _ => by simp [okOs] at h

def unl (n : Nat) (D : Nat → Bool) : Nat := ((List.range n).filter fun i => !D i).length

theorem unl_lt {n i : Nat} {D : Nat → Bool} (hi : i < n) (hD : D i = false) : unl n (fun k => D k || k == i) < unl n D := by
  unfold unl
  have h1 : (List.range n).filter (fun k => !(D k || k == i)) = ((List.range n).filter fun k => !D k).filter (fun k => !(k == i)) := by
    rw [List.filter_filter]
    congr 1
    funext k
    cases D k <;> simp
  rw [h1]
  refine List.length_filter_lt_length_iff_exists.2 ⟨i, ?_, by simp⟩
  simp [hi, hD]

/-- A region whose order is drawn: all orders give what the order of the text gives. -/
theorem draw_sound (hG : Good P G) {aos : List AOper} (hok : okOs P E.nt ops ops.toList aos = true) (hdr : drawOk ops aos = true) (hrun : runA G aos σ = some σ') (hQ : ∀ a w, Post E σ' a w → Q .normal a w) :
    ∀ (fuel : Nat) (listed : Array Bool) (a : Act) (w : World), listed.size = ops.size → unl ops.size (fun i => listed.getD i false) ≤ fuel →
      (∀ i, listed.getD i false = true → ∀ e ∈ depsOf (ops.getD i default), listed.getD e false = true) →
      (∀ τ, runA G (sel (fun i => listed.getD i false) 0 aos) σ = some τ → Post E τ a w) → wpAny P .any ops Q fuel listed a w := by
  unfold drawOk at hdr
  simp only [Bool.and_eq_true] at hdr
  obtain ⟨⟨hlt, hpairs⟩, hlen⟩ := hdr
  have hlen : aos.length = ops.size := by simpa using hlen
  have hdlt : ∀ i, i < ops.size → ∀ e ∈ depsOf (ops.getD i default), e < i := by
    intro i hi e he
    rw [List.all_eq_true] at hlt
    have h1 := hlt (depsOf (ops.getD i default), i) (by rw [List.mk_mem_zipIdx_iff_getElem?]; simp [hi, Array.getD_eq_getD_getElem?])
    rw [List.all_eq_true] at h1
    simpa using h1 e he
  have hanc : ∀ D : Nat → Bool, (∀ i, D i = true → ∀ e ∈ depsOf (ops.getD i default), D e = true) → ∀ i j, D i = true → ((ancGo [] (ops.toList.map depsOf)).getD i 0).testBit j = true → D j = true := by
    intro D hD
    refine anc_closed (acc := []) (fun i => depsOf (ops.getD i default)) (fun i hi => ?_) hD (fun i j _ h => by simp at h)
    simp at hi
    simp [hi, Array.getD_eq_getD_getElem?]
  have hsplit : ∀ D : Nat → Bool, (∀ i, D i = true → ∀ e ∈ depsOf (ops.getD i default), D e = true) → runA G aos σ = (runA G (sel D 0 aos) σ).bind (runA G (sel (fun i => !D i) 0 aos)) := by
    intro D hD
    have := split_run (G := G) D aos (fun j i oj oi hji hj hi hDj hDi => by
      rcases pairsOk_spec hpairs hji hj hi with h | h
      · have := hanc D hD i j hDi h
        rw [hDj] at this; cases this
      · exact h) aos.length (Nat.le_refl _) σ
    simpa using this
  have hselall : ∀ (D : Nat → Bool) (l : List AOper) (k : Nat), (∀ i, i < k + l.length → D i = true) → sel D k l = l := by
    intro D l
    induction l with
    | nil => intro k _; rfl
    | cons o l ih =>
      intro k h
      simp only [sel]
      rw [if_pos (h k (by simp)), ih (k + 1) (fun i hi => h i (by simp at hi ⊢; omega))]
  intro fuel
  induction fuel with
  | zero =>
    intro listed a w hsz hun hcl hpost
    have hall : ∀ i, i < ops.size → listed.getD i false = true := by
      intro i hi
      have h0 : unl ops.size (fun i => listed.getD i false) = 0 := by omega
      unfold unl at h0
      have := List.eq_nil_of_length_eq_zero h0
      rw [List.filter_eq_nil_iff] at this
      simpa using this i (by simp [hi])
    refine ⟨?_, hQ _ _ (hpost _ ?_)⟩
    · unfold Region.ready
      rw [List.filter_eq_nil_iff]
      intro i hi
      have hi' : i < ops.size := by simpa using hi
      have h1 := hall i hi'
      have h2 : listed.getD i true = true := by
        simp only [Array.getD_eq_getD_getElem?] at h1 ⊢
        rw [Array.getElem?_eq_getElem (by omega)] at h1 ⊢
        exact h1
      simp [h2]
    · rw [hselall _ aos 0 (fun i hi => hall i (by omega))]; exact hrun
  | succ fuel ih =>
    intro listed a w hsz hun hcl hpost
    have hgd : ∀ i, i < ops.size → listed.getD i true = listed.getD i false := by
      intro i hi
      simp only [Array.getD_eq_getD_getElem?]
      rw [Array.getElem?_eq_getElem (by omega)]
      rfl
    have hτ : ∃ τ, runA G (sel (fun i => listed.getD i false) 0 aos) σ = some τ := by
      have h1 := hsplit _ hcl
      rw [hrun] at h1
      obtain ⟨τ, h2, _⟩ := Option.bind_eq_some_iff.1 h1.symm
      exact ⟨τ, h2⟩
    obtain ⟨τ, hτ⟩ := hτ
    have hpo := hpost τ hτ
    refine ⟨fun hr => ?_, fun i hi => ?_⟩
    · -- nothing is ready: all are listed
      have hall : ∀ i, i < ops.size → listed.getD i false = true := by
        intro i
        induction i using Nat.strongRecOn with
        | _ i ihi =>
          intro hi
          unfold Region.ready at hr
          rw [List.filter_eq_nil_iff] at hr
          have h1 := hr i (by simp [hi])
          have h2 : (((ops[i]?).map (·.after.all fun e => !Region.binds .any e || listed.getD e.on false)).getD false) = true := by
            rw [Array.getElem?_eq_getElem hi]
            simp only [Option.map_some, Option.getD_some, Array.all_eq_true_iff_forall_mem]
            intro e he
            by_cases hb : Region.binds .any e = true
            · have hmem : e.on ∈ depsOf (ops.getD i default) := by
                unfold depsOf
                rw [List.mem_map]
                refine ⟨e, ?_, rfl⟩
                rw [List.mem_filter]
                refine ⟨?_, hb⟩
                simpa [Array.getD_eq_getD_getElem?, hi] using he
              have hlt' := hdlt i hi _ hmem
              rw [ihi _ hlt' (by omega)]
              simp
            · simp only [Bool.not_eq_true] at hb
              simp [hb]
          rw [h2, hgd i hi] at h1
          simpa using h1
      refine hQ _ _ (hpost _ ?_)
      rw [hselall _ aos 0 (fun i hi => hall i (by omega))]; exact hrun
    · unfold Region.ready at hi
      rw [List.mem_filter] at hi
      obtain ⟨hi1, hi2⟩ := hi
      have hin : i < ops.size := by simpa using hi1
      rw [Bool.and_eq_true] at hi2
      obtain ⟨hi3, hi4⟩ := hi2
      have hDi : listed.getD i false = false := by rw [← hgd i hin]; simpa using hi3
      have hoi : ops[i]? = some ops[i] := Array.getElem?_eq_getElem hin
      have hai : aos[i]? = some (aos[i]'(by omega)) := List.getElem?_eq_getElem (by omega)
      have hdeps : ∀ e ∈ depsOf (ops.getD i default), listed.getD e false = true := by
        intro e he
        unfold depsOf at he
        rw [List.mem_map] at he
        obtain ⟨ed, he1, rfl⟩ := he
        rw [List.mem_filter] at he1
        rw [hoi] at hi4
        simp only [Option.map_some, Option.getD_some, Array.all_eq_true_iff_forall_mem] at hi4
        have := hi4 ed (by simpa [Array.getD_eq_getD_getElem?, hin] using he1.1)
        rw [he1.2] at this
        simpa using this
      have hset : ∀ k, (listed.setIfInBounds i true).getD k false = (listed.getD k false || k == i) := by
        intro k
        simp only [Array.getD_eq_getD_getElem?, Array.getElem?_setIfInBounds]
        by_cases hk : i = k
        · subst hk; simp [hsz, hin]
        · have : (k == i) = false := by simp; exact fun e => hk e.symm
          simp [hk, this]
      have hfun : (fun k => (listed.setIfInBounds i true).getD k false) = fun k => listed.getD k false || k == i := funext hset
      have hcl' : ∀ k, (listed.setIfInBounds i true).getD k false = true → ∀ e ∈ depsOf (ops.getD k default), (listed.setIfInBounds i true).getD e false = true := by
        intro k hk e he
        rw [hset] at hk ⊢
        rw [Bool.or_eq_true] at hk ⊢
        rcases hk with hk | hk
        · exact .inl (hcl k hk e he)
        · have : k = i := by simpa using hk
          subst this
          exact .inl (hdeps e he)
      have hadd := add_run (G := G) (fun k => listed.getD k false) aos i hDi _ hai (fun j oj hij hj hDj => by
        rcases pairsOk_spec hpairs hij hai hj with h | h
        · have this : listed.getD i false = true := hanc _ hcl j i hDj h
          rw [hDi] at this; cases this
        · exact h) aos.length (by omega) (Nat.le_refl _) σ
      simp only [List.take_length] at hadd
      rw [hτ] at hadd
      have hτ' : ∃ τ', stepA G (aos[i]'(by omega)) τ = some τ' := by
        have h1 := hsplit _ hcl'
        rw [hrun, hfun, hadd] at h1
        obtain ⟨τ', h2, _⟩ := Option.bind_eq_some_iff.1 h1.symm
        exact ⟨τ', h2⟩
      obtain ⟨τ', hτ'⟩ := hτ'
      have hok1 := okOs_get hok (i := i) (by rw [Array.getElem?_toList]; exact hoi) hai
      obtain ⟨g, hsim⟩ := hpo
      have hst := step_sound (Q := Q) hG hsim hok1 hτ'
      have hnext : ∀ a w, Post E τ' a w → wpAny P .any ops Q fuel (listed.setIfInBounds i true) a w := by
        intro a w hp
        refine ih _ a w (by simpa using hsz) ?_ hcl' ?_
        · rw [hfun]
          have := unl_lt (D := fun k => listed.getD k false) hin hDi
          omega
        · intro υ hυ
          rw [hfun, hadd] at hυ
          have : υ = τ' := by
            have h2 : stepA G (aos[i]'(by omega)) τ = some υ := hυ
            rw [hτ'] at h2
            injection h2 with h2
            exact h2.symm
          rw [this]; exact hp
      unfold wpOp
      rw [hoi]
      simp only
      split
      · rename_i hw
        rw [if_pos hw] at hst
        exact .inl (Oper.wp_mono hnext hst)
      · rename_i hw
        rw [if_neg hw] at hst
        exact hnext _ _ hst

end
end Go.Av
