/- A part of the proof: Ev17. No conditions. -/
import Derived.Test.YthnablnojflbnaaDoorEv16
set_option linter.unusedSimpArgs false
set_option linter.unusedVariables false
namespace Go.Av
set_option linter.unusedSectionVars false
variable [Gtab]

open Classical in
/-- The value at which a sequence stands still. -/
noncomputable def lim {α : Type} (u : Nat → Option α) : Option α := if h : ∃ x n, ∀ m, n ≤ m → u m = some x then some h.choose else none

theorem lim_some {α : Type} {u : Nat → Option α} {x : α} : lim u = some x ↔ ∃ n, ∀ m, n ≤ m → u m = some x := by
  unfold lim
  constructor
  · intro h
    split at h
    · rename_i hex
      injection h with h
      rw [← h]
      exact hex.choose_spec
    · cases h
  · rintro ⟨n, hn⟩
    have hex : ∃ x n, ∀ m, n ≤ m → u m = some x := ⟨x, n, hn⟩
    rw [dif_pos hex]
    obtain ⟨n', hn'⟩ := hex.choose_spec
    have h1 := hn' (max n n') (by omega)
    rw [hn (max n n') (by omega)] at h1
    exact h1.symm

noncomputable def iterX (f : AS → Option (AX × AS)) (σ : AS) : Option (AX × AS) := lim fun n => iterA f n σ

/-- One round of a loop. -/
theorem iterX_eq (f : AS → Option (AX × AS)) (σ : AS) : iterX f σ = match f σ with
    | some (.norm, σ') => iterX f σ'
    | r => r := by
  unfold iterX
  cases h : f σ with
  | none =>
    show lim _ = none
    cases hl : lim fun n => iterA f n σ with
    | none => rfl
    | some x =>
      obtain ⟨n, hn⟩ := lim_some.1 hl
      have := hn (n + 1) (by omega)
      simp only [iterA, h] at this
      cases this
  | some r =>
    obtain ⟨e, σ'⟩ := r
    cases e with
    | norm =>
      show lim _ = lim _
      cases hl : lim fun n => iterA f n σ' with
      | some x =>
        obtain ⟨n, hn⟩ := lim_some.1 hl
        refine lim_some.2 ⟨n + 1, fun m hm => ?_⟩
        obtain ⟨m', rfl⟩ : ∃ m', m = m' + 1 := ⟨m - 1, by omega⟩
        simp only [iterA, h]
        exact hn m' (by omega)
      | none =>
        cases hl2 : lim fun n => iterA f n σ with
        | none => rfl
        | some x =>
          obtain ⟨n, hn⟩ := lim_some.1 hl2
          have : lim (fun n => iterA f n σ') = some x := lim_some.2 ⟨n, fun m hm => by
            have := hn (m + 1) (by omega)
            simp only [iterA, h] at this
            exact this⟩
          rw [hl] at this; cases this
    | ex i =>
      refine lim_some.2 ⟨1, fun m hm => ?_⟩
      obtain ⟨m', rfl⟩ : ∃ m', m = m' + 1 := ⟨m - 1, by omega⟩
      simp only [iterA, h]
    | ret =>
      refine lim_some.2 ⟨1, fun m hm => ?_⟩
      obtain ⟨m', rfl⟩ : ∃ m', m = m' + 1 := ⟨m - 1, by omega⟩
      simp only [iterA, h]

noncomputable def execX (G : Calls') : ACode → AS → Option (AX × AS)
  | .skip, σ => some (.norm, σ)
  | .reg _ al ops kill, σ => (runA G ops (scrub al σ)).map fun σ' => (.norm, forget kill σ')
  | .seq a b, σ => match execX G a σ with
    | some (.norm, σ') => execX G b σ'
    | r => r
  | .cond c a b, σ => match ev σ.fr c with
    | .bool t => if t then execX G a σ else execX G b σ
    | _ => none
  | .block id a, σ => match execX G a σ with
    | some (.ex i, σ') => if i = id then some (.norm, σ') else some (.ex i, σ')
    | r => r
  | .loop kill a, σ => iterX (fun σ => execX G a (forget kill σ)) σ
  | .exit id, σ => some (.ex id, σ)
  | .ret, σ => some (.ret, σ)

noncomputable def callX (G : Calls') (F : AFun) (args : List AV) (sh : List (List AV)) : Option (AV × List (List AV)) :=
  if args.length = F.nargs then finA F sh (execX G F.body (initA args sh)) else none

section
variable {B : Calls'} {T : FuncId → Option AFun}

noncomputable def Gx (B : Calls') (T : FuncId → Option AFun) : Calls' := fun f args sh => lim fun n => funA B T n f args sh

theorem kf_lim {d : Nat} {ml : ML} {k : AK} {xs : List AV} {m : MV} {r : AV × MV} (h : kf (Gx B T) d ml k xs m = some r) : ∃ n, ∀ i, n ≤ i → kf (funA B T i) d ml k xs m = some r := by
  have hcall : ∀ {f : FuncId} {ys : List AV}, callK (Gx B T) ml f ys m = some r → ∃ n, ∀ i, n ≤ i → callK (funA B T i) ml f ys m = some r := by
    intro f ys h
    unfold callK at h ⊢
    cases ml with
    | lo s => cases h
    | sh =>
      simp only at h ⊢
      split at h
      · rename_i hc
        obtain ⟨y, h1, h2⟩ := Option.map_eq_some_iff.1 h
        obtain ⟨n, hn⟩ := lim_some.1 h1
        refine ⟨n, fun i hi => ?_⟩
        rw [if_pos hc, hn i hi]
        exact congrArg some h2
      · cases h
    | none =>
      simp only at h ⊢
      split at h
      · rename_i hc
        obtain ⟨y, h1, h2⟩ := Option.bind_eq_some_iff.1 h
        obtain ⟨n, hn⟩ := lim_some.1 h1
        refine ⟨n, fun i hi => ?_⟩
        rw [if_pos hc, hn i hi]
        exact h2
      · cases h
  have hcallR : ∀ {f : FuncId} {ys : List AV}, callRK (Gx B T) ml f ys m = some r → ∃ n, ∀ i, n ≤ i → callRK (funA B T i) ml f ys m = some r := by
    intro f ys h
    unfold callRK at h ⊢
    cases ml with
    | lo s => cases h
    | none => cases h
    | sh =>
      simp only at h ⊢
      obtain ⟨zs, hz, h⟩ := Option.bind_eq_some_iff.1 h
      rw [hz]
      simp only [Option.bind_some]
      split at h
      · rename_i hc
        obtain ⟨y, h1, h2⟩ := Option.bind_eq_some_iff.1 h
        obtain ⟨n, hn⟩ := lim_some.1 h1
        refine ⟨n, fun i hi => ?_⟩
        rw [if_pos hc, hn i hi]
        exact h2
      · cases h
  cases k
  case call f => exact hcall h
  case callR f => exact hcallR h
  case callv =>
    simp only [kf, callvK] at h ⊢
    split at h
    · exact hcall h
    · cases h
  case callvR =>
    simp only [kf, callvRK] at h ⊢
    split at h
    · exact hcallR h
    · cases h
  all_goals exact ⟨0, fun i _ => h⟩

theorem step_lim {o : AOper} {σ σ' : AS} (h : stepA (Gx B T) o σ = some σ') : ∃ n, ∀ i, n ≤ i → stepA (funA B T i) o σ = some σ' := by
  unfold stepA at h ⊢
  cases hg : guardA σ.fr o.guard with
  | none => rw [hg] at h; cases h
  | some b =>
    rw [hg] at h
    cases b with
    | false => exact ⟨0, fun i _ => h⟩
    | true =>
      simp only at h ⊢
      cases hk : kf (Gx B T) (o.dst.getD 0) o.ml o.k (o.args.map (ev σ.fr)) (rdm σ o.ml) with
      | none => rw [hk] at h; cases h
      | some r =>
        rw [hk] at h
        obtain ⟨n, hn⟩ := kf_lim hk
        refine ⟨n, fun i hi => ?_⟩
        rw [hn i hi]
        exact h

theorem run_lim : ∀ {os : List AOper} {σ σ' : AS}, runA (Gx B T) os σ = some σ' → ∃ n, ∀ i, n ≤ i → runA (funA B T i) os σ = some σ'
  | [], σ, σ', h => ⟨0, fun i _ => h⟩
  | o :: os, σ, σ', h => by
    simp only [runA] at h ⊢
    obtain ⟨σ1, h1, h2⟩ := Option.bind_eq_some_iff.1 h
    obtain ⟨n1, hn1⟩ := step_lim h1
    obtain ⟨n2, hn2⟩ := run_lim h2
    refine ⟨max n1 n2, fun i hi => ?_⟩
    rw [hn1 i (by omega)]
    exact hn2 i (by omega)

theorem exec_lim : ∀ (c : ACode) (σ : AS) (r : AX × AS), execX (Gx B T) c σ = some r → ∃ n, ∀ i, n ≤ i → execA i (funA B T i) c σ = some r
  | .skip, σ, r, h => ⟨0, fun i _ => h⟩
  | .exit _, σ, r, h => ⟨0, fun i _ => h⟩
  | .ret, σ, r, h => ⟨0, fun i _ => h⟩
  | .reg _ al ops kill, σ, r, h => by
    simp only [execX, execA] at h ⊢
    obtain ⟨σ1, h1, h2⟩ := Option.map_eq_some_iff.1 h
    obtain ⟨n, hn⟩ := run_lim h1
    refine ⟨n, fun i hi => ?_⟩
    rw [hn i hi]
    exact congrArg some h2
  | .cond c a b, σ, r, h => by
    simp only [execX, execA] at h ⊢
    split at h
    · rename_i t ht
      rw [ht]
      cases t with
      | true => exact exec_lim a σ r h
      | false => exact exec_lim b σ r h
    · cases h
  | .seq a b, σ, r, h => by
    simp only [execX, execA] at h ⊢
    cases h1 : execX (Gx B T) a σ with
    | none => rw [h1] at h; cases h
    | some q =>
      obtain ⟨n1, hn1⟩ := exec_lim a σ q h1
      rw [h1] at h
      obtain ⟨e, σ1⟩ := q
      cases e with
      | norm =>
        obtain ⟨n2, hn2⟩ := exec_lim b σ1 r h
        refine ⟨max n1 n2, fun i hi => ?_⟩
        rw [hn1 i (by omega)]
        exact hn2 i (by omega)
      | ex j => exact ⟨n1, fun i hi => by rw [hn1 i hi]; exact h⟩
      | ret => exact ⟨n1, fun i hi => by rw [hn1 i hi]; exact h⟩
  | .block id a, σ, r, h => by
    simp only [execX, execA] at h ⊢
    cases h1 : execX (Gx B T) a σ with
    | none => rw [h1] at h; cases h
    | some q =>
      obtain ⟨n1, hn1⟩ := exec_lim a σ q h1
      rw [h1] at h
      exact ⟨n1, fun i hi => by rw [hn1 i hi]; exact h⟩
  | .loop kill a, σ, r, h => by
    simp only [execX, execA] at h ⊢
    obtain ⟨n, hn⟩ := lim_some.1 h
    have key : ∀ m σ r, iterA (fun σ => execX (Gx B T) a (forget kill σ)) m σ = some r → ∃ n, ∀ i, n ≤ i → iterA (fun σ => execA i (funA B T i) a (forget kill σ)) m σ = some r := by
      intro m
      induction m with
      | zero => intro σ r h; simp [iterA] at h
      | succ m ih =>
        intro σ r h
        simp only [iterA] at h ⊢
        cases h1 : execX (Gx B T) a (forget kill σ) with
        | none => rw [h1] at h; cases h
        | some q =>
          obtain ⟨n1, hn1⟩ := exec_lim a _ q h1
          rw [h1] at h
          obtain ⟨e, σ1⟩ := q
          cases e with
          | norm =>
            obtain ⟨n2, hn2⟩ := ih σ1 r h
            refine ⟨max n1 n2, fun i hi => ?_⟩
            rw [hn1 i (by omega)]
            exact hn2 i (by omega)
          | ex j => exact ⟨n1, fun i hi => by rw [hn1 i hi]; exact h⟩
          | ret => exact ⟨n1, fun i hi => by rw [hn1 i hi]; exact h⟩
    have mono : ∀ (f : AS → Option (AX × AS)) m σ r, iterA f m σ = some r → ∀ m', m ≤ m' → iterA f m' σ = some r := by
      intro f m
      induction m with
      | zero => intro σ r h; simp [iterA] at h
      | succ m ih =>
        intro σ r h m' hm
        obtain ⟨m', rfl⟩ : ∃ k, m' = k + 1 := ⟨m' - 1, by omega⟩
        simp only [iterA] at h ⊢
        cases h1 : f σ with
        | none => rw [h1] at h; cases h
        | some q =>
          rw [h1] at h
          obtain ⟨e, σ1⟩ := q
          cases e with
          | norm => exact ih σ1 r h m' (by omega)
          | ex j => exact h
          | ret => exact h
    obtain ⟨n2, hn2⟩ := key n σ r (hn n (Nat.le_refl _))
    exact ⟨max n n2, fun i hi => mono _ n σ r (hn2 i (by omega)) i (by omega)⟩

/-- A contract, off the function's body. -/
theorem Gx_of {f : FuncId} {F : AFun} {args : List AV} {sh : List (List AV)} {r : AV × List (List AV)} (hB : B f args sh = none) (hT : T f = some F) (h : callX (Gx B T) F args sh = some r) : Gx B T f args sh = some r := by
  unfold callX at h
  split at h
  · rename_i hlen
    have hex : ∃ q, execX (Gx B T) F.body (initA args sh) = some q := by
      cases hq : execX (Gx B T) F.body (initA args sh) with
      | none => rw [hq] at h; cases h
      | some q => exact ⟨q, rfl⟩
    obtain ⟨q, hq⟩ := hex
    obtain ⟨n, hn⟩ := exec_lim _ _ _ hq
    refine lim_some.2 ⟨n + 1, fun m hm => ?_⟩
    obtain ⟨m', rfl⟩ : ∃ k, m = k + 1 := ⟨m - 1, by omega⟩
    simp only [funA, hB, hT]
    unfold callA
    rw [if_pos hlen, hn m' (by omega), ← hq]
    exact h
  · cases h

theorem Gx_base {f : FuncId} {args : List AV} {sh : List (List AV)} {r : AV × List (List AV)} (hB : B f args sh = some r) : Gx B T f args sh = some r :=
  lim_some.2 ⟨0, fun m _ => by
    cases m with
    | zero => exact hB
    | succ m => simp only [funA, hB]⟩

theorem Gx_good {P : Program} (hmix : P.follows .mixedOrders = true) (hB : Good P B) (hT : ∀ f F, T f = some F → okFun P f F = true) : Good P (Gx B T) := by
  intro f args sh r sh' h
  obtain ⟨n, hn⟩ := lim_some.1 h
  exact funs_sound hmix hB hT n f args sh r sh' (hn n (Nat.le_refl _))
end
end Go.Av
