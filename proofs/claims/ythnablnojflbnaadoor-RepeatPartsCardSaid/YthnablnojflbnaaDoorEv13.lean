/- A part of the proof: Ev13. No conditions. -/
import Derived.Test.YthnablnojflbnaaDoorEv12
import Derived.Tactics
set_option linter.unusedSimpArgs false
set_option linter.unusedVariables false
namespace Go.Av
set_option linter.unusedSectionVars false
variable [Gtab]
open Go.RowKit

def okO (P : Program) (nt : Nat) (ops : Array Oper) (o : Oper) (ao : AOper) : Bool :=
  ao.dst == o.dst && (match o.dst with | none => true | some d => decide (d < nt)) &&
  (match o.guard, ao.guard with
   | none, none => true
   | some (j, b), some (s, b') => b == b' && (ops[j]?).bind (·.dst) == some s && decide (s < nt)
   | _, _ => false) && okK P o ao

def okOs (P : Program) (nt : Nat) (ops : Array Oper) : List Oper → List AOper → Bool
  | [], [] => true
  | o :: os, ao :: aos => okO P nt ops o ao && okOs P nt ops os aos
  | _, _ => false

section
variable {P : Program} {E : Env} {g g' : Gh} {σ σ' σ1 : AS} {a : Act} {w w' : World} {o : Oper} {ao : AOper} {Q : Exit → Act → World → Prop} {ops : Array Oper} {G : Calls'}

theorem guard_sound (hs : Sim E g σ a w) (hok : okO P E.nt ops o ao = true) :
    (guardA σ.fr ao.guard = some true → Region.wanted o (yielded ops a.tmps) = true) ∧ (guardA σ.fr ao.guard = some false → Region.wanted o (yielded ops a.tmps) = false) := by
  unfold okO at hok
  simp only [Bool.and_eq_true] at hok
  obtain ⟨⟨_, h⟩, _⟩ := hok
  unfold Region.wanted
  split at h
  · rename_i h1 h2
    rw [h1, h2]
    simp [guardA]
  · rename_i j b s b' h1 h2
    simp only [Bool.and_eq_true, decide_eq_true_eq] at h
    obtain ⟨⟨h3, h4⟩, h5⟩ := h
    have hb : b = b' := by simpa using h3
    subst hb
    have h4' : (ops[j]?).bind (·.dst) = some s := by simpa using h4
    rw [h1, h2]
    have hslot := hs.slots s
    have hsz : s < a.tmps.size := by rw [hs.size]; exact h5
    have hgd : a.tmps.getD s undef = a.tmps[s] := by simp [Array.getD_eq_getD_getElem?, hsz]
    rw [hgd] at hslot
    simp only [guardA, yielded, h4', Option.bind_some, Array.getElem?_eq_getElem hsz]
    generalize hv : σ.fr s = v at hslot
    cases v <;> simp only [reduceCtorEq, false_implies, and_self, Option.some.injEq] <;> try exact ⟨trivial, trivial⟩
    · have : a.tmps[s] = undef := hslot
      rw [this]
      exact ⟨trivial, fun _ => rfl⟩
    · rename_i c
      have : a.tmps[s] = .bool c := hslot
      rw [this]
      exact ⟨fun h => by simpa using h, fun h => by simpa using h⟩
  · cases h

/-- One operation of a region. -/
theorem step_sound (hG : Good P G) (hs : Sim E g σ a w) (hok : okO P E.nt ops o ao = true) (h : stepA G ao σ = some σ') :
    if Region.wanted o (yielded ops a.tmps) = true then o.wp P a w (Post E σ') Q else Post E σ' (a.put o.dst undef) w := by
  obtain ⟨g1, g2⟩ := guard_sound (ops := ops) hs hok
  unfold okO at hok
  simp only [Bool.and_eq_true] at hok
  obtain ⟨⟨⟨h1, h2⟩, _⟩, h4⟩ := hok
  have hdst : ao.dst = o.dst := by simpa using h1
  have hd : ∀ d, o.dst = some d → d < E.nt := by
    intro d hd
    rw [hd] at h2
    simpa using h2
  have hcase : guardA σ.fr ao.guard = some true ∨ guardA σ.fr ao.guard = some false := by
    unfold stepA at h
    split at h
    · rename_i e; exact .inl e
    · rename_i e; exact .inr e
    · cases h
  rcases hcase with hg | hg
  · rw [if_pos (g1 hg)]
    obtain ⟨v, m, hk, rfl⟩ := step_eq h hg
    rw [hdst]
    exact kind_sound hG hs hd hdst h4 hk
  · rw [if_neg (by rw [g2 hg]; simp)]
    have : σ' = put σ ao.dst .undef := by
      unfold stepA at h
      rw [hg] at h
      simpa using h.symm
    subst this
    rw [hdst]
    cases hdd : o.dst with
    | none => exact ⟨g, hs⟩
    | some d => exact ⟨g, hs.put_ (hd d hdd) rfl⟩

theorem list_sound (hG : Good P G) : ∀ {os : List Oper} {aos : List AOper} {σ : AS} {a : Act} {w : World}, okOs P E.nt ops os aos = true → Post E σ a w → runA G aos σ = some σ' →
    (∀ a w, Post E σ' a w → Q .normal a w) → wpList P ops Q os a w
  | [], [], σ, a, w, _, hp, hr, hQ => by
    simp only [runA, Option.some.injEq] at hr
    subst hr
    exact hQ a w hp
  | o :: os, ao :: aos, σ, a, w, hok, ⟨g, hs⟩, hr, hQ => by
    simp only [okOs, Bool.and_eq_true] at hok
    simp only [runA] at hr
    obtain ⟨σ1, h1, h2⟩ := Option.bind_eq_some_iff.1 hr
    have hst := step_sound (Q := Q) hG hs hok.1 h1
    unfold wpList
    split
    · rename_i hw
      rw [if_pos hw] at hst
      exact .inl (Oper.wp_mono (fun a w hp => list_sound hG hok.2 hp h2 hQ) hst)
    · rename_i hw
      rw [if_neg hw] at hst
      exact list_sound hG hok.2 hst h2 hQ
  | [], _ :: _, _, _, _, hok, _, _, _ => by simp [okOs] at hok
  | _ :: _, [], _, _, _, hok, _, _, _ => by simp [okOs] at hok

/-! ### Operations that do not look at one another's places commute -/
def roK : AK → Bool
  | .ld .. => true
  | .b2s => true
  | .callR _ => true
  | .callvR => true
  | .lkp .. => true
  | _ => false
def wml (o : AOper) : ML := if roK o.k then .none else o.ml
def argS : List AR → List Nat
  | [] => []
  | .t s :: r => s :: argS r
  | .c _ :: r => argS r
def rdS (o : AOper) : List Nat := argS o.args ++ (match o.guard with | some (s, _) => [s] | none => [])
def wrS (o : AOper) : List Nat := o.dst.toList ++ o.dem.toList
def disj (l m : List Nat) : Bool := l.all fun x => !m.contains x
def mlFree (w r : ML) : Bool := w == .none || w != r
def indep0 (o p : AOper) : Bool :=
  disj (wrS o) (rdS p) && disj (wrS o) (wrS p) && disj (wrS p) (rdS o) && mlFree (wml o) p.ml && mlFree (wml p) o.ml
/-- A load that takes the ownership of a slice, and one that looks at shared objects alone. -/
def ldoLd (o p : AOper) : Bool :=
  (match o.k, p.k with | .ldo, .ld .. => true | _, _ => false) && o.ml == .sh && p.ml == .sh && disj (wrS o) (rdS p) && disj (wrS o) (wrS p) && disj (wrS p) (rdS o)
def indep (o p : AOper) : Bool := indep0 o p || ldoLd o p || ldoLd p o

def dec (G : Calls') (o : AOper) (σ : AS) : Option (Option (AV × MV)) :=
  match guardA σ.fr o.guard with
  | some true => (kf G (o.dst.getD 0) o.ml o.k (o.args.map (ev σ.fr)) (rdm σ o.ml)).map some
  | some false => some none
  | none => none
def eff (o : AOper) (out : Option (AV × MV)) (σ : AS) : AS :=
  match out with
  | some (v, m) => put (demS (wrm σ m (wml o)) o.dem) o.dst v
  | none => put σ o.dst .undef

theorem callR_same {ml : ML} {f : FuncId} {xs : List AV} {m m' : MV} {v : AV} (h : callRK G ml f xs m = some (v, m')) : m' = m := by
  unfold callRK at h
  split at h
  · obtain ⟨ys, _, h⟩ := Option.bind_eq_some_iff.1 h
    split at h
    · obtain ⟨r, _, h⟩ := Option.bind_eq_some_iff.1 h
      split at h
      · simp only [Option.some.injEq, Prod.mk.injEq] at h; exact h.2.symm
      · cases h
    · cases h
  · cases h

theorem ld_same {d : Nat} {ml : ML} {k : AK} {xs : List AV} {m m' : MV} {v : AV} (hr : roK k = true) (h : kf G d ml k xs m = some (v, m')) : m' = m := by
  cases k <;> simp [roK] at hr
  · match xs, h with
    | [x], h =>
      simp only [kf, kf0] at h
      split at h
      · split at h
        · obtain ⟨c, _, h⟩ := Option.bind_eq_some_iff.1 h
          obtain ⟨_, _, h⟩ := Option.map_eq_some_iff.1 h
          simp only [Prod.mk.injEq] at h; exact h.2.symm
        · cases h
      · split at h
        · obtain ⟨c, _, h⟩ := Option.bind_eq_some_iff.1 h
          obtain ⟨_, _, h⟩ := Option.map_eq_some_iff.1 h
          simp only [Prod.mk.injEq] at h; exact h.2.symm
        · cases h
      · obtain ⟨_, _, h⟩ := Option.map_eq_some_iff.1 h
        simp only [Prod.mk.injEq] at h; exact h.2.symm
      · cases h
    | [], h => simp [kf, kf0] at h
    | _ :: _ :: _, h => simp [kf, kf0] at h
  · exact callR_same h
  · match xs, h with
    | .fn f caps :: xs, h => exact callR_same h
    | [], h => simp [kf, callvRK] at h
    | .any :: _, h => simp [kf, callvRK] at h
    | .undef :: _, h => simp [kf, callvRK] at h
    | .int .. :: _, h => simp [kf, callvRK] at h
    | .bool _ :: _, h => simp [kf, callvRK] at h
    | .str _ :: _, h => simp [kf, callvRK] at h
    | .nilp :: _, h => simp [kf, callvRK] at h
    | .ptr .. :: _, h => simp [kf, callvRK] at h
    | .loc .. :: _, h => simp [kf, callvRK] at h
    | .ip _ :: _, h => simp [kf, callvRK] at h
    | .sl .. :: _, h => simp [kf, callvRK] at h
    | .agg _ :: _, h => simp [kf, callvRK] at h
    | .tup _ :: _, h => simp [kf, callvRK] at h
    | .ss .. :: _, h => simp [kf, callvRK] at h
    | .mp _ :: _, h => simp [kf, callvRK] at h
    | .mapv _ :: _, h => simp [kf, callvRK] at h
    | .aggR _ :: _, h => simp [kf, callvRK] at h
  · match xs, h with
    | [x], h =>
      simp only [kf, kf0] at h
      split at h
      · split at h
        · obtain ⟨_, _, h⟩ := Option.map_eq_some_iff.1 h
          simp only [Prod.mk.injEq] at h; exact h.2.symm
        · cases h
      · split at h
        · obtain ⟨c, _, h⟩ := Option.bind_eq_some_iff.1 h
          obtain ⟨_, _, h⟩ := Option.map_eq_some_iff.1 h
          simp only [Prod.mk.injEq] at h; exact h.2.symm
        · cases h
      · cases h
    | [], h => simp [kf, kf0] at h
    | _ :: _ :: _, h => simp [kf, kf0] at h
  · match xs, h with
    | [.mp o, k], h =>
      simp only [kf, kf0] at h
      split at h
      · obtain ⟨c, _, h⟩ := Option.bind_eq_some_iff.1 h
        obtain ⟨c, _, h⟩ := Option.bind_eq_some_iff.1 h
        obtain ⟨_, _, h⟩ := Option.map_eq_some_iff.1 h
        simp only [Prod.mk.injEq] at h; exact h.2.symm
      · cases h
    | [], h => simp [kf, kf0] at h
    | [_], h => simp [kf, kf0] at h
    | _ :: _ :: _ :: _, h => simp [kf, kf0] at h
    | [x, k], h =>
      cases x <;> simp only [kf, kf0, reduceCtorEq] at h
      split at h
      · obtain ⟨c, _, h⟩ := Option.bind_eq_some_iff.1 h
        obtain ⟨c, _, h⟩ := Option.bind_eq_some_iff.1 h
        obtain ⟨_, _, h⟩ := Option.map_eq_some_iff.1 h
        simp only [Prod.mk.injEq] at h; exact h.2.symm
      · cases h

theorem wrm_rdm (σ : AS) (ml : ML) : wrm σ (rdm σ ml) ml = σ := by
  cases ml with
  | none => rfl
  | sh => rfl
  | lo s =>
    show { σ with lo := upd σ.lo s (σ.lo s) } = σ
    have : upd σ.lo s (σ.lo s) = σ.lo := by funext t; unfold upd; split <;> simp_all
    rw [this]

theorem step_dec (o : AOper) (σ : AS) : stepA G o σ = (dec G o σ).map (eff o · σ) := by
  unfold stepA dec
  cases hg : guardA σ.fr o.guard with
  | none => rfl
  | some b =>
    cases b with
    | false => rfl
    | true =>
      simp only
      cases hk : kf G (o.dst.getD 0) o.ml o.k (o.args.map (ev σ.fr)) (rdm σ o.ml) with
      | none => rfl
      | some r =>
        obtain ⟨v, m⟩ := r
        simp only [Option.map_some, eff, wml]
        split
        · rename_i hr
          rw [ld_same hr hk, wrm_rdm]
          rfl
        · rfl

theorem disj_not {l m : List Nat} (h : disj l m = true) {x : Nat} (hx : x ∈ l) : x ∉ m := by
  unfold disj at h
  rw [List.all_eq_true] at h
  have := h x hx
  simpa using this

theorem eff_fr (o : AOper) (out : Option (AV × MV)) (σ : AS) (t : Nat) (ht : t ∉ wrS o) : (eff o out σ).fr t = σ.fr t := by
  have h1 : o.dst ≠ some t := fun e => ht (by simp [wrS, e])
  have h2 : o.dem ≠ some t := fun e => ht (by simp [wrS, e])
  have hp : ∀ (σ : AS) (v : AV), (put σ o.dst v).fr t = σ.fr t := by
    intro σ v
    cases hd : o.dst with
    | none => rfl
    | some d => simp only [put, upd]; rw [if_neg (fun e => h1 (by rw [hd, e]))]
  have hq : ∀ (σ : AS), (demS σ o.dem).fr t = σ.fr t := by
    intro σ
    cases hd : o.dem with
    | none => rfl
    | some d => simp only [demS, upd]; rw [if_neg (fun e => h2 (by rw [hd, e]))]
  have hm : ∀ (m : MV) (ml : ML), (wrm σ m ml).fr = σ.fr := fun m ml => by cases ml <;> rfl
  cases out with
  | none => exact hp _ _
  | some r =>
    obtain ⟨v, m⟩ := r
    show (put (demS (wrm σ m (wml o)) o.dem) o.dst v).fr t = _
    rw [hp, hq, hm]

theorem put_mem (σ : AS) (d : Option Nat) (v : AV) : (put σ d v).lo = σ.lo ∧ (put σ d v).sh = σ.sh := by cases d <;> exact ⟨rfl, rfl⟩
theorem dem_mem (σ : AS) (d : Option Nat) : (demS σ d).lo = σ.lo ∧ (demS σ d).sh = σ.sh := by cases d <;> exact ⟨rfl, rfl⟩

theorem eff_rdm (o : AOper) (out : Option (AV × MV)) (σ : AS) (ml : ML) (h : mlFree (wml o) ml = true) : rdm (eff o out σ) ml = rdm σ ml := by
  have hmem : ∀ σ1 σ2 : AS, σ1.lo = σ2.lo → σ1.sh = σ2.sh → rdm σ1 ml = rdm σ2 ml := by
    intro σ1 σ2 h1 h2
    cases ml <;> simp [rdm, h1, h2]
  cases out with
  | none => exact hmem _ _ (put_mem _ _ _).1 (put_mem _ _ _).2
  | some r =>
    obtain ⟨v, m⟩ := r
    have : rdm (eff o (some (v, m)) σ) ml = rdm (wrm σ m (wml o)) ml := by
      refine hmem _ _ ?_ ?_
      · show (put (demS (wrm σ m (wml o)) o.dem) o.dst v).lo = _
        rw [(put_mem _ _ _).1, (dem_mem _ _).1]
      · show (put (demS (wrm σ m (wml o)) o.dem) o.dst v).sh = _
        rw [(put_mem _ _ _).2, (dem_mem _ _).2]
    rw [this]
    unfold mlFree at h
    cases hw : wml o with
    | none => rfl
    | sh =>
      rw [hw] at h
      cases ml <;> first | rfl | simp at h
    | lo s =>
      rw [hw] at h
      cases ml with
      | none => rfl
      | sh => rfl
      | lo s' =>
        have hne : s' ≠ s := by rintro rfl; simp at h
        simp [rdm, wrm, upd, hne]

theorem mem_argS {args : List AR} {s : Nat} (h : AR.t s ∈ args) : s ∈ argS args := by
  induction args with
  | nil => cases h
  | cons r rs ih =>
    cases r with
    | t x =>
      simp only [argS, List.mem_cons]
      rcases List.mem_cons.1 h with e | e
      · cases e; exact .inl rfl
      · exact .inr (ih e)
    | c x =>
      simp only [argS]
      rcases List.mem_cons.1 h with e | e
      · cases e
      · exact ih e

theorem dec_congr (o : AOper) (σ τ : AS) (hf : ∀ t ∈ rdS o, τ.fr t = σ.fr t) (hm : rdm τ o.ml = rdm σ o.ml) : dec G o τ = dec G o σ := by
  have hg : guardA τ.fr o.guard = guardA σ.fr o.guard := by
    cases hgd : o.guard with
    | none => rfl
    | some p =>
      obtain ⟨s, b⟩ := p
      have := hf s (by simp [rdS, hgd])
      simp [guardA, this]
  have ha : o.args.map (ev τ.fr) = o.args.map (ev σ.fr) := by
    apply List.map_congr_left
    intro r hr
    cases r with
    | c x => rfl
    | t s => exact hf s (by simp [rdS, mem_argS hr])
  unfold dec
  rw [hg, ha, hm]

def fLo (o : AOper) : Option (AV × MV) → (Nat → Option (List AV)) → (Nat → Option (List AV))
  | some (_, m), l => (match wml o with | .lo s => upd l s m.1 | _ => l)
  | none, l => l
def fSh (o : AOper) : Option (AV × MV) → List (List AV) → List (List AV)
  | some (_, m), l => (match wml o with | .sh => m.2 | _ => l)
  | none, l => l
theorem eff_mem (o : AOper) (x : Option (AV × MV)) (σ : AS) : (eff o x σ).lo = fLo o x σ.lo ∧ (eff o x σ).sh = fSh o x σ.sh := by
  cases x with
  | none => exact put_mem _ _ _
  | some r =>
    obtain ⟨v, m⟩ := r
    have h1 : (eff o (some (v, m)) σ).lo = (wrm σ m (wml o)).lo := by
      show (put (demS (wrm σ m (wml o)) o.dem) o.dst v).lo = _
      rw [(put_mem _ _ _).1, (dem_mem _ _).1]
    have h2 : (eff o (some (v, m)) σ).sh = (wrm σ m (wml o)).sh := by
      show (put (demS (wrm σ m (wml o)) o.dem) o.dst v).sh = _
      rw [(put_mem _ _ _).2, (dem_mem _ _).2]
    rw [h1, h2]
    unfold fLo fSh
    cases wml o <;> exact ⟨rfl, rfl⟩

theorem eff_comm (o p : AOper) (x y : Option (AV × MV)) (σ : AS) (h1 : disj (wrS o) (wrS p) = true) (h2 : wml o = .none ∨ wml p = .none ∨ wml o ≠ wml p) :
    eff p y (eff o x σ) = eff o x (eff p y σ) := by
  have hfr : ∀ (o : AOper) (x : Option (AV × MV)) (σ τ : AS) (t : Nat), σ.fr t = τ.fr t → (eff o x σ).fr t = (eff o x τ).fr t := by
    intro o x σ τ t h
    have hm : ∀ (σ : AS) (m : MV) (ml : ML), (wrm σ m ml).fr = σ.fr := fun σ m ml => by cases ml <;> rfl
    have hd : ∀ (σ τ : AS) (d : Option Nat), σ.fr t = τ.fr t → (demS σ d).fr t = (demS τ d).fr t := by
      intro σ τ d h
      cases d with
      | none => exact h
      | some d =>
        simp only [demS, upd]
        split
        · rename_i e; subst e; rw [h]
        · exact h
    have hp : ∀ (σ τ : AS) (d : Option Nat) (v : AV), σ.fr t = τ.fr t → (put σ d v).fr t = (put τ d v).fr t := by
      intro σ τ d v h
      cases d with
      | none => exact h
      | some d =>
        simp only [put, upd]
        split
        · rfl
        · exact h
    cases x with
    | none => exact hp _ _ _ _ h
    | some r =>
      obtain ⟨v, m⟩ := r
      exact hp _ _ _ _ (hd _ _ _ (by rw [hm, hm]; exact h))
  have ext : ∀ a b : AS, a.fr = b.fr → a.lo = b.lo → a.sh = b.sh → a = b := by
    rintro ⟨_, _, _⟩ ⟨_, _, _⟩ h1 h2 h3
    simp only at h1 h2 h3
    rw [h1, h2, h3]
  apply ext
  · funext t
    by_cases ho : t ∈ wrS o
    · have hp : t ∉ wrS p := disj_not h1 ho
      rw [eff_fr p y _ t hp]
      exact hfr o x _ _ t (eff_fr p y σ t hp).symm
    · rw [eff_fr o x _ t ho]
      exact hfr p y _ _ t (eff_fr o x σ t ho)
  · rw [(eff_mem p y _).1, (eff_mem o x σ).1, (eff_mem o x _).1, (eff_mem p y σ).1]
    rcases x with _ | ⟨_, m⟩ <;> rcases y with _ | ⟨_, m'⟩ <;> try rfl
    simp only [fLo]
    cases hwo : wml o <;> cases hwp : wml p <;> try rfl
    rename_i s s'
    have hne : s ≠ s' := by
      rintro rfl
      rcases h2 with h | h | h
      · rw [hwo] at h; cases h
      · rw [hwp] at h; cases h
      · rw [hwo, hwp] at h; exact h rfl
    funext t
    simp only [upd]
    by_cases e1 : t = s
    · subst e1; simp [hne]
    · simp [e1]
  · rw [(eff_mem p y _).2, (eff_mem o x σ).2, (eff_mem o x _).2, (eff_mem p y σ).2]
    rcases x with _ | ⟨_, m⟩ <;> rcases y with _ | ⟨_, m'⟩ <;> try rfl
    simp only [fSh]
    cases hwo : wml o <;> cases hwp : wml p <;> try rfl
    rcases h2 with h | h | h
    · rw [hwo] at h; cases h
    · rw [hwp] at h; cases h
    · rw [hwo, hwp] at h; exact absurd rfl h

theorem step_comm0 {o p : AOper} (h : indep0 o p = true) (σ : AS) : (stepA G o σ).bind (stepA G p) = (stepA G p σ).bind (stepA G o) := by
  unfold indep0 at h
  simp only [Bool.and_eq_true] at h
  obtain ⟨⟨⟨⟨h1, h2⟩, h3⟩, h4⟩, h5⟩ := h
  have hp : ∀ x, dec G p (eff o x σ) = dec G p σ := fun x =>
    dec_congr p σ _ (fun t ht => eff_fr o x σ t (fun hto => disj_not h1 hto ht)) (eff_rdm o x σ _ h4)
  have ho : ∀ y, dec G o (eff p y σ) = dec G o σ := fun y =>
    dec_congr o σ _ (fun t ht => eff_fr p y σ t (fun htp => disj_not h3 htp ht)) (eff_rdm p y σ _ h5)
  have hw : wml o = .none ∨ wml p = .none ∨ wml o ≠ wml p := by
    by_cases e : wml o = .none
    · exact .inl e
    · by_cases e' : wml p = .none
      · exact .inr (.inl e')
      · refine .inr (.inr ?_)
        have hpm : wml p = p.ml := by
          unfold wml; split
          · rename_i hr; exact absurd (by simp [wml, hr]) e'
          · rfl
        rw [hpm]
        unfold mlFree at h4
        simp only [Bool.or_eq_true, beq_iff_eq, bne_iff_ne, ne_eq] at h4
        rcases h4 with h | h
        · exact absurd h e
        · exact h
  rw [step_dec o σ, step_dec p σ]
  cases hdo : dec G o σ with
  | none =>
    cases hdp : dec G p σ with
    | none => rfl
    | some y => simp only [Option.map_some, Option.map_none, Option.bind_some, Option.bind_none, step_dec, ho, hdo]
  | some x =>
    cases hdp : dec G p σ with
    | none => simp only [Option.map_some, Option.map_none, Option.bind_some, Option.bind_none, step_dec, hp, hdp]
    | some y =>
      simp only [Option.map_some, Option.bind_some, step_dec, hp, ho, hdo, hdp]
      rw [eff_comm o p x y σ h2 hw]
theorem set_dem {cells : List AV} {off : Nat} {x y : AV} (hx : cells[off]? = some x) (hd : demV y = demV x) : (cells.set off y).map demV = cells.map demV := by
  rw [List.map_set, hd]
  apply List.ext_getElem?
  intro j
  rw [List.getElem?_set]
  split
  · rename_i h
    subst h
    obtain ⟨hlt, he⟩ := List.getElem?_eq_some_iff.1 hx
    simp [hlt, he]
  · rfl
theorem ldC_dem {agg : Bool} {off n k : Nat} {cells : List AV} {z : Nat} {l : List (List AV)} (hx : cells[k]? = some (.sl .own z l)) : ldC agg off n (cells.set k (.sl .no z l)) = ldC agg off n cells := by
  have hm := set_dem (y := .sl .no z l) hx rfl
  have key : ∀ c : List AV, ldC true off n c = if (((c.map demV).drop off).take n).length = n ∧ (((c.map demV).drop off).take n).all flatB = true then some (.agg (((c.map demV).drop off).take n)) else none := by
    intro c
    simp only [ldC, if_true, ← List.map_drop, ← List.map_take, List.length_map, List.all_map, Function.comp_def]
  cases agg with
  | true => rw [key, key, hm]
  | false =>
    simp only [ldC, Bool.false_eq_true, if_false]
    by_cases h : k = off
    · subst h
      have hlt := (List.getElem?_eq_some_iff.1 hx).1
      have e : (cells.set k (.sl .no z l))[k]? = some (.sl .no z l) := by simp [hlt]
      rw [e, hx]
      rfl
    · rw [List.getElem?_set_ne h]
theorem ld_dem {d : Nat} {agg : Bool} {n i k : Nat} {sh : List (List AV)} {cells : List AV} {z : Nat} {l : List (List AV)} (hi : sh[i]? = some cells) (hx : cells[k]? = some (.sl .own z l)) (xs : List AV) (a : Option (List AV)) :
    (kf0 d .sh (.ld agg n) xs (a, sh.set i (cells.set k (.sl .no z l)))).map (fun r => r.1) = (kf0 d .sh (.ld agg n) xs (a, sh)).map (fun r => r.1) := by
  match xs with
  | [] => rfl
  | _ :: _ :: _ => rfl
  | [x] =>
    cases x <;> try rfl
    · rename_i o off
      simp only [kf0, if_true]
      rw [List.getElem?_set]
      split
      · rename_i h
        subst h
        have hlt := (List.getElem?_eq_some_iff.1 hi).1
        rw [if_pos hlt, hi]
        simp only [Option.bind_some, ldC_dem hx, Option.map_map, Function.comp_def]
      · cases sh[o]? with
        | none => rfl
        | some c => simp only [Option.bind_some, Option.map_map, Function.comp_def]
    · simp only [kf0, Option.map_map, Function.comp_def]
theorem ldo_comm {o p : AOper} (h : ldoLd o p = true) (σ : AS) : (stepA G o σ).bind (stepA G p) = (stepA G p σ).bind (stepA G o) := by
  unfold ldoLd at h
  simp only [Bool.and_eq_true, beq_iff_eq] at h
  obtain ⟨⟨⟨⟨⟨hk, ho⟩, hp⟩, h1⟩, h2⟩, h3⟩ := h
  have hkk : o.k = .ldo ∧ ∃ agg n, p.k = .ld agg n := by
    split at hk
    · rename_i a b; exact ⟨a, _, _, b⟩
    · cases hk
  obtain ⟨hko, agg, n, hkp⟩ := hkk
  have hwp : wml p = .none := by simp [wml, hkp, roK]
  have hso : ∀ y, dec G o (eff p y σ) = dec G o σ := fun y =>
    dec_congr o σ _ (fun t ht => eff_fr p y σ t (fun htp => disj_not h3 htp ht)) (eff_rdm p y σ _ (by rw [hwp]; rfl))
  have effp : ∀ v m m' ρ, eff p (some (v, m)) ρ = eff p (some (v, m')) ρ := by
    intro v m m' ρ
    simp only [eff, hwp]
    rfl
  rw [step_dec o σ, step_dec p σ]
  cases hdo : dec G o σ with
  | none =>
    cases hdp : dec G p σ with
    | none => rfl
    | some y => simp only [Option.map_some, Option.map_none, Option.bind_some, Option.bind_none, step_dec, hso, hdo]
  | some x =>
    have key : ∀ ρ, (dec G p (eff o x σ)).map (eff p · ρ) = (dec G p σ).map (eff p · ρ) := by
      intro ρ
      have hfr : ∀ t ∈ rdS p, (eff o x σ).fr t = σ.fr t := fun t ht => eff_fr o x σ t (fun hto => disj_not h1 hto ht)
      cases x with
      | none =>
        rw [dec_congr p σ _ hfr]
        have := put_mem σ o.dst .undef
        rw [hp]
        simp only [rdm]
        exact Prod.ext rfl this.2
      | some r =>
        obtain ⟨v, m⟩ := r
        have hmem : rdm (eff o (some (v, m)) σ) .sh = (none, m.2) := by
          simp only [rdm]
          refine Prod.ext rfl ?_
          have hwo : wml o = .sh := by simp [wml, hko, roK, ho]
          rw [(eff_mem o _ σ).2]
          simp only [fSh, hwo]
        have hm : m.2 = σ.sh ∨ ∃ i k cells z l, σ.sh[i]? = some cells ∧ cells[k]? = some (.sl .own z l) ∧ m.2 = σ.sh.set i (cells.set k (.sl .no z l)) := by
          unfold dec at hdo
          split at hdo
          · rw [hko, ho] at hdo
            simp only [kf] at hdo
            obtain ⟨q, hq, e⟩ := Option.map_eq_some_iff.1 hdo
            simp only [Option.some.injEq] at e
            subst e
            generalize o.args.map (ev σ.fr) = xs at hq
            match xs, hq with
            | [], hq => cases hq
            | _ :: _ :: _, hq => simp [kf0] at hq
            | [x], hq =>
              cases x <;> simp only [kf0, reduceCtorEq] at hq
              rename_i i k
              simp only [if_true, rdm] at hq
              obtain ⟨cells, q1, q2⟩ := Option.bind_eq_some_iff.1 hq
              split at q2
              · obtain ⟨y, q3, q4⟩ := Option.bind_eq_some_iff.1 q2
                split at q4
                · rename_i z l
                  simp only [Option.some.injEq, Prod.mk.injEq] at q4
                  right
                  exact ⟨i, k, cells, z, l, q1, q3, by rw [← q4.2]⟩
                · simp only [Option.some.injEq, Prod.mk.injEq] at q4
                  left; rw [← q4.2]
                · cases q4
              · cases q2
          · cases hdo
          · cases hdo
        have hg : guardA (eff o (some (v, m)) σ).fr p.guard = guardA σ.fr p.guard := by
          cases hgd : p.guard with
          | none => rfl
          | some q =>
            obtain ⟨s, b⟩ := q
            have := hfr s (by simp [rdS, hgd])
            simp [guardA, this]
        have ha : p.args.map (ev (eff o (some (v, m)) σ).fr) = p.args.map (ev σ.fr) := by
          apply List.map_congr_left
          intro r hr
          cases r with
          | c x => rfl
          | t s => exact hfr s (by simp [rdS, mem_argS hr])
        unfold dec
        rw [hg, ha, hp, hmem, hkp]
        cases hgv : guardA σ.fr p.guard with
        | none => rfl
        | some b =>
          cases b with
          | false => rfl
          | true =>
            simp only [kf]
            have hL : (kf0 (p.dst.getD 0) .sh (.ld agg n) (p.args.map (ev σ.fr)) (none, m.2)).map (fun r => r.1) = (kf0 (p.dst.getD 0) .sh (.ld agg n) (p.args.map (ev σ.fr)) (rdm σ .sh)).map (fun r => r.1) := by
              rcases hm with hm | ⟨i, k, cells, z, l, q1, q2, q3⟩
              · rw [hm]; rfl
              · rw [q3]; exact ld_dem q1 q2 _ _
            cases hA : kf0 (p.dst.getD 0) .sh (.ld agg n) (p.args.map (ev σ.fr)) (none, m.2) with
            | none =>
              rw [hA] at hL
              cases hB : kf0 (p.dst.getD 0) .sh (.ld agg n) (p.args.map (ev σ.fr)) (rdm σ .sh) with
              | none => rfl
              | some r => rw [hB] at hL; cases hL
            | some r =>
              rw [hA] at hL
              cases hB : kf0 (p.dst.getD 0) .sh (.ld agg n) (p.args.map (ev σ.fr)) (rdm σ .sh) with
              | none => rw [hB] at hL; cases hL
              | some r2 =>
                rw [hB] at hL
                simp only [Option.map_some, Option.some.injEq] at hL ⊢
                obtain ⟨v1, m1⟩ := r
                obtain ⟨v2, m2⟩ := r2
                simp only [] at hL
                subst hL
                exact effp _ _ _ _
    simp only [Option.map_some, Option.bind_some, step_dec]
    rw [key]
    cases hdp : dec G p σ with
    | none => rfl
    | some y =>
      simp only [Option.map_some, Option.bind_some, step_dec, hso, hdo]
      rw [eff_comm o p x y σ h2 (.inr (.inl hwp))]
theorem step_comm {o p : AOper} (h : indep o p = true) (σ : AS) : (stepA G o σ).bind (stepA G p) = (stepA G p σ).bind (stepA G o) := by
  unfold indep at h
  simp only [Bool.or_eq_true] at h
  rcases h with (h | h) | h
  · exact step_comm0 h σ
  · exact ldo_comm h σ
  · exact (ldo_comm h σ).symm
end
end Go.Av
