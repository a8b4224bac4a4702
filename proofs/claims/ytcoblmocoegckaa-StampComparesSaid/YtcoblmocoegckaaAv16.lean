/- A part of the proof: Av16. No conditions. -/
import Derived.Test.YtcoblmocoegckaaAv15
set_option linter.unusedSimpArgs false
set_option linter.unusedVariables false
namespace Go.Av
open Go.RowKit

theorem kinds_of {β : Nat → Nat} {n : Nat} (hinj : ∀ i j, i < n → j < n → β i = β j → i = j) : ∃ kd : Nat → BK, (∀ i, i < n → kd (β i) = .shr i) ∧ (∀ b, (∀ i, i < n → β i ≠ b) → kd b = .stab) := by
  classical
  refine ⟨fun b => if h : ∃ i, i < n ∧ β i = b then .shr h.choose else .stab, fun i hi => ?_, fun b hb => ?_⟩
  · have hex : ∃ j, j < n ∧ β j = β i := ⟨i, hi, rfl⟩
    simp only
    rw [dif_pos hex, hinj _ _ hex.choose_spec.1 hi hex.choose_spec.2]
  · simp only
    rw [dif_neg]
    rintro ⟨i, hi, hb'⟩
    exact hb i hi hb'

theorem args_get {c : Cx} {ow : Value → Nat → Nat → Prop} {args : List AV} {vs : Array Value} (h : RepL (RepT c ow) args vs.toList) (n : Nat) (t : Nat) :
    RepT c ow ((args[t]?).getD .any) ((vs ++ Array.replicate n undef).getD t undef) := by
  cases hx : args[t]? with
  | none => exact trivial
  | some x =>
    obtain ⟨v, h1, h2⟩ := h.get hx
    have hv : vs[t]? = some v := by simpa using h1
    have hlt := (Array.getElem?_eq_some_iff.1 hv).1
    have : (vs ++ Array.replicate n undef).getD t undef = v := by
      rw [Array.getD_eq_getD_getElem?, Array.getElem?_append_left hlt, hv]; rfl
    rw [this]; exact h2

section
variable {P : Program} {E : Env} {a : Act} {w : World} {G : Calls'} {g : Gh} {σ : AS}

/-- What is handed out reads, too, in the caller's terms. -/
theorem out_rep (hs : Sim E g σ a w) {n : Nat} (hn : n ≤ σ.sh.length) {k : Bool} (hk : k = true → n = σ.sh.length) {x : AV} {v : Value} (ho : outB k x = true) (r : RepT (cx E g σ w) noOwn x v) :
    RepE (cx0 g.β (S1 E.S0 E.w0 w g.β n) w n) x v := by
  have hm : ∀ b m, SS E g w b m → S1 E.S0 E.w0 w g.β n b m ∧ w.cell? ⟨b, m, none⟩ = w.cell? ⟨b, m, none⟩ := by
    intro b m hS
    refine ⟨?_, rfl⟩
    have hnb : ∀ i, i < n → g.β i ≠ b := fun i hi => SS.nshr hs hS (by omega)
    rcases hS with ⟨_, h⟩ | ⟨h1, h2, _⟩
    · exact .inl h
    · exact .inr ⟨h1, h2, hnb⟩
  cases x with
  | int => exact r
  | bool => exact r
  | nilp => exact r
  | str s =>
    have r' : RepF (SS E g w) w (.str s) v := r
    exact RepF.mono hm _ _ r'
  | sl m z l =>
    cases m with
    | own => exact r.2.elim
    | no =>
      have r' : RepF (SS E g w) w (.sl .no z l) v := r
      exact RepF.mono hm _ _ r'
    | full =>
      have r' : RepF (SS E g w) w (.sl .full z l) v := r
      exact RepF.mono hm _ _ r'
  | agg l =>
    obtain ⟨cs, h1, h2⟩ := r
    exact ⟨cs, h1, h2.mono (RepF.mono hm)⟩
  | ptr o off =>
    have hkt : k = true := by simpa [outB] using ho
    have r' : o < σ.sh.length ∧ v = _ := r
    exact ⟨by rw [show (cx0 g.β (S1 E.S0 E.w0 w g.β n) w n).shn = n from rfl, hk hkt]; exact r'.1, r'.2⟩
  | _ => simp [outB, plainB] at ho

theorem demV_strV (x : AV) : demV (strV x) = strV x := by cases x <;> rfl

theorem RepE.topT {c : Cx} {ow : Value → Nat → Nat → Prop} {x : AV} {v : Value} (hd : demV x = x) (h : RepE c x v) : RepT c ow x v := by
  cases x with
  | sl m z l =>
    cases m with
    | own => simp [demV] at hd
    | no => exact h
    | full => exact h
  | any => simp [RepE, RepF] at h
  | undef => simp [RepE, RepF] at h
  | loc => simp [RepE, RepF] at h
  | ip => simp [RepE, RepF] at h
  | fn => simp [RepE, RepF] at h
  | tup => simp [RepE, RepF] at h
  | _ => exact h

def resOne (tmps : Array Value) : ResultVar → Sem Value
  | .tmp t => pure (tmps.getD t undef)
  | .cell s t => do loadVar t (← asAddr (tmps.getD s undef))

/-- A function's results, one by one. -/
theorem results_sound (hs : Sim E g σ a w) {n : Nat} (hn : n ≤ σ.sh.length) {k : Bool} (hk : k = true → n = σ.sh.length) :
    ∀ {rs : List ResultVar} {as : List ARes} {xs : List AV}, okRes P rs as = true → resultsA σ as = some xs → xs.all (outB k) = true →
      ∃ vs : List Value, (rs.mapM (resOne a.tmps)).run P w = .ok vs w ∧ RepL (RepE (cx0 g.β (S1 E.S0 E.w0 w g.β n) w n)) xs vs ∧ (∀ x ∈ xs, demV x = x)
  | [], [], xs, _, hr, _ => by
    simp only [resultsA, Option.some.injEq] at hr
    subst hr
    exact ⟨[], rfl, trivial, by simp⟩
  | .tmp t :: rs, .tmp t' :: as, xs, hok, hr, hall => by
    simp only [okRes, Bool.and_eq_true] at hok
    have ht : t = t' := by simpa using hok.1
    subst ht
    simp only [resultsA, resA] at hr
    split at hr
    · rename_i v vs hv hvs
      cases hv
      simp only [Option.some.injEq] at hr
      subst hr
      simp only [List.all_cons, Bool.and_eq_true] at hall
      obtain ⟨us, h1, h2, h3⟩ := results_sound hs hn hk hok.2 hvs hall.2
      have hrep := out_rep hs hn hk (x := strV (σ.fr t)) hall.1 (hs.slots t).str
      have h0 : (resOne a.tmps (.tmp t)).run P w = .ok (a.tmps.getD t undef) w := rfl
      refine ⟨a.tmps.getD t undef :: us, by simp only [List.mapM_cons, Sem.run_bind, h0, h1, Result.andThen_ok, Sem.run_pure], ⟨hrep, h2⟩, ?_⟩
      intro x hx
      rcases List.mem_cons.1 hx with rfl | hx
      · exact demV_strV _
      · exact h3 x hx
    · cases hr
  | .cell s t :: rs, .cell s' agg m :: as, xs, hok, hr, hall => by
    simp only [okRes, Bool.and_eq_true] at hok
    obtain ⟨⟨hss, hsz⟩, hok2⟩ := hok
    have ht : s = s' := by simpa using hss
    subst ht
    simp only [resultsA] at hr
    split at hr
    · rename_i v vs hv hvs
      simp only [Option.some.injEq] at hr
      subst hr
      simp only [List.all_cons, Bool.and_eq_true] at hall
      obtain ⟨us, h1, h2, h3⟩ := results_sound hs hn hk hok2 hvs hall.2
      simp only [resA] at hv
      split at hv
      · rename_i ls off hfr
        obtain ⟨cells, hc, htk⟩ := Option.bind_eq_some_iff.1 hv
        have hslot := hs.slots s
        rw [hfr] at hslot
        obtain ⟨hlive, hval⟩ := hslot
        have hval' : a.tmps.getD s undef = .pointer (some ⟨g.lam ls, off, none⟩) := hval
        obtain ⟨ws, hw1, hw2⟩ := Obj_cells (hs.loc ls cells hc).2.2 off m
        obtain ⟨q1, q2, q3⟩ := takeC_rep (c := cx E g σ w) htk hw1
        obtain ⟨val, l1, l2⟩ := load_run (P := P) hsz q1 hw2 (fun ha => by
          rcases q2 with ⟨e, _⟩ | ⟨_, x, e, _⟩
          · rw [ha] at e; cases e
          · exact ⟨x, e⟩)
        have hrv : RepT (cx E g σ w) noOwn v val := by
          rcases q2 with ⟨e1, e2⟩ | ⟨e1, y, e2, e3⟩ <;> rcases l2 with ⟨f1, f2⟩ | ⟨f1, f2⟩
          · rw [f2]; exact e2
          · rw [e1] at f1; cases f1
          · rw [e1] at f1; cases f1
          · rw [e2] at f2; cases f2; exact e3
        have hrep := out_rep hs hn hk (x := v) hall.1 hrv
        have l1' : (loadVar t ⟨g.lam ls, off, none⟩).run P w = .ok val w := by simpa [Instr.loadAt, Instr.sureAddr] using l1
        have hval2 : (a.tmps[s]?).getD undef = .pointer (some ⟨g.lam ls, off, none⟩) := by rw [← Array.getD_eq_getD_getElem?]; exact hval'
        have h0 : (resOne a.tmps (.cell s t)).run P w = .ok val w := by simp [resOne, hval2, asAddr, l1']
        refine ⟨val :: us, by simp only [List.mapM_cons, Sem.run_bind, h0, h1, Result.andThen_ok, Sem.run_pure], ⟨hrep, h2⟩, ?_⟩
        intro x hx
        rcases List.mem_cons.1 hx with rfl | hx
        · exact q3
        · exact h3 x hx
      · cases hv
    · cases hr
  | [], _ :: _, _, hok, _, _ => by simp [okRes] at hok
  | .tmp _ :: _, [], _, hok, _, _ => by simp [okRes] at hok
  | .cell _ _ :: _, [], _, hok, _, _ => by simp [okRes] at hok
  | .tmp _ :: _, .cell _ _ _ :: _, _, hok, _, _ => by simp [okRes] at hok
  | .cell _ _ :: _, .tmp _ :: _, _, hok, _, _ => by simp [okRes] at hok


def packV : List Value → Value
  | [v] => v
  | vs => .tuple vs.toArray

theorem results_run {fn : Func} {tmps : Array Value} {vs : List Value} (h : (fn.results.toList.mapM (resOne tmps)).run P w = .ok vs w) :
    (results fn tmps).run P w = .ok (packV vs) w := by
  have h1 : (fn.results.mapM (resOne tmps)).run P w = .ok vs.toArray w := by
    rw [Array.mapM_eq_mapM_toList]
    simp [h]
  have h2 : results fn tmps = (do let vs ← fn.results.mapM (resOne tmps); pure (if h : vs.size = 1 then vs[0] else .tuple vs)) := rfl
  rw [h2]
  simp only [Sem.run_bind, h1, Result.andThen_ok, Sem.run_pure]
  match vs with
  | [] => rfl
  | [v] => rfl
  | v :: u :: vs => rfl

/-- A function's body gives what its contract says. -/
theorem fun_sound (hmix : P.follows .mixedOrders = true) (hG : Good P G) {n : Nat} {f : FuncId} {F : AFun} (hok : okFun P f F = true) {args : List AV} {sh sh' : List (List AV)} {r : AV} (h : callA n G F args sh = some (r, sh')) :
    Real P f ∧ SemCall P f args sh r sh' := by
  unfold okFun at hok
  split at hok
  case h_2 => cases hok
  rename_i fn hfn
  simp only [Bool.and_eq_true, decide_eq_true_eq] at hok
  obtain ⟨⟨⟨hbody, hnt⟩, hres⟩, hname⟩ := hok
  split at hbody
  case h_2 => cases hbody
  rename_i C hC
  refine ⟨⟨fn, hfn, by rw [hC]; rfl, by simpa using hname⟩, ?_⟩
  intro β S0 w vs hent hargs
  obtain ⟨e1, e2, e3⟩ := hent
  unfold callA at h
  split at h
  case isFalse => cases h
  rename_i hlen
  have hsz : vs.size = F.nargs := by have := hargs.length; simp at this; omega
  obtain ⟨kd, hkd1, hkd2⟩ := kinds_of (n := sh.length) e1
  let E : Env := { w0 := w, S0 := S0, β0 := β, n0 := sh.length, nt := fn.ntmps }
  let g : Gh := { β := β, lam := fun _ => 0, kd := kd }
  have hSS : ∀ b m, S0 b m → SS E g w b m := fun b m hS => .inl ⟨(e3 b m hS).1, hS⟩
  have hsim : Sim E g (initA args sh) { tmps := vs ++ Array.replicate (fn.ntmps - vs.size) undef, defers := [] } w := by
    refine { size := by show (vs ++ Array.replicate (fn.ntmps - vs.size) undef).size = fn.ntmps; simp; omega, defers := rfl, slots := ?_, shr := ?_, loc := fun s c hc => by simp [initA] at hc, n0 := Nat.le_refl _, s0 := e3, os := rfl, tape := rfl, output := rfl, hsize := Nat.le_refl _, frame := fun _ _ _ => rfl }
    · intro t
      have h1 := args_get hargs (fn.ntmps - vs.size) t
      refine RepT.mono (c := cx0 β S0 w sh.length) (c' := cx E g (initA args sh) w) (fun b m hS => ⟨hSS b m hS, rfl⟩) (Nat.le_refl _) (fun _ _ => rfl) (fun s hs => hs.elim) _ _ (fun _ _ _ h => h.elim) h1
    · intro i cells hi
      have hil : i < sh.length := (List.getElem?_eq_some_iff.1 hi).1
      obtain ⟨ar, tt, f1, f2⟩ := e2 i cells hi
      exact ⟨hkd1 i hil, ⟨ar, tt, f1, f2.mono (RepF.mono fun b m hS => ⟨hSS b m hS, rfl⟩)⟩, fun _ => rfl, fun hn => absurd hil (by have h0 : E.n0 = sh.length := rfl; omega)⟩
  unfold finA at h
  split at h
  · cases h
  · rename_i e σ hx hex
    split at h
    case h_2 => cases h
    rename_i xs hxs
    unfold packA at h
    split at h
    case isFalse => cases h
    rename_i hall
    simp only [Option.some.injEq, Prod.mk.injEq] at h
    obtain ⟨hr, hsh'⟩ := h
    refine calls_of_wp hfn hC (exec_sound hmix hG n C F.body _ σ e _ w _ hbody hex ⟨g, hsim⟩ ?_)
    rintro a1 w1 ⟨g1, hs1⟩
    have hshl : sh'.length ≤ σ.sh.length ∧ (F.keep = true → sh'.length = σ.sh.length) ∧ sh.length ≤ sh'.length := by
      have hn0 : sh.length ≤ σ.sh.length := hs1.n0
      rw [← hsh']
      split
      · exact ⟨Nat.le_refl _, fun _ => rfl, hn0⟩
      · rename_i hk
        refine ⟨by simp; omega, fun h => absurd h hk, by simp; omega⟩
    have hshget : ∀ (i : Nat) (cells : List AV), sh'[i]? = some cells → σ.sh[i]? = some cells := by
      intro i cells hi
      rw [← hsh'] at hi
      split at hi
      · exact hi
      · rw [List.getElem?_take] at hi
        split at hi
        · exact hi
        · cases hi
    obtain ⟨us, hu1, hu2, hu3⟩ := results_sound hs1 hshl.1 hshl.2.1 hres hxs hall
    have hrun := results_run (fn := fn) hu1
    have hm1 : ∀ b m, SS E g1 w1 b m → S1 S0 w w1 g1.β sh'.length b m := by
      intro b m hS
      have hnb : ∀ i, i < sh'.length → g1.β i ≠ b := fun i hi => SS.nshr hs1 hS (by have := hshl.1; omega)
      rcases hS with ⟨_, h⟩ | ⟨h1, h2, _⟩
      · exact .inl h
      · exact .inr ⟨h1, h2, hnb⟩
    have hfin : ∃ v β', Ending.returned (packV us) = Ending.returned v ∧ After S0 β w sh sh' r v β' w1 := by
      refine ⟨_, g1.β, rfl, fun i hi => ?_, hshl.2.2, ⟨fun i j hi hj he => ?_, fun i cells hi => ?_, fun b m hS => ?_⟩, ?_, hs1.os, hs1.tape, hs1.output, hs1.hsize, fun b hb hnb => hs1.frame b hb hnb, fun i h1 h2 => ?_⟩
      · have hil : i < σ.sh.length := by have := hs1.n0; have : E.n0 = sh.length := rfl; omega
        exact (hs1.shr i _ (List.getElem?_eq_getElem hil)).2.2.1 hi
      · have h1 := (hs1.shr i _ (List.getElem?_eq_getElem (by have := hshl.1; omega))).1
        have h2 := (hs1.shr j _ (List.getElem?_eq_getElem (by have := hshl.1; omega))).1
        rw [he, h2] at h1
        cases h1; rfl
      · obtain ⟨_, ⟨ar, tt, f1, f2⟩, _, _⟩ := hs1.shr i cells (hshget i cells hi)
        exact ⟨ar, tt, f1, f2.mono (RepF.mono fun b m hS => ⟨hm1 b m hS, rfl⟩)⟩
      · rcases hS with hS | ⟨h1, h2, h3⟩
        · refine ⟨Nat.lt_of_lt_of_le (e3 b m hS).1 hs1.hsize, fun i hi hb => ?_⟩
          obtain ⟨_, _, f3, f4⟩ := hs1.shr i _ (List.getElem?_eq_getElem (by have := hshl.1; omega))
          rcases Nat.lt_or_ge i sh.length with hn | hn
          · exact (e3 b m hS).2 i hn (by have h7 : g1.β i = β i := f3 hn; rw [← h7]; exact hb)
          · have h5 := f4 hn
            have h6 := (e3 b m hS).1
            have : E.w0 = w := rfl
            rw [this] at h5
            omega
        · exact ⟨h2, h3⟩
      · rw [← hr]
        match xs, us, hu2, hu3 with
        | [x], [v], hu2, hu3 => exact RepE.topT (hu3 x (by simp)) hu2.1
        | [], [], hu2, _ => exact ⟨#[], rfl, trivial⟩
        | x :: y :: xs, v :: u :: us, hu2, _ => exact ⟨(v :: u :: us).toArray, rfl, hu2⟩
        | [], _ :: _, hu2, _ => simp [RepL] at hu2
        | _ :: _, [], hu2, _ => simp [RepL] at hu2
        | [_], _ :: _ :: _, hu2, _ => simp [RepL] at hu2
        | _ :: _ :: _, [_], hu2, _ => simp [RepL] at hu2
      · exact (hs1.shr i _ (List.getElem?_eq_getElem (by have := hshl.1; omega))).2.2.2 h1
    cases e with
    | norm => exact ⟨hs1.defers, _, hrun, hfin⟩
    | ret => exact ⟨hs1.defers, _, hrun, hfin⟩
    | ex i => exact (hx i rfl).elim
  · cases h

theorem funs_sound (hmix : P.follows .mixedOrders = true) {B : Calls'} (hB : Good P B) {T : FuncId → Option AFun} (hT : ∀ f F, T f = some F → okFun P f F = true) : ∀ n, Good P (funA B T n)
  | 0 => hB
  | n + 1 => by
    intro f args sh r sh' h
    simp only [funA] at h
    split at h
    · rename_i x hx
      simp only [Option.some.injEq] at h
      subst h
      exact hB f args sh r sh' hx
    · split at h
      · rename_i F hF
        exact fun_sound hmix (funs_sound hmix hB hT n) (hT f F hF) h
      · cases h
end
end Go.Av
