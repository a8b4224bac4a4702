/- A part of the proof: Av11. No conditions. -/
import Derived.Test.YtcoblmocoegckaaAv10
set_option linter.unusedSimpArgs false
set_option linter.unusedVariables false
namespace Go.Av
open Go.RowKit
section
variable {P : Program} {E : Env} {g g' : Gh} {σ σ1 : AS} {a : Act} {w w' : World} {o : Oper} {Q : Exit → Act → World → Prop}

open Classical in
theorem Sim.after (h : Sim E g σ a w) {sh' : List (List AV)} {r : AV} {v : Value} {β' : Nat → Nat} (ha : After (SS E g w) g.β w σ.sh sh' r v β' w') :
    ∃ g', Sim E g' { σ with sh := sh' } a w' ∧ RepT (cx E g' { σ with sh := sh' } w') noOwn r v := by
  obtain ⟨a1, a2, ⟨e1, e2, e3⟩, a3, hos, htape, hout, hsz, hfr, hnew⟩ := ha
  let kd' : Nat → BK := fun b => if b < w.heap.size then g.kd b else if h : ∃ i, i < sh'.length ∧ β' i = b then .shr h.choose else .stab
  let g' : Gh := { β := β', lam := g.lam, kd := kd' }
  have hold : ∀ b, b < w.heap.size → g'.kd b = g.kd b := fun b hb => by simp [g', kd', hb]
  have hm : ∀ b n, SS E g w b n → SS E g' w' b n ∧ w'.cell? ⟨b, n, none⟩ = w.cell? ⟨b, n, none⟩ := by
    intro b n hs
    have hlt := SS.lt h hs
    refine ⟨?_, by simp [World.cell?, hfr b hlt (fun i hi => SS.nshr h hs hi)]⟩
    rcases hs with hs | ⟨h1, h2, h3⟩
    · exact .inl hs
    · exact .inr ⟨h1, by omega, by rw [hold b hlt]; exact h3⟩
  have hm1 : ∀ b n, S1 (SS E g w) w w' β' sh'.length b n → SS E g' w' b n := by
    rintro b n (hs | ⟨h1, h2, h3⟩)
    · exact (hm b n hs).1
    · refine .inr ⟨Nat.le_trans h.hsize h1, h2, .inl ?_⟩
      show (if b < w.heap.size then g.kd b else if h : ∃ i, i < sh'.length ∧ β' i = b then BK.shr h.choose else .stab) = .stab
      rw [if_neg (by omega), dif_neg (by rintro ⟨i, hi, hb⟩; exact h3 i hi hb)]
  have hnb : ∀ b, b < w.heap.size → (∀ i, g.kd b ≠ .shr i) → w'.heap[b]? = w.heap[b]? := by
    intro b hb hk
    refine hfr b hb fun i hi e => ?_
    have := (h.shr i _ (List.getElem?_eq_getElem hi)).1
    rw [e] at this
    exact hk i this
  refine ⟨g', { h with os := hos.trans h.os, tape := htape.trans h.tape, output := hout.trans h.output, hsize := Nat.le_trans h.hsize hsz, n0 := Nat.le_trans h.n0 a2, slots := ?_, shr := ?_, loc := ?_, frame := ?_ }, ?_⟩
  · intro t
    refine RepT.mono (c := cx E g σ w) (c' := cx E g' { σ with sh := sh' } w') (ow' := OwnAt E g' w' t) hm a2 (fun i hi => a1 i hi) (fun s hs => ⟨hs, rfl⟩) _ _ ?_ (h.slots t)
    rintro z l hx ⟨A, c, f1, f2⟩
    refine ⟨A, c, f1, ?_⟩
    rcases f2 with f2 | ⟨b, ar, tt, f3, f4, f5, f6, f7⟩
    · exact .inl f2
    · have hb := lt_of_some f4
      refine .inr ⟨b, ar, tt, f3, ?_, f5, by rw [hold b hb]; exact f6, f7⟩
      rw [hnb b hb (fun i e => by rw [f6] at e; cases e)]; exact f4
  · intro i cells hi
    have hil : i < sh'.length := (List.getElem?_eq_some_iff.1 hi).1
    obtain ⟨ar, tt, f1, f2⟩ := e2 i cells hi
    have hO : Obj' (SS E g' w') w' (β' i) cells := ⟨ar, tt, f1, f2.mono (RepF.mono fun b n hs => ⟨hm1 b n hs, rfl⟩)⟩
    rcases Nat.lt_or_ge i σ.sh.length with hlt | hge
    · obtain ⟨f3, f4, f5, f6⟩ := h.shr i _ (List.getElem?_eq_getElem hlt)
      have hb := f4.lt
      show g'.kd (β' i) = _ ∧ Obj' (SS E g' w') w' (β' i) cells ∧ _
      refine ⟨?_, hO, fun hn => ?_, fun hn => ?_⟩
      · rw [a1 i hlt, hold _ hb]; exact f3
      · show β' i = _
        rw [a1 i hlt]; exact f5 hn
      · show _ ≤ β' i
        rw [a1 i hlt]; exact f6 hn
    · have hbi := hnew i hge hil
      refine ⟨?_, hO, fun hn => ?_, fun hn => Nat.le_trans h.hsize hbi⟩
      · show (if β' i < w.heap.size then g.kd (β' i) else if h : ∃ j, j < sh'.length ∧ β' j = β' i then BK.shr h.choose else .stab) = .shr i
        have hex : ∃ j, j < sh'.length ∧ β' j = β' i := ⟨i, hil, rfl⟩
        rw [if_neg (by omega), dif_pos hex]
        rw [e1 _ _ hex.choose_spec.1 hil hex.choose_spec.2]
      · have := h.n0; omega
  · intro s cells hs
    obtain ⟨f1, f2, ⟨ar, tt, f3, f4⟩⟩ := h.loc s cells hs
    have hb := lt_of_some f3
    refine ⟨by rw [show g'.lam s = g.lam s from rfl, hold _ hb]; exact f1, f2, ar, tt, ?_, f4.mono (RepF.mono hm)⟩
    show w'.heap[g.lam s]? = _
    rw [hnb _ hb (fun i e => by rw [f1] at e; cases e)]; exact f3
  · intro b h1 h2
    rw [hfr b (Nat.lt_of_lt_of_le h1 h.hsize) fun i hi e => ?_]
    · exact h.frame b h1 h2
    · obtain ⟨_, _, f3, f4⟩ := h.shr i _ (List.getElem?_eq_getElem hi)
      rcases Nat.lt_or_ge i E.n0 with hn | hn
      · exact h2 i hn (by rw [← f3 hn]; exact e)
      · have := f4 hn; omega
  · exact RepT.mono (c := cx0 β' (S1 (SS E g w) w w' β' sh'.length) w' sh'.length) (c' := cx E g' { σ with sh := sh' } w') (fun b n hs => ⟨hm1 b n hs, rfl⟩) (Nat.le_refl _) (fun _ _ => rfl) (fun s hs => hs.elim) _ _ (fun _ _ _ h => h) a3

theorem Sim.afterP (h : Sim E g σ a w) {r : AV} {v : Value} {β' : Nat → Nat} (ha : After (SS E g w) g.β w [] [] r v β' w') :
    ∃ g', Sim E g' σ a w' ∧ RepT (cx E g' σ w') noOwn r v := by
  obtain ⟨_, _, _, a3, hos, htape, hout, hsz, hfr, _⟩ := ha
  have hb : ∀ b, b < w.heap.size → w'.heap[b]? = w.heap[b]? := fun b hb => hfr b hb (fun i hi => by simp at hi)
  let g' : Gh := { g with kd := fun b => if b < w.heap.size then g.kd b else .stab }
  have hs := h.world (g' := g') (w' := w') hos htape hout hsz hb (fun b hb => by simp [g', hb]) rfl rfl
  refine ⟨g', hs, ?_⟩
  refine RepT.mono (c := cx0 β' (S1 (SS E g w) w w' β' 0) w' 0) (c' := cx E g' σ w') (fun b n hs => ⟨?_, rfl⟩) (Nat.zero_le _) (fun i hi => by simp [cx0] at hi) (fun s hs => hs.elim) _ _ (fun _ _ _ h => h) a3
  rcases hs with hs | ⟨h1, h2, _⟩
  · have hlt := SS.lt h hs
    rcases hs with hs | ⟨h1, h2, h3⟩
    · exact .inl hs
    · exact .inr ⟨h1, by omega, by simp only [g']; rw [if_pos hlt]; exact h3⟩
  · exact .inr ⟨Nat.le_trans h.hsize h1, h2, .inl (by simp only [g']; rw [if_neg (by omega)])⟩

theorem argB_rep {p : Bool} {n : Nat} (hn : p = true → n = σ.sh.length) {ow : Value → Nat → Nat → Prop} {x : AV} {v : Value} (hb : argB p x = true) (r : RepT (cx E g σ w) ow x v) :
    RepT (cx0 g.β (SS E g w) w n) noOwn (strV x) v := by
  have r' : RepT (cx E g σ w) noOwn (strV x) v := r.str
  have hE : ∀ (y : AV) (u : Value), capB p y = true → RepE (cx E g σ w) y u → RepE (cx0 g.β (SS E g w) w n) y u := by
    intro y u hy hr
    cases y <;> simp [capB, flatB] at hy <;> first | exact hr | skip
    rw [hn hy]; exact hr
  cases x with
  | loc => simp [argB] at hb
  | tup => simp [argB] at hb
  | ptr s off =>
    have : p = true := by simpa [argB] using hb
    rw [hn this]; exact r'
  | fn f caps =>
    obtain ⟨cv, h1, h2⟩ := r'
    refine ⟨cv, h1, ?_⟩
    simp only [argB, List.all_eq_true] at hb
    generalize cv.toList = vs at h2
    clear h1 r
    induction caps generalizing vs with
    | nil => cases vs with
      | nil => trivial
      | cons => simp [RepL] at h2
    | cons c caps ih => cases vs with
      | nil => simp [RepL] at h2
      | cons u vs => exact ⟨hE _ _ (hb c (by simp)) h2.1, ih (fun y hy => hb y (by simp [hy])) vs h2.2⟩
  | sl m z l => cases m <;> exact r'
  | _ => exact r'

/-- The call itself: what the callee's contract gives. -/
theorem call_core (hs : Sim E g σ a w) (hd : ∀ d, o.dst = some d → d < E.nt) {G : Calls'} (hG : Good P G) {f : FuncId} {vs : Array Value} (hrun : Real P f → (execOp a.eval o).run P w = .ok (.enter f vs) w)
    {ml : ML} {xs : List AV} {m' : MV} {v : AV} (hc : callK G ml f xs (rdm σ ml) = some (v, m'))
    (hargs : ∀ p n, (p = true → n = σ.sh.length) → xs.all (argB p) = true → RepL (RepT (cx0 g.β (SS E g w) w n) noOwn) (xs.map strV) vs.toList)
    (hdv : ∀ c u, RepT c noOwn v u → demV v = v) :
    o.wp P a w (Post E (put (wrm σ m' ml) o.dst v)) Q := by
  unfold callK at hc
  split at hc
  · split at hc
    · rename_i hall
      obtain ⟨⟨r, sh'⟩, hr, he⟩ := Option.map_eq_some_iff.1 hc
      cases he
      obtain ⟨hreal, hsem⟩ := hG _ _ _ _ _ hr
      unfold Oper.wp
      rw [hrun hreal]
      refine Calls.mono (hsem g.β (SS E g w) w vs hs.ent (hargs true _ (fun _ => rfl) hall)) ?_
      rintro e w' ⟨u, β', rfl, haf⟩
      obtain ⟨g', h1, h2⟩ := hs.after haf
      show Post E _ (a.put o.dst u) w'
      cases hdd : o.dst with
      | none => exact ⟨g', h1⟩
      | some d => exact ⟨g', h1.put_ (hd d hdd) (h2.noown (hdv _ _ h2))⟩
    · cases hc
  · split at hc
    · rename_i hall
      obtain ⟨⟨r, sh'⟩, hr, he⟩ := Option.bind_eq_some_iff.1 hc
      split at he
      · rename_i hemp
        cases he
        have : sh' = [] := by simpa using hemp
        subst this
        obtain ⟨hreal, hsem⟩ := hG _ _ _ _ _ hr
        unfold Oper.wp
        rw [hrun hreal]
        have hent : EntOK [] g.β (SS E g w) w := ⟨fun i j hi => by simp at hi, fun i c hi => by simp at hi, fun b n hb => ⟨SS.lt hs hb, fun i hi => by simp at hi⟩⟩
        refine Calls.mono (hsem g.β (SS E g w) w vs hent (hargs false _ (fun h => by cases h) hall)) ?_
        rintro e w' ⟨u, β', rfl, haf⟩
        obtain ⟨g', h1, h2⟩ := hs.afterP haf
        show Post E _ (a.put o.dst u) w'
        cases hdd : o.dst with
        | none => exact ⟨g', h1⟩
        | some d => exact ⟨g', h1.put_ (hd d hdd) (h2.noown (hdv _ _ h2))⟩
      · cases he
    · cases hc
  · cases hc

theorem noOwn_dem {c : Cx} {x : AV} {v : Value} (r : RepT c noOwn x v) : demV x = x := by
  cases x with
  | sl m z l =>
    cases m <;> first | rfl | exact r.2.elim
  | _ => rfl

theorem args_rep (hs : Sim E g σ a w) {p : Bool} {n : Nat} (hn : p = true → n = σ.sh.length) : ∀ {xs : List Operand} {rs : List AR}, okRs xs rs = true → (rs.map (ev σ.fr)).all (argB p) = true →
    RepL (RepT (cx0 g.β (SS E g w) w n) noOwn) ((rs.map (ev σ.fr)).map strV) (xs.map a.eval)
  | [], rs, h, _ => by have := okRs0 h; subst this; trivial
  | x :: xs, rs, h, hall => by
    obtain ⟨r, rs', rfl, h1, h2⟩ := okRsc h
    simp only [List.map_cons, List.all_cons, Bool.and_eq_true] at hall
    obtain ⟨ow, h3, _⟩ := hs.rdT h1
    exact ⟨argB_rep hn hall.1 h3, args_rep hs hn h2 hall.2⟩

theorem callFunc_run {f : FuncId} (h : Real P f) (vs : Array Value) : (callFunc f vs).run P w = .ok (.enter f vs) w := by
  obtain ⟨fn, h1, h2, h3⟩ := h
  have h3' : ¬ fn.name = "runtime.NumGoroutine" := by simpa using h3
  simp [callFunc, program, Sem.run, h1, h3']
  intro hb
  rw [hb] at h2
  cases h2

theorem snd_call (hs : Sim E g σ a w) (hd : ∀ d, o.dst = some d → d < E.nt) {G : Calls'} (hG : Good P G) {f : FuncId} {xs : Array Operand} {ts : Array TypeId} {rs : List AR} (hop : o.op = .call { callee := .value (.func f), args := xs, argTypes := ts })
    (hr : okRs xs.toList rs = true) {ml : ML} {m' : MV} {v : AV} (hc : callK G ml f (rs.map (ev σ.fr)) (rdm σ ml) = some (v, m')) :
    o.wp P a w (Post E (put (wrm σ m' ml) o.dst v)) Q := by
  refine call_core hs hd hG (vs := xs.map a.eval) ?_ hc (fun p n hn hall => ?_) (fun c u => noOwn_dem)
  · intro hreal
    have := callFunc_run (P := P) (w := w) hreal (xs.map a.eval)
    simp [execOp, hop, resolve, Deferred.ofValue, Act.eval, invoke, this]
  · rw [Array.toList_map]; exact args_rep hs hn hr hall

theorem snd_callv (hs : Sim E g σ a w) (hd : ∀ d, o.dst = some d → d < E.nt) {G : Calls'} (hG : Good P G) {t : Tmp} {f : FuncId} {caps : List AV} {xs : Array Operand} {ts : Array TypeId} {r : AR} {rs : List AR} (hop : o.op = .call { callee := .value (.tmp t), args := xs, argTypes := ts })
    (hf : okR (.tmp t) r = true) (hr : okRs xs.toList rs = true) (he : ev σ.fr r = .fn f caps) {ml : ML} {m' : MV} {v : AV} (hc : callK G ml f (rs.map (ev σ.fr) ++ caps) (rdm σ ml) = some (v, m')) :
    o.wp P a w (Post E (put (wrm σ m' ml) o.dst v)) Q := by
  obtain ⟨cv, h1, h2⟩ := hs.rd hf he
  refine call_core hs hd hG (vs := xs.map a.eval ++ cv) ?_ hc (fun p n hn hall => ?_) (fun c u => noOwn_dem)
  · intro hreal
    have := callFunc_run (P := P) (w := w) hreal (xs.map a.eval ++ cv)
    simp [execOp, hop, resolve, Deferred.ofValue, h1, invoke, this]
  · rw [List.all_append, Bool.and_eq_true] at hall
    rw [List.map_append, Array.toList_append, Array.toList_map]
    refine (args_rep hs hn hr hall.1).append ?_
    have hall2 := hall.2
    generalize cv.toList = vs at h2
    clear h1 hc he hall hop
    induction caps generalizing vs with
    | nil => cases vs with
      | nil => trivial
      | cons => simp [RepL] at h2
    | cons c caps ih => cases vs with
      | nil => simp [RepL] at h2
      | cons u vs =>
        simp only [List.all_cons, Bool.and_eq_true] at hall2
        refine ⟨?_, ih hall2.2 vs h2.2⟩
        have hc := h2.1
        refine argB_rep hn (ow := noOwn) hall2.1 ?_
        cases c with
        | sl m z l =>
          have := RepF.top (c := cx E g σ w) (ow := noOwn) (x := .sl m z l) (v := u) (by cases m <;> exact hc)
          exact this.1
        | any => simp [RepE, RepF] at hc
        | undef => simp [RepE, RepF] at hc
        | loc => simp [RepE, RepF] at hc
        | ip => simp [RepE, RepF] at hc
        | fn => simp [RepE, RepF] at hc
        | tup => simp [RepE, RepF] at hc
        | _ => exact hc

end
end Go.Av
