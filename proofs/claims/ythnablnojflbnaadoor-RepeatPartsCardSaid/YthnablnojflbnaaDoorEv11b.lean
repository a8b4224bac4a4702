/- A part of the proof: Ev11b. No conditions. -/
import Derived.Test.YthnablnojflbnaaDoorEv11a
set_option linter.unusedSimpArgs false
set_option linter.unusedVariables false
namespace Go.Av
set_option linter.unusedSectionVars false
variable [Gtab]
open Go.RowKit
section
variable {P : Program} {E : Env} {g g' : Gh} {σ σ1 : AS} {a : Act} {w w' : World} {o : Oper} {Q : Exit → Act → World → Prop}

theorem argB_rep {p q : Bool} {n : Nat} (hn : p = true → n = σ.sh.length) {ow : Value → Nat → Nat → Prop} {x : AV} {v : Value} (hb : argB p x = true) (r : RepT (cx E g σ w) ow x v) :
    RepT (cx0 g.β g.bs (SS E g w) w n) noOwn (pv q x) v := by
  have r' : RepT (cx E g σ w) noOwn (pv q x) v := by
    cases q
    · exact r.str
    · exact r.dem
  have hE : ∀ (y : AV) (u : Value), capB p y = true → RepE (cx E g σ w) y u → RepE (cx0 g.β g.bs (SS E g w) w n) y u := by
    intro y u hy hr
    cases y <;> simp [capB, flatB] at hy <;> first | exact hr | skip
    all_goals (rw [hn hy]; exact hr)
  cases q <;> cases x with
  | loc => simp [argB] at hb
  | tup => simp [argB] at hb
  | mapv => simp [argB] at hb
  | ptr s off =>
    have : p = true := by simpa [argB] using hb
    rw [hn this]; exact r'
  | ss =>
    have : p = true := by simpa [argB] using hb
    rw [hn this]; exact r'
  | mp =>
    have : p = true := by simpa [argB] using hb
    rw [hn this]; exact r'
  | fn f caps =>
    obtain ⟨cv, h1, h2⟩ := r'
    refine ⟨cv, h1, ?_⟩
    simp only [argB, List.all_eq_true] at hb
    generalize cv.toList = vs at h2
    clear h1 r
    induction caps generalizing vs with
    | nil => cases vs with
      | nil => trivial
      | cons => simp [RepL] at h2
    | cons c caps ih => cases vs with
      | nil => simp [RepL] at h2
      | cons u vs => exact ⟨hE _ _ (hb c (by simp)) h2.1, ih (fun y hy => hb y (by simp [hy])) vs h2.2⟩
  | sl m z l => cases m <;> exact r'
  | aggR => simp [argB] at hb
  | _ => exact r'

theorem noOwn_dem {c : Cx} {x : AV} {v : Value} (r : RepT c noOwn x v) : demV x = x := by
  cases x with
  | sl m z l =>
    cases m <;> first | rfl | exact r.2.elim
  | _ => rfl

theorem entP {β bs : Nat → Nat} {S : Nat → Nat → Prop} (h : ∀ b n, S b n → b < w.heap.size) (hg : GlobOK S w) : EntOK [] (fun _ => .stab) β bs S (fun _ => none) w := by
  refine ⟨⟨fun i c hi => ?_, fun i hi => ?_⟩, fun b n hb => ⟨h b n hb, fun i hi => ?_, fun k hk => ?_⟩, fun b k hk => ?_, fun b t k hk => ?_, hg⟩
  · simp at hi
  · simp at hi
  · simp at hi
  · cases hk
  · cases hk
  · cases hk

/-- The call itself: what the callee's contract gives. -/
theorem call_core (hs : Sim E g σ a w) (hd : ∀ d, o.dst = some d → d < E.nt) {G : Calls'} (hG : Good P G) {f : FuncId} {vs : Array Value} (hrun : Real P f → (execOp a.eval o).run P w = .ok (.enter f vs) w) (hrunx : ∀ v w', (callFunc f vs).run P w = .ok (.value v) w' → (execOp a.eval o).run P w = .ok (.value v) w')
    {ml : ML} {xs : List AV} {m' : MV} {v : AV} (hc : callK G ml f xs (rdm σ ml) = some (v, m'))
    (hargs : ∀ p n, (p = true → n = σ.sh.length) → xs.all (argB p) = true → RepL (RepT (cx0 g.β g.bs (SS E g w) w n) noOwn) (xs.map (pv p)) vs.toList) :
    o.wp P a w (Post E (put (wrm σ m' ml) o.dst v)) Q := by
  unfold callK at hc
  split at hc
  · split at hc
    · rename_i hall
      obtain ⟨⟨r, sh'⟩, hr, he⟩ := Option.map_eq_some_iff.1 hc
      cases he
      have hfin : ∀ (u : Value) (w' : World) kd' β' bs', After (SS E g w) (oC g.kd w) g.β g.bs w σ.sh sh' r u kd' β' bs' w' → Post E (put (wrm σ ((rdm σ .sh).1, sh') .sh) o.dst r) (a.put o.dst u) w' := by
        intro u w' kd' β' bs' haf
        obtain ⟨g', h1, h2, _⟩ := hs.after haf
        show Post E _ (a.put o.dst u) w'
        cases hdd : o.dst with
        | none => exact ⟨g', h1⟩
        | some d => exact ⟨g', h1.put_ (hd d hdd) (h2.noown (noOwn_dem h2))⟩
      unfold Oper.wp
      rcases hG _ _ _ _ _ hr with ⟨hreal, hsem⟩ | hx
      · rw [hrun hreal]
        refine Calls.mono (hsem _ g.β g.bs (SS E g w) _ w vs hs.ent (hargs true _ (fun _ => rfl) hall)) ?_
        rintro e w' ⟨u, kd', β', bs', rfl, haf⟩
        exact hfin _ _ _ _ _ haf
      · obtain ⟨u, w', kd', β', bs', hrn, haf⟩ := hx _ g.β g.bs (SS E g w) _ w vs hs.ent (hargs true _ (fun _ => rfl) hall)
        rw [hrunx _ _ hrn]
        exact hfin _ _ _ _ _ haf
    · cases hc
  · split at hc
    · rename_i hall
      obtain ⟨⟨r, sh'⟩, hr, he⟩ := Option.bind_eq_some_iff.1 hc
      split at he
      · rename_i hemp
        cases he
        have : sh' = [] := by simpa using hemp
        subst this
        have hent := entP (w := w) (β := g.β) (bs := g.bs) (S := SS E g w) (fun b n hb => SS.lt hs hb) hs.globOK
        have hfin : ∀ (u : Value) (w' : World) kd' β' bs', After (SS E g w) (fun _ => none) g.β g.bs w [] [] r u kd' β' bs' w' → Post E (put (wrm σ (rdm σ .none) .none) o.dst r) (a.put o.dst u) w' := by
          intro u w' kd' β' bs' haf
          obtain ⟨g', h1, h2, h3⟩ := hs.afterP haf
          have hrep : RepT (cx E g' σ w') noOwn r u := by
            refine RepT.mono (c := cx0 β' bs' (S1 (SS E g w) w w' kd') w' 0) (c' := cx E g' σ w') ⟨fun b n hs => ⟨?_, rfl⟩, Nat.zero_le _, fun i hi => by simp [cx0] at hi, fun i hi => by simp [cx0] at hi, fun s hs => hs.elim⟩ _ _ (fun _ _ _ h => h) haf.rep
            rcases h3 b n hs with h4 | h4
            · exact (h2.cell b n h4).1
            · exact h4
          show Post E _ (a.put o.dst u) w'
          cases hdd : o.dst with
          | none => exact ⟨g', h1⟩
          | some d => exact ⟨g', h1.put_ (hd d hdd) (hrep.noown (noOwn_dem hrep))⟩
        unfold Oper.wp
        rcases hG _ _ _ _ _ hr with ⟨hreal, hsem⟩ | hx
        · rw [hrun hreal]
          refine Calls.mono (hsem _ g.β g.bs (SS E g w) _ w vs hent (hargs false _ (fun h => by cases h) hall)) ?_
          rintro e w' ⟨u, kd', β', bs', rfl, haf⟩
          exact hfin _ _ _ _ _ haf
        · obtain ⟨u, w', kd', β', bs', hrn, haf⟩ := hx _ g.β g.bs (SS E g w) _ w vs hent (hargs false _ (fun h => by cases h) hall)
          rw [hrunx _ _ hrn]
          exact hfin _ _ _ _ _ haf
      · cases he
    · cases hc
  · cases hc

theorem args_rep (hs : Sim E g σ a w) {p q : Bool} {n : Nat} (hn : p = true → n = σ.sh.length) : ∀ {xs : List Operand} {rs : List AR}, okRs xs rs = true → (rs.map (ev σ.fr)).all (argB p) = true →
    RepL (RepT (cx0 g.β g.bs (SS E g w) w n) noOwn) ((rs.map (ev σ.fr)).map (pv q)) (xs.map a.eval)
  | [], rs, h, _ => by have := okRs0 h; subst this; trivial
  | x :: xs, rs, h, hall => by
    obtain ⟨r, rs', rfl, h1, h2⟩ := okRsc h
    simp only [List.map_cons, List.all_cons, Bool.and_eq_true] at hall
    obtain ⟨ow, h3, _⟩ := hs.rdT h1
    exact ⟨argB_rep hn hall.1 h3, args_rep hs hn h2 hall.2⟩

theorem callFunc_run {f : FuncId} (h : Real P f) (vs : Array Value) : (callFunc f vs).run P w = .ok (.enter f vs) w := by
  obtain ⟨fn, h1, h2, h3⟩ := h
  have h3' : ¬ fn.name = "runtime.NumGoroutine" := by simpa using h3
  simp [callFunc, program, Sem.run, h1, h3']
  intro hb
  rw [hb] at h2
  cases h2

theorem caps_T {c : Cx} {x : AV} {u : Value} (hc : RepE c x u) : RepT c noOwn x u := by
  cases x with
  | sl m z l =>
    have := RepF.top (c := c) (ow := noOwn) (x := .sl m z l) (v := u) (by cases m <;> exact hc)
    exact this.1
  | any => simp [RepE, RepF] at hc
  | undef => simp [RepE, RepF] at hc
  | loc => simp [RepE, RepF] at hc
  | ip => simp [RepE, RepF] at hc
  | fn => simp [RepE, RepF] at hc
  | tup => simp [RepE, RepF] at hc
  | mapv => simp [RepE, RepF] at hc
  | aggR => simp [RepE, RepF] at hc
  | _ => exact hc

theorem caps_rep {p q : Bool} {n : Nat} (hn : p = true → n = σ.sh.length) : ∀ {caps : List AV} {vs : List Value}, RepL (RepE (cx E g σ w)) caps vs → caps.all (argB p) = true → RepL (RepT (cx0 g.β g.bs (SS E g w) w n) noOwn) (caps.map (pv q)) vs
  | [], [], _, _ => trivial
  | c :: caps, u :: vs, h, hall => by
    simp only [List.all_cons, Bool.and_eq_true] at hall
    exact ⟨argB_rep hn hall.1 (caps_T h.1), caps_rep hn h.2 hall.2⟩
  | [], _ :: _, h, _ => by simp [RepL] at h
  | _ :: _, [], h, _ => by simp [RepL] at h

theorem snd_call (hs : Sim E g σ a w) (hd : ∀ d, o.dst = some d → d < E.nt) {G : Calls'} (hG : Good P G) {f : FuncId} {xs : Array Operand} {ts : Array TypeId} {rs : List AR} (hop : o.op = .call { callee := .value (.func f), args := xs, argTypes := ts })
    (hr : okRs xs.toList rs = true) {ml : ML} {m' : MV} {v : AV} (hc : callK G ml f (rs.map (ev σ.fr)) (rdm σ ml) = some (v, m')) :
    o.wp P a w (Post E (put (wrm σ m' ml) o.dst v)) Q := by
  refine call_core hs hd hG (vs := xs.map a.eval) ?_ (fun v w' h => by simp [execOp, hop, resolve, Deferred.ofValue, Act.eval, invoke, h]) hc (fun p n hn hall => ?_)
  · intro hreal
    have := callFunc_run (P := P) (w := w) hreal (xs.map a.eval)
    simp [execOp, hop, resolve, Deferred.ofValue, Act.eval, invoke, this]
  · rw [Array.toList_map]; exact args_rep hs hn hr hall

theorem snd_callv (hs : Sim E g σ a w) (hd : ∀ d, o.dst = some d → d < E.nt) {G : Calls'} (hG : Good P G) {t : Tmp} {f : FuncId} {caps : List AV} {xs : Array Operand} {ts : Array TypeId} {r : AR} {rs : List AR} (hop : o.op = .call { callee := .value (.tmp t), args := xs, argTypes := ts })
    (hf : okR (.tmp t) r = true) (hr : okRs xs.toList rs = true) (he : ev σ.fr r = .fn f caps) {ml : ML} {m' : MV} {v : AV} (hc : callK G ml f (rs.map (ev σ.fr) ++ caps) (rdm σ ml) = some (v, m')) :
    o.wp P a w (Post E (put (wrm σ m' ml) o.dst v)) Q := by
  obtain ⟨cv, h1, h2⟩ := hs.rd hf he
  refine call_core hs hd hG (vs := xs.map a.eval ++ cv) ?_ (fun v w' h => by simp [execOp, hop, resolve, Deferred.ofValue, h1, invoke, h]) hc (fun p n hn hall => ?_)
  · intro hreal
    have := callFunc_run (P := P) (w := w) hreal (xs.map a.eval ++ cv)
    simp [execOp, hop, resolve, Deferred.ofValue, h1, invoke, this]
  · rw [List.all_append, Bool.and_eq_true] at hall
    rw [List.map_append, Array.toList_append, Array.toList_map]
    exact (args_rep hs hn hr hall.1).append (caps_rep hn h2 hall.2)

/-! ### Calls that only read slices of shared objects -/
theorem RepL_drop_take {R : AV → Value → Prop} {cells : List AV} {arr : Array Value} (off m : Nat) (f : AV → AV) (hfit : off + m ≤ cells.length)
    (h : ∀ j x, j < m → cells[off + j]? = some x → ∃ u, arr[off + j]? = some u ∧ R (f x) u) : RepL R (((cells.drop off).take m).map f) ((arr.toList.drop off).take m) := by
  have hal : off + m ≤ arr.size ∨ m = 0 := by
    rcases Nat.eq_zero_or_pos m with h0 | h0
    · exact .inr h0
    · obtain ⟨u, h3, _⟩ := h (m - 1) _ (by omega) (List.getElem?_eq_getElem (by omega))
      have := (Array.getElem?_eq_some_iff.1 h3).1
      exact .inl (by omega)
  refine RepL.of_get (by simp; omega) fun j x u hx hu => ?_
  have hj : j < m := by
    have := (List.getElem?_eq_some_iff.1 hx).1
    simp at this; omega
  rw [List.getElem?_map, List.getElem?_take_of_lt hj, List.getElem?_drop] at hx
  rw [List.getElem?_take_of_lt hj, List.getElem?_drop] at hu
  obtain ⟨y, hy, rfl⟩ := Option.map_eq_some_iff.1 hx
  obtain ⟨u', h3, h4⟩ := h j y hj hy
  rw [Array.getElem?_toList, h3] at hu
  cases hu
  exact h4

/-- What a slice of an object reads as. -/
theorem rowsC_rep {c : Cx} {ow : Nat → Value → Nat → Nat → Prop} {b m off n z : Nat} {cells : List AV} {l : List (List AV)} {S' : Nat → Nat → Prop} (h : rowsC off n z cells = some l) (ho : ObjB c ow w b m cells)
    (hS : ∀ b' n, c.S b' n → S' b' n ∧ w.cell? ⟨b', n, none⟩ = c.w.cell? ⟨b', n, none⟩) (hb : ∀ n, S' b n) : 0 < z ∧ l.length = n ∧ (∀ e ∈ l, e.length = z) ∧ RepR S' w z l b off ∧
    ∃ vs : List Value, vs.length = n * z ∧ RepL (RepF S' w) l.flatten vs ∧ (∀ j v, vs[j]? = some v → w.cell? ⟨b, off + j, none⟩ = some v) := by
  unfold rowsC at h
  split at h
  · rename_i hc
    obtain ⟨h0, h1, h2⟩ := hc
    cases h
    obtain ⟨arr, ty, fz, e1, _, e2, e3⟩ := ho
    rw [List.all_eq_true] at h2
    have hrep : RepL (RepF S' w) (((cells.drop off).take (n * z)).map demV) ((arr.toList.drop off).take (n * z)) := by
      refine RepL_drop_take off (n * z) demV h1 fun j x hj hx => ?_
      obtain ⟨u, h3, h4⟩ := e3 _ x hx
      refine ⟨u, h3, RepF.mono hS _ _ (demF_rep (h2 x (List.mem_iff_getElem?.2 ⟨j, ?_⟩)) h4)⟩
      rw [List.getElem?_take_of_lt hj, List.getElem?_drop]; exact hx
    have hlen : (((cells.drop off).take (n * z)).map demV).length = n * z := by simp; omega
    obtain ⟨f1, f2, f3⟩ := rowsOf_flat z n _ hlen
    have hcell : ∀ j v, ((arr.toList.drop off).take (n * z))[j]? = some v → w.cell? ⟨b, off + j, none⟩ = some v := by
      intro j v hv
      rw [List.getElem?_take] at hv
      split at hv
      · rw [List.getElem?_drop] at hv
        simp [World.cell?, e1]; simpa using hv
      · cases hv
    have hlv : ((arr.toList.drop off).take (n * z)).length = n * z := by rw [hrep.length]; exact hlen
    refine ⟨h0, f3, f2, RepR_flat f2 (by rw [f1]; exact hrep) (fun j _ => hb _) hcell, _, hlv, by rw [f1]; exact hrep, hcell⟩
  · cases h

theorem snapV_rep (hs : Sim E g σ a w) {ow : Value → Nat → Nat → Prop} {x y : AV} {v : Value} (h : snapV σ.sh x = some y) (hb : argB false y = true) (r : RepT (cx E g σ w) ow x v) :
    RepT (cx0 g.β g.bs (fun b _ => b < w.heap.size) w 0) noOwn (strV y) v := by
  have hgen : ∀ {ow : Value → Nat → Nat → Prop} {x : AV} {v : Value}, argB false x = true → RepT (cx E g σ w) ow x v → RepT (cx0 g.β g.bs (fun b _ => b < w.heap.size) w 0) noOwn (strV x) v := by
    intro ow x v hb r
    have := argB_rep (q := false) (p := false) (n := 0) (fun h => by cases h) hb r
    exact RepT.mono (c := cx0 g.β g.bs (SS E g w) w 0) (c' := cx0 g.β g.bs (fun b _ => b < w.heap.size) w 0) ⟨fun b n h => ⟨SS.lt hs h, rfl⟩, Nat.le_refl _, fun _ _ => rfl, fun _ _ => rfl, fun s hs => hs.elim⟩ _ _ (fun _ _ _ h => h) this
  by_cases hss : ∃ so off n z, x = .ss so off n z
  · obtain ⟨so, off, n, z, rfl⟩ := hss
    simp only [snapV] at h
    obtain ⟨cells, h1, h2⟩ := Option.bind_eq_some_iff.1 h
    obtain ⟨l, h3, h4⟩ := Option.map_eq_some_iff.1 h2
    subst h4
    obtain ⟨e0, cp, rfl, e2, e3⟩ : so < σ.sh.length ∧ ∃ cp, v = .slice (some ⟨g.β so, off, none⟩) n cp ∧ n ≤ cp ∧ ssz off cp z (g.bs so) := r
    have hlt := hs.shrlt so e0
    show RepF (fun b _ => b < w.heap.size) w (.sl .no z l) _
    simp only [RepF]
    by_cases hn0 : n = 0
    · have hl : l.length = 0 := by
        unfold rowsC at h3
        split at h3
        · cases h3; subst hn0; simp [rowsOf]
        · cases h3
      have hl' := List.eq_nil_of_length_eq_zero hl
      exact ⟨_, cp, by rw [hl, hn0], by omega, by simp, by simp, .inl hl'⟩
    · have hd : cells ≠ dead ∧ blkB cells = true := by
        have hc : 0 < z ∧ off + n * z ≤ cells.length ∧ ((cells.drop off).take (n * z)).all (fun x => flatB (demV x)) = true := by
          unfold rowsC at h3
          split at h3
          · assumption
          · cases h3
        obtain ⟨hz, hlen, hall⟩ := hc
        have hpos : 0 < n * z := Nat.mul_pos (by omega) hz
        have key : ∀ y, cells = [y] → flatB (demV y) = true := by
          rintro y rfl
          have : off = 0 ∧ n * z = 1 := by simp at hlen; omega
          obtain ⟨rfl, h1⟩ := this
          rw [h1] at hall
          simpa using hall
        refine ⟨fun e => ?_, ?_⟩
        · have := key _ e; simp [demV, flatB] at this
        · unfold blkB
          split
          · have := key _ rfl; simp [demV, flatB] at this
          · have := key _ rfl; simp [demV, flatB] at this
          · rfl
      obtain ⟨_, hob, _⟩ := hs.shr so cells h1 hd.1
      obtain ⟨_, r1, r2, r3, _⟩ := rowsC_rep (S' := fun b _ => b < w.heap.size) h3 (hob hd.2) (fun b' n h => ⟨SS.lt hs h, rfl⟩) (fun _ => hlt)
      exact ⟨_, cp, by rw [r1], by rw [r1]; exact e2, by simp, by simp, .inr ⟨_, _, rfl, r3⟩⟩
  · have hxy : y = x := by
      unfold snapV at h
      split at h
      · rename_i so off n z
        exact absurd ⟨so, off, n, z, rfl⟩ hss
      · cases h; rfl
    subst hxy
    exact hgen hb r

theorem snapL_get {sh : List (List AV)} : ∀ {xs ys : List AV}, snapL sh xs = some ys → ys.length = xs.length ∧ ∀ (i : Nat) (x : AV), xs[i]? = some x → ∃ y, ys[i]? = some y ∧ snapV sh x = some y
  | [], ys, h => by simp only [snapL, Option.some.injEq] at h; subst h; exact ⟨rfl, fun i x hx => by simp at hx⟩
  | x :: xs, ys, h => by
    simp only [snapL] at h
    split at h
    · rename_i y ys' h1 h2
      cases h
      obtain ⟨h3, h4⟩ := snapL_get h2
      refine ⟨by simp [h3], fun i u hu => ?_⟩
      cases i with
      | zero => simp at hu; subst hu; exact ⟨y, rfl, h1⟩
      | succ i => simpa using h4 i u (by simpa using hu)
    · cases h

theorem scal_rep {c c' : Cx} {x : AV} {v : Value} (h : scalB x = true) (r : RepT c noOwn x v) : RepT c' noOwn x v ∧ demV x = x := by
  have key : ∀ (y : AV) (u : Value), scalarB y = true → RepE c y u → RepE c' y u := by
    intro y u hy hr
    cases y <;> simp [scalarB] at hy
    · exact hr
    · exact hr
    · exact hr
    · exact hr
  cases x with
  | tup l =>
    refine ⟨?_, rfl⟩
    obtain ⟨vs, h1, h2⟩ := r
    refine ⟨vs, h1, ?_⟩
    simp only [scalB, List.all_eq_true] at h
    generalize vs.toList = us at h2
    clear h1
    induction l generalizing us with
    | nil => cases us with
      | nil => trivial
      | cons => simp [RepL] at h2
    | cons x l ih => cases us with
      | nil => simp [RepL] at h2
      | cons u us => exact ⟨key _ _ (h x (by simp)) h2.1, ih (fun y hy => h y (by simp [hy])) us h2.2⟩
  | int => exact ⟨r, rfl⟩
  | bool => exact ⟨r, rfl⟩
  | str => exact ⟨r, rfl⟩
  | nilp => exact ⟨r, rfl⟩
  | _ => simp [scalB, scalarB] at h

theorem callR_core (hs : Sim E g σ a w) (hd : ∀ d, o.dst = some d → d < E.nt) {G : Calls'} (hG : Good P G) {f : FuncId} {vs : Array Value} (hrun : Real P f → (execOp a.eval o).run P w = .ok (.enter f vs) w) (hrunx : ∀ v w', (callFunc f vs).run P w = .ok (.value v) w' → (execOp a.eval o).run P w = .ok (.value v) w')
    {ml : ML} {xs : List AV} {m' : MV} {v : AV} (hc : callRK G ml f xs (rdm σ ml) = some (v, m'))
    (hlen : vs.size = xs.length) (hargs : ∀ (i : Nat) (x : AV) (u : Value), xs[i]? = some x → vs[i]? = some u → ∃ ow, RepT (cx E g σ w) ow x u) :
    o.wp P a w (Post E (put (wrm σ m' ml) o.dst v)) Q := by
  unfold callRK at hc
  split at hc
  · obtain ⟨ys, hys, hc⟩ := Option.bind_eq_some_iff.1 hc
    split at hc
    · rename_i hall
      obtain ⟨⟨r, sh'⟩, hr, he⟩ := Option.bind_eq_some_iff.1 hc
      split at he
      · rename_i hemp
        cases he
        rw [Bool.and_eq_true] at hemp
        have : sh' = [] := by simpa using hemp.1
        subst this
        have hent := entP (w := w) (β := g.β) (bs := g.bs) (S := fun b _ => b < w.heap.size) (fun b n hb => hb) hs.globOK'
        obtain ⟨l1, l2⟩ := snapL_get hys
        have hrep : RepL (RepT (cx0 g.β g.bs (fun b _ => b < w.heap.size) w 0) noOwn) (ys.map strV) vs.toList := by
          refine RepL.of_get (by simp; omega) fun i x u hx hu => ?_
          rw [List.getElem?_map] at hx
          obtain ⟨y, hy, rfl⟩ := Option.map_eq_some_iff.1 hx
          have hi : i < xs.length := by
            have := (List.getElem?_eq_some_iff.1 hy).1
            omega
          obtain ⟨y', h3, h4⟩ := l2 i _ (List.getElem?_eq_getElem hi)
          rw [hy] at h3; cases h3
          obtain ⟨ow, h5⟩ := hargs i _ u (List.getElem?_eq_getElem hi) (by simpa using hu)
          rw [List.all_eq_true] at hall
          exact snapV_rep hs h4 (hall y (List.mem_iff_getElem?.2 ⟨i, hy⟩)) h5
        have hfin : ∀ (u : Value) (w' : World) kd' β' bs', After (fun b _ => b < w.heap.size) (fun _ => none) g.β g.bs w [] [] r u kd' β' bs' w' → Post E (put (wrm σ (rdm σ .sh) .sh) o.dst r) (a.put o.dst u) w' := by
          intro u w' kd' β' bs' haf
          obtain ⟨g', h1, h2, h3⟩ := hs.afterP haf
          obtain ⟨h4, h5⟩ := scal_rep (c' := cx E g' σ w') hemp.2 haf.rep
          show Post E _ (a.put o.dst u) w'
          cases hdd : o.dst with
          | none => exact ⟨g', h1⟩
          | some d => exact ⟨g', h1.put_ (hd d hdd) (h4.noown h5)⟩
        unfold Oper.wp
        rcases hG _ _ _ _ _ hr with ⟨hreal, hsem⟩ | hx
        · rw [hrun hreal]
          refine Calls.mono (hsem _ g.β g.bs _ _ w vs hent hrep) ?_
          rintro e w' ⟨u, kd', β', bs', rfl, haf⟩
          exact hfin _ _ _ _ _ haf
        · obtain ⟨u, w', kd', β', bs', hrn, haf⟩ := hx _ g.β g.bs _ _ w vs hent hrep
          rw [hrunx _ _ hrn]
          exact hfin _ _ _ _ _ haf
      · cases he
    · cases hc
  · cases hc

theorem okRs_get : ∀ {xs : List Operand} {rs : List AR}, okRs xs rs = true → xs.length = rs.length ∧ ∀ (i : Nat) (x : Operand) (r : AR), xs[i]? = some x → rs[i]? = some r → okR x r = true
  | [], rs, h => by have := okRs0 h; subst this; exact ⟨rfl, fun i x r hx => by simp at hx⟩
  | x :: xs, rs, h => by
    obtain ⟨r, rs', rfl, h1, h2⟩ := okRsc h
    obtain ⟨h3, h4⟩ := okRs_get h2
    refine ⟨by simp [h3], fun i y s hy hs => ?_⟩
    cases i with
    | zero => simp at hy hs; subst hy; subst hs; exact h1
    | succ i => exact h4 i y s (by simpa using hy) (by simpa using hs)

theorem snd_callR (hs : Sim E g σ a w) (hd : ∀ d, o.dst = some d → d < E.nt) {G : Calls'} (hG : Good P G) {f : FuncId} {xs : Array Operand} {ts : Array TypeId} {rs : List AR} (hop : o.op = .call { callee := .value (.func f), args := xs, argTypes := ts })
    (hr : okRs xs.toList rs = true) {ml : ML} {m' : MV} {v : AV} (hc : callRK G ml f (rs.map (ev σ.fr)) (rdm σ ml) = some (v, m')) :
    o.wp P a w (Post E (put (wrm σ m' ml) o.dst v)) Q := by
  obtain ⟨k1, k2⟩ := okRs_get hr
  refine callR_core hs hd hG (vs := xs.map a.eval) ?_ (fun v w' h => by simp [execOp, hop, resolve, Deferred.ofValue, Act.eval, invoke, h]) hc (by simp at k1 ⊢; omega) ?_
  · intro hreal
    have := callFunc_run (P := P) (w := w) hreal (xs.map a.eval)
    simp [execOp, hop, resolve, Deferred.ofValue, Act.eval, invoke, this]
  · intro i x u hx hu
    rw [List.getElem?_map] at hx
    obtain ⟨r, hr1, rfl⟩ := Option.map_eq_some_iff.1 hx
    rw [Array.getElem?_map] at hu
    obtain ⟨y, hy1, rfl⟩ := Option.map_eq_some_iff.1 hu
    obtain ⟨ow, h1, _⟩ := hs.rdT (k2 i y r (by simpa using hy1) hr1)
    exact ⟨ow, h1⟩

theorem snd_callvR (hs : Sim E g σ a w) (hd : ∀ d, o.dst = some d → d < E.nt) {G : Calls'} (hG : Good P G) {t : Tmp} {f : FuncId} {caps : List AV} {xs : Array Operand} {ts : Array TypeId} {r : AR} {rs : List AR} (hop : o.op = .call { callee := .value (.tmp t), args := xs, argTypes := ts })
    (hf : okR (.tmp t) r = true) (hr : okRs xs.toList rs = true) (he : ev σ.fr r = .fn f caps) {ml : ML} {m' : MV} {v : AV} (hc : callRK G ml f (rs.map (ev σ.fr) ++ caps) (rdm σ ml) = some (v, m')) :
    o.wp P a w (Post E (put (wrm σ m' ml) o.dst v)) Q := by
  obtain ⟨cv, h1, h2⟩ := hs.rd hf he
  obtain ⟨k1, k2⟩ := okRs_get hr
  have hcl := h2.length
  refine callR_core hs hd hG (vs := xs.map a.eval ++ cv) ?_ (fun v w' h => by simp [execOp, hop, resolve, Deferred.ofValue, h1, invoke, h]) hc (by simp at k1 hcl ⊢; omega) ?_
  · intro hreal
    have := callFunc_run (P := P) (w := w) hreal (xs.map a.eval ++ cv)
    simp [execOp, hop, resolve, Deferred.ofValue, h1, invoke, this]
  · intro i x u hx hu
    rw [List.getElem?_append] at hx
    rw [Array.getElem?_append] at hu
    split at hx
    · rename_i hi
      rw [if_pos (by simp at k1 hi ⊢; omega)] at hu
      rw [List.getElem?_map] at hx
      obtain ⟨r, hr1, rfl⟩ := Option.map_eq_some_iff.1 hx
      rw [Array.getElem?_map] at hu
      obtain ⟨y, hy1, rfl⟩ := Option.map_eq_some_iff.1 hu
      obtain ⟨ow, h1, _⟩ := hs.rdT (k2 i y r (by simpa using hy1) hr1)
      exact ⟨ow, h1⟩
    · rename_i hi
      rw [if_neg (by simp at k1 hi ⊢; omega)] at hu
      obtain ⟨u', h5, h6⟩ := h2.get hx
      have : (xs.map a.eval).size = (rs.map (ev σ.fr)).length := by simp at k1 ⊢; omega
      rw [this] at hu
      rw [Array.getElem?_toList] at h5
      rw [h5] at hu; cases hu
      exact ⟨noOwn, caps_T h6⟩
end
end Go.Av
