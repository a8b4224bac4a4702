/- A part of the proof: Ev4. No conditions. -/
import Derived.Test.YthnablnojflbnaaDoorEv3
import Derived.Laws.AppendOwn
import Derived.Laws.Append
set_option linter.unusedSimpArgs false
set_option linter.unusedVariables false
namespace Go.Av
set_option linter.unusedSectionVars false
variable [Gtab]
open Go.RowKit

def S1 (S0 : Nat → Nat → Prop) (w w' : World) (kd : Nat → BK) (b o : Nat) : Prop :=
  S0 b o ∨ (w.heap.size ≤ b ∧ b < w'.heap.size ∧ kd b = .stab) ∨ (b < w'.heap.size ∧ ∃ t k, kd b = .own t k ∧ o < k)

def cx0 (β bs : Nat → Nat) (S0 : Nat → Nat → Prop) (w : World) (n : Nat) : Cx :=
  { S := S0, w := w, β := β, bs := bs, lam := fun _ => 0, shn := n, live := fun _ => False }

/-- The shared objects and what their cells own. -/
def ShOK (sh : List (List AV)) (kd : Nat → BK) (β bs : Nat → Nat) (S : Nat → Nat → Prop) (w : World) : Prop :=
  (∀ i cells, sh[i]? = some cells → cells ≠ dead → kd (β i) = .shr i ∧ Obj' (cx0 β bs S w sh.length) (fun j => OwnAt kd w (.cell i j)) w (β i) (bs i) cells) ∧
  (∀ i, i < sh.length → β i < w.heap.size ∧ ∃ j, kd (β i) = .shr j)

/-- The tables stand where they were laid. -/
def GlobOK (S0 : Nat → Nat → Prop) (w : World) : Prop := ∀ i k l, Gtab.tab i = some (k, l) → RepC S0 w (l.map (AV.int k)) i 0
def EntOK (sh : List (List AV)) (kd : Nat → BK) (β bs : Nat → Nat) (S0 : Nat → Nat → Prop) (O0 : Nat → Option Nat) (w : World) : Prop :=
  ShOK sh kd β bs S0 w ∧
  (∀ b o, S0 b o → b < w.heap.size ∧ (∀ i, i < sh.length → β i ≠ b) ∧ ∀ k, O0 b = some k → o < k) ∧
  (∀ b k, O0 b = some k → b < w.heap.size ∧ (∀ i, i < sh.length → β i ≠ b) ∧ ∃ t k', kd b = .own t k' ∧ k ≤ k') ∧
  (∀ b t k, kd b = .own t k → b < w.heap.size → (O0 b).isSome = true) ∧ GlobOK S0 w

structure After (S0 : Nat → Nat → Prop) (O0 : Nat → Option Nat) (β bs : Nat → Nat) (w : World) (sh sh' : List (List AV)) (r : AV) (v : Value) (kd' : Nat → BK) (β' bs' : Nat → Nat) (w' : World) : Prop where
  same : ∀ i, i < sh.length → β' i = β i ∧ bs' i = bs i
  len : sh.length ≤ sh'.length
  shok : ShOK sh' kd' β' bs' (S1 S0 w w' kd') w'
  rep : RepT (cx0 β' bs' (S1 S0 w w' kd') w' sh'.length) noOwn r v
  os : w'.os = w.os
  tape : w'.tape = w.tape
  output : w'.output = w.output
  size : w.heap.size ≤ w'.heap.size
  frame : ∀ b, b < w.heap.size → (∀ i, i < sh.length → β i ≠ b) → O0 b = none → w'.heap[b]? = w.heap[b]?
  sframe : ∀ b o, S0 b o → w'.cell? ⟨b, o, none⟩ = w.cell? ⟨b, o, none⟩
  o0 : ∀ b k, O0 b = some k → ∃ t k', kd' b = .own t k' ∧ k ≤ k'
  own0 : ∀ b t k, kd' b = .own t k → w.heap.size ≤ b ∨ (O0 b).isSome = true
  new : ∀ i, sh.length ≤ i → i < sh'.length → w.heap.size ≤ β' i ∨ ∃ j, j < sh.length ∧ β j = β' i ∧ sh[j]? ≠ some dead ∧ sh'[j]? = some dead
  deads : ∀ i : Nat, sh[i]? = some dead → sh'[i]? = some dead

/-- The model's call gives a value that the abstract result describes; what was there before is as it was, but for the shared objects. -/
def SemCall (P : Program) (f : FuncId) (args : List AV) (sh : List (List AV)) (r : AV) (sh' : List (List AV)) : Prop :=
  ∀ (kd : Nat → BK) (β bs : Nat → Nat) (S0 : Nat → Nat → Prop) (O0 : Nat → Option Nat) (w : World) (vs : Array Value), EntOK sh kd β bs S0 O0 w →
    RepL (RepT (cx0 β bs S0 w sh.length) noOwn) args vs.toList →
    Calls P f vs w fun e w' => ∃ v kd' β' bs', e = .returned v ∧ After S0 O0 β bs w sh sh' r v kd' β' bs' w'

def Real (P : Program) (f : FuncId) : Prop := ∃ fn, P.funcs[f]? = some fn ∧ fn.body.isSome = true ∧ (fn.name == "runtime.NumGoroutine") = false

/-- The same of a function without a body, of which the model gives the value at once. -/
def SemX (P : Program) (f : FuncId) (args : List AV) (sh : List (List AV)) (r : AV) (sh' : List (List AV)) : Prop :=
  ∀ (kd : Nat → BK) (β bs : Nat → Nat) (S0 : Nat → Nat → Prop) (O0 : Nat → Option Nat) (w : World) (vs : Array Value), EntOK sh kd β bs S0 O0 w →
    RepL (RepT (cx0 β bs S0 w sh.length) noOwn) args vs.toList →
    ∃ v w' kd' β' bs', (callFunc f vs).run P w = .ok (.value v) w' ∧ After S0 O0 β bs w sh sh' r v kd' β' bs' w'

def Good (P : Program) (G : Calls') : Prop := ∀ f args sh r sh', G f args sh = some (r, sh') → (Real P f ∧ SemCall P f args sh r sh') ∨ SemX P f args sh r sh'

def Post (E : Env) (σ : AS) : Act → World → Prop := fun a w => ∃ g, Sim E g σ a w

section
variable {P : Program} {E : Env} {g g' : Gh} {σ σ1 : AS} {a : Act} {w w' : World} {o : Oper} {Q : Exit → Act → World → Prop}

theorem SS.nshr (h : Sim E g σ a w) {b n : Nat} (hs : SS E g w b n) {i : Nat} (hi : i < σ.sh.length) : g.β i ≠ b := by
  rintro rfl
  obtain ⟨j, hj⟩ := h.shrk i hi
  rcases hs with ⟨hb, hs⟩ | ⟨_, _, hk⟩ | ⟨_, _, _, hk, _⟩
  · rcases Nat.lt_or_ge i E.n0 with hn | hn
    · exact (h.s0 _ _ hs).2.1 i hn (h.shr0 i hn).1.symm
    · rcases h.shr1 i hi hn with h9 | ⟨j0, h9, h10, _⟩
      · omega
      · exact (h.s0 _ _ hs).2.1 j0 h9 h10
  · rw [hj] at hk; cases hk
  · rw [hj] at hk; cases hk

theorem SS.nloc (h : Sim E g σ a w) {b n : Nat} (hs : SS E g w b n) {s : Nat} {cells : List AV} (hi : σ.lo s = some cells) : g.lam s ≠ b := by
  obtain ⟨h1, h2, h3⟩ := h.loc s _ hi
  rintro rfl
  rcases hs with ⟨hb, hs⟩ | ⟨_, _, hk⟩ | ⟨_, _, _, hk, _⟩
  · omega
  · rw [h1] at hk; cases hk
  · rw [h1] at hk; cases hk

theorem SS.own (h : Sim E g σ a w) {b n : Nat} (hs : SS E g w b n) {t : Ow} {k : Nat} (hk : g.kd b = .own t k) : n < k := by
  rcases hs with ⟨hb, hs⟩ | ⟨_, _, hk'⟩ | ⟨_, t', k', hk', hn⟩
  · rcases h.own0 b t k hk with h1 | h1
    · omega
    · obtain ⟨k0, hk0⟩ := Option.isSome_iff_exists.1 h1
      obtain ⟨_, _, t1, k1, h2, h3⟩ := h.o0 b k0 hk0
      rw [hk] at h2; cases h2
      have := (h.s0 b n hs).2.2 k0 hk0
      omega
  · rw [hk] at hk'; cases hk'
  · rw [hk] at hk'; cases hk'; exact hn

/-- The location does not hold the block that it is said to own. -/
def freeAt (σ : AS) : Ow → Prop
  | .slot s => ∀ z l, σ.fr s ≠ .sl .own z l
  | .cell i j => ∀ cells z l, σ.sh[i]? = some cells → cells ≠ dead → cells[j]? ≠ some (.sl .own z l)

/-- An own block changes its owner, and may grow. -/
theorem Sim.turn (h : Sim E g σ a w) {b : Nat} {t t' : Ow} {k k' : Nat} {arr arr' : Array Value} {ty : TypeId} (hb : w.heap[b]? = some (.cells arr ty (0, 0))) (hk : g.kd b = .own t k)
    (hf : freeAt σ t) (hkk : k ≤ k') (hsame : ∀ j, j < k → arr'[j]? = arr[j]?) :
    Sim E { g with kd := upd g.kd b (.own t' k') } σ a (w.setRow b arr') ∧ Cx.le (cx E g σ w) (cx E { g with kd := upd g.kd b (.own t' k') } σ (w.setRow b arr')) := by
  have hother : ∀ b', b' ≠ b → (w.setRow b arr').heap[b']? = w.heap[b']? := fun b' hne => setRow_other w b b' _ hne
  have hsz : (w.setRow b arr').heap.size = w.heap.size := by simp [World.setRow]
  have hnew := setRow_heap w b arr arr' ty (0, 0) hb
  have hlt := lt_of_some hb
  have hm : ∀ b' n, SS E g w b' n → SS E { g with kd := upd g.kd b (.own t' k') } (w.setRow b arr') b' n ∧ (w.setRow b arr').cell? ⟨b', n, none⟩ = w.cell? ⟨b', n, none⟩ := by
    intro b' n hs
    by_cases he : b' = b
    · subst he
      have hn := SS.own h hs hk
      refine ⟨.inr (.inr ⟨by rw [hsz]; exact hlt, t', k', by simp [upd], by omega⟩), ?_⟩
      simp only [World.cell?, hnew, hb]
      simpa using hsame n hn
    · refine ⟨?_, by simp [World.cell?, hother b' he]⟩
      rcases hs with hs | ⟨h1, h2, h3⟩ | ⟨h1, t1, k1, h2, h3⟩
      · exact .inl hs
      · exact .inr (.inl ⟨h1, by rw [hsz]; exact h2, by simp only [upd]; rw [if_neg he]; exact h3⟩)
      · exact .inr (.inr ⟨by rw [hsz]; exact h1, t1, k1, by simp only [upd]; rw [if_neg he]; exact h2, h3⟩)
  have hle : Cx.le (cx E g σ w) (cx E { g with kd := upd g.kd b (.own t' k') } σ (w.setRow b arr')) := ⟨hm, Nat.le_refl _, fun _ _ => rfl, fun _ _ => rfl, fun s hs => ⟨hs, rfl⟩⟩
  have how : ∀ t1 v z n, t1 ≠ t → OwnAt g.kd w t1 v z n → OwnAt (upd g.kd b (.own t' k')) (w.setRow b arr') t1 v z n := by
    rintro t1 v z n hne ⟨A, c, e1, e2⟩
    refine ⟨A, c, e1, ?_⟩
    rcases e2 with e2 | ⟨b1, ar, tt, e3, e4, e5, e6⟩
    · exact .inl e2
    · have hb1 : b1 ≠ b := by
        rintro rfl
        rw [hk] at e6
        injection e6 with e6 _
        exact hne e6.symm
      exact .inr ⟨b1, ar, tt, e3, (hother b1 hb1).trans e4, e5, by simp only [upd]; rw [if_neg hb1]; exact e6⟩
  have hkd : ∀ b', b' ≠ b → upd g.kd b (.own t' k') b' = g.kd b' := fun b' hne => by simp [upd, hne]
  refine ⟨{ h with slots := ?_, shr := ?_, shrlt := ?_, shrk := ?_, loc := ?_, o0 := ?_, own0 := ?_, hsize := by rw [hsz]; exact h.hsize, frame := ?_, sframe := ?_ }, hle⟩
  · intro s
    refine RepT.mono hle _ _ (fun z l hx ho => how _ _ _ _ ?_ ho) (h.slots s)
    rintro rfl
    exact hf z l hx
  · intro i cells hi hd
    obtain ⟨j1, j2⟩ := h.shr i cells hi hd
    have hne : g.β i ≠ b := by intro e; rw [e, hk] at j1; cases j1
    refine ⟨(hkd _ hne).trans j1, j2.mono hle (hother _ hne) (fun j z l v hx ho => how _ _ _ _ ?_ ho)⟩
    rintro rfl
    exact hf cells z l hi hd hx
  · intro i hi; rw [hsz]; exact h.shrlt i hi
  · intro i hi
    obtain ⟨j, hj⟩ := h.shrk i hi
    have hne : g.β i ≠ b := by intro e; rw [e, hk] at hj; cases hj
    exact ⟨j, (hkd _ hne).trans hj⟩
  · intro s cells hs
    obtain ⟨j1, j2, j3⟩ := h.loc s cells hs
    have hne : g.lam s ≠ b := by intro e; rw [e, hk] at j1; cases j1
    exact ⟨(hkd _ hne).trans j1, j2, j3.mono hle (hother _ hne) (fun _ _ _ _ _ h => h)⟩
  · intro b' k0 hk0
    obtain ⟨j1, j2, t1, k1, j3, j4⟩ := h.o0 b' k0 hk0
    refine ⟨j1, j2, ?_⟩
    by_cases he : b' = b
    · subst he
      rw [hk] at j3; cases j3
      exact ⟨t', k', by simp [upd], by omega⟩
    · exact ⟨t1, k1, (hkd _ he).trans j3, j4⟩
  · intro b' t1 k1 hk1
    by_cases he : b' = b
    · subst he; exact h.own0 b' t k hk
    · have h9 : g.kd b' = .own t1 k1 := (hkd _ he).symm.trans hk1
      exact h.own0 b' t1 k1 h9
  · intro b' h1 h2 h3
    have hne : b' ≠ b := by
      rintro rfl
      rcases h.own0 _ t k hk with h4 | h4
      · omega
      · rw [h3] at h4; cases h4
    rw [hother b' hne]
    exact h.frame b' h1 h2 h3
  · intro b' n hs
    rw [← h.sframe b' n hs]
    exact (hm b' n (.inl ⟨(h.s0 b' n hs).1, hs⟩)).2

theorem setRow_self {b : Nat} {arr : Array Value} {ty : TypeId} {fz : Nat × Nat} (hb : w.heap[b]? = some (.cells arr ty fz)) : w.setRow b arr = w := by
  have h1 : (w.setRow b arr).heap = w.heap := by
    apply Array.ext_getElem?
    intro i
    by_cases he : i = b
    · subst he
      rw [setRow_heap w i arr arr ty fz hb, hb]
    · exact setRow_other w b i _ he
  cases w
  simp only [World.setRow] at h1 ⊢
  rw [h1]

/-- The end of every operation that gives a value. -/
theorem fin_val {x : AV} {val : Value} (hs : Sim E g' σ1 a w') (hrun : (execOp a.eval o).run P w = .ok (.value val) w')
    (hx : ∀ d, o.dst = some d → d < E.nt ∧ RepT (cx E g' σ1 w') (OwnAt g'.kd w' (.slot d)) x val) : o.wp P a w (Post E (put σ1 o.dst x)) Q := by
  unfold Oper.wp
  rw [hrun]
  show Post E (put σ1 o.dst x) (a.put o.dst val) w'
  cases hd : o.dst with
  | none => exact ⟨g', hs⟩
  | some d => exact ⟨g', hs.put_ (hx d hd).1 (hx d hd).2⟩

/-- Replacing the ghost's kind of a block that belongs to no one. -/
theorem okRs0 {rs : List AR} (h : okRs [] rs = true) : rs = [] := by
  cases rs with
  | nil => rfl
  | cons r rs => simp [okRs] at h
theorem okRsc {x : Operand} {xs : List Operand} {rs : List AR} (h : okRs (x :: xs) rs = true) : ∃ r rs', rs = r :: rs' ∧ okR x r = true ∧ okRs xs rs' = true := by
  cases rs with
  | nil => simp [okRs] at h
  | cons r rs => exact ⟨r, rs, rfl, by simpa [okRs] using h⟩
theorem okRs1 {x : Operand} {rs : List AR} (h : okRs [x] rs = true) : ∃ r, rs = [r] ∧ okR x r = true := by
  obtain ⟨r, rs', rfl, h1, h2⟩ := okRsc h
  cases okRs0 h2
  exact ⟨r, rfl, h1⟩
theorem okRs2 {x y : Operand} {rs : List AR} (h : okRs [x, y] rs = true) : ∃ r s, rs = [r, s] ∧ okR x r = true ∧ okR y s = true := by
  obtain ⟨r, rs', rfl, h1, h2⟩ := okRsc h
  obtain ⟨s, rfl, h3⟩ := okRs1 h2
  exact ⟨r, s, rfl, h1, h3⟩
theorem okRs3 {x y z : Operand} {rs : List AR} (h : okRs [x, y, z] rs = true) : ∃ r s t, rs = [r, s, t] ∧ okR x r = true ∧ okR y s = true ∧ okR z t = true := by
  obtain ⟨r, rs', rfl, h1, h2⟩ := okRsc h
  obtain ⟨s, t, rfl, h3, h4⟩ := okRs2 h2
  exact ⟨r, s, t, rfl, h1, h3, h4⟩

theorem RepF.top {c : Cx} {ow : Value → Nat → Nat → Prop} {x : AV} {v : Value} (h : RepF c.S c.w x v) : RepT c ow x v ∧ demV x = x ∧ flatB x = true ∧ v.cells = #[v] := by
  cases x with
  | int k n => simp only [RepF] at h; subst h; exact ⟨rfl, rfl, rfl, rfl⟩
  | bool b => simp only [RepF] at h; subst h; exact ⟨rfl, rfl, rfl, rfl⟩
  | str s =>
    have h0 := h
    simp only [RepF] at h
    obtain ⟨b, rfl, _⟩ := h
    exact ⟨h0, rfl, rfl, rfl⟩
  | nilp => simp only [RepF] at h; subst h; exact ⟨rfl, rfl, rfl, rfl⟩
  | sl m z l =>
    have h0 := h
    simp only [RepF] at h
    obtain ⟨A, cp, rfl, _, _, h6, _⟩ := h
    cases m with
    | own => exact absurd rfl h6
    | no => exact ⟨h0, rfl, rfl, rfl⟩
    | full => exact ⟨h0, rfl, rfl, rfl⟩
  | _ => simp [RepF] at h

/-- Reading an operand of a given abstract form. -/
theorem Sim.rd (h : Sim E g σ a w) {x : Operand} {r : AR} (ho : okR x r = true) {v : AV} (hv : ev σ.fr r = v) : RepT (cx E g σ w) noOwn (demV v) (a.eval x) := by
  rw [← hv]; exact h.ev_ ho

theorem Sim.rdT (h : Sim E g σ a w) {x : Operand} {r : AR} (ho : okR x r = true) : ∃ ow, RepT (cx E g σ w) ow (ev σ.fr r) (a.eval x) ∧ (∀ s, r = .t s → ow = OwnAt g.kd w (.slot s)) := by
  unfold okR at ho
  split at ho
  · exact ⟨noOwn, ⟨_, 0, rfl, h.tabR ho⟩, fun s hs => by cases hs⟩
  · simp at ho
    subst ho
    exact ⟨_, h.slots _, fun s hs => by cases hs; rfl⟩
  · exact ⟨noOwn, okV_rep ho, fun s hs => by cases hs⟩
  · simp at ho
    subst ho
    exact ⟨noOwn, ⟨#[], rfl, trivial⟩, fun s hs => by cases hs⟩
  · cases ho

theorem Sim.rdNat (h : Sim E g σ a w) {x : Operand} {r : AR} (ho : okR x r = true) {k : IntKind} {n : Int} (hv : ev σ.fr r = .int k n) : a.eval x = .int k n := by
  have := h.rd ho hv
  exact this
theorem Sim.rdBool (h : Sim E g σ a w) {x : Operand} {r : AR} (ho : okR x r = true) {b : Bool} (hv : ev σ.fr r = .bool b) : a.eval x = .bool b := by
  have := h.rd ho hv
  exact this
theorem Sim.rdStr (h : Sim E g σ a w) {x : Operand} {r : AR} (ho : okR x r = true) {s : List UInt8} (hv : ev σ.fr r = .str s) : ∃ b, a.eval x = .string b ∧ b.data.toList = s := by
  have := h.rd ho hv
  exact this
theorem Sim.rdSl (h : Sim E g σ a w) {x : Operand} {r : AR} (ho : okR x r = true) {m : Own} {z : Nat} {l : List (List AV)} (hv : ev σ.fr r = .sl m z l) :
    ∃ A c, a.eval x = .slice A l.length c ∧ l.length ≤ c ∧ (m = .full → c = l.length) ∧ (l = [] ∨ ∃ b o, A = some ⟨b, o, none⟩ ∧ RepR (SS E g w) w z l b o) := by
  have := h.rd ho hv
  cases m with
  | own =>
    simp only [demV, RepT, RepE, RepF] at this
    obtain ⟨A, c, h1, h2, _, _, h5⟩ := this
    exact ⟨A, c, h1, h2, by simp, h5⟩
  | no =>
    simp only [demV, RepT, RepE, RepF] at this
    obtain ⟨A, c, h1, h2, _, _, h5⟩ := this
    exact ⟨A, c, h1, h2, by simp, h5⟩
  | full =>
    simp only [demV, RepT, RepE, RepF] at this
    obtain ⟨A, c, h1, h2, h3, _, h5⟩ := this
    exact ⟨A, c, h1, h2, fun _ => h3 trivial, h5⟩

theorem flat_rep {c : Cx} {ow : Value → Nat → Nat → Prop} {x : AV} {v : Value} (hf : flatB (strV x) = true) (r : RepT c ow x v) : RepF c.S c.w (strV x) v ∧ v.cells = #[v] := by
  have r' : RepT c noOwn (strV x) v := r.str
  generalize strV x = y at hf r'
  cases y <;> simp [flatB] at hf
  · have : v = .int _ _ := r'
    subst this; exact ⟨r', rfl⟩
  · have : v = .bool _ := r'
    subst this; exact ⟨r', rfl⟩
  · obtain ⟨b, rfl, hb⟩ : ∃ b, v = .string b ∧ b.data.toList = _ := r'
    exact ⟨⟨b, rfl, hb⟩, rfl⟩
  · have : v = .pointer none := r'
    subst this; exact ⟨r', rfl⟩
  · rename_i m z l
    cases m
    · have h1 : RepF c.S c.w (.sl .no z l) v := r'
      refine ⟨h1, ?_⟩
      simp only [RepF] at h1
      obtain ⟨A, c, rfl, _⟩ := h1
      rfl
    · have h1 : RepF c.S c.w (.sl .full z l) v := r'
      refine ⟨h1, ?_⟩
      simp only [RepF] at h1
      obtain ⟨A, c, rfl, _⟩ := h1
      rfl
    · simp at hf

theorem cell_rep {c : Cx} {ow : Value → Nat → Nat → Prop} {x : AV} {v : Value} (hf : flatB (cellV x) = true) (r : RepT c ow x v) : RepF c.S c.w (cellV x) v ∧ v.cells = #[v] := by
  by_cases h : ∃ z, x = .sl .full z []
  · obtain ⟨z, rfl⟩ := h
    have h1 : RepF c.S c.w (.sl .full z []) v := r
    refine ⟨h1, ?_⟩
    simp only [RepF] at h1
    obtain ⟨A, c, rfl, _⟩ := h1
    rfl
  · have e : cellV x = strV x := by
      unfold cellV
      split
      · rename_i z
        exact absurd ⟨z, rfl⟩ h
      · rfl
    rw [e] at hf ⊢
    exact flat_rep hf r
/-- The cells that a value is stored as. -/
theorem cellsOfV_rep {c : Cx} {ow : Value → Nat → Nat → Prop} {n : Nat} {x : AV} {v : Value} {cs : List AV} (hc : cellsOfV n x = some cs) (r : RepT c ow x v) :
    RepL (RepF c.S c.w) cs v.cells.toList ∧ cs.length = n := by
  unfold cellsOfV at hc
  split at hc
  · split at hc
    · cases hc
      rename_i hl
      obtain ⟨vs, rfl, h2⟩ : ∃ vs, v = .agg vs ∧ RepL (RepF c.S c.w) _ vs.toList := r
      exact ⟨h2, hl⟩
    · cases hc
  · split at hc
    · cases hc
      rename_i hl
      obtain ⟨h1, h2⟩ := cell_rep hl.2 r
      rw [h2]
      exact ⟨⟨h1, trivial⟩, by simp [hl.1]⟩
    · cases hc

theorem demF_rep {c : Cx} {ow : Value → Nat → Nat → Prop} {x : AV} {v : Value} (hf : flatB (demV x) = true) (r : RepC' c ow x v) : RepF c.S c.w (demV x) v := by
  cases x with
  | sl m z l =>
    cases m with
    | own => exact r.1
    | no => exact r
    | full => exact r
  | int => exact r
  | bool => exact r
  | str => exact r
  | nilp => exact r
  | _ => simp [flatB, demV] at hf

/-- What a load gives. -/
theorem ldC_rep {c : Cx} {ow : Nat → Value → Nat → Nat → Prop} {agg : Bool} {off n : Nat} {cells : List AV} {v : AV} {arr : Array Value} (h : ldC agg off n cells = some v)
    (hr : ∀ (j : Nat) (x : AV), cells[j]? = some x → ∃ u, arr[j]? = some u ∧ RepC' c (ow j) x u) :
    demV v = v ∧ ((agg = true ∧ ∃ vs : List Value, vs.length = n ∧ (∀ j u, vs[j]? = some u → arr[off + j]? = some u) ∧ RepT c noOwn v (.agg vs.toArray)) ∨ (agg = false ∧ ∃ x, arr[off]? = some x ∧ RepT c noOwn v x)) := by
  unfold ldC at h
  split at h
  · rename_i ha
    split at h
    · rename_i hc
      cases h
      obtain ⟨h1, h2⟩ := hc
      refine ⟨rfl, .inl ⟨ha, ?_⟩⟩
      have hn : off + n ≤ cells.length ∨ n = 0 := by
        rw [List.length_take, List.length_drop] at h1; omega
      have hsub : ∀ j, j < n → ∃ x u, cells[off + j]? = some x ∧ arr[off + j]? = some u ∧ RepF c.S c.w (demV x) u := by
        intro j hj
        have hlt : off + j < cells.length := by omega
        obtain ⟨u, h3, h4⟩ := hr (off + j) _ (List.getElem?_eq_getElem hlt)
        refine ⟨_, u, List.getElem?_eq_getElem hlt, h3, demF_rep ?_ h4⟩
        rw [List.all_eq_true] at h2
        refine h2 _ (List.mem_iff_getElem?.2 ⟨j, ?_⟩)
        rw [List.getElem?_take_of_lt hj, List.getElem?_drop, List.getElem?_eq_getElem hlt]
      have hlen : n ≤ arr.size - off := by
        by_cases h0 : n = 0
        · omega
        · obtain ⟨_, u, _, h3, _⟩ := hsub (n - 1) (by omega)
          have := (Array.getElem?_eq_some_iff.1 h3).1
          omega
      refine ⟨(arr.toList.drop off).take n, by simp; omega, ?_, _, rfl, ?_⟩
      · intro j u hu
        rw [List.getElem?_take] at hu
        split at hu
        · rw [List.getElem?_drop] at hu; simpa using hu
        · cases hu
      · have key : ∀ (l : List AV) (vs : List Value), l.length = vs.length → (∀ (j : Nat) (x : AV) (u : Value), l[j]? = some x → vs[j]? = some u → RepF c.S c.w x u) → RepL (RepF c.S c.w) l vs := by
          intro l
          induction l with
          | nil => intro vs h1 _; cases vs with
            | nil => trivial
            | cons => simp at h1
          | cons x l ih => intro vs h1 h2; cases vs with
            | nil => simp at h1
            | cons u vs => exact ⟨h2 0 x u rfl rfl, ih vs (by simpa using h1) fun j y w h3 h4 => h2 (j + 1) y w (by simpa using h3) (by simpa using h4)⟩
        refine key _ _ (by simp [h1]; omega) ?_
        intro j x u hx hu
        have hj : j < n := by
          have := (List.getElem?_eq_some_iff.1 hx).1
          rw [List.length_map, h1] at this; exact this
        obtain ⟨y, u', h3, h4, h5⟩ := hsub j hj
        rw [List.getElem?_map, List.getElem?_take_of_lt hj, List.getElem?_drop, h3] at hx
        simp only [Option.map_some, Option.some.injEq] at hx
        subst hx
        have : arr[off + j]? = some u := by
          rw [List.getElem?_take_of_lt hj, List.getElem?_drop] at hu
          simpa using hu
        rw [h4] at this; cases this
        exact h5
    · cases h
  · rename_i ha
    split at h
    · rename_i x hx
      obtain ⟨u, h3, h4⟩ := hr off x hx
      have ha' : agg = false := by simpa using ha
      unfold ldV at h
      split at h
      · cases h
      · cases h
      · cases h
        exact ⟨rfl, .inr ⟨ha', u, h3, h4.1⟩⟩
      · rename_i hne1 hne2 hne3
        simp only [Option.some.injEq] at h
        subst h
        refine ⟨?_, .inr ⟨ha', u, h3, ?_⟩⟩
        · cases x with
          | sl m z l => cases m <;> first | rfl | exact absurd rfl (hne3 _ _)
          | _ => rfl
        · cases x with
          | sl m z l => cases m <;> first | exact h4 | exact absurd rfl (hne3 _ _)
          | undef => exact absurd rfl hne2
          | mapv => exact absurd rfl (hne1 _)
          | any => trivial
          | loc => simp [RepC', RepE, RepF] at h4
          | ip => simp [RepC', RepE, RepF] at h4
          | fn => simp [RepC', RepE, RepF] at h4
          | tup => simp [RepC', RepE, RepF] at h4
          | aggR => simp [RepC', RepE, RepF] at h4
          | _ => exact h4
    · cases h

theorem repF_one {c : Cx} {x : AV} {v : Value} (h1 : RepF c.S c.w x v) : v.oneCell' = true ∧ RepC' c noOwn x v := by
  cases x with
  | int k n => have h0 := h1; simp only [RepF] at h1; subst h1; exact ⟨rfl, h0⟩
  | bool b => have h0 := h1; simp only [RepF] at h1; subst h1; exact ⟨rfl, h0⟩
  | str s => have h0 := h1; simp only [RepF] at h1; obtain ⟨b, rfl, _⟩ := h1; exact ⟨rfl, h0⟩
  | nilp => have h0 := h1; simp only [RepF] at h1; subst h1; exact ⟨rfl, h0⟩
  | sl m z l =>
    have h0 := h1
    simp only [RepF] at h1
    obtain ⟨A, cp, rfl, _, _, h6, _⟩ := h1
    cases m with
    | own => exact absurd rfl h6
    | no => exact ⟨rfl, h0⟩
    | full => exact ⟨rfl, h0⟩
  | _ => simp [RepF] at h1

/-- The cells of an object that a value is stored as. -/
theorem cellsOfO_rep {c : Cx} {ow : Value → Nat → Nat → Prop} {n : Nat} {x : AV} {v : Value} {cs : List AV} (hc : cellsOfO n x = some cs) (r : RepT c ow x v) :
    cs.length = n ∧ v.cells.size = n ∧ (∀ u ∈ v.cells.toList, u.oneCell' = true) ∧ ∀ (j : Nat) (y : AV), cs[j]? = some y → ∃ u, v.cells[j]? = some u ∧ RepC' c noOwn y u := by
  unfold cellsOfO at hc
  split at hc
  · split at hc
    · cases hc
      rename_i l hl
      obtain ⟨vs, rfl, h2⟩ : ∃ vs, v = .agg vs ∧ RepL (RepF c.S c.w) _ vs.toList := r
      have hlen := h2.length
      simp only [Array.length_toList] at hlen
      refine ⟨hl, by show vs.size = n; omega, fun u hu => ?_, fun j y hy => ?_⟩
      · obtain ⟨j, hj⟩ := List.mem_iff_getElem?.1 hu
        obtain ⟨y, _, h4⟩ := h2.getv hj
        exact (repF_one h4).1
      · obtain ⟨u, h3, h4⟩ := h2.get hy
        exact ⟨u, by simpa [Value.cells] using h3, (repF_one h4).2⟩
    · cases hc
  · split at hc
    · cases hc
      rename_i l hl
      obtain ⟨hl, hall⟩ := hl
      obtain ⟨vs, rfl, h2⟩ : ∃ vs, v = .agg vs ∧ RepL (RepC' c noOwn) _ vs.toList := r
      have hlen := h2.length
      simp only [Array.length_toList] at hlen
      have one : ∀ (y : AV) (u : Value), frB y = true → RepC' c noOwn y u → u.oneCell' = true := by
        intro y u hf hr
        cases y with
        | int k n => have : u = .int k n := hr; subst this; rfl
        | bool b => have : u = .bool b := hr; subst this; rfl
        | str s => obtain ⟨b, rfl, _⟩ : ∃ b, u = .string b ∧ b.data.toList = s := hr; rfl
        | nilp => have : u = .pointer none := hr; subst this; rfl
        | sl m z l =>
          cases m with
          | own => simp [frB, flatB, refB] at hf
          | no => exact (repF_one (c := c) (x := .sl .no z l) hr).1
          | full => exact (repF_one (c := c) (x := .sl .full z l) hr).1
        | ptr => obtain ⟨_, rfl⟩ : _ ∧ u = _ := hr; rfl
        | ss => obtain ⟨_, cp, rfl, _⟩ : _ ∧ ∃ cp, u = _ ∧ _ := hr; rfl
        | mp => obtain ⟨_, rfl⟩ : _ ∧ u = _ := hr; rfl
        | _ => simp [frB, flatB, refB] at hf
      refine ⟨hl, by show vs.size = n; omega, fun u hu => ?_, fun j y hy => ?_⟩
      · obtain ⟨j, hj⟩ := List.mem_iff_getElem?.1 hu
        obtain ⟨y, h3, h4⟩ := h2.getv hj
        exact one y u (List.all_eq_true.1 hall y (List.mem_iff_getElem?.2 ⟨j, h3⟩)) h4
      · obtain ⟨u, h3, h4⟩ := h2.get hy
        exact ⟨u, by simpa [Value.cells] using h3, h4⟩
    · cases hc
  · split at hc
    · cases hc
      rename_i hl
      obtain ⟨rfl, hl⟩ := hl
      rw [Bool.or_eq_true] at hl
      rcases hl with hl | hl
      · obtain ⟨h1, h2⟩ := flat_rep hl r
        rw [h2]
        refine ⟨rfl, rfl, fun u hu => ?_, fun j y hy => ?_⟩
        · simp at hu; subst hu; exact (repF_one h1).1
        · cases j with
          | zero => simp at hy; subst hy; exact ⟨v, rfl, (repF_one h1).2⟩
          | succ j => simp at hy
      · have key : v.cells = #[v] ∧ v.oneCell' = true ∧ RepC' c noOwn (strV x) v := by
          cases x <;> simp [refB] at hl
          · obtain ⟨h1, rfl⟩ : _ ∧ v = _ := r
            exact ⟨rfl, rfl, h1, rfl⟩
          · obtain ⟨h1, cp, rfl, h3⟩ : _ ∧ ∃ cp, v = _ ∧ _ := r
            exact ⟨rfl, rfl, h1, cp, rfl, h3⟩
          · obtain ⟨h1, rfl⟩ : _ ∧ v = _ := r
            exact ⟨rfl, rfl, h1, rfl⟩
        rw [key.1]
        refine ⟨rfl, rfl, fun u hu => ?_, fun j y hy => ?_⟩
        · simp at hu; subst hu; exact key.2.1
        · cases j with
          | zero => simp at hy; subst hy; exact ⟨v, rfl, key.2.2⟩
          | succ j => simp at hy
    · cases hc

theorem takeC_rep {c : Cx} {agg : Bool} {off n : Nat} {cells : List AV} {v : AV} (h : takeC agg off n cells = some v) {vs : List Value} (hr : RepL (RepF c.S c.w) ((cells.drop off).take n) vs) :
    vs.length = n ∧ ((agg = true ∧ RepT c noOwn v (.agg vs.toArray)) ∨ (agg = false ∧ ∃ x, vs = [x] ∧ RepT c noOwn v x)) ∧ demV v = v := by
  unfold takeC at h
  simp only at h
  split at h
  · rename_i hl
    have hn := hr.length
    split at h
    · rename_i ha
      cases h
      exact ⟨by omega, .inl ⟨ha, ⟨_, rfl, by simpa using hr⟩⟩, rfl⟩
    · rename_i ha
      split at h
      · rename_i x he
        cases h
        rw [he] at hr hn hl
        match vs, hr with
        | [u], hr =>
          have hr1 := RepF.top (ow := noOwn) hr.1
          exact ⟨by simpa using hl, .inr ⟨by simpa using ha, u, rfl, hr1.1⟩, hr1.2.1⟩
      · cases h
  · cases h
end
end Go.Av
