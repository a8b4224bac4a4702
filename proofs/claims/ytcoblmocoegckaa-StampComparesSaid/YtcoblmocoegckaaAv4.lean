/- A part of the proof: Av4. No conditions. -/
import Derived.Test.YtcoblmocoegckaaAv3
import Derived.Laws.AppendOwn
import Derived.Laws.Append
set_option linter.unusedSimpArgs false
set_option linter.unusedVariables false
namespace Go.Av
open Go.RowKit

def S1 (S0 : Nat → Nat → Prop) (w w' : World) (β : Nat → Nat) (n : Nat) (b o : Nat) : Prop :=
  S0 b o ∨ (w.heap.size ≤ b ∧ b < w'.heap.size ∧ ∀ i, i < n → β i ≠ b)

def EntOK (sh : List (List AV)) (β : Nat → Nat) (S0 : Nat → Nat → Prop) (w : World) : Prop :=
  (∀ i j, i < sh.length → j < sh.length → β i = β j → i = j) ∧
  (∀ i cells, sh[i]? = some cells → Obj' S0 w (β i) cells) ∧
  (∀ b o, S0 b o → b < w.heap.size ∧ ∀ i, i < sh.length → β i ≠ b)

def cx0 (β : Nat → Nat) (S0 : Nat → Nat → Prop) (w : World) (n : Nat) : Cx :=
  { S := S0, w := w, β := β, lam := fun _ => 0, shn := n, live := fun _ => False }

def noOwn : Value → Nat → Nat → Prop := fun _ _ _ => False

def After (S0 : Nat → Nat → Prop) (β : Nat → Nat) (w : World) (sh sh' : List (List AV)) (r : AV) (v : Value) (β' : Nat → Nat) (w' : World) : Prop :=
  (∀ i, i < sh.length → β' i = β i) ∧ sh.length ≤ sh'.length ∧
  EntOK sh' β' (S1 S0 w w' β' sh'.length) w' ∧ RepT (cx0 β' (S1 S0 w w' β' sh'.length) w' sh'.length) noOwn r v ∧
  w'.os = w.os ∧ w'.tape = w.tape ∧ w'.output = w.output ∧ w.heap.size ≤ w'.heap.size ∧
  (∀ b, b < w.heap.size → (∀ i, i < sh.length → β i ≠ b) → w'.heap[b]? = w.heap[b]?) ∧
  (∀ i, sh.length ≤ i → i < sh'.length → w.heap.size ≤ β' i)

/-- The model's call gives a value that the abstract result describes; what was there before is as it was, but for the shared objects. -/
def SemCall (P : Program) (f : FuncId) (args : List AV) (sh : List (List AV)) (r : AV) (sh' : List (List AV)) : Prop :=
  ∀ (β : Nat → Nat) (S0 : Nat → Nat → Prop) (w : World) (vs : Array Value), EntOK sh β S0 w →
    RepL (RepT (cx0 β S0 w sh.length) noOwn) args vs.toList →
    Calls P f vs w fun e w' => ∃ v β', e = .returned v ∧ After S0 β w sh sh' r v β' w'

def Real (P : Program) (f : FuncId) : Prop := ∃ fn, P.funcs[f]? = some fn ∧ fn.body.isSome = true ∧ (fn.name == "runtime.NumGoroutine") = false

def Good (P : Program) (G : Calls') : Prop := ∀ f args sh r sh', G f args sh = some (r, sh') → Real P f ∧ SemCall P f args sh r sh'

def Post (E : Env) (σ : AS) : Act → World → Prop := fun a w => ∃ g, Sim E g σ a w

section
variable {P : Program} {E : Env} {g g' : Gh} {σ σ1 : AS} {a : Act} {w w' : World} {o : Oper} {Q : Exit → Act → World → Prop}

theorem lt_of_some {w : World} {b : Nat} {x : Obj} (e : w.heap[b]? = some x) : b < w.heap.size := by
  rcases Nat.lt_or_ge b w.heap.size with h' | h'
  · exact h'
  · rw [Array.getElem?_eq_none h'] at e; cases e

theorem Obj'.lt {S : Nat → Nat → Prop} {b : Nat} {cells : List AV} (h : Obj' S w b cells) : b < w.heap.size := by
  obtain ⟨_, _, h1, _⟩ := h
  exact lt_of_some h1

theorem SS.lt (h : Sim E g σ a w) {b n : Nat} (hs : SS E g w b n) : b < w.heap.size := by
  rcases hs with ⟨h1, _⟩ | ⟨_, h2, _⟩
  · exact Nat.lt_of_lt_of_le h1 h.hsize
  · exact h2

theorem SS.nshr (h : Sim E g σ a w) {b n : Nat} (hs : SS E g w b n) {i : Nat} (hi : i < σ.sh.length) : g.β i ≠ b := by
  obtain ⟨h1, h2, h3, h4⟩ := h.shr i _ (List.getElem?_eq_getElem hi)
  rintro rfl
  rcases hs with ⟨hb, hs⟩ | ⟨_, _, hk⟩
  · have := h.s0 _ _ hs
    rcases Nat.lt_or_ge i E.n0 with hn | hn
    · exact this.2 i hn (h3 hn).symm
    · have := h4 hn; omega
  · rw [h1] at hk
    rcases hk with hk | ⟨_, _, hk, _⟩ <;> cases hk

theorem SS.nloc (h : Sim E g σ a w) {b n : Nat} (hs : SS E g w b n) {s : Nat} {cells : List AV} (hi : σ.lo s = some cells) : g.lam s ≠ b := by
  obtain ⟨h1, h2, h3⟩ := h.loc s _ hi
  rintro rfl
  rcases hs with ⟨hb, hs⟩ | ⟨_, _, hk⟩
  · omega
  · rw [h1] at hk
    rcases hk with hk | ⟨_, _, hk, _⟩ <;> cases hk

theorem Sim.ent (h : Sim E g σ a w) : EntOK σ.sh g.β (SS E g w) w := by
  refine ⟨fun i j hi hj e => ?_, fun i cells hi => (h.shr i cells hi).2.1, fun b n hs => ⟨SS.lt h hs, fun i hi => SS.nshr h hs hi⟩⟩
  have h1 := (h.shr i _ (List.getElem?_eq_getElem hi)).1
  have h2 := (h.shr j _ (List.getElem?_eq_getElem hj)).1
  rw [e, h2] at h1
  cases h1; rfl

/-- The end of every operation that gives a value. -/
theorem fin_val {x : AV} {val : Value} (hs : Sim E g' σ1 a w') (hrun : (execOp a.eval o).run P w = .ok (.value val) w')
    (hx : ∀ d, o.dst = some d → d < E.nt ∧ RepT (cx E g' σ1 w') (OwnAt E g' w' d) x val) : o.wp P a w (Post E (put σ1 o.dst x)) Q := by
  unfold Oper.wp
  rw [hrun]
  show Post E (put σ1 o.dst x) (a.put o.dst val) w'
  cases hd : o.dst with
  | none => exact ⟨g', hs⟩
  | some d => exact ⟨g', hs.put_ (hx d hd).1 (hx d hd).2⟩

/-- Replacing the ghost's kind of a block that belongs to no one. -/
theorem okRs0 {rs : List AR} (h : okRs [] rs = true) : rs = [] := by
  cases rs with
  | nil => rfl
  | cons r rs => simp [okRs] at h
theorem okRsc {x : Operand} {xs : List Operand} {rs : List AR} (h : okRs (x :: xs) rs = true) : ∃ r rs', rs = r :: rs' ∧ okR x r = true ∧ okRs xs rs' = true := by
  cases rs with
  | nil => simp [okRs] at h
  | cons r rs => exact ⟨r, rs, rfl, by simpa [okRs] using h⟩
theorem okRs1 {x : Operand} {rs : List AR} (h : okRs [x] rs = true) : ∃ r, rs = [r] ∧ okR x r = true := by
  obtain ⟨r, rs', rfl, h1, h2⟩ := okRsc h
  cases okRs0 h2
  exact ⟨r, rfl, h1⟩
theorem okRs2 {x y : Operand} {rs : List AR} (h : okRs [x, y] rs = true) : ∃ r s, rs = [r, s] ∧ okR x r = true ∧ okR y s = true := by
  obtain ⟨r, rs', rfl, h1, h2⟩ := okRsc h
  obtain ⟨s, rfl, h3⟩ := okRs1 h2
  exact ⟨r, s, rfl, h1, h3⟩
theorem okRs3 {x y z : Operand} {rs : List AR} (h : okRs [x, y, z] rs = true) : ∃ r s t, rs = [r, s, t] ∧ okR x r = true ∧ okR y s = true ∧ okR z t = true := by
  obtain ⟨r, rs', rfl, h1, h2⟩ := okRsc h
  obtain ⟨s, t, rfl, h3, h4⟩ := okRs2 h2
  exact ⟨r, s, t, rfl, h1, h3, h4⟩

theorem RepF.top {c : Cx} {ow : Value → Nat → Nat → Prop} {x : AV} {v : Value} (h : RepF c.S c.w x v) : RepT c ow x v ∧ demV x = x ∧ flatB x = true ∧ v.cells = #[v] := by
  cases x with
  | int k n => simp only [RepF] at h; subst h; exact ⟨rfl, rfl, rfl, rfl⟩
  | bool b => simp only [RepF] at h; subst h; exact ⟨rfl, rfl, rfl, rfl⟩
  | str s =>
    have h0 := h
    simp only [RepF] at h
    obtain ⟨b, rfl, _⟩ := h
    exact ⟨h0, rfl, rfl, rfl⟩
  | nilp => simp only [RepF] at h; subst h; exact ⟨rfl, rfl, rfl, rfl⟩
  | sl m z l =>
    have h0 := h
    simp only [RepF] at h
    obtain ⟨A, cp, rfl, _, _, h6, _⟩ := h
    cases m with
    | own => exact absurd rfl h6
    | no => exact ⟨h0, rfl, rfl, rfl⟩
    | full => exact ⟨h0, rfl, rfl, rfl⟩
  | _ => simp [RepF] at h

/-- Reading an operand of a given abstract form. -/
theorem Sim.rd (h : Sim E g σ a w) {x : Operand} {r : AR} (ho : okR x r = true) {v : AV} (hv : ev σ.fr r = v) : RepT (cx E g σ w) noOwn (demV v) (a.eval x) := by
  rw [← hv]; exact h.ev_ ho

theorem Sim.rdT (h : Sim E g σ a w) {x : Operand} {r : AR} (ho : okR x r = true) : ∃ ow, RepT (cx E g σ w) ow (ev σ.fr r) (a.eval x) ∧ (∀ s, r = .t s → ow = OwnAt E g w s) := by
  unfold okR at ho
  split at ho
  · simp at ho
    subst ho
    exact ⟨_, h.slots _, fun s hs => by cases hs; rfl⟩
  · exact ⟨noOwn, okV_rep ho, fun s hs => by cases hs⟩
  · simp at ho
    subst ho
    exact ⟨noOwn, ⟨#[], rfl, trivial⟩, fun s hs => by cases hs⟩
  · cases ho

theorem Sim.rdNat (h : Sim E g σ a w) {x : Operand} {r : AR} (ho : okR x r = true) {k : IntKind} {n : Int} (hv : ev σ.fr r = .int k n) : a.eval x = .int k n := by
  have := h.rd ho hv
  exact this
theorem Sim.rdBool (h : Sim E g σ a w) {x : Operand} {r : AR} (ho : okR x r = true) {b : Bool} (hv : ev σ.fr r = .bool b) : a.eval x = .bool b := by
  have := h.rd ho hv
  exact this
theorem Sim.rdStr (h : Sim E g σ a w) {x : Operand} {r : AR} (ho : okR x r = true) {s : List UInt8} (hv : ev σ.fr r = .str s) : ∃ b, a.eval x = .string b ∧ b.data.toList = s := by
  have := h.rd ho hv
  exact this
theorem Sim.rdSl (h : Sim E g σ a w) {x : Operand} {r : AR} (ho : okR x r = true) {m : Own} {z : Nat} {l : List (List AV)} (hv : ev σ.fr r = .sl m z l) :
    ∃ A c, a.eval x = .slice A l.length c ∧ l.length ≤ c ∧ (m = .full → c = l.length) ∧ (l = [] ∨ ∃ b o, A = some ⟨b, o, none⟩ ∧ RepR (SS E g w) w z l b o) := by
  have := h.rd ho hv
  cases m with
  | own =>
    simp only [demV, RepT, RepE, RepF] at this
    obtain ⟨A, c, h1, h2, _, _, h5⟩ := this
    exact ⟨A, c, h1, h2, by simp, h5⟩
  | no =>
    simp only [demV, RepT, RepE, RepF] at this
    obtain ⟨A, c, h1, h2, _, _, h5⟩ := this
    exact ⟨A, c, h1, h2, by simp, h5⟩
  | full =>
    simp only [demV, RepT, RepE, RepF] at this
    obtain ⟨A, c, h1, h2, h3, _, h5⟩ := this
    exact ⟨A, c, h1, h2, fun _ => h3 trivial, h5⟩

theorem flat_rep {c : Cx} {ow : Value → Nat → Nat → Prop} {x : AV} {v : Value} (hf : flatB (strV x) = true) (r : RepT c ow x v) : RepF c.S c.w (strV x) v ∧ v.cells = #[v] := by
  have r' : RepT c noOwn (strV x) v := r.str
  generalize strV x = y at hf r'
  cases y <;> simp [flatB] at hf
  · have : v = .int _ _ := r'
    subst this; exact ⟨r', rfl⟩
  · have : v = .bool _ := r'
    subst this; exact ⟨r', rfl⟩
  · obtain ⟨b, rfl, hb⟩ : ∃ b, v = .string b ∧ b.data.toList = _ := r'
    exact ⟨⟨b, rfl, hb⟩, rfl⟩
  · have : v = .pointer none := r'
    subst this; exact ⟨r', rfl⟩
  · rename_i m z l
    cases m
    · have h1 : RepF c.S c.w (.sl .no z l) v := r'
      refine ⟨h1, ?_⟩
      simp only [RepF] at h1
      obtain ⟨A, c, rfl, _⟩ := h1
      rfl
    · have h1 : RepF c.S c.w (.sl .full z l) v := r'
      refine ⟨h1, ?_⟩
      simp only [RepF] at h1
      obtain ⟨A, c, rfl, _⟩ := h1
      rfl
    · simp at hf

/-- The cells that a value is stored as. -/
theorem cellsOfV_rep {c : Cx} {ow : Value → Nat → Nat → Prop} {n : Nat} {x : AV} {v : Value} {cs : List AV} (hc : cellsOfV n x = some cs) (r : RepT c ow x v) :
    RepL (RepF c.S c.w) cs v.cells.toList ∧ cs.length = n := by
  unfold cellsOfV at hc
  split at hc
  · split at hc
    · cases hc
      rename_i hl
      obtain ⟨vs, rfl, h2⟩ : ∃ vs, v = .agg vs ∧ RepL (RepF c.S c.w) _ vs.toList := r
      exact ⟨h2, hl⟩
    · cases hc
  · split at hc
    · cases hc
      rename_i hl
      obtain ⟨h1, h2⟩ := flat_rep hl.2 r
      rw [h2]
      exact ⟨⟨h1, trivial⟩, by simp [hl.1]⟩
    · cases hc

theorem takeC_rep {c : Cx} {agg : Bool} {off n : Nat} {cells : List AV} {v : AV} (h : takeC agg off n cells = some v) {vs : List Value} (hr : RepL (RepF c.S c.w) ((cells.drop off).take n) vs) :
    vs.length = n ∧ ((agg = true ∧ RepT c noOwn v (.agg vs.toArray)) ∨ (agg = false ∧ ∃ x, vs = [x] ∧ RepT c noOwn v x)) ∧ demV v = v := by
  unfold takeC at h
  simp only at h
  split at h
  · rename_i hl
    have hn := hr.length
    split at h
    · rename_i ha
      cases h
      exact ⟨by omega, .inl ⟨ha, ⟨_, rfl, by simpa using hr⟩⟩, rfl⟩
    · rename_i ha
      split at h
      · rename_i x he
        cases h
        rw [he] at hr hn hl
        match vs, hr with
        | [u], hr =>
          have hr1 := RepF.top (ow := noOwn) hr.1
          exact ⟨by simpa using hl, .inr ⟨by simpa using ha, u, rfl, hr1.1⟩, hr1.2.1⟩
      · cases h
  · cases h
end
end Go.Av
