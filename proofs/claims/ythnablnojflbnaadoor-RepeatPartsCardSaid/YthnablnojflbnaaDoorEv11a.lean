/- A part of the proof: Ev11a. No conditions. -/
import Derived.Test.YthnablnojflbnaaDoorEv10
set_option linter.unusedSimpArgs false
set_option linter.unusedVariables false
namespace Go.Av
set_option linter.unusedSectionVars false
variable [Gtab]
open Go.RowKit
section
variable {P : Program} {E : Env} {g g' : Gh} {σ σ1 : AS} {a : Act} {w w' : World} {o : Oper} {Q : Exit → Act → World → Prop}

/-- The same without the local variables. -/
def Cx.noloc (c : Cx) : Cx := { c with lam := fun _ => 0, live := fun _ => False }
theorem RepE_noloc {c : Cx} {x : AV} {v : Value} : RepE c.noloc x v ↔ RepE c x v := by cases x <;> exact Iff.rfl
theorem RepC'_noloc {c : Cx} {ow : Value → Nat → Nat → Prop} {x : AV} {v : Value} : RepC' c.noloc ow x v ↔ RepC' c ow x v := by
  cases x with
  | sl m z l => cases m <;> exact Iff.rfl
  | _ => exact Iff.rfl
theorem RepM_noloc {c : Cx} : ∀ {l : List (List AV)} {es : List MapEntry}, RepM c.noloc l es ↔ RepM c l es
  | [], [] => Iff.rfl
  | [k, v] :: l, e :: es => by simp only [RepM, RepE_noloc, RepM_noloc]
  | [], _ :: _ => Iff.rfl
  | [] :: _, _ => Iff.rfl
  | [_] :: _, _ => Iff.rfl
  | (_ :: _ :: _ :: _) :: _, _ => Iff.rfl
  | [_, _] :: _, [] => Iff.rfl
theorem ObjB_noloc {c : Cx} {ow : Nat → Value → Nat → Nat → Prop} {b n : Nat} {cells : List AV} : ObjB c.noloc ow w b n cells ↔ ObjB c ow w b n cells := by simp only [ObjB, RepC'_noloc]
theorem ObjM_noloc {c : Cx} {b : Nat} {cells : List AV} : ObjM c.noloc w b cells ↔ ObjM c w b cells := by
  unfold ObjM
  split
  · simp only [RepM_noloc]
  · exact Iff.rfl
theorem Obj'_noloc {c : Cx} {ow : Nat → Value → Nat → Nat → Prop} {b n : Nat} {cells : List AV} : Obj' c.noloc ow w b n cells ↔ Obj' c ow w b n cells := by simp only [Obj', ObjB_noloc, ObjM_noloc]
theorem cx_noloc : (cx E g σ w).noloc = cx0 g.β g.bs (SS E g w) w σ.sh.length := rfl

/-- The ghosts that a callee sees. -/
def kdC (kd : Nat → BK) (w : World) (b : Nat) : BK := if b < w.heap.size then (match kd b with | .own (.slot _) _ => .stab | x => x) else .stab
def oC (kd : Nat → BK) (w : World) (b : Nat) : Option Nat := if b < w.heap.size then (match kd b with | .own (.cell _ _) k => some k | _ => none) else none

theorem kdC_shr {kd : Nat → BK} {b i : Nat} (hb : b < w.heap.size) (h : kd b = .shr i) : kdC kd w b = .shr i := by simp [kdC, hb, h]
theorem oC_some {kd : Nat → BK} {b k : Nat} (h : oC kd w b = some k) : b < w.heap.size ∧ ∃ i j, kd b = .own (.cell i j) k := by
  unfold oC at h
  split at h
  · rename_i hb
    split at h
    · rename_i i j k' hk; cases h; exact ⟨hb, i, j, hk⟩
    · cases h
  · cases h
theorem kdC_own {kd : Nat → BK} {b k : Nat} {t : Ow} (h : kdC kd w b = .own t k) : b < w.heap.size ∧ ∃ i j, t = .cell i j ∧ kd b = .own (.cell i j) k := by
  unfold kdC at h
  split at h
  · rename_i hb
    split at h
    · cases h
    · rename_i hne
      cases t with
      | slot s => exact absurd h (hne s k)
      | cell i j => exact ⟨hb, i, j, rfl, h⟩
  · cases h

theorem Sim.globOK (h : Sim E g σ a w) : GlobOK (SS E g w) w := fun i k l ht => RepC.mono (fun b o hs => ⟨.inl ⟨(h.s0 b o hs).1, hs⟩, h.sframe b o hs⟩) _ _ _ (h.gl i k l ht)
theorem Sim.globOK' (h : Sim E g σ a w) : GlobOK (fun b _ => b < w.heap.size) w := fun i k l ht => RepC.mono (fun b o hs => ⟨SS.lt h hs, rfl⟩) _ _ _ (h.globOK i k l ht)
theorem Sim.ent (h : Sim E g σ a w) : EntOK σ.sh (kdC g.kd w) g.β g.bs (SS E g w) (oC g.kd w) w := by
  refine ⟨⟨fun i cells hi hd => ?_, fun i hi => ?_⟩, fun b n hs => ⟨SS.lt h hs, fun i hi => SS.nshr h hs hi, fun k hk => ?_⟩, fun b k hk => ?_, fun b t k hk hlt => ?_, h.globOK⟩
  · obtain ⟨h1, h2⟩ := h.shr i cells hi hd
    have hlt := h.shrlt i (List.getElem?_eq_some_iff.1 hi).1
    refine ⟨kdC_shr hlt h1, ?_⟩
    rw [← cx_noloc, Obj'_noloc]
    refine h2.mono (Cx.le.refl _) rfl (fun j z l v _ ho => ?_)
    obtain ⟨A, c, e1, e2⟩ := ho
    refine ⟨A, c, e1, ?_⟩
    rcases e2 with e2 | ⟨b, ar, tt, e3, e4, e5, e6⟩
    · exact .inl e2
    · exact .inr ⟨b, ar, tt, e3, e4, e5, by simp [kdC, lt_of_some e4, e6]⟩
  · obtain ⟨j, hj⟩ := h.shrk i hi
    exact ⟨h.shrlt i hi, j, kdC_shr (h.shrlt i hi) hj⟩
  · obtain ⟨_, i, j, hk'⟩ := oC_some hk
    exact SS.own h hs hk'
  · obtain ⟨hlt, i, j, hk'⟩ := oC_some hk
    refine ⟨hlt, fun i' hi' e => ?_, .cell i j, k, by simp [kdC, hlt, hk'], Nat.le_refl _⟩
    obtain ⟨j', hj'⟩ := h.shrk i' hi'
    rw [e, hk'] at hj'; cases hj'
  · obtain ⟨hb, i, j, _, hk'⟩ := kdC_own hk
    simp [oC, hb, hk']

open Classical in
theorem Sim.after (h : Sim E g σ a w) {sh' : List (List AV)} {r : AV} {v : Value} {kd' : Nat → BK} {β' bs' : Nat → Nat} (ha : After (SS E g w) (oC g.kd w) g.β g.bs w σ.sh sh' r v kd' β' bs' w') :
    ∃ g', Sim E g' { σ with sh := sh' } a w' ∧ RepT (cx E g' { σ with sh := sh' } w') noOwn r v ∧ Cx.le (cx E g σ w) (cx E g' { σ with sh := sh' } w') := by
  let kd2 : Nat → BK := fun b => if b < w.heap.size ∧ oC g.kd w b = none ∧ (∀ i, i < σ.sh.length → g.β i ≠ b) then g.kd b else kd' b
  let g' : Gh := { β := β', bs := bs', lam := g.lam, kd := kd2 }
  have hold : ∀ b, b < w.heap.size → oC g.kd w b = none → (∀ i, i < σ.sh.length → g.β i ≠ b) → kd2 b = g.kd b := fun b h1 h2 h3 => by simp only [kd2]; rw [if_pos ⟨h1, h2, h3⟩]
  have hnew : ∀ b, ¬ (b < w.heap.size ∧ oC g.kd w b = none ∧ (∀ i, i < σ.sh.length → g.β i ≠ b)) → kd2 b = kd' b := fun b h1 => by simp only [kd2]; rw [if_neg h1]
  have hnshr : ∀ b, (∀ i, g.kd b ≠ .shr i) → ∀ i, i < σ.sh.length → g.β i ≠ b := by
    intro b hb i hi e
    obtain ⟨j, hj⟩ := h.shrk i hi
    rw [e] at hj
    exact hb j hj
  have hm : ∀ b n, SS E g w b n → SS E g' w' b n ∧ w'.cell? ⟨b, n, none⟩ = w.cell? ⟨b, n, none⟩ := by
    intro b n hs
    refine ⟨?_, ha.sframe b n hs⟩
    have hlt := SS.lt h hs
    rcases hs with hs | ⟨h1, h2, h3⟩ | ⟨h1, t, k, h2, h3⟩
    · exact .inl hs
    · refine .inr (.inl ⟨h1, Nat.lt_of_lt_of_le h2 ha.size, ?_⟩)
      show kd2 b = _
      rw [hold b hlt (by simp [oC, h3]) (hnshr b (fun i e => by rw [h3] at e; cases e))]; exact h3
    · cases t with
      | slot s =>
        refine .inr (.inr ⟨Nat.lt_of_lt_of_le h1 ha.size, .slot s, k, ?_, h3⟩)
        show kd2 b = _
        rw [hold b hlt (by simp [oC, h2]) (hnshr b (fun i e => by rw [h2] at e; cases e))]; exact h2
      | cell i j =>
        have ho : oC g.kd w b = some k := by simp [oC, hlt, h2]
        obtain ⟨t', k', e1, e2⟩ := ha.o0 b k ho
        refine .inr (.inr ⟨Nat.lt_of_lt_of_le h1 ha.size, t', k', ?_, by omega⟩)
        show kd2 b = _
        rw [hnew b (fun hc => by rw [ho] at hc; cases hc.2.1)]; exact e1
  have hle : Cx.le (cx E g σ w) (cx E g' { σ with sh := sh' } w') := ⟨hm, ha.len, fun i hi => (ha.same i hi).1, fun i hi => (ha.same i hi).2, fun s hs => ⟨hs, rfl⟩⟩
  have hm1 : ∀ b n, S1 (SS E g w) w w' kd' b n → SS E g' w' b n := by
    rintro b n (hs | ⟨h1, h2, h3⟩ | ⟨h1, t, k, h2, h3⟩)
    · exact (hm b n hs).1
    · refine .inr (.inl ⟨Nat.le_trans h.hsize h1, h2, ?_⟩)
      show kd2 b = _
      rw [hnew b (fun hc => by omega)]; exact h3
    · refine .inr (.inr ⟨h1, t, k, ?_, h3⟩)
      show kd2 b = _
      rw [hnew b (fun hc => ?_)]; exact h2
      rcases ha.own0 b t k h2 with h4 | h4
      · omega
      · rw [hc.2.1] at h4; cases h4
  have hle1 : Cx.le (cx0 β' bs' (S1 (SS E g w) w w' kd') w' sh'.length) (cx E g' { σ with sh := sh' } w') := ⟨fun b n hs => ⟨hm1 b n hs, rfl⟩, Nat.le_refl _, fun _ _ => rfl, fun _ _ => rfl, fun s hs => hs.elim⟩
  have hkown : ∀ b t k, kd' b = .own t k → kd2 b = .own t k := by
    intro b t k hk
    rw [hnew b (fun hc => ?_)]; exact hk
    rcases ha.own0 b t k hk with h4 | h4
    · omega
    · rw [hc.2.1] at h4; cases h4
  have hkβ : ∀ i, i < sh'.length → kd2 (β' i) = kd' (β' i) := by
    intro i hi
    refine hnew _ (fun hc => ?_)
    rcases Nat.lt_or_ge i σ.sh.length with hil | hil
    · exact hc.2.2 i hil (ha.same i hil).1.symm
    · rcases ha.new i hil hi with h9 | ⟨j0, h9, h10, _⟩
      · omega
      · exact hc.2.2 j0 h9 h10
  have hslot : ∀ t v z n, OwnAt g.kd w (.slot t) v z n → OwnAt kd2 w' (.slot t) v z n := by
    rintro t v z n ⟨A, c, f1, f2⟩
    refine ⟨A, c, f1, ?_⟩
    rcases f2 with f2 | ⟨b, ar, tt, f3, f4, f5, f6⟩
    · exact .inl f2
    · have hb := lt_of_some f4
      have hns := hnshr b (fun i e => by rw [f6] at e; cases e)
      have hoc : oC g.kd w b = none := by simp [oC, f6]
      exact .inr ⟨b, ar, tt, f3, (ha.frame b hb hns hoc).trans f4, f5, by rw [hold b hb hoc hns]; exact f6⟩
  refine ⟨g', { h with os := ha.os.trans h.os, tape := ha.tape.trans h.tape, output := ha.output.trans h.output, hsize := Nat.le_trans h.hsize ha.size, n0 := Nat.le_trans h.n0 ha.len, slots := ?_, shr := ?_, shr0 := ?_, shr1 := ?_, shrlt := ?_, shrk := ?_, loc := ?_, o0 := ?_, own0 := ?_, frame := ?_, sframe := ?_, dd := fun i hi hd => ha.deads i (h.dd i hi hd) }, ?_, hle⟩
  · intro t
    exact RepT.mono hle _ _ (fun _ _ _ => hslot _ _ _ _) (h.slots t)
  · intro i cells hi hd
    obtain ⟨f1, f2⟩ := ha.shok.1 i cells hi hd
    have hil := (List.getElem?_eq_some_iff.1 hi).1
    refine ⟨by show kd2 (β' i) = _; rw [hkβ i hil]; exact f1, ?_⟩
    refine f2.mono hle1 rfl (fun j z l v _ ho => ?_)
    obtain ⟨A, c, e1, e2⟩ := ho
    refine ⟨A, c, e1, ?_⟩
    rcases e2 with e2 | ⟨b, ar, tt, e3, e4, e5, e6⟩
    · exact .inl e2
    · exact .inr ⟨b, ar, tt, e3, e4, e5, hkown _ _ _ e6⟩
  · intro i hi
    have hn0 := h.n0
    show β' i = _ ∧ bs' i = _
    rw [(ha.same i (by omega)).1, (ha.same i (by omega)).2]
    exact h.shr0 i hi
  · intro i hi hn
    show _ ≤ β' i ∨ ∃ j, j < E.n0 ∧ E.β0 j = β' i ∧ E.D0 j = false ∧ sh'[j]? = some dead
    rcases Nat.lt_or_ge i σ.sh.length with hil | hil
    · rw [(ha.same i hil).1]
      rcases h.shr1 i hil hn with h9 | ⟨j0, h9, h10, h11, h12⟩
      · exact .inl h9
      · exact .inr ⟨j0, h9, h10, h11, ha.deads j0 h12⟩
    · rcases ha.new i hil hi with h9 | ⟨j0, h9, h10, h11, h12⟩
      · exact .inl (Nat.le_trans h.hsize h9)
      · rcases Nat.lt_or_ge j0 E.n0 with hj | hj
        · refine .inr ⟨j0, hj, by rw [← (h.shr0 j0 hj).1]; exact h10, ?_, h12⟩
          cases hd0 : E.D0 j0 with
          | false => rfl
          | true => exact absurd (h.dd j0 hj hd0) h11
        · rw [← h10]
          rcases h.shr1 j0 h9 hj with h9 | ⟨j1, h13, h14, h15, h16⟩
          · exact .inl h9
          · exact .inr ⟨j1, h13, h14, h15, ha.deads j1 h16⟩
  · intro i hi; exact (ha.shok.2 i hi).1
  · intro i hi
    obtain ⟨j, hj⟩ := (ha.shok.2 i hi).2
    exact ⟨j, by show kd2 (β' i) = _; rw [hkβ i hi]; exact hj⟩
  · intro s cells hs
    obtain ⟨f1, f2, f3⟩ := h.loc s cells hs
    have hb := f3.lt
    have hns := hnshr (g.lam s) (fun i e => by rw [f1] at e; cases e)
    have hoc : oC g.kd w (g.lam s) = none := by simp [oC, f1]
    exact ⟨by show kd2 (g.lam s) = _; rw [hold _ hb hoc hns]; exact f1, f2, f3.mono hle (ha.frame _ hb hns hoc) (fun _ _ _ _ _ h => h)⟩
  · intro b k hk
    obtain ⟨f1, f2, t, k', f3, f4⟩ := h.o0 b k hk
    refine ⟨f1, f2, ?_⟩
    have hb := Nat.lt_of_lt_of_le f1 h.hsize
    cases t with
    | slot s =>
      refine ⟨.slot s, k', ?_, f4⟩
      show kd2 b = _
      rw [hold b hb (by simp [oC, f3]) (hnshr b (fun i e => by rw [f3] at e; cases e))]; exact f3
    | cell i j =>
      have ho : oC g.kd w b = some k' := by simp [oC, hb, f3]
      obtain ⟨t2, k2, e1, e2⟩ := ha.o0 b k' ho
      exact ⟨t2, k2, hkown _ _ _ e1, by omega⟩
  · intro b t k hk
    by_cases hc : b < w.heap.size ∧ oC g.kd w b = none ∧ (∀ i, i < σ.sh.length → g.β i ≠ b)
    · have : g.kd b = .own t k := by rw [← hold b hc.1 hc.2.1 hc.2.2]; exact hk
      exact h.own0 b t k this
    · have hk' : kd' b = .own t k := by rw [← hnew b hc]; exact hk
      rcases ha.own0 b t k hk' with h4 | h4
      · exact .inl (Nat.le_trans h.hsize h4)
      · obtain ⟨k2, hk2⟩ := Option.isSome_iff_exists.1 h4
        obtain ⟨_, i, j, h5⟩ := oC_some hk2
        exact h.own0 b _ _ h5
  · intro b h1 h2 h3
    have hf1 : ∀ i, i < σ.sh.length → g.β i ≠ b := by
      intro i hi e
      rcases Nat.lt_or_ge i E.n0 with hn | hn
      · exact h2 i hn (by rw [← (h.shr0 i hn).1]; exact e)
      · rcases h.shr1 i hi hn with h9 | ⟨j0, h9, h10, _⟩
        · omega
        · exact h2 j0 h9 (by rw [h10]; exact e)
    have hf2 : oC g.kd w b = none := by
      cases ho : oC g.kd w b with
      | none => rfl
      | some k =>
        obtain ⟨_, i, j, h5⟩ := oC_some ho
        rcases h.own0 b _ _ h5 with h6 | h6
        · omega
        · rw [h3] at h6; cases h6
    rw [ha.frame b (Nat.lt_of_lt_of_le h1 h.hsize) hf1 hf2]
    exact h.frame b h1 h2 h3
  · intro b n hs0
    rw [← h.sframe b n hs0]
    exact ha.sframe b n (.inl ⟨(h.s0 b n hs0).1, hs0⟩)
  · exact RepT.mono hle1 _ _ (fun _ _ _ h => h) ha.rep

/-- A call that is given no shared object. -/
theorem Sim.afterP (h : Sim E g σ a w) {S0 : Nat → Nat → Prop} {r : AV} {v : Value} {kd' : Nat → BK} {β bs β' bs' : Nat → Nat} (ha : After S0 (fun _ => none) β bs w [] [] r v kd' β' bs' w') :
    ∃ g', Sim E g' σ a w' ∧ Cx.le (cx E g σ w) (cx E g' σ w') ∧ ∀ b n, S1 S0 w w' kd' b n → S0 b n ∨ SS E g' w' b n := by
  have hb : ∀ b, b < w.heap.size → w'.heap[b]? = w.heap[b]? := fun b hb => ha.frame b hb (fun i hi => by simp at hi) rfl
  let g' : Gh := { g with kd := fun b => if b < w.heap.size then g.kd b else (match kd' b with | .own t k => .own t k | _ => .stab) }
  obtain ⟨hs, hle⟩ := h.world (g' := g') (w' := w') ha.os ha.tape ha.output ha.size hb (fun b hb => by simp [g', hb]) rfl rfl rfl
  refine ⟨g', hs, hle, ?_⟩
  rintro b n (h1 | ⟨h1, h2, h3⟩ | ⟨h1, t, k, h2, h3⟩)
  · exact .inl h1
  · refine .inr (.inr (.inl ⟨Nat.le_trans h.hsize h1, h2, ?_⟩))
    simp only [g']
    rw [if_neg (by omega), h3]
  · have hge : w.heap.size ≤ b := by
      rcases ha.own0 b t k h2 with h4 | h4
      · exact h4
      · cases h4
    refine .inr (.inr (.inr ⟨h1, t, k, ?_, h3⟩))
    simp only [g']
    rw [if_neg (by omega), h2]
end
end Go.Av
