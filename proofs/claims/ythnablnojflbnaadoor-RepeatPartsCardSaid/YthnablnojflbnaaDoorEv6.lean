/- A part of the proof: Ev6. No conditions. -/
import Derived.Test.YthnablnojflbnaaDoorEv5
set_option linter.unusedSimpArgs false
set_option linter.unusedVariables false
namespace Go.Av
set_option linter.unusedSectionVars false
variable [Gtab]
open Go.RowKit
section
variable {P : Program} {E : Env} {g g' : Gh} {σ σ1 : AS} {a : Act} {w w' : World} {o : Oper} {Q : Exit → Act → World → Prop}

theorem own_same {kd : Nat → BK} {t : Ow} {v : Value} {z n : Nat} (hh : ∀ b k, kd b = .own t k → w'.heap[b]? = w.heap[b]?) (h : OwnAt kd w t v z n) : OwnAt kd w' t v z n := by
  obtain ⟨A, c, e1, e2⟩ := h
  refine ⟨A, c, e1, ?_⟩
  rcases e2 with e2 | ⟨b, ar, tt, e3, e4, e5, e6⟩
  · exact .inl e2
  · exact .inr ⟨b, ar, tt, e3, (hh b _ e6).trans e4, e5, e6⟩

theorem Sim.addLoc (h : Sim E g σ a w) {d b : Nat} {cells : List AV} (hn : σ.lo d = none) (hk : g.kd b = .loc d) (hb : E.w0.heap.size ≤ b) (ho : ObjB (cx E g σ w) (fun _ => noOwn) w b (2 * cells.length) cells) :
    Sim E { g with lam := upd g.lam d b } { σ with lo := upd σ.lo d (some cells) } a w := by
  have hle : Cx.le (cx E g σ w) (cx E { g with lam := upd g.lam d b } { σ with lo := upd σ.lo d (some cells) } w) := by
    refine ⟨fun b' n hs => ⟨hs, rfl⟩, Nat.le_refl _, fun _ _ => rfl, fun _ _ => rfl, fun s hs => ?_⟩
    have hsd : s ≠ d := by rintro rfl; simp [cx, hn] at hs
    simp only [cx] at hs ⊢
    simp [upd, hsd, hs]
  refine { h with slots := ?_, loc := ?_, shr := ?_ }
  · intro t
    exact RepT.mono hle _ _ (fun _ _ _ h => h) (h.slots t)
  · intro i c hi hd
    obtain ⟨h1, h2⟩ := h.shr i c hi hd
    exact ⟨h1, h2.mono hle rfl (fun _ _ _ _ _ h => h)⟩
  · intro s c hs
    simp only [upd] at hs ⊢
    by_cases hsd : s = d
    · subst hsd
      rw [if_pos rfl] at hs
      cases hs
      rw [if_pos rfl]
      exact ⟨hk, hb, ho.mono hle rfl (fun _ _ _ _ _ h => h)⟩
    · rw [if_neg hsd] at hs ⊢
      obtain ⟨h1, h2, h3⟩ := h.loc s c hs
      exact ⟨h1, h2, h3.mono hle rfl (fun _ _ _ _ _ h => h)⟩

theorem Sim.addShr (h : Sim E g σ a w) {b n : Nat} {cells : List AV} (hk : g.kd b = .shr σ.sh.length) (hb : E.w0.heap.size ≤ b) (hlt : b < w.heap.size)
    (ho : cells ≠ dead → Obj' (cx E g σ w) (fun j => OwnAt g.kd w (.cell σ.sh.length j)) w b n cells) :
    Sim E { g with β := upd g.β σ.sh.length b, bs := upd g.bs σ.sh.length n } { σ with sh := σ.sh ++ [cells] } a w ∧
    Cx.le (cx E g σ w) (cx E { g with β := upd g.β σ.sh.length b, bs := upd g.bs σ.sh.length n } { σ with sh := σ.sh ++ [cells] } w) := by
  have hle : Cx.le (cx E g σ w) (cx E { g with β := upd g.β σ.sh.length b, bs := upd g.bs σ.sh.length n } { σ with sh := σ.sh ++ [cells] } w) := by
    refine ⟨fun b' n hs => ⟨hs, rfl⟩, by simp [cx], fun i hi => ?_, fun i hi => ?_, fun s hs => ⟨hs, rfl⟩⟩ <;>
    · simp only [cx] at hi ⊢
      simp [upd, Nat.ne_of_lt hi]
  have hn0 := h.n0
  have hne : ∀ i, i < E.n0 → ¬ i = σ.sh.length := fun i hi => by omega
  refine ⟨{ h with slots := ?_, shr := ?_, shr0 := ?_, shr1 := ?_, shrlt := ?_, shrk := ?_, loc := ?_, n0 := by simp; omega, dd := fun i hi hd => by rw [List.getElem?_append_left (by omega)]; exact h.dd i hi hd }, hle⟩
  · intro t
    exact RepT.mono hle _ _ (fun _ _ _ h => h) (h.slots t)
  · intro i c hi hd
    simp only [upd]
    rw [List.getElem?_append] at hi
    split at hi
    · rename_i hil
      rw [if_neg (Nat.ne_of_lt hil), if_neg (Nat.ne_of_lt hil)]
      obtain ⟨h1, h2⟩ := h.shr i c hi hd
      exact ⟨h1, h2.mono hle rfl (fun _ _ _ _ _ h => h)⟩
    · rename_i hge
      have hi' : i = σ.sh.length := by
        have := (List.getElem?_eq_some_iff.1 hi).1
        simp at this; omega
      subst hi'
      simp at hi
      subst hi
      rw [if_pos rfl, if_pos rfl]
      exact ⟨hk, (ho hd).mono hle rfl (fun _ _ _ _ _ h => h)⟩
  · intro i hi
    simp only [upd]
    rw [if_neg (hne i hi), if_neg (hne i hi)]
    exact h.shr0 i hi
  · intro i hi hn
    simp only [upd]
    split
    · exact .inl hb
    · rcases h.shr1 i (by simp at hi; omega) hn with h9 | ⟨j0, h9, h10, h11, h12⟩
      · exact .inl h9
      · exact .inr ⟨j0, h9, h10, h11, by rw [List.getElem?_append_left (by omega)]; exact h12⟩
  · intro i hi
    simp only [upd]
    split
    · exact hlt
    · exact h.shrlt i (by simp at hi; omega)
  · intro i hi
    simp only [upd]
    split
    · exact ⟨_, hk⟩
    · exact h.shrk i (by simp at hi; omega)
  · intro s c hs
    obtain ⟨h1, h2, h3⟩ := h.loc s c hs
    exact ⟨h1, h2, h3.mono hle rfl (fun _ _ _ _ _ h => h)⟩

/-- One block of a local or shared object has turned. -/
theorem Sim.setBlk (h : Sim E g σ a w) {b : Nat} (hsz : w'.heap.size = w.heap.size) (hother : ∀ b', b' ≠ b → w'.heap[b']? = w.heap[b']?)
    (hk : (∃ i, g.kd b = .shr i ∧ i < σ.sh.length ∧ g.β i = b) ∨ (∃ s, g.kd b = .loc s ∧ E.w0.heap.size ≤ b)) :
    (∀ b' n, SS E g w b' n → SS E g w' b' n ∧ w'.cell? ⟨b', n, none⟩ = w.cell? ⟨b', n, none⟩) ∧
    (∀ t v z n, OwnAt g.kd w t v z n → OwnAt g.kd w' t v z n) := by
  refine ⟨fun b' n hs => ?_, fun t v z n => own_same fun b' k hk' => hother b' ?_⟩
  · have hne : b' ≠ b := by
      rintro rfl
      rcases hk with ⟨i, hk, hi, hbi⟩ | ⟨s, hk, hge⟩
      · exact SS.nshr h hs hi hbi
      · rcases hs with ⟨h1, _⟩ | ⟨_, _, h3⟩ | ⟨_, _, _, h3, _⟩
        · omega
        · rw [hk] at h3; cases h3
        · rw [hk] at h3; cases h3
    refine ⟨?_, by simp [World.cell?, hother b' hne]⟩
    rcases hs with hs | ⟨h1, h2, h3⟩ | ⟨h1, h2⟩
    · exact .inl hs
    · exact .inr (.inl ⟨h1, by rw [hsz]; exact h2, h3⟩)
    · exact .inr (.inr ⟨by rw [hsz]; exact h1, h2⟩)
  · rintro rfl
    rcases hk with ⟨i, hk, _⟩ | ⟨s, hk, _⟩ <;> rw [hk] at hk' <;> cases hk'

theorem Sim.setLoc (h : Sim E g σ a w) {s : Nat} {cells cells' : List AV} {arr arr' : Array Value} {ty : TypeId} {fz : Nat × Nat} (hs : σ.lo s = some cells) (hlen : cells'.length = cells.length)
    (hb : w.heap[g.lam s]? = some (.cells arr ty fz)) (hz : nofz fz arr.size) (hsa : arr'.size = arr.size) (hr : ∀ (j : Nat) (x : AV), cells'[j]? = some x → ∃ v, arr'[j]? = some v ∧ RepC' (cx E g σ w) noOwn x v) :
    Sim E g { σ with lo := upd σ.lo s (some cells') } a (w.setRow (g.lam s) arr') := by
  obtain ⟨k1, k2, k3⟩ := h.loc s cells hs
  have hother : ∀ b', b' ≠ g.lam s → (w.setRow (g.lam s) arr').heap[b']? = w.heap[b']? := fun b' hne => setRow_other w _ b' _ hne
  have hsz : (w.setRow (g.lam s) arr').heap.size = w.heap.size := by simp [World.setRow]
  obtain ⟨hm, how⟩ := h.setBlk hsz hother (.inr ⟨s, k1, k2⟩)
  have hnew := setRow_heap w _ arr arr' ty fz hb
  have hle : Cx.le (cx E g σ w) (cx E g { σ with lo := upd σ.lo s (some cells') } (w.setRow (g.lam s) arr')) := by
    refine ⟨hm, Nat.le_refl _, fun _ _ => rfl, fun _ _ => rfl, fun s' hs' => ⟨?_, rfl⟩⟩
    show (upd σ.lo s (some cells') s').isSome = true
    unfold upd; split
    · rfl
    · exact hs'
  have hsz0 : arr.size = cells.length := by
    obtain ⟨arr2, ty2, fz2, e1, _, e2, _⟩ := k3
    rw [hb] at e1; cases e1; have := e2.1; omega
  refine { h with slots := ?_, shr := ?_, shrlt := ?_, loc := ?_, hsize := by rw [hsz]; exact h.hsize, frame := ?_, sframe := ?_ }
  · intro t
    exact RepT.mono hle _ _ (fun _ _ _ => how _ _ _ _) (h.slots t)
  · intro i c hi hd
    obtain ⟨j1, j2⟩ := h.shr i c hi hd
    exact ⟨j1, j2.mono hle (hother _ (by intro e; rw [e, k1] at j1; cases j1)) (fun _ _ _ _ _ => how _ _ _ _)⟩
  · intro i hi; rw [hsz]; exact h.shrlt i hi
  · intro s' c hs'
    simp only [upd] at hs'
    by_cases he : s' = s
    · subst he
      rw [if_pos rfl] at hs'
      cases hs'
      refine ⟨k1, k2, arr', ty, fz, hnew, by rw [hsa]; exact hz, ⟨by omega, fun h => by omega⟩, fun j x hx => ?_⟩
      obtain ⟨v, h1, h2⟩ := hr j x hx
      exact ⟨v, h1, RepC'.mono hle _ _ (fun _ _ _ h => h) h2⟩
    · rw [if_neg he] at hs'
      obtain ⟨j1, j3, j4⟩ := h.loc s' c hs'
      refine ⟨j1, j3, j4.mono hle (hother _ ?_) (fun _ _ _ _ _ h => h)⟩
      intro e; rw [e, k1] at j1; injection j1 with j1; exact he j1.symm
  · intro b h1 h2 h3
    rw [hother b (by omega)]
    exact h.frame b h1 h2 h3
  · intro b n hs0
    rw [← h.sframe b n hs0]
    exact (hm b n (.inl ⟨(h.s0 b n hs0).1, hs0⟩)).2

/-- A shared object has turned. -/
theorem Sim.setObj (h : Sim E g σ a w) {i : Nat} {cells cells' : List AV} (hi : σ.sh[i]? = some cells) (hd : cells ≠ dead)
    (hsz : w'.heap.size = w.heap.size) (hother : ∀ b', b' ≠ g.β i → w'.heap[b']? = w.heap[b']?) (hos : w'.os = w.os) (htape : w'.tape = w.tape) (hout : w'.output = w.output)
    (hobj : Cx.le (cx E g σ w) (cx E g { σ with sh := σ.sh.set i cells' } w') → (∀ t v z n, OwnAt g.kd w t v z n → OwnAt g.kd w' t v z n) → cells' ≠ dead →
      Obj' (cx E g { σ with sh := σ.sh.set i cells' } w') (fun j => OwnAt g.kd w' (.cell i j)) w' (g.β i) (g.bs i) cells') :
    Sim E g { σ with sh := σ.sh.set i cells' } a w' := by
  obtain ⟨k1, _⟩ := h.shr i cells hi hd
  have hlt : i < σ.sh.length := (List.getElem?_eq_some_iff.1 hi).1
  obtain ⟨hm, how⟩ := h.setBlk hsz hother (.inl ⟨i, k1, hlt, rfl⟩)
  have hle : Cx.le (cx E g σ w) (cx E g { σ with sh := σ.sh.set i cells' } w') :=
    ⟨hm, by simp [cx], fun _ _ => rfl, fun _ _ => rfl, fun s' hs' => ⟨hs', rfl⟩⟩
  refine { h with os := hos.trans h.os, tape := htape.trans h.tape, output := hout.trans h.output, slots := ?_, shr := ?_, shr1 := ?_, shrlt := ?_, shrk := ?_, loc := ?_, hsize := by rw [hsz]; exact h.hsize, frame := ?_, sframe := ?_, n0 := by simpa using h.n0, dd := ?_ }
  · intro t
    exact RepT.mono hle _ _ (fun _ _ _ => how _ _ _ _) (h.slots t)
  · intro j c hj hdj
    by_cases he : j = i
    · subst he
      rw [List.getElem?_set_self hlt] at hj
      cases hj
      exact ⟨k1, hobj hle how hdj⟩
    · rw [List.getElem?_set_ne (Ne.symm he)] at hj
      obtain ⟨j1, j2⟩ := h.shr j c hj hdj
      refine ⟨j1, j2.mono hle (hother _ ?_) (fun _ _ _ _ _ => how _ _ _ _)⟩
      intro e; rw [e, k1] at j1; injection j1 with j1; exact he j1.symm
  · intro j hj hn
    rcases h.shr1 j (by simpa using hj) hn with h9 | ⟨j0, h9, h10, h11, h12⟩
    · exact .inl h9
    · refine .inr ⟨j0, h9, h10, h11, ?_⟩
      rw [List.getElem?_set_ne (by rintro rfl; rw [hi] at h12; cases h12; exact hd rfl)]; exact h12
  · intro j hj hdj
    have h9 := h.dd j hj hdj
    rw [List.getElem?_set_ne (by rintro rfl; rw [hi] at h9; cases h9; exact hd rfl)]; exact h9
  · intro j hj; rw [hsz]; exact h.shrlt j (by simpa using hj)
  · intro j hj; exact h.shrk j (by simpa using hj)
  · intro s' c hs'
    obtain ⟨j1, j3, j4⟩ := h.loc s' c hs'
    refine ⟨j1, j3, j4.mono hle (hother _ ?_) (fun _ _ _ _ _ h => h)⟩
    intro e; rw [e, k1] at j1; cases j1
  · intro b h1 h2 h3
    rw [hother b ?_]
    · exact h.frame b h1 h2 h3
    · rintro rfl
      rcases Nat.lt_or_ge i E.n0 with hn | hn
      · exact h2 i hn (h.shr0 i hn).1.symm
      · rcases h.shr1 i hlt hn with h9 | ⟨j0, h9, h10, _⟩
        · omega
        · exact h2 j0 h9 h10
  · intro b n hs0
    rw [← h.sframe b n hs0]
    exact (hm b n (.inl ⟨(h.s0 b n hs0).1, hs0⟩)).2

theorem Sim.setShr (h : Sim E g σ a w) {i : Nat} {cells cells' : List AV} {arr arr' : Array Value} {ty : TypeId} {fz : Nat × Nat} (hi : σ.sh[i]? = some cells) (hd : cells ≠ dead)
    (hb : w.heap[g.β i]? = some (.cells arr ty fz)) (hz : nofz fz arr.size) (hsa : arr'.size = arr.size) (hbs : bsz fz arr.size (g.bs i))
    (hr : ∀ (j : Nat) (x : AV), cells'[j]? = some x → ∃ v, arr'[j]? = some v ∧ RepC' (cx E g σ w) (OwnAt g.kd w (.cell i j)) x v) :
    Sim E g { σ with sh := σ.sh.set i cells' } a (w.setRow (g.β i) arr') := by
  refine h.setObj hi hd (by simp [World.setRow]) (fun b' hne => setRow_other w _ b' _ hne) rfl rfl rfl (fun hle how _ => ⟨fun _ => ⟨arr', ty, fz, setRow_heap w _ arr arr' ty fz hb, by rw [hsa]; exact hz, by rw [hsa]; exact hbs, fun j x hx => ?_⟩, ?_⟩)
  · obtain ⟨v, h1, h2⟩ := hr j x hx
    exact ⟨v, h1, RepC'.mono hle _ _ (fun _ _ _ => how _ _ _ _) h2⟩
  · unfold ObjM
    split
    · rename_i l
      obtain ⟨v, _, h2⟩ := hr 0 _ rfl
      simp [RepC', RepE, RepF] at h2
    · trivial
end
end Go.Av
