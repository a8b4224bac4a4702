/- A part of the proof: Av6. No conditions. -/
import Derived.Test.YtcoblmocoegckaaAv5
set_option linter.unusedSimpArgs false
set_option linter.unusedVariables false
namespace Go.Av
open Go.RowKit
section
variable {P : Program} {E : Env} {g g' : Gh} {σ σ1 : AS} {a : Act} {w w' : World} {o : Oper} {Q : Exit → Act → World → Prop}

theorem Sim.addLoc (h : Sim E g σ a w) {d b : Nat} {cells : List AV} (hn : σ.lo d = none) (hk : g.kd b = .loc d) (hb : E.w0.heap.size ≤ b) (ho : Obj' (SS E g w) w b cells) :
    Sim E { g with lam := upd g.lam d b } { σ with lo := upd σ.lo d (some cells) } a w := by
  have hm : ∀ b' n, SS E g w b' n → SS E { g with lam := upd g.lam d b } w b' n ∧ w.cell? ⟨b', n, none⟩ = w.cell? ⟨b', n, none⟩ := fun b' n hs => ⟨hs, rfl⟩
  refine { h with slots := ?_, loc := ?_ }
  · intro t
    refine RepT.mono (c := cx E g σ w) (c' := cx E { g with lam := upd g.lam d b } { σ with lo := upd σ.lo d (some cells) } w) (ow' := OwnAt E { g with lam := upd g.lam d b } w t) hm (Nat.le_refl _) (fun _ _ => rfl) (fun s hs => ?_) _ _ (fun _ _ _ h => h) (h.slots t)
    have hsd : s ≠ d := by rintro rfl; simp [cx, hn] at hs
    simp only [cx] at hs ⊢
    simp [upd, hsd, hs]
  · intro s c hs
    simp only [upd] at hs ⊢
    by_cases hsd : s = d
    · subst hsd
      rw [if_pos rfl] at hs
      cases hs
      rw [if_pos rfl]
      exact ⟨hk, hb, ho⟩
    · rw [if_neg hsd] at hs ⊢
      exact h.loc s c hs

theorem Sim.addShr (h : Sim E g σ a w) {b : Nat} {cells : List AV} (hk : g.kd b = .shr σ.sh.length) (hb : E.w0.heap.size ≤ b) (ho : Obj' (SS E g w) w b cells) :
    Sim E { g with β := upd g.β σ.sh.length b } { σ with sh := σ.sh ++ [cells] } a w := by
  have hm : ∀ b' n, SS E g w b' n → SS E { g with β := upd g.β σ.sh.length b } w b' n ∧ w.cell? ⟨b', n, none⟩ = w.cell? ⟨b', n, none⟩ := fun b' n hs => ⟨hs, rfl⟩
  refine { h with slots := ?_, shr := ?_, n0 := by have := h.n0; simp; omega }
  · intro t
    refine RepT.mono (c := cx E g σ w) (c' := cx E { g with β := upd g.β σ.sh.length b } { σ with sh := σ.sh ++ [cells] } w) (ow' := OwnAt E { g with β := upd g.β σ.sh.length b } w t) hm (by simp [cx]) (fun i hi => ?_) (fun s hs => ⟨hs, rfl⟩) _ _ (fun _ _ _ h => h) (h.slots t)
    simp only [cx] at hi ⊢
    simp [upd, Nat.ne_of_lt hi]
  · intro i c hi
    simp only [upd]
    rw [List.getElem?_append] at hi
    split at hi
    · rename_i hlt
      rw [if_neg (Nat.ne_of_lt hlt)]
      exact h.shr i c hi
    · rename_i hge
      have hi' : i = σ.sh.length := by
        have := (List.getElem?_eq_some_iff.1 hi).1
        simp at this; omega
      subst hi'
      simp at hi
      subst hi
      rw [if_pos rfl]
      have := h.n0
      exact ⟨hk, ho, fun hlt => by omega, fun _ => hb⟩

/-- One block of a local or shared object has turned. -/
theorem Sim.setBlk (h : Sim E g σ a w) {b : Nat} {arr arr' : Array Value} {ty : TypeId} (hb : w.heap[b]? = some (.cells arr ty (0, 0)))
    (hk : (∃ i, g.kd b = .shr i ∧ i < σ.sh.length ∧ g.β i = b) ∨ (∃ s, g.kd b = .loc s ∧ E.w0.heap.size ≤ b)) :
    (∀ b' n, SS E g w b' n → SS E g (w.setRow b arr') b' n ∧ (w.setRow b arr').cell? ⟨b', n, none⟩ = w.cell? ⟨b', n, none⟩) ∧
    ((w.setRow b arr').heap[b]? = some (.cells arr' ty (0, 0))) ∧
    (∀ b', b' ≠ b → (w.setRow b arr').heap[b']? = w.heap[b']?) := by
  have hother : ∀ b', b' ≠ b → (w.setRow b arr').heap[b']? = w.heap[b']? := fun b' hne => setRow_other w b b' _ hne
  have hsz : (w.setRow b arr').heap.size = w.heap.size := by simp [World.setRow]
  refine ⟨fun b' n hs => ?_, setRow_heap w b arr arr' ty (0, 0) hb, hother⟩
  have hne : b' ≠ b := by
    rintro rfl
    rcases hk with ⟨i, hk, hi, hbi⟩ | ⟨s, hk, hge⟩
    · exact SS.nshr h hs hi hbi
    · rcases hs with ⟨h1, _⟩ | ⟨_, _, h3⟩
      · omega
      · rw [hk] at h3
        rcases h3 with h3 | ⟨_, _, h3, _⟩ <;> cases h3
  refine ⟨?_, by simp [World.cell?, hother b' hne]⟩
  rcases hs with hs | ⟨h1, h2, h3⟩
  · exact .inl hs
  · exact .inr ⟨h1, by rw [hsz]; exact h2, h3⟩

theorem Sim.setLoc (h : Sim E g σ a w) {s : Nat} {cells cells' : List AV} {arr arr' : Array Value} {ty : TypeId} (hs : σ.lo s = some cells)
    (hb : w.heap[g.lam s]? = some (.cells arr ty (0, 0))) (hr : RepL (RepF (SS E g w) w) cells' arr'.toList) :
    Sim E g { σ with lo := upd σ.lo s (some cells') } a (w.setRow (g.lam s) arr') := by
  obtain ⟨k1, k2, k3⟩ := h.loc s cells hs
  obtain ⟨hm, hnew, hother⟩ := h.setBlk (arr' := arr') hb (.inr ⟨s, k1, k2⟩)
  refine { h with slots := ?_, shr := ?_, loc := ?_, hsize := by simpa [World.setRow] using h.hsize, frame := ?_ }
  · intro t
    refine RepT.mono (c := cx E g σ w) (c' := cx E g { σ with lo := upd σ.lo s (some cells') } (w.setRow (g.lam s) arr')) (ow' := OwnAt E g (w.setRow (g.lam s) arr') t) hm (Nat.le_refl _) (fun _ _ => rfl) (fun s' hs' => ⟨?_, rfl⟩) _ _ ?_ (h.slots t)
    · show (upd σ.lo s (some cells') s').isSome = true
      unfold upd; split
      · rfl
      · exact hs'
    · rintro z l hx ⟨A, c, e1, e2⟩
      refine ⟨A, c, e1, ?_⟩
      rcases e2 with e2 | ⟨b, ar, tt, e3, e4, e5, e6, e7⟩
      · exact .inl e2
      · refine .inr ⟨b, ar, tt, e3, ?_, e5, e6, e7⟩
        rw [hother b ?_]; exact e4
        rintro rfl; rw [k1] at e6; cases e6
  · intro i c hi
    obtain ⟨j1, ⟨ar, tt, j2, j2'⟩, j3, j4⟩ := h.shr i c hi
    refine ⟨j1, ⟨ar, tt, ?_, j2'.mono (RepF.mono hm)⟩, j3, j4⟩
    rw [hother _ ?_]; exact j2
    intro e; rw [e, k1] at j1; cases j1
  · intro s' c hs'
    simp only [upd] at hs'
    by_cases he : s' = s
    · subst he
      rw [if_pos rfl] at hs'
      cases hs'
      exact ⟨k1, k2, _, _, hnew, hr.mono (RepF.mono hm)⟩
    · rw [if_neg he] at hs'
      obtain ⟨j1, j3, ⟨ar, tt, j2, j2'⟩⟩ := h.loc s' c hs'
      refine ⟨j1, j3, ⟨ar, tt, ?_, j2'.mono (RepF.mono hm)⟩⟩
      rw [hother _ ?_]; exact j2
      intro e; rw [e, k1] at j1; injection j1 with j1; exact he j1.symm
  · intro b h1 h2
    rw [hother b (by omega)]
    exact h.frame b h1 h2

theorem Sim.setShr (h : Sim E g σ a w) {i : Nat} {cells cells' : List AV} {arr arr' : Array Value} {ty : TypeId} (hi : σ.sh[i]? = some cells)
    (hb : w.heap[g.β i]? = some (.cells arr ty (0, 0))) (hr : RepL (RepF (SS E g w) w) cells' arr'.toList) :
    Sim E g { σ with sh := σ.sh.set i cells' } a (w.setRow (g.β i) arr') := by
  obtain ⟨k1, _, k3, k4⟩ := h.shr i cells hi
  have hlt : i < σ.sh.length := (List.getElem?_eq_some_iff.1 hi).1
  obtain ⟨hm, hnew, hother⟩ := h.setBlk (arr' := arr') hb (.inl ⟨i, k1, hlt, rfl⟩)
  refine { h with slots := ?_, shr := ?_, loc := ?_, hsize := by simpa [World.setRow] using h.hsize, frame := ?_, n0 := by simpa using h.n0 }
  · intro t
    refine RepT.mono (c := cx E g σ w) (c' := cx E g { σ with sh := σ.sh.set i cells' } (w.setRow (g.β i) arr')) (ow' := OwnAt E g (w.setRow (g.β i) arr') t) hm (by simp [cx]) (fun _ _ => rfl) (fun s' hs' => ⟨hs', rfl⟩) _ _ ?_ (h.slots t)
    rintro z l hx ⟨A, c, e1, e2⟩
    refine ⟨A, c, e1, ?_⟩
    rcases e2 with e2 | ⟨b, ar, tt, e3, e4, e5, e6, e7⟩
    · exact .inl e2
    · refine .inr ⟨b, ar, tt, e3, ?_, e5, e6, e7⟩
      rw [hother b ?_]; exact e4
      rintro rfl; rw [k1] at e6; cases e6
  · intro j c hj
    by_cases he : j = i
    · subst he
      rw [List.getElem?_set_self hlt] at hj
      cases hj
      exact ⟨k1, ⟨_, _, hnew, hr.mono (RepF.mono hm)⟩, k3, k4⟩
    · rw [List.getElem?_set_ne (Ne.symm he)] at hj
      obtain ⟨j1, ⟨ar, tt, j2, j2'⟩, j3, j4⟩ := h.shr j c hj
      refine ⟨j1, ⟨ar, tt, ?_, j2'.mono (RepF.mono hm)⟩, j3, j4⟩
      rw [hother _ ?_]; exact j2
      intro e; rw [e, k1] at j1; injection j1 with j1; exact he j1.symm
  · intro s' c hs'
    obtain ⟨j1, j3, ⟨ar, tt, j2, j2'⟩⟩ := h.loc s' c hs'
    refine ⟨j1, j3, ⟨ar, tt, ?_, j2'.mono (RepF.mono hm)⟩⟩
    rw [hother _ ?_]; exact j2
    intro e; rw [e, k1] at j1; cases j1
  · intro b h1 h2
    rw [hother b ?_]
    · exact h.frame b h1 h2
    · rintro rfl
      rcases Nat.lt_or_ge i E.n0 with hn | hn
      · exact h2 i hn (k3 hn).symm
      · have := k4 hn; omega

end
end Go.Av
