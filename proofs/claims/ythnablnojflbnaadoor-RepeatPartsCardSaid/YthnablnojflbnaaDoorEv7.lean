/- A part of the proof: Ev7. No conditions. -/
import Derived.Test.YthnablnojflbnaaDoorEv6
import Derived.Laws.CopyRow
set_option linter.unusedSimpArgs false
set_option linter.unusedVariables false
namespace Go.Av
set_option linter.unusedSectionVars false
variable [Gtab]
open Go.RowKit
section
variable {P : Program} {E : Env} {g g' : Gh} {σ σ1 : AS} {a : Act} {w w' : World} {o : Oper} {Q : Exit → Act → World → Prop}

theorem zero_info {e : TypeId} {zero : List AV} (h : zeroIs P e zero = true) : ∃ i zv, P.info? e = some i ∧ i.zero = some zv ∧ okL zv.cells.toList zero = true ∧ i.size = zero.length := by
  unfold zeroIs at h
  split at h
  · rename_i i hi
    rw [Bool.and_eq_true] at h
    obtain ⟨h1, h2⟩ := h
    split at h1
    · rename_i zv hz
      exact ⟨i, zv, hi, hz, h1, by simpa using h2⟩
    · cases h1
  · cases h

theorem zero_infoO {e : TypeId} {zero : List AV} (h : zeroIsO P e zero = true) : ∃ i zv, P.info? e = some i ∧ i.zero = some zv ∧ okLO zv.cells.toList zero = true ∧ i.size = zero.length := by
  unfold zeroIsO at h
  split at h
  · rename_i i hi
    rw [Bool.and_eq_true] at h
    obtain ⟨h1, h2⟩ := h
    split at h1
    · rename_i zv hz
      exact ⟨i, zv, hi, hz, h1, by simpa using h2⟩
    · cases h1
  · cases h
theorem okLO_rep {c : Cx} : ∀ {vs : List Value} {l : List AV}, okLO vs l = true → RepL (RepC' c noOwn) l vs
  | [], [], _ => trivial
  | v :: vs, x :: l, h => by
    unfold okLO at h
    split at h
    · rename_i h1 h2; cases h1
    · rename_i h1 h2
      cases h1; cases h2
      exact ⟨trivial, okLO_rep h⟩
    · rename_i h1 h2
      cases h1; cases h2
      rw [Bool.and_eq_true] at h
      exact ⟨(repF_one (okC_rep h.1)).2, okLO_rep h.2⟩
    · cases h
  | [], _ :: _, h => by simp [okLO] at h
  | v :: vs, [], h => by simp [okLO] at h
theorem cells_of_repO {c : Cx} {ow : Nat → Value → Nat → Nat → Prop} {l : List AV} {arr : Array Value} (h : RepL (RepC' c noOwn) l arr.toList) : ∀ (j : Nat) (x : AV), l[j]? = some x → ∃ v, arr[j]? = some v ∧ RepC' c (ow j) x v := by
  intro j x hx
  obtain ⟨v, h1, h2⟩ := h.get hx
  exact ⟨v, by simpa using h1, RepC'.mono (Cx.le.refl c) x v (fun _ _ _ q => q.elim) h2⟩
theorem cells_of_repL {c : Cx} {ow : Nat → Value → Nat → Nat → Prop} {l : List AV} {arr : Array Value} (h : RepL (RepF c.S c.w) l arr.toList) : ∀ (j : Nat) (x : AV), l[j]? = some x → ∃ v, arr[j]? = some v ∧ RepC' c (ow j) x v := by
  intro j x hx
  obtain ⟨v, h1, h2⟩ := h.get hx
  refine ⟨v, by simpa using h1, ?_⟩
  cases x with
  | sl m z l =>
    cases m with
    | own =>
      simp only [RepF] at h2
      obtain ⟨_, _, _, _, _, h6, _⟩ := h2
      exact absurd rfl h6
    | no => exact h2
    | full => exact h2
  | any => trivial
  | undef => simp [RepF] at h2
  | int => exact h2
  | bool => exact h2
  | str => exact h2
  | nilp => exact h2
  | _ => simp [RepF] at h2

/-- A new block as a local object. -/
theorem Sim.newLoc (h : Sim E g σ a w) {d : Nat} {cells : List AV} {cs : Array Value} {e : TypeId} (hn : σ.lo d = none) (hr : RepL (RepF (SS E g w) w) cells cs.toList) :
    Sim E { g with kd := upd g.kd w.heap.size (.loc d), lam := upd g.lam d w.heap.size } { σ with lo := upd σ.lo d (some cells) } a (w.alloc (.cells cs e)) := by
  obtain ⟨h1, hle⟩ := h.alloc (.cells cs e) (.loc d)
  have hlen := hr.length
  simp only [Array.length_toList] at hlen
  exact h1.addLoc hn (by simp [upd]) h.hsize ⟨cs, e, (0, 0), heap_alloc_new w _, .inl rfl, ⟨by omega, fun h => by omega⟩, cells_of_repL (ow := fun _ => noOwn) (hr.mono (RepF.mono hle.cell))⟩

/-- A new block as a shared object. -/
theorem Sim.newShr (h : Sim E g σ a w) {cells : List AV} {cs : Array Value} {e : TypeId} (hr : ∀ (j : Nat) (x : AV), cells[j]? = some x → ∃ v, cs[j]? = some v ∧ RepC' (cx E g σ w) noOwn x v) :
    ∃ g', Sim E g' { σ with sh := σ.sh ++ [cells] } a (w.alloc (.cells cs e)) ∧ Cx.le (cx E g σ w) (cx E g' { σ with sh := σ.sh ++ [cells] } (w.alloc (.cells cs e))) ∧ g'.β σ.sh.length = w.heap.size ∧ g'.bs σ.sh.length = 2 * cs.size + 1 := by
  obtain ⟨h1, hle⟩ := h.alloc (.cells cs e) (.shr σ.sh.length)
  have := h1.addShr (b := w.heap.size) (n := 2 * cs.size + 1) (cells := cells) (by simp [upd]) h.hsize (by simp) (fun hd => ⟨fun _ => ⟨cs, e, (0, 0), heap_alloc_new w _, .inl rfl, ⟨by omega, fun _ => rfl⟩, fun j x hx => ?_⟩, ?_⟩)
  · exact ⟨_, this.1, ⟨fun b n hs => ⟨(this.2.cell b n (hle.cell b n hs).1).1, (hle.cell b n hs).2⟩, by simp [cx], fun i hi => by simp only [cx] at hi ⊢; simp [upd, Nat.ne_of_lt hi], fun i hi => by simp only [cx] at hi ⊢; simp [upd, Nat.ne_of_lt hi], fun s hs => ⟨hs, rfl⟩⟩, by simp [upd], by simp [upd]⟩
  · obtain ⟨v, h2, h3⟩ := hr j x hx
    exact ⟨v, h2, RepC'.mono hle _ _ (fun _ _ _ h => h.elim) h3⟩
  · unfold ObjM
    split
    · obtain ⟨v, _, h3⟩ := hr 0 _ rfl
      simp [RepC', RepE, RepF] at h3
    · trivial

theorem snd_alloc (hs : Sim E g σ a w) {d : Nat} (hdst : o.dst = some d) (hd : d < E.nt) {e : TypeId} {zero : List AV} (hop : o.op = .alloc e) (hz : zeroIs P e zero = true) (hn : σ.lo d = none) :
    o.wp P a w (Post E (put { σ with lo := upd σ.lo d (some zero) } o.dst (.loc d 0))) Q := by
  obtain ⟨i, zv, h1, h2, h3, _⟩ := zero_info hz
  refine fin_val (hs.newLoc (cs := zv.cells) (e := e) hn (okL_rep h3)) (val := .pointer (some ⟨w.heap.size, 0, none⟩)) ?_ fun d' h => ?_
  · simp [execOp, hop, Instr.alloc, zeroValue, typeInfo, h1, h2, newVar, newRow]
  · rw [hdst] at h; cases h
    exact ⟨hd, by simp [cx, upd], by simp [cx, upd]⟩

theorem snd_allocS (hs : Sim E g σ a w) {d : Nat} (hdst : o.dst = some d) (hd : d < E.nt) {e : TypeId} {zero : List AV} (hop : o.op = .alloc e) (hz : zeroIsO P e zero = true) :
    o.wp P a w (Post E (put { σ with sh := σ.sh ++ [zero] } o.dst (.ptr σ.sh.length 0))) Q := by
  obtain ⟨i, zv, h1, h2, h3, _⟩ := zero_infoO hz
  obtain ⟨g', k1, k2, k3, k4⟩ := hs.newShr (cs := zv.cells) (e := e) (cells := zero) (cells_of_repO (c := cx E g σ w) (ow := fun _ => noOwn) (okLO_rep h3))
  refine fin_val k1 (val := .pointer (some ⟨w.heap.size, 0, none⟩)) ?_ fun d' h => ?_
  · simp [execOp, hop, Instr.alloc, zeroValue, typeInfo, h1, h2, newVar, newRow]
  · rw [hdst] at h; cases h
    exact ⟨hd, by simp [cx], by simp [cx, k3]⟩

theorem snd_box (hs : Sim E g σ a w) {d : Nat} (hdst : o.dst = some d) (hd : d < E.nt) {e : TypeId} {x : Operand} {r : AR} {n : Nat} {cs : List AV} (hop : o.op = .box e x) (hx : okR x r = true) (hc : cellsOfV n (ev σ.fr r) = some cs) (hn : σ.lo d = none) :
    o.wp P a w (Post E (put { σ with lo := upd σ.lo d (some cs) } o.dst (.loc d 0))) Q := by
  obtain ⟨_, hr, _⟩ := hs.rdT hx
  obtain ⟨h3, _⟩ := cellsOfV_rep hc hr
  refine fin_val (hs.newLoc (cs := (a.eval x).cells) (e := e) hn h3) (val := .pointer (some ⟨w.heap.size, 0, none⟩)) ?_ fun d' h => ?_
  · simp [execOp, hop, Instr.box, newVar, newRow]
  · rw [hdst] at h; cases h
    exact ⟨hd, by simp [cx, upd], by simp [cx, upd]⟩

theorem snd_boxS (hs : Sim E g σ a w) {d : Nat} (hdst : o.dst = some d) (hd : d < E.nt) {e : TypeId} {x : Operand} {r : AR} {n : Nat} {cs : List AV} (hop : o.op = .box e x) (hx : okR x r = true) (hc : cellsOfV n (ev σ.fr r) = some cs) :
    o.wp P a w (Post E (put { σ with sh := σ.sh ++ [cs] } o.dst (.ptr σ.sh.length 0))) Q := by
  obtain ⟨_, hr, _⟩ := hs.rdT hx
  obtain ⟨h3, _⟩ := cellsOfV_rep hc hr
  obtain ⟨g', k1, k2, k3, k4⟩ := hs.newShr (cs := (a.eval x).cells) (e := e) (cells := cs) (cells_of_repL (c := cx E g σ w) (ow := fun _ => noOwn) h3)
  refine fin_val k1 (val := .pointer (some ⟨w.heap.size, 0, none⟩)) ?_ fun d' h => ?_
  · simp [execOp, hop, Instr.box, newVar, newRow]
  · rw [hdst] at h; cases h
    exact ⟨hd, by simp [cx], by simp [cx, k3]⟩

theorem isAgg_run {t : TypeId} {agg : Bool} {n : Nat} (h : sizeIs P t agg n = true) : (∀ w, (isAgg t).run P w = .ok agg w) ∧ (∀ w, (sizeOf t).run P w = .ok n w) := by
  unfold sizeIs at h
  simp only [Bool.and_eq_true] at h
  obtain ⟨⟨h1, h2⟩, h3⟩ := h
  obtain ⟨u, hu⟩ := Option.isSome_iff_exists.1 h1
  cases hi : P.info? t with
  | none => rw [hi] at h3; cases h3
  | some i =>
    rw [hi] at h3
    have hn : i.size = n := by simpa using h3
    refine ⟨fun w => ?_, fun w => by simp [sizeOf, typeInfo, hi, hn]⟩
    have h2' : isAggP P t = agg := by simpa using h2
    simp only [isAggP, hu] at h2'
    unfold isAgg
    simp only [Sem.run_bind, run_underlying hu, Result.andThen_ok]
    subst h2'
    cases u <;> rfl

/-- Loading n cells that are known. -/
theorem load_run {t : TypeId} {agg : Bool} {n off : Nat} {b : Nat} {vs : List Value} (h : sizeIs P t agg n = true) (hl : vs.length = n)
    (hc : ∀ j v, vs[j]? = some v → w.cell? ⟨b, off + j, none⟩ = some v) (h1 : agg = false → ∃ x, vs = [x]) :
    ∃ val, (Instr.loadAt t (.pointer (some ⟨b, off, none⟩))).run P w = .ok val w ∧ ((agg = true ∧ val = .agg vs.toArray) ∨ (agg = false ∧ vs = [val])) := by
  obtain ⟨ha, hsz⟩ := isAgg_run h
  cases agg with
  | true =>
    have hld := run_loadCells_list (P := P) w ⟨b, off, none⟩ vs (fun j v hj => by rw [add_none]; exact hc j v hj)
    rw [hl] at hld
    exact ⟨.agg vs.toArray, by simp [Instr.loadAt, Instr.sureAddr, loadVar, ha, hsz, hld], .inl ⟨rfl, rfl⟩⟩
  | false =>
    obtain ⟨x, rfl⟩ := h1 rfl
    have : w.cell? ⟨b, off, none⟩ = some x := by simpa using hc 0 x rfl
    exact ⟨x, by simp [Instr.loadAt, Instr.sureAddr, loadVar, ha, this], .inr ⟨rfl, rfl⟩⟩

/-- What a load of cells of an abstract object gives. -/
theorem ld_core (hs : Sim E g σ a w) (hd : ∀ d, o.dst = some d → d < E.nt) {t : TypeId} {x : Operand} {agg : Bool} {n off b : Nat} (hop : o.op = .load t x) (hsz : sizeIs P t agg n = true)
    (he : a.eval x = .pointer (some ⟨b, off, none⟩)) {cells : List AV} {v : AV} (ht : takeC agg off n cells = some v) {vs : List Value}
    (hvs : RepL (RepF (SS E g w) w) ((cells.drop off).take n) vs) (hc : ∀ j u, vs[j]? = some u → w.cell? ⟨b, off + j, none⟩ = some u) :
    o.wp P a w (Post E (put σ o.dst v)) Q := by
  obtain ⟨h1, h2, h3⟩ := takeC_rep (c := cx E g σ w) ht hvs
  obtain ⟨val, h4, h5⟩ := load_run (P := P) hsz h1 hc (fun ha => by
    rcases h2 with ⟨e, _⟩ | ⟨_, x, e, _⟩
    · rw [ha] at e; cases e
    · exact ⟨x, e⟩)
  refine plain_fin hs hd (val := val) ?_ h3 ?_
  · simp [execOp, hop, he, h4]
  · rcases h2 with ⟨e1, e2⟩ | ⟨e1, y, e2, e3⟩ <;> rcases h5 with ⟨f1, f2⟩ | ⟨f1, f2⟩
    · rw [f2]; exact e2
    · rw [e1] at f1; cases f1
    · rw [e1] at f1; cases f1
    · rw [e2] at f2; cases f2; exact e3

theorem RepC_cells {S : Nat → Nat → Prop} {b o : Nat} : ∀ {cells : List AV}, RepC S w cells b o → ∀ n, ∃ vs, RepL (RepF S w) (cells.take n) vs ∧ ∀ j u, vs[j]? = some u → w.cell? ⟨b, o + j, none⟩ = some u
  | _, _, 0 => ⟨[], by simp [RepL], by simp⟩
  | [], _, _ + 1 => ⟨[], by simp [RepL], by simp⟩
  | c :: cs, h, n + 1 => by
    simp only [RepC] at h
    obtain ⟨⟨_, u, h1, h2⟩, h3⟩ := h
    obtain ⟨vs, h4, h5⟩ := RepC_cells h3 n
    refine ⟨u :: vs, ⟨h2, h4⟩, fun j x hx => ?_⟩
    cases j with
    | zero => simp at hx; subst hx; simpa using h1
    | succ j =>
      have := h5 j x (by simpa using hx)
      rwa [show o + 1 + j = o + (j + 1) from by omega] at this

/-- What a load of an object's cells gives. -/
theorem ldO_core (hs : Sim E g σ a w) (hd : ∀ d, o.dst = some d → d < E.nt) {t : TypeId} {x : Operand} {agg : Bool} {n off b : Nat} (hop : o.op = .load t x) (hsz : sizeIs P t agg n = true)
    (he : a.eval x = .pointer (some ⟨b, off, none⟩)) {cells : List AV} {v : AV} (ht : ldC agg off n cells = some v) {ow : Nat → Value → Nat → Nat → Prop} {m : Nat} (hb : ObjB (cx E g σ w) ow w b m cells) :
    o.wp P a w (Post E (put σ o.dst v)) Q := by
  obtain ⟨arr, ty, fz, h1, _, h2, h3⟩ := hb
  obtain ⟨h4, h5⟩ := ldC_rep ht h3
  have hcell : ∀ j u, arr[off + j]? = some u → w.cell? ⟨b, off + j, none⟩ = some u := fun j u hu => by
    simp [World.cell?, h1]; simpa using hu
  rcases h5 with ⟨rfl, vs, h6, h7, h8⟩ | ⟨rfl, u, h6, h7⟩
  · obtain ⟨val, h9, h10⟩ := load_run (P := P) (off := off) hsz h6 (fun j u hu => hcell j u (h7 j u hu)) (fun h => by cases h)
    rcases h10 with ⟨_, rfl⟩ | ⟨h10, _⟩
    · refine plain_fin hs hd (val := .agg vs.toArray) ?_ h4 h8
      simp [execOp, hop, he, h9]
    · cases h10
  · have hn : ∃ n', n = n' := ⟨n, rfl⟩
    obtain ⟨ha, _⟩ := isAgg_run hsz
    have hc0 : w.cell? ⟨b, off, none⟩ = some u := by simpa using hcell 0 u (by simpa using h6)
    refine plain_fin hs hd (val := u) ?_ h4 h7
    simp [execOp, hop, he, Instr.loadAt, Instr.sureAddr, loadVar, ha, hc0]

theorem snd_ldL (hs : Sim E g σ a w) (hd : ∀ d, o.dst = some d → d < E.nt) {t : TypeId} {x : Operand} {r : AR} {agg : Bool} {n : Nat} (hop : o.op = .load t x) (hx : okR x r = true) (hsz : sizeIs P t agg n = true)
    {s off : Nat} {cells : List AV} {v : AV} (he : ev σ.fr r = .loc s off) (hl : σ.lo s = some cells) (ht : ldC agg off n cells = some v) :
    o.wp P a w (Post E (put σ o.dst v)) Q := by
  have hrd := hs.rd hx he
  exact ldO_core hs hd hop hsz hrd.2 ht (hs.loc s cells hl).2.2

theorem ldC_blk {agg : Bool} {off n : Nat} {cells : List AV} {v : AV} (h : ldC agg off n cells = some v) (hn : n ≠ 0 ∨ agg = false) : blkB cells = true ∧ cells ≠ dead := by
  have key : ∀ y, (y = .undef ∨ ∃ l, y = .mapv l) → ldC agg off n [y] = some v → False := by
    intro y hy h
    unfold ldC at h
    split at h
    · rename_i ha
      split at h
      · rename_i hc
        obtain ⟨h1, h2⟩ := hc
        have hn' : n ≠ 0 := by
          rcases hn with hn | hn
          · exact hn
          · rw [ha] at hn; cases hn
        have : off = 0 ∧ n = 1 := by
          rw [List.length_take, List.length_drop] at h1
          simp at h1; omega
        obtain ⟨rfl, rfl⟩ := this
        rcases hy with rfl | ⟨l, rfl⟩ <;> simp [flatB, demV] at h2
      · cases h
    · cases off with
      | zero =>
        simp only [List.getElem?_cons_zero] at h
        rcases hy with rfl | ⟨l, rfl⟩ <;> simp [ldV] at h
      | succ k => simp at h
  constructor
  · cases hb : blkB cells with
    | true => rfl
    | false =>
      unfold blkB at hb
      split at hb
      · exact (key _ (.inr ⟨_, rfl⟩) h).elim
      · exact (key _ (.inl rfl) h).elim
      · cases hb
  · rintro rfl
    exact key _ (.inl rfl) h

theorem snd_ldS (hs : Sim E g σ a w) (hd : ∀ d, o.dst = some d → d < E.nt) {t : TypeId} {x : Operand} {r : AR} {agg : Bool} {n : Nat} (hop : o.op = .load t x) (hx : okR x r = true) (hsz : sizeIs P t agg n = true)
    {s off : Nat} {cells : List AV} {v : AV} (he : ev σ.fr r = .ptr s off) (hl : σ.sh[s]? = some cells) (ht : ldC agg off n cells = some v) :
    o.wp P a w (Post E (put σ o.dst v)) Q := by
  have hrd := hs.rd hx he
  by_cases hn : n ≠ 0 ∨ agg = false
  · obtain ⟨h1, h2⟩ := ldC_blk ht hn
    exact ldO_core hs hd hop hsz hrd.2 ht ((hs.shr s cells hl h2).2.1 h1)
  · have hn0 : n = 0 := by
      by_cases h : n = 0
      · exact h
      · exact absurd (.inl h) hn
    have ha : agg = true := by
      cases agg
      · exact absurd (.inr rfl) hn
      · rfl
    subst hn0; subst ha
    have hv : v = .agg [] := by
      unfold ldC at ht
      simpa using ht.symm
    subst hv
    obtain ⟨val, h9, h10⟩ := load_run (P := P) (w := w) (b := g.β s) (off := off) (vs := []) hsz rfl (fun j u hu => by simp at hu) (fun h => by cases h)
    rcases h10 with ⟨_, rfl⟩ | ⟨h10, _⟩
    · refine plain_fin hs hd (val := .agg #[]) ?_ rfl ⟨#[], rfl, trivial⟩
      have e := hrd.2
      simp only [cx] at e
      simp [execOp, hop, e, h9]
    · cases h10

theorem snd_ldI (hs : Sim E g σ a w) (hd : ∀ d, o.dst = some d → d < E.nt) {t : TypeId} {x : Operand} {r : AR} {agg : Bool} {n : Nat} (hop : o.op = .load t x) (hx : okR x r = true) (hsz : sizeIs P t agg n = true)
    {cells : List AV} {v : AV} (he : ev σ.fr r = .ip cells) (ht : takeC agg 0 n cells = some v) :
    o.wp P a w (Post E (put σ o.dst v)) Q := by
  obtain ⟨b, k, h1, h2⟩ := hs.rd hx he
  obtain ⟨vs, h3, h4⟩ := RepC_cells h2 n
  have h5 : takeC agg k n (List.replicate k .any ++ cells) = some v := by
    unfold takeC at ht ⊢
    simpa using ht
  have h6 : RepL (RepF (SS E g w) w) (((List.replicate k AV.any ++ cells).drop k).take n) vs := by simpa [cx] using h3
  exact ld_core hs hd hop hsz h1 h5 h6 h4

theorem oneCell_of_repL {S : Nat → Nat → Prop} {c : Cx} : ∀ {l : List AV} {vs : List Value}, RepL (RepF c.S c.w) l vs → ∀ v ∈ vs, v.oneCell' = true
  | [], [], _, _, hv => by cases hv
  | x :: l, v :: vs, h, u, hu => by
    rcases List.mem_cons.1 hu with rfl | hu
    · have h1 := h.1
      cases x with
      | int k n => simp only [RepF] at h1; subst h1; rfl
      | bool b => simp only [RepF] at h1; subst h1; rfl
      | str s => simp only [RepF] at h1; obtain ⟨b, rfl, _⟩ := h1; rfl
      | nilp => simp only [RepF] at h1; subst h1; rfl
      | sl m z l => simp only [RepF] at h1; obtain ⟨A, cp, rfl, _⟩ := h1; rfl
      | _ => simp [RepF] at h1
    · exact oneCell_of_repL (S := S) h.2 u hu
  | [], _ :: _, h, _, _ => by simp [RepL] at h
  | _ :: _, [], h, _, _ => by simp [RepL] at h

theorem putC_eq {off : Nat} {cs cells c' : List AV} (h : putC off cs cells = some c') : off + cs.length ≤ cells.length ∧ c' = cells.take off ++ cs ++ cells.drop (off + cs.length) := by
  unfold putC at h
  split at h
  · cases h; exact ⟨by assumption, rfl⟩
  · cases h

theorem run_storeCells_nofz (P : Program) (b o : Nat) (t : TypeId) (fz : Nat × Nat) : ∀ (vs : List Value) (i : Nat) (cur : Array Value) (w : World), w.heap[b]? = some (.cells cur t fz) → nofz fz cur.size → o + i + vs.length ≤ cur.size → (∀ v ∈ vs, v.oneCell' = true) →
    (storeCells ⟨b, o, none⟩ vs i).run P w = .ok () (w.setRow b (cur.toList.take (o + i) ++ vs ++ cur.toList.drop (o + i + vs.length)).toArray)
  | [], i, cur, w, hg, _, _, _ => by
    simp only [storeCells, List.append_nil, List.length_nil, Nat.add_zero, List.take_append_drop, Array.toArray_toList]
    rw [Av.setRow_self hg]
    rfl
  | v :: vs, i, cur, w, hg, hz, hl, h1 => by
    simp only [List.length_cons] at hl
    have hi : o + i < cur.size := by omega
    have hcell : w.cell? ⟨b, o + i, none⟩ = some cur[o + i] := by simp [World.cell?, hg, hi]
    have hfro : w.frozen? ⟨b, o + i, none⟩ = false := by
      simp only [World.frozen?, hg]
      rcases hz with rfl | hz
      · simp
      · simp; omega
    have hst : (store ((⟨b, o, none⟩ : Addr).add i) v).run P w = .ok () (w.setRow b (cur.setIfInBounds (o + i) v)) := by
      rw [add_none, run_store P w _ v _ (h1 v (by simp)), hcell]
      simp [hfro, setCell_eq_setRow w b (o + i) cur t fz v hg]
    have ih := run_storeCells_nofz P b o t fz vs (i + 1) (cur.setIfInBounds (o + i) v) (w.setRow b (cur.setIfInBounds (o + i) v)) (setRow_heap w b cur _ t _ hg) (by simpa using hz) (by simp; omega) (fun x hx => h1 x (by simp [hx]))
    simp only [storeCells, Sem.run_bind, hst, Result.andThen_ok, ih, setRow_setRow]
    have e := list_seg_step cur.toList (o + i) v vs (by simp; omega)
    congr 3
    simpa [Array.toList_setIfInBounds, Nat.add_assoc] using e

/-- A store of a value into an object's block. -/
theorem st_core {t : TypeId} {x y : Operand} {n off b : Nat} (hop : o.op = .store t x y) (hsz : sizeOf' P t = some n) (hdst : o.dst = none)
    (he : a.eval x = .pointer (some ⟨b, off, none⟩)) {arr : Array Value} {ty : TypeId} {fz : Nat × Nat} (hb : w.heap[b]? = some (.cells arr ty fz)) (hz : nofz fz arr.size)
    (hlen : (a.eval y).cells.size = n) (hfit : off + n ≤ arr.size) (h1 : ∀ v ∈ (a.eval y).cells.toList, v.oneCell' = true)
    {K : Act → World → Prop} (hK : K a (w.setRow b (arr.toList.take off ++ (a.eval y).cells.toList ++ arr.toList.drop (off + n)).toArray)) : o.wp P a w K Q := by
  obtain ⟨i, hi, hin⟩ := size_info hsz
  have hst := run_storeCells_nofz P b off ty fz (a.eval y).cells.toList 0 arr w hb hz (by simpa [hlen] using hfit) h1
  simp only [Nat.add_zero, Array.length_toList, hlen] at hst
  have hrun : (execOp a.eval o).run P w = .ok .skip (w.setRow b (arr.toList.take off ++ (a.eval y).cells.toList ++ arr.toList.drop (off + n)).toArray) := by
    simp [execOp, hop, he, Instr.storeAt, Instr.sureAddr, storeVar, sizeOf, typeInfo, hi, hin, hlen, hst]
  unfold Oper.wp
  rw [hrun]
  show K (a.put o.dst undef) _
  rw [hdst]
  exact hK

theorem st_rep {R : AV → Value → Prop} {off : Nat} {cs cells : List AV} {vs arr : List Value} (h1 : RepL R cells arr) (h2 : RepL R cs vs) :
    RepL R (cells.take off ++ cs ++ cells.drop (off + cs.length)) (arr.take off ++ vs ++ arr.drop (off + vs.length)) := by
  rw [h2.length]
  exact ((h1.take off).append h2).append (h1.drop _)

/-- The cells of an object into which cells have been stored. -/
theorem st_cells {c : Cx} {ow : Nat → Value → Nat → Nat → Prop} {off : Nat} {cs cells : List AV} {arr us : List Value} (hlen : cs.length = us.length) (hfit : off + cs.length ≤ cells.length)
    (h1 : ∀ (j : Nat) (x : AV), cells[j]? = some x → ∃ u, arr[j]? = some u ∧ RepC' c (ow j) x u) (h2 : ∀ (j : Nat) (y : AV), cs[j]? = some y → ∃ u, us[j]? = some u ∧ RepC' c noOwn y u) :
    ∀ (j : Nat) (x : AV), (cells.take off ++ cs ++ cells.drop (off + cs.length))[j]? = some x → ∃ u, (arr.take off ++ us ++ arr.drop (off + us.length)).toArray[j]? = some u ∧ RepC' c (ow j) x u := by
  have hal : cells.length ≤ arr.length := by
    by_cases h0 : cells.length = 0
    · omega
    · obtain ⟨u, h3, _⟩ := h1 (cells.length - 1) _ (List.getElem?_eq_getElem (by omega))
      have := (List.getElem?_eq_some_iff.1 h3).1
      omega
  intro j x hx
  rw [List.getElem?_toArray]
  rw [List.append_assoc, List.getElem?_append, List.length_take] at hx
  rw [List.append_assoc, List.getElem?_append, List.length_take]
  have e1 : min off cells.length = off := by omega
  have e2 : min off arr.length = off := by omega
  rw [e1] at hx
  rw [e2]
  split at hx
  · rename_i hj
    rw [if_pos hj]
    rw [List.getElem?_take_of_lt hj] at hx ⊢
    exact h1 j x hx
  · rename_i hj
    rw [if_neg hj]
    rw [List.getElem?_append] at hx ⊢
    rw [← hlen]
    split at hx
    · rename_i hj2
      rw [if_pos hj2]
      obtain ⟨u, h3, h4⟩ := h2 _ x hx
      exact ⟨u, h3, RepC'.mono (Cx.le.refl c) _ _ (fun _ _ _ h => h.elim) h4⟩
    · rename_i hj2
      rw [if_neg hj2]
      rw [List.getElem?_drop] at hx ⊢
      have e3 : off + cs.length + (j - off - cs.length) = j := by omega
      rw [e3] at hx ⊢
      exact h1 j x hx

theorem snd_stL (hs : Sim E g σ a w) {t : TypeId} {x y : Operand} {rx ry : AR} {n : Nat} (hop : o.op = .store t x y) (hdst : o.dst = none) (hx : okR x rx = true) (hy : okR y ry = true) (hsz : sizeOf' P t = some n)
    {s off : Nat} {cells cs c' : List AV} (he : ev σ.fr rx = .loc s off) (hl : σ.lo s = some cells) (hc : cellsOfO n (ev σ.fr ry) = some cs) (hp : putC off cs cells = some c') :
    o.wp P a w (Post E { σ with lo := upd σ.lo s (some c') }) Q := by
  have hrd := hs.rd hx he
  obtain ⟨_, hr, _⟩ := hs.rdT hy
  obtain ⟨h3, h4, h40, h41⟩ := cellsOfO_rep hc hr
  obtain ⟨h5, rfl⟩ := putC_eq hp
  obtain ⟨_, _, arr, ty, fz, h6, hz, h7, h8⟩ := hs.loc s cells hl
  have h7' := h7.1
  refine st_core hop hsz hdst hrd.2 h6 hz h4 (by omega) h40 ?_
  refine ⟨g, hs.setLoc hl (by simp; omega) h6 hz (by simp; omega) ?_⟩
  have := st_cells (off := off) (us := (a.eval y).cells.toList) (arr := arr.toList) (by simp; omega) h5 (by simpa using h8) (by simpa using h41)
  simpa [h4] using this

theorem snd_stS (hs : Sim E g σ a w) {t : TypeId} {x y : Operand} {rx ry : AR} {n : Nat} (hop : o.op = .store t x y) (hdst : o.dst = none) (hx : okR x rx = true) (hy : okR y ry = true) (hsz : sizeOf' P t = some n)
    {s off : Nat} {cells cs c' : List AV} (he : ev σ.fr rx = .ptr s off) (hl : σ.sh[s]? = some cells) (hbk : blkB cells = true) (hc : cellsOfO n (ev σ.fr ry) = some cs) (hp : putC off cs cells = some c') :
    o.wp P a w (Post E { σ with sh := σ.sh.set s c' }) Q := by
  have hrd := hs.rd hx he
  obtain ⟨_, hr, _⟩ := hs.rdT hy
  obtain ⟨h3, h4, h40, h41⟩ := cellsOfO_rep hc hr
  obtain ⟨h5, rfl⟩ := putC_eq hp
  have hnd : cells ≠ dead := by rintro rfl; simp [blkB, dead] at hbk
  obtain ⟨h51, h52, _⟩ := hs.shr s cells hl hnd
  obtain ⟨arr, ty, fz, h6, hz, h7, h8⟩ := h52 hbk
  have hal : cells.length ≤ arr.size := by
    by_cases h0 : cells.length = 0
    · omega
    · obtain ⟨u, h9, _⟩ := h8 (cells.length - 1) _ (List.getElem?_eq_getElem (by omega))
      have := (Array.getElem?_eq_some_iff.1 h9).1
      omega
  refine st_core hop hsz hdst hrd.2 h6 hz h4 (by omega) h40 ?_
  refine ⟨g, hs.setShr hl hnd h6 hz (by simp; omega) h7 ?_⟩
  have := st_cells (off := off) (us := (a.eval y).cells.toList) (arr := arr.toList) (by simp; omega) h5 (by simpa using h8) (by simpa using h41)
  simpa [h4] using this

end
end Go.Av
