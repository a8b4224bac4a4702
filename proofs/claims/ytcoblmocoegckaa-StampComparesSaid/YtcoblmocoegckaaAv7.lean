/- A part of the proof: Av7. No conditions. -/
import Derived.Test.YtcoblmocoegckaaAv6
set_option linter.unusedSimpArgs false
set_option linter.unusedVariables false
namespace Go.Av
open Go.RowKit
section
variable {P : Program} {E : Env} {g g' : Gh} {σ σ1 : AS} {a : Act} {w w' : World} {o : Oper} {Q : Exit → Act → World → Prop}

theorem zero_info {e : TypeId} {zero : List AV} (h : zeroIs P e zero = true) : ∃ i zv, P.info? e = some i ∧ i.zero = some zv ∧ okL zv.cells.toList zero = true ∧ i.size = zero.length := by
  unfold zeroIs at h
  split at h
  · rename_i i hi
    rw [Bool.and_eq_true] at h
    obtain ⟨h1, h2⟩ := h
    split at h1
    · rename_i zv hz
      exact ⟨i, zv, hi, hz, h1, by simpa using h2⟩
    · cases h1
  · cases h

/-- A new block as a local object. -/
theorem Sim.newLoc (h : Sim E g σ a w) {d : Nat} {cells : List AV} {cs : Array Value} {e : TypeId} (hn : σ.lo d = none) (hr : RepL (RepF (SS E g w) w) cells cs.toList) :
    Sim E { g with kd := upd g.kd w.heap.size (.loc d), lam := upd g.lam d w.heap.size } { σ with lo := upd σ.lo d (some cells) } a (w.alloc (.cells cs e)) := by
  have h1 := h.alloc (.cells cs e) (.loc d)
  have hm : ∀ b n, SS E g w b n → SS E { g with kd := upd g.kd w.heap.size (.loc d) } (w.alloc (.cells cs e)) b n ∧ (w.alloc (.cells cs e)).cell? ⟨b, n, none⟩ = w.cell? ⟨b, n, none⟩ := by
    intro b n hs
    have hlt := SS.lt h hs
    refine ⟨?_, World.cell?_alloc_lt w _ _ hlt⟩
    rcases hs with hs | ⟨h1, h2, h3⟩
    · exact .inl hs
    · exact .inr ⟨h1, by simp; omega, by simp only [upd]; rw [if_neg (Nat.ne_of_lt hlt)]; exact h3⟩
  exact h1.addLoc hn (by simp [upd]) h.hsize ⟨cs, e, heap_alloc_new w _, hr.mono (RepF.mono hm)⟩

theorem Sim.newShr (h : Sim E g σ a w) {cells : List AV} {cs : Array Value} {e : TypeId} (hr : RepL (RepF (SS E g w) w) cells cs.toList) :
    Sim E { g with kd := upd g.kd w.heap.size (.shr σ.sh.length), β := upd g.β σ.sh.length w.heap.size } { σ with sh := σ.sh ++ [cells] } a (w.alloc (.cells cs e)) := by
  have h1 := h.alloc (.cells cs e) (.shr σ.sh.length)
  have hm : ∀ b n, SS E g w b n → SS E { g with kd := upd g.kd w.heap.size (.shr σ.sh.length) } (w.alloc (.cells cs e)) b n ∧ (w.alloc (.cells cs e)).cell? ⟨b, n, none⟩ = w.cell? ⟨b, n, none⟩ := by
    intro b n hs
    have hlt := SS.lt h hs
    refine ⟨?_, World.cell?_alloc_lt w _ _ hlt⟩
    rcases hs with hs | ⟨h1, h2, h3⟩
    · exact .inl hs
    · exact .inr ⟨h1, by simp; omega, by simp only [upd]; rw [if_neg (Nat.ne_of_lt hlt)]; exact h3⟩
  exact h1.addShr (by simp [upd]) h.hsize ⟨cs, e, heap_alloc_new w _, hr.mono (RepF.mono hm)⟩

theorem snd_alloc (hs : Sim E g σ a w) {d : Nat} (hdst : o.dst = some d) (hd : d < E.nt) {e : TypeId} {zero : List AV} (hop : o.op = .alloc e) (hz : zeroIs P e zero = true) (hn : σ.lo d = none) :
    o.wp P a w (Post E (put { σ with lo := upd σ.lo d (some zero) } o.dst (.loc d 0))) Q := by
  obtain ⟨i, zv, h1, h2, h3, _⟩ := zero_info hz
  refine fin_val (hs.newLoc (cs := zv.cells) (e := e) hn (okL_rep h3)) (val := .pointer (some ⟨w.heap.size, 0, none⟩)) ?_ fun d' h => ?_
  · simp [execOp, hop, Instr.alloc, zeroValue, typeInfo, h1, h2, newVar, newRow]
  · rw [hdst] at h; cases h
    exact ⟨hd, by simp [cx, upd], by simp [cx, upd]⟩

theorem snd_allocS (hs : Sim E g σ a w) {d : Nat} (hdst : o.dst = some d) (hd : d < E.nt) {e : TypeId} {zero : List AV} (hop : o.op = .alloc e) (hz : zeroIs P e zero = true) :
    o.wp P a w (Post E (put { σ with sh := σ.sh ++ [zero] } o.dst (.ptr σ.sh.length 0))) Q := by
  obtain ⟨i, zv, h1, h2, h3, _⟩ := zero_info hz
  refine fin_val (hs.newShr (cs := zv.cells) (e := e) (okL_rep h3)) (val := .pointer (some ⟨w.heap.size, 0, none⟩)) ?_ fun d' h => ?_
  · simp [execOp, hop, Instr.alloc, zeroValue, typeInfo, h1, h2, newVar, newRow]
  · rw [hdst] at h; cases h
    exact ⟨hd, by simp [cx], by simp [cx, upd]⟩

theorem snd_box (hs : Sim E g σ a w) {d : Nat} (hdst : o.dst = some d) (hd : d < E.nt) {e : TypeId} {x : Operand} {r : AR} {n : Nat} {cs : List AV} (hop : o.op = .box e x) (hx : okR x r = true) (hc : cellsOfV n (ev σ.fr r) = some cs) (hn : σ.lo d = none) :
    o.wp P a w (Post E (put { σ with lo := upd σ.lo d (some cs) } o.dst (.loc d 0))) Q := by
  obtain ⟨_, hr, _⟩ := hs.rdT hx
  obtain ⟨h3, _⟩ := cellsOfV_rep hc hr
  refine fin_val (hs.newLoc (cs := (a.eval x).cells) (e := e) hn h3) (val := .pointer (some ⟨w.heap.size, 0, none⟩)) ?_ fun d' h => ?_
  · simp [execOp, hop, Instr.box, newVar, newRow]
  · rw [hdst] at h; cases h
    exact ⟨hd, by simp [cx, upd], by simp [cx, upd]⟩

theorem snd_boxS (hs : Sim E g σ a w) {d : Nat} (hdst : o.dst = some d) (hd : d < E.nt) {e : TypeId} {x : Operand} {r : AR} {n : Nat} {cs : List AV} (hop : o.op = .box e x) (hx : okR x r = true) (hc : cellsOfV n (ev σ.fr r) = some cs) :
    o.wp P a w (Post E (put { σ with sh := σ.sh ++ [cs] } o.dst (.ptr σ.sh.length 0))) Q := by
  obtain ⟨_, hr, _⟩ := hs.rdT hx
  obtain ⟨h3, _⟩ := cellsOfV_rep hc hr
  refine fin_val (hs.newShr (cs := (a.eval x).cells) (e := e) h3) (val := .pointer (some ⟨w.heap.size, 0, none⟩)) ?_ fun d' h => ?_
  · simp [execOp, hop, Instr.box, newVar, newRow]
  · rw [hdst] at h; cases h
    exact ⟨hd, by simp [cx], by simp [cx, upd]⟩

theorem isAgg_run {t : TypeId} {agg : Bool} {n : Nat} (h : sizeIs P t agg n = true) : (∀ w, (isAgg t).run P w = .ok agg w) ∧ (∀ w, (sizeOf t).run P w = .ok n w) := by
  unfold sizeIs at h
  simp only [Bool.and_eq_true] at h
  obtain ⟨⟨h1, h2⟩, h3⟩ := h
  obtain ⟨u, hu⟩ := Option.isSome_iff_exists.1 h1
  cases hi : P.info? t with
  | none => rw [hi] at h3; cases h3
  | some i =>
    rw [hi] at h3
    have hn : i.size = n := by simpa using h3
    refine ⟨fun w => ?_, fun w => by simp [sizeOf, typeInfo, hi, hn]⟩
    have h2' : isAggP P t = agg := by simpa using h2
    simp only [isAggP, hu] at h2'
    unfold isAgg
    simp only [Sem.run_bind, run_underlying hu, Result.andThen_ok]
    subst h2'
    cases u <;> rfl

/-- Loading n cells that are known. -/
theorem load_run {t : TypeId} {agg : Bool} {n off : Nat} {b : Nat} {vs : List Value} (h : sizeIs P t agg n = true) (hl : vs.length = n)
    (hc : ∀ j v, vs[j]? = some v → w.cell? ⟨b, off + j, none⟩ = some v) (h1 : agg = false → ∃ x, vs = [x]) :
    ∃ val, (Instr.loadAt t (.pointer (some ⟨b, off, none⟩))).run P w = .ok val w ∧ ((agg = true ∧ val = .agg vs.toArray) ∨ (agg = false ∧ vs = [val])) := by
  obtain ⟨ha, hsz⟩ := isAgg_run h
  cases agg with
  | true =>
    have hld := run_loadCells_list (P := P) w ⟨b, off, none⟩ vs (fun j v hj => by rw [add_none]; exact hc j v hj)
    rw [hl] at hld
    exact ⟨.agg vs.toArray, by simp [Instr.loadAt, Instr.sureAddr, loadVar, ha, hsz, hld], .inl ⟨rfl, rfl⟩⟩
  | false =>
    obtain ⟨x, rfl⟩ := h1 rfl
    have : w.cell? ⟨b, off, none⟩ = some x := by simpa using hc 0 x rfl
    exact ⟨x, by simp [Instr.loadAt, Instr.sureAddr, loadVar, ha, this], .inr ⟨rfl, rfl⟩⟩

/-- What a load of cells of an abstract object gives. -/
theorem ld_core (hs : Sim E g σ a w) (hd : ∀ d, o.dst = some d → d < E.nt) {t : TypeId} {x : Operand} {agg : Bool} {n off b : Nat} (hop : o.op = .load t x) (hsz : sizeIs P t agg n = true)
    (he : a.eval x = .pointer (some ⟨b, off, none⟩)) {cells : List AV} {v : AV} (ht : takeC agg off n cells = some v) {vs : List Value}
    (hvs : RepL (RepF (SS E g w) w) ((cells.drop off).take n) vs) (hc : ∀ j u, vs[j]? = some u → w.cell? ⟨b, off + j, none⟩ = some u) :
    o.wp P a w (Post E (put σ o.dst v)) Q := by
  obtain ⟨h1, h2, h3⟩ := takeC_rep (c := cx E g σ w) ht hvs
  obtain ⟨val, h4, h5⟩ := load_run (P := P) hsz h1 hc (fun ha => by
    rcases h2 with ⟨e, _⟩ | ⟨_, x, e, _⟩
    · rw [ha] at e; cases e
    · exact ⟨x, e⟩)
  refine plain_fin hs hd (val := val) ?_ h3 ?_
  · simp [execOp, hop, he, h4]
  · rcases h2 with ⟨e1, e2⟩ | ⟨e1, y, e2, e3⟩ <;> rcases h5 with ⟨f1, f2⟩ | ⟨f1, f2⟩
    · rw [f2]; exact e2
    · rw [e1] at f1; cases f1
    · rw [e1] at f1; cases f1
    · rw [e2] at f2; cases f2; exact e3

theorem Obj_cells {S : Nat → Nat → Prop} {b : Nat} {cells : List AV} (h : Obj' S w b cells) (off n : Nat) :
    ∃ vs, RepL (RepF S w) ((cells.drop off).take n) vs ∧ ∀ j u, vs[j]? = some u → w.cell? ⟨b, off + j, none⟩ = some u := by
  obtain ⟨arr, ty, h1, h2⟩ := h
  refine ⟨(arr.toList.drop off).take n, (h2.drop off).take n, fun j u hu => ?_⟩
  rw [List.getElem?_take] at hu
  split at hu
  · rw [List.getElem?_drop] at hu
    simp [World.cell?, h1]
    simpa using hu
  · cases hu

theorem RepC_cells {S : Nat → Nat → Prop} {b o : Nat} : ∀ {cells : List AV}, RepC S w cells b o → ∀ n, ∃ vs, RepL (RepF S w) (cells.take n) vs ∧ ∀ j u, vs[j]? = some u → w.cell? ⟨b, o + j, none⟩ = some u
  | _, _, 0 => ⟨[], by simp [RepL], by simp⟩
  | [], _, _ + 1 => ⟨[], by simp [RepL], by simp⟩
  | c :: cs, h, n + 1 => by
    simp only [RepC] at h
    obtain ⟨⟨_, u, h1, h2⟩, h3⟩ := h
    obtain ⟨vs, h4, h5⟩ := RepC_cells h3 n
    refine ⟨u :: vs, ⟨h2, h4⟩, fun j x hx => ?_⟩
    cases j with
    | zero => simp at hx; subst hx; simpa using h1
    | succ j =>
      have := h5 j x (by simpa using hx)
      rwa [show o + 1 + j = o + (j + 1) from by omega] at this

theorem snd_ldL (hs : Sim E g σ a w) (hd : ∀ d, o.dst = some d → d < E.nt) {t : TypeId} {x : Operand} {r : AR} {agg : Bool} {n : Nat} (hop : o.op = .load t x) (hx : okR x r = true) (hsz : sizeIs P t agg n = true)
    {s off : Nat} {cells : List AV} {v : AV} (he : ev σ.fr r = .loc s off) (hl : σ.lo s = some cells) (ht : takeC agg off n cells = some v) :
    o.wp P a w (Post E (put σ o.dst v)) Q := by
  have hrd := hs.rd hx he
  obtain ⟨vs, h1, h2⟩ := Obj_cells (hs.loc s cells hl).2.2 off n
  exact ld_core hs hd hop hsz hrd.2 ht h1 h2

theorem snd_ldS (hs : Sim E g σ a w) (hd : ∀ d, o.dst = some d → d < E.nt) {t : TypeId} {x : Operand} {r : AR} {agg : Bool} {n : Nat} (hop : o.op = .load t x) (hx : okR x r = true) (hsz : sizeIs P t agg n = true)
    {s off : Nat} {cells : List AV} {v : AV} (he : ev σ.fr r = .ptr s off) (hl : σ.sh[s]? = some cells) (ht : takeC agg off n cells = some v) :
    o.wp P a w (Post E (put σ o.dst v)) Q := by
  have hrd := hs.rd hx he
  obtain ⟨vs, h1, h2⟩ := Obj_cells (hs.shr s cells hl).2.1 off n
  exact ld_core hs hd hop hsz hrd.2 ht h1 h2

theorem snd_ldI (hs : Sim E g σ a w) (hd : ∀ d, o.dst = some d → d < E.nt) {t : TypeId} {x : Operand} {r : AR} {agg : Bool} {n : Nat} (hop : o.op = .load t x) (hx : okR x r = true) (hsz : sizeIs P t agg n = true)
    {cells : List AV} {v : AV} (he : ev σ.fr r = .ip cells) (ht : takeC agg 0 n cells = some v) :
    o.wp P a w (Post E (put σ o.dst v)) Q := by
  obtain ⟨b, k, h1, h2⟩ := hs.rd hx he
  obtain ⟨vs, h3, h4⟩ := RepC_cells h2 n
  have h5 : takeC agg k n (List.replicate k .any ++ cells) = some v := by
    unfold takeC at ht ⊢
    simpa using ht
  have h6 : RepL (RepF (SS E g w) w) (((List.replicate k AV.any ++ cells).drop k).take n) vs := by simpa [cx] using h3
  exact ld_core hs hd hop hsz h1 h5 h6 h4

theorem oneCell_of_repL {S : Nat → Nat → Prop} {c : Cx} : ∀ {l : List AV} {vs : List Value}, RepL (RepF c.S c.w) l vs → ∀ v ∈ vs, v.oneCell' = true
  | [], [], _, _, hv => by cases hv
  | x :: l, v :: vs, h, u, hu => by
    rcases List.mem_cons.1 hu with rfl | hu
    · have h1 := h.1
      cases x with
      | int k n => simp only [RepF] at h1; subst h1; rfl
      | bool b => simp only [RepF] at h1; subst h1; rfl
      | str s => simp only [RepF] at h1; obtain ⟨b, rfl, _⟩ := h1; rfl
      | nilp => simp only [RepF] at h1; subst h1; rfl
      | sl m z l => simp only [RepF] at h1; obtain ⟨A, cp, rfl, _⟩ := h1; rfl
      | _ => simp [RepF] at h1
    · exact oneCell_of_repL (S := S) h.2 u hu
  | [], _ :: _, h, _, _ => by simp [RepL] at h
  | _ :: _, [], h, _, _ => by simp [RepL] at h

theorem putC_eq {off : Nat} {cs cells c' : List AV} (h : putC off cs cells = some c') : off + cs.length ≤ cells.length ∧ c' = cells.take off ++ cs ++ cells.drop (off + cs.length) := by
  unfold putC at h
  split at h
  · cases h; exact ⟨by assumption, rfl⟩
  · cases h

/-- A store of a value into an object's block. -/
theorem st_core {t : TypeId} {x y : Operand} {n off b : Nat} (hop : o.op = .store t x y) (hsz : sizeOf' P t = some n) (hdst : o.dst = none)
    (he : a.eval x = .pointer (some ⟨b, off, none⟩)) {arr : Array Value} {ty : TypeId} (hb : w.heap[b]? = some (.cells arr ty (0, 0)))
    (hlen : (a.eval y).cells.size = n) (hfit : off + n ≤ arr.size) (h1 : ∀ v ∈ (a.eval y).cells.toList, v.oneCell' = true)
    {K : Act → World → Prop} (hK : K a (w.setRow b (arr.toList.take off ++ (a.eval y).cells.toList ++ arr.toList.drop (off + n)).toArray)) : o.wp P a w K Q := by
  obtain ⟨i, hi, hin⟩ := size_info hsz
  have hst := run_storeCells_at P b off ty (a.eval y).cells.toList 0 arr w hb (by simpa [hlen] using hfit) h1
  simp only [Nat.add_zero, Array.length_toList, hlen] at hst
  have hrun : (execOp a.eval o).run P w = .ok .skip (w.setRow b (arr.toList.take off ++ (a.eval y).cells.toList ++ arr.toList.drop (off + n)).toArray) := by
    simp [execOp, hop, he, Instr.storeAt, Instr.sureAddr, storeVar, sizeOf, typeInfo, hi, hin, hlen, hst]
  unfold Oper.wp
  rw [hrun]
  show K (a.put o.dst undef) _
  rw [hdst]
  exact hK

theorem st_rep {R : AV → Value → Prop} {off : Nat} {cs cells : List AV} {vs arr : List Value} (h1 : RepL R cells arr) (h2 : RepL R cs vs) :
    RepL R (cells.take off ++ cs ++ cells.drop (off + cs.length)) (arr.take off ++ vs ++ arr.drop (off + vs.length)) := by
  rw [h2.length]
  exact ((h1.take off).append h2).append (h1.drop _)

theorem snd_stL (hs : Sim E g σ a w) {t : TypeId} {x y : Operand} {rx ry : AR} {n : Nat} (hop : o.op = .store t x y) (hdst : o.dst = none) (hx : okR x rx = true) (hy : okR y ry = true) (hsz : sizeOf' P t = some n)
    {s off : Nat} {cells cs c' : List AV} (he : ev σ.fr rx = .loc s off) (hl : σ.lo s = some cells) (hc : cellsOfV n (ev σ.fr ry) = some cs) (hp : putC off cs cells = some c') :
    o.wp P a w (Post E { σ with lo := upd σ.lo s (some c') }) Q := by
  have hrd := hs.rd hx he
  obtain ⟨_, hr, _⟩ := hs.rdT hy
  obtain ⟨h3, h4⟩ := cellsOfV_rep hc hr
  obtain ⟨h5, rfl⟩ := putC_eq hp
  obtain ⟨_, _, arr, ty, h6, h7⟩ := hs.loc s cells hl
  have hsz1 : (a.eval y).cells.size = n := by have := h3.length; simp at this; omega
  have hla : arr.size = cells.length := by have := h7.length; simpa using this
  refine st_core hop hsz hdst hrd.2 h6 hsz1 (by omega) (oneCell_of_repL (S := fun _ _ => True) (c := cx E g σ w) h3) ?_
  refine ⟨g, hs.setLoc hl h6 ?_⟩
  have := st_rep (off := off) h7 h3
  simpa [hsz1, h4] using this

theorem snd_stS (hs : Sim E g σ a w) {t : TypeId} {x y : Operand} {rx ry : AR} {n : Nat} (hop : o.op = .store t x y) (hdst : o.dst = none) (hx : okR x rx = true) (hy : okR y ry = true) (hsz : sizeOf' P t = some n)
    {s off : Nat} {cells cs c' : List AV} (he : ev σ.fr rx = .ptr s off) (hl : σ.sh[s]? = some cells) (hc : cellsOfV n (ev σ.fr ry) = some cs) (hp : putC off cs cells = some c') :
    o.wp P a w (Post E { σ with sh := σ.sh.set s c' }) Q := by
  have hrd := hs.rd hx he
  obtain ⟨_, hr, _⟩ := hs.rdT hy
  obtain ⟨h3, h4⟩ := cellsOfV_rep hc hr
  obtain ⟨h5, rfl⟩ := putC_eq hp
  obtain ⟨_, ⟨arr, ty, h6, h7⟩, _, _⟩ := hs.shr s cells hl
  have hsz1 : (a.eval y).cells.size = n := by have := h3.length; simp at this; omega
  have hla : arr.size = cells.length := by have := h7.length; simpa using this
  refine st_core hop hsz hdst hrd.2 h6 hsz1 (by omega) (oneCell_of_repL (S := fun _ _ => True) (c := cx E g σ w) h3) ?_
  refine ⟨g, hs.setShr hl h6 ?_⟩
  have := st_rep (off := off) h7 h3
  simpa [hsz1, h4] using this

end
end Go.Av
