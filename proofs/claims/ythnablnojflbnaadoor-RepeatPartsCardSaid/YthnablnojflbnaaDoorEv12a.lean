/- A part of the proof: Ev12a. No conditions. -/
import Derived.Test.YthnablnojflbnaaDoorEv11b
import Derived.Lib.ConvBytes
import Derived.Laws.BytesString
import Derived.Laws.MakeOwn
set_option linter.unusedSimpArgs false
set_option linter.unusedVariables false
namespace Go.Av
set_option linter.unusedSectionVars false
variable [Gtab]
open Go.RowKit
section
variable {P : Program} {E : Env} {g g' : Gh} {σ σ1 : AS} {a : Act} {w w' : World} {o : Oper} {Q : Exit → Act → World → Prop}

theorem blk_dead {cells : List AV} (h : blkB cells = true) : cells ≠ dead := by
  rintro rfl; simp [blkB, dead] at h

/-- A load that takes the ownership along. -/
theorem snd_ldo (hs : Sim E g σ a w) (hd : ∀ d, o.dst = some d → d < E.nt) {t : TypeId} {x : Operand} {r : AR} (hop : o.op = .load t x) (hx : okR x r = true) (hsz : sizeIs P t false 1 = true)
    {s off : Nat} {cells : List AV} (he : ev σ.fr r = .ptr s off) (hl : σ.sh[s]? = some cells) (hbk : blkB cells = true) {z : Nat} {l : List (List AV)} (hc : cells[off]? = some (.sl .own z l)) :
    o.wp P a w (Post E (put { σ with sh := σ.sh.set s (cells.set off (.sl .no z l)) } o.dst (.sl .own z l))) Q := by
  have hrd := hs.rd hx he
  have hnd := blk_dead hbk
  have hoff : off < cells.length := (List.getElem?_eq_some_iff.1 hc).1
  have hsl : s < σ.sh.length := (List.getElem?_eq_some_iff.1 hl).1
  obtain ⟨k1, k2, _⟩ := hs.shr s cells hl hnd
  obtain ⟨arr, ty, fz, h1, hz, h2, h3⟩ := k2 hbk
  obtain ⟨v, h4, h5, h6⟩ := h3 off _ hc
  have hs1 : Sim E g { σ with sh := σ.sh.set s (cells.set off (.sl .no z l)) } a w := by
    refine hs.setObj hl hnd rfl (fun _ _ => rfl) rfl rfl rfl (fun hle how _ => ⟨fun _ => ⟨arr, ty, fz, h1, hz, h2, fun j y hj => ?_⟩, ?_⟩)
    · by_cases hjo : off = j
      · subst hjo
        rw [List.getElem?_set_self hoff] at hj
        cases hj
        exact ⟨v, h4, RepF.le hle h5⟩
      · rw [List.getElem?_set_ne hjo] at hj
        obtain ⟨u, h7, h8⟩ := h3 j y hj
        exact ⟨u, h7, RepC'.mono hle _ _ (fun _ _ _ => how _ _ _ _) h8⟩
    · unfold ObjM
      split
      · rename_i m hm
        exfalso
        have h9 : (cells.set off (.sl .no z l))[off]? = some (.sl .no z l) := by rw [List.getElem?_set_self hoff]
        rw [hm] at h9
        cases off with
        | zero => simp at h9
        | succ k => simp at h9
      · trivial
  have hrun : (execOp a.eval o).run P w = .ok (.value v) w := by
    obtain ⟨ha, _⟩ := isAgg_run hsz
    have e := hrd.2
    have hc0 : w.cell? ⟨g.β s, off, none⟩ = some v := by simp [World.cell?, h1]; simpa using h4
    have e' : a.eval x = .pointer (some ⟨g.β s, off, none⟩) := e
    simp [execOp, hop, e', Instr.loadAt, Instr.sureAddr, loadVar, ha, hc0]
  have hfree : freeAt { σ with sh := σ.sh.set s (cells.set off (.sl .no z l)) } (.cell s off) := by
    intro cells' z' l' hc' _ e
    have : (σ.sh.set s (cells.set off (.sl .no z l)))[s]? = some (cells.set off (.sl .no z l)) := List.getElem?_set_self hsl
    rw [this] at hc'
    cases hc'
    rw [List.getElem?_set_self hoff] at e
    cases e
  obtain ⟨A, c, hv, hown⟩ := h6
  have hm0 : ∀ b n, SS E g w b n → SS E g w b n ∧ w.cell? ⟨b, n, none⟩ = w.cell? ⟨b, n, none⟩ := fun _ _ h => ⟨h, rfl⟩
  rcases hown with hown | ⟨b, arr1, ty1, e1, e2, e3, e4⟩
  · exact fin_val hs1 hrun fun d hdd => ⟨hd d hdd, h5, A, c, hv, .inl hown⟩
  · cases hdst : o.dst with
    | none =>
      have := fin_val (o := o) (P := P) (Q := Q) (x := .sl .own z l) hs1 hrun (fun d h => by rw [hdst] at h; cases h)
      rwa [hdst] at this
    | some d =>
      obtain ⟨hs2, hle2⟩ := hs1.turn (t' := .slot d) (k' := l.length * z) (arr' := arr1) e2 e4 hfree (Nat.le_refl _) (fun _ _ => rfl)
      rw [setRow_self e2] at hs2 hle2
      have := fin_val (o := o) (P := P) (Q := Q) (x := .sl .own z l) hs2 hrun (fun d' h => ⟨hd d' h, by
        rw [hdst] at h
        cases h
        exact ⟨RepF.le hle2 h5, A, c, hv, .inr ⟨b, arr1, ty1, e1, e2, e3, by simp [upd]⟩⟩⟩)
      rwa [hdst] at this

/-- A load of a slice that is full. -/
theorem snd_ldf (hs : Sim E g σ a w) (hd : ∀ d, o.dst = some d → d < E.nt) {t : TypeId} {x : Operand} {r : AR} (hop : o.op = .load t x) (hx : okR x r = true) (hsz : sizeIs P t false 1 = true)
    {s off : Nat} {cells : List AV} (he : ev σ.fr r = .ptr s off) (hl : σ.sh[s]? = some cells) {z : Nat} {l : List (List AV)} (hc : cells[off]? = some (.sl .full z l)) :
    o.wp P a w (Post E (put σ o.dst (.sl .full z l))) Q :=
  snd_ldS hs hd hop hx hsz he hl (by simp [ldC, hc, ldV])

/-- A store of a slice into a cell, which gets its ownership. -/
theorem snd_sto (hs : Sim E g σ a w) {t : TypeId} {x y : Operand} {rx ry : AR} (hop : o.op = .store t x y) (hdst : o.dst = none) (hx : okR x rx = true) (hy : okR y ry = true) (hsz : sizeOf' P t = some 1)
    {dem : Option Nat} (hdem : (∃ s, ry = .t s ∧ dem = some s) ∨ (∃ v, ry = .c v ∧ dem = none))
    {s off : Nat} {cells : List AV} (he : ev σ.fr rx = .ptr s off) (hl : σ.sh[s]? = some cells) (hbk : blkB cells = true) (hoff : off < cells.length) {m : Own} {z : Nat} {l : List (List AV)} (hv : ev σ.fr ry = .sl m z l) :
    o.wp P a w (Post E (demS { σ with sh := σ.sh.set s (cells.set off (.sl m z l)) } dem)) Q := by
  have hrd := hs.rd hx he
  have hnd := blk_dead hbk
  obtain ⟨A, c, v1, v2, v3, v4⟩ := hs.rdSl hy hv
  have hvF : RepF (SS E g w) w (.sl .no z l) (a.eval y) := by
    rw [v1]
    simp only [RepF]
    exact ⟨A, c, rfl, v2, by simp, by simp, v4⟩
  have h1c : (a.eval y).oneCell' = true := (repF_one (c := cx E g σ w) hvF).1
  have hcs : (a.eval y).cells = #[a.eval y] := by rw [v1]; rfl
  -- the state in which the slot has given its ownership to the cell
  have hstep : ∃ g1, Sim E g1 (demS σ dem) a w ∧ g1.β = g.β ∧ g1.bs = g.bs ∧ Cx.le (cx E g σ w) (cx E g1 (demS σ dem) w) ∧ RepC' (cx E g1 (demS σ dem) w) (OwnAt g1.kd w (.cell s off)) (.sl m z l) (a.eval y) := by
    have hsd := hs.dem_ dem
    have hcx : cx E g (demS σ dem) w = cx E g σ w := by cases dem <;> rfl
    cases m with
    | no => exact ⟨g, hsd, rfl, rfl, by rw [hcx]; exact Cx.le.refl _, hvF⟩
    | full =>
      refine ⟨g, hsd, rfl, rfl, by rw [hcx]; exact Cx.le.refl _, ?_⟩
      show RepF _ _ (.sl .full z l) _
      rw [v1]
      simp only [RepF]
      exact ⟨A, c, rfl, v2, fun _ => v3 rfl, by simp, v4⟩
    | own =>
      obtain ⟨s1, hs1, A', c', hv', h2⟩ := ownInfo hs hy hdem hv
      rcases h2 with h2 | ⟨b, arr, ty, h3, h4, h5, h6⟩
      · exact ⟨g, hsd, rfl, rfl, by rw [hcx]; exact Cx.le.refl _, hvF, A', c', hv', .inl h2⟩
      · subst hs1
        have hfree : freeAt (demS σ (some s1)) (.slot s1) := by
          intro z' l' e
          simp only [demS, upd, if_true] at e
          have := congrArg demV e
          rw [demV_demV, e] at this
          simp [demV] at this
        obtain ⟨k1, k2⟩ := hsd.turn (t' := .cell s off) (k' := l.length * z) (arr' := arr) h4 h6 hfree (Nat.le_refl _) (fun _ _ => rfl)
        rw [setRow_self h4] at k1 k2
        refine ⟨_, k1, rfl, rfl, k2, RepF.le k2 hvF, A', c', hv', .inr ⟨b, arr, ty, h3, h4, h5, by simp [upd]⟩⟩
  obtain ⟨g1, hs1, hβ, hbs, hle, hrep⟩ := hstep
  have hl1 : (demS σ dem).sh[s]? = some cells := by rw [(by cases dem <;> rfl : (demS σ dem).sh = σ.sh)]; exact hl
  obtain ⟨k1, k2, _⟩ := hs1.shr s cells hl1 hnd
  obtain ⟨arr, ty, fz, h1, hz, h2, h3⟩ := k2 hbk
  have hal : off < arr.size := by
    obtain ⟨u, h4, _⟩ := h3 off _ (List.getElem?_eq_getElem hoff)
    exact (Array.getElem?_eq_some_iff.1 h4).1
  have e1 : a.eval x = .pointer (some ⟨g1.β s, off, none⟩) := by rw [hβ]; exact hrd.2
  refine st_core hop hsz hdst e1 h1 hz (by rw [hcs]; rfl) (by omega) (by rw [hcs]; simpa using h1c) ?_
  have hset : (arr.toList.take off ++ (a.eval y).cells.toList ++ arr.toList.drop (off + 1)).toArray = arr.setIfInBounds off (a.eval y) := by
    rw [hcs]
    apply Array.ext'
    rw [Array.toList_setIfInBounds]
    show arr.toList.take off ++ [a.eval y] ++ arr.toList.drop (off + 1) = _
    rw [List.set_eq_take_append_cons_drop, if_pos (by simpa using hal)]
    simp
  rw [hset]
  have hfin := hs1.setShr (cells' := cells.set off (.sl m z l)) (arr' := arr.setIfInBounds off (a.eval y)) hl1 hnd h1 hz (by simp) h2 (fun j y' hj => by
    by_cases hjo : off = j
    · subst hjo
      rw [List.getElem?_set_self hoff] at hj
      cases hj
      exact ⟨a.eval y, by simp [hal], hrep⟩
    · rw [List.getElem?_set_ne hjo] at hj
      obtain ⟨u, h7, h8⟩ := h3 j y' hj
      exact ⟨u, by rw [Array.getElem?_setIfInBounds_ne hjo]; exact h7, h8⟩)
  have hsame : ({ (demS σ dem) with sh := (demS σ dem).sh.set s (cells.set off (.sl m z l)) } : AS) = demS { σ with sh := σ.sh.set s (cells.set off (.sl m z l)) } dem := by cases dem <;> rfl
  rw [hsame] at hfin
  exact ⟨g1, hfin⟩

/-! ### Conversions between strings and bytes -/
theorem isIntT_eq {t : TypeId} {k : IntKind} (h : isIntT P t k = true) : P.underlying t = some (.int k) := by
  unfold isIntT at h
  split at h
  · rename_i hq; rw [hq]; simp at h; rw [h]
  · cases h
theorem isStrT_eq {t : TypeId} (h : isStrT P t = true) : P.underlying t = some .string := by
  unfold isStrT at h
  split at h
  · assumption
  · cases h
theorem elemBytes_eq {t : TypeId} (h : elemBytes P t = true) : ∃ e, P.underlying t = some (.slice e) ∧ P.underlying e = some (.int .u8) := by
  unfold elemBytes at h
  split at h
  · rename_i e hq; exact ⟨e, hq, isIntT_eq h⟩
  · cases h

open Lib in
theorem snd_s2b (hs : Sim E g σ a w) (hd : ∀ d, o.dst = some d → d < E.nt) {src dst : TypeId} {x : Operand} {r : AR} (hop : o.op = .convert src dst x) (hx : okR x r = true) (h1 : isStrT P src = true) (h2 : elemBytes P dst = true)
    {s : List UInt8} (he : ev σ.fr r = .str s) :
    o.wp P a w (Post E (put { σ with sh := σ.sh ++ [s.map fun b => .int .u8 (b.toNat : Int)] } o.dst (.ss σ.sh.length 0 s.length 1))) Q := by
  obtain ⟨b, e1, e2⟩ := hs.rdStr hx he
  obtain ⟨e, he1, he2⟩ := elemBytes_eq h2
  have hsz : b.size = s.length := by rw [← e2]; simp
  have hcap : b.size ≤ grownCap w b.size 0 e := grownCap_ge w _ _ _
  have hbc : (bytesCells w e b).size = grownCap w b.size 0 e := by simp [bytesCells]; omega
  obtain ⟨k1, hle⟩ := hs.world (g' := { g with kd := upd g.kd w.heap.size (.shr σ.sh.length) }) (w' := bytesWorld w e b) (by simp [bytesWorld, World.freeze]; rfl) (by simp [bytesWorld, World.freeze]) (by simp [bytesWorld, World.freeze]; rfl)
    (by rw [bytesWorld_size]; omega) (fun j hj => bytesWorld_at_old w e b j hj) (fun b hb => by simp [upd, Nat.ne_of_lt hb]) rfl rfl rfl
  have hnew := k1.addShr (b := w.heap.size) (n := 2 * (bytesCells w e b).size) (cells := s.map fun b => .int .u8 (b.toNat : Int)) (by simp [upd]) hs.hsize (by rw [bytesWorld_size]; omega) (fun hdd => ⟨fun _ => ⟨_, e, _, bytesWorld_at_new w e b, .inr (Nat.le_refl _), ⟨by omega, fun h => by omega⟩, fun j y hj => ?_⟩, ?_⟩)
  · refine fin_val hnew.1 (val := .slice (some ⟨w.heap.size, 0, none⟩) b.size (grownCap w b.size 0 e)) ?_ fun d hdd => ⟨hd d hdd, ?_⟩
    · have := run_convert_string_bytes (P := P) w src dst e b (isStrT_eq h1) he1 he2
      simp [execOp, hop, e1, this]
    · refine ⟨by simp [cx], grownCap w b.size 0 e, ?_, by omega, ?_, fun h => absurd rfl h⟩
      · simp [cx, upd, hsz]
      · simp [cx, upd, hbc]
  · rw [List.getElem?_map] at hj
    obtain ⟨c, hc, rfl⟩ := Option.map_eq_some_iff.1 hj
    have hlt : j < s.length := (List.getElem?_eq_some_iff.1 hc).1
    have hjb : j < b.size := by omega
    refine ⟨.int .u8 (c.toNat : Int), ?_, rfl⟩
    unfold bytesCells
    rw [Array.getElem?_append_left (by simpa using hjb)]
    have : b.data[j]? = some c := by
      have h9 : b.data.toList[j]? = some c := by rw [e2]; exact hc
      simpa using h9
    simp [this]
  · unfold ObjM
    split
    · rename_i l hl
      cases s with
      | nil => simp at hl
      | cons x s => simp at hl
    · trivial

theorem bytesOfR_vals {S : Nat → Nat → Prop} : ∀ {l : List (List AV)} {s : List UInt8} {vs : List Value}, bytesOfR l = some s → RepL (RepF S w) l.flatten vs →
    ∃ ns : List Int, vs = ns.map (Value.int .u8) ∧ ns.map (fun n => UInt8.ofNat n.toNat) = s
  | [], s, vs, h, hr => by
    simp only [bytesOfR, Option.some.injEq] at h
    subst h
    cases vs with
    | nil => exact ⟨[], rfl, rfl⟩
    | cons => simp [RepL] at hr
  | [c] :: r, s, vs, h, hr => by
    simp only [bytesOfR] at h
    split at h
    · rename_i b bs h1 h2
      cases h
      cases vs with
      | nil => simp [RepL] at hr
      | cons v vs =>
        simp only [List.flatten_cons, List.cons_append, List.nil_append] at hr
        obtain ⟨ns, h3, h4⟩ := bytesOfR_vals h2 hr.2
        unfold byteOf at h1
        split at h1
        · rename_i n
          cases h1
          have hv : v = .int .u8 n := hr.1
          subst hv
          exact ⟨n :: ns, by simp [h3], by simp [h4]⟩
        · cases h1
    · cases h
  | [] :: r, s, vs, h, hr => by simp [bytesOfR] at h
  | (_ :: _ :: _) :: r, s, vs, h, hr => by simp [bytesOfR] at h

theorem foldl_push (s : List UInt8) : ∀ (ns : List Int) (r : ByteArray), (ns.foldl (fun r n => r.push (UInt8.ofNat n.toNat)) r).data.toList = r.data.toList ++ ns.map (fun n => UInt8.ofNat n.toNat)
  | [], r => by simp
  | n :: ns, r => by
    simp only [List.foldl_cons, List.map_cons]
    rw [foldl_push s ns]
    simp [ByteArray.push]

theorem b2s_core (hs : Sim E g σ a w) (hd : ∀ d, o.dst = some d → d < E.nt) {src dst : TypeId} {x : Operand} (hop : o.op = .convert src dst x) (h1 : isStrT P dst = true) (h2 : elemBytes P src = true)
    {b off n c : Nat} (he : a.eval x = .slice (some ⟨b, off, none⟩) n c) {vs : List Value} {l : List (List AV)} {s : List UInt8} {S : Nat → Nat → Prop} (hl : bytesOfR l = some s) (hr : RepL (RepF S w) l.flatten vs) (hlen : vs.length = n)
    (hcell : ∀ j v, vs[j]? = some v → w.cell? ⟨b, off + j, none⟩ = some v) :
    o.wp P a w (Post E (put σ o.dst (.str s))) Q := by
  obtain ⟨e, he1, he2⟩ := elemBytes_eq h2
  obtain ⟨ns, h3, h4⟩ := bytesOfR_vals hl hr
  have hld := run_loadCells_list (P := P) w ⟨b, off, none⟩ vs (fun j v hj => by rw [add_none]; exact hcell j v hj)
  rw [hlen, h3] at hld
  have hb := run_bytesToString (P := P) w ⟨b, off, none⟩ n c ns hld
  refine plain_fin hs hd (val := .string (ns.foldl (fun r n => r.push (UInt8.ofNat n.toNat)) ByteArray.empty)) ?_ rfl ⟨_, rfl, ?_⟩
  · have := run_convert_bytes_string (P := P) w src dst e (some ⟨b, off, none⟩) n c he1 he2 (isStrT_eq h1)
    simp [execOp, hop, he, this, hb]
  · rw [foldl_push s]; simpa using h4

theorem bytesOfR_nil {s : List UInt8} (h : bytesOfR [] = some s) : s = [] := by simpa [bytesOfR] using h.symm

theorem snd_b2s (hs : Sim E g σ a w) (hd : ∀ d, o.dst = some d → d < E.nt) {src dst : TypeId} {x : Operand} {r : AR} (hop : o.op = .convert src dst x) (hx : okR x r = true) (h1 : isStrT P dst = true) (h2 : elemBytes P src = true)
    {m : Own} {l : List (List AV)} {s : List UInt8} (he : ev σ.fr r = .sl m 1 l) (hb : bytesOfR l = some s) :
    o.wp P a w (Post E (put σ o.dst (.str s))) Q := by
  obtain ⟨A, c, e1, e2, _, e4⟩ := hs.rdSl hx he
  by_cases hl : l = []
  · subst hl
    have := bytesOfR_nil hb
    subst this
    obtain ⟨e, he1, he2⟩ := elemBytes_eq h2
    refine plain_fin hs hd (val := .string .empty) ?_ rfl ⟨_, rfl, rfl⟩
    have := run_convert_bytes_string (P := P) w src dst e A 0 c he1 he2 (isStrT_eq h1)
    cases A with
    | none => simp [execOp, hop, e1, this, Conv.bytesToString]
    | some ad =>
      have h5 := run_bytesToString (P := P) w ad 0 c [] rfl
      simp only [List.foldl_nil] at h5
      simp [execOp, hop, e1, this, h5]
  · rcases e4 with e4 | ⟨b, k, rfl, e6⟩
    · exact absurd e4 hl
    · obtain ⟨vs, v1, v2, v3, _⟩ := RepR_vals e6
      exact b2s_core hs hd hop h1 h2 e1 hb v2 (by simpa using v1) v3

theorem snd_b2sS (hs : Sim E g σ a w) (hd : ∀ d, o.dst = some d → d < E.nt) {src dst : TypeId} {x : Operand} {r : AR} (hop : o.op = .convert src dst x) (hx : okR x r = true) (h1 : isStrT P dst = true) (h2 : elemBytes P src = true)
    {so off n : Nat} {cells : List AV} {l : List (List AV)} {s : List UInt8} (he : ev σ.fr r = .ss so off n 1) (hc : σ.sh[so]? = some cells) (hrow : rowsC off n 1 cells = some l) (hb : bytesOfR l = some s) :
    o.wp P a w (Post E (put σ o.dst (.str s))) Q := by
  obtain ⟨e0, cp, e1, e2, e3⟩ := hs.rd hx he
  by_cases hn0 : n = 0
  · subst hn0
    have hl : l = [] := by
      unfold rowsC at hrow
      split at hrow
      · cases hrow; rfl
      · cases hrow
    subst hl
    have := bytesOfR_nil hb
    subst this
    exact b2s_core (S := fun _ _ => True) (vs := []) (l := []) hs hd hop h1 h2 e1 rfl trivial rfl (fun j v hj => by simp at hj)
  · have hcond : off + n * 1 ≤ cells.length ∧ ((cells.drop off).take (n * 1)).all (fun x => flatB (demV x)) = true := by
      unfold rowsC at hrow
      split at hrow
      · rename_i h; exact h.2
      · cases hrow
    have hblk : blkB cells = true := by
      unfold blkB
      split
      · simp at hcond; have := hcond.1; have : off = 0 ∧ n = 1 := by omega
        obtain ⟨rfl, rfl⟩ := this
        simp [flatB, demV] at hcond
      · simp at hcond; have := hcond.1; have : off = 0 ∧ n = 1 := by omega
        obtain ⟨rfl, rfl⟩ := this
        simp [flatB, demV] at hcond
      · rfl
    obtain ⟨_, hob, _⟩ := hs.shr so cells hc (blk_dead hblk)
    obtain ⟨_, r1, r2, r3, vs, v1, v2, v3⟩ := rowsC_rep (S' := fun _ _ => True) hrow (hob hblk) (fun b' n h => ⟨trivial, rfl⟩) (fun _ => trivial)
    exact b2s_core hs hd hop h1 h2 e1 hb v2 (by simpa using v1) v3
end
end Go.Av
