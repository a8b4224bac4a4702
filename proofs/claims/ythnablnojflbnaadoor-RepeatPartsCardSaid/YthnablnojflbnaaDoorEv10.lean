/- A part of the proof: Ev10. No conditions. -/
import Derived.Test.YthnablnojflbnaaDoorEv9
set_option linter.unusedSimpArgs false
set_option linter.unusedVariables false
namespace Go.Av
set_option linter.unusedSectionVars false
variable [Gtab]
open Go.RowKit
section
variable {P : Program} {E : Env} {g g' : Gh} {σ σ1 : AS} {a : Act} {w w' : World} {o : Oper} {Q : Exit → Act → World → Prop}

/-- The rows that are appended, as the model has them. -/
theorem rowsA_vals (hs : Sim E g σ a w) {y : Operand} {r : AR} (hy : okR y r = true) {str : Bool} {z : Nat} {l2 : List (List AV)} (h : rowsA str z (ev σ.fr r) = some l2) :
    ∃ vs : List Value, vs.length = l2.length * z ∧ RepL (RepF (SS E g w) w) l2.flatten vs ∧ (∀ e ∈ l2, e.length = z) ∧
      (∀ w', (Builtin.lenOf (a.eval y)).run P w' = .ok l2.length w') ∧ (∀ k, (Builtin.firstCells z l2.length (a.eval y)).run P { w with drawn := k } = .ok vs.toArray { w with drawn := k }) := by
  unfold rowsA at h
  split at h
  · rename_i m z2 l he
    split at h
    · rename_i hc
      cases h
      obtain ⟨A, c, e1, _, _, e4⟩ := hs.rdSl hy he
      by_cases hl : l2 = []
      · subst hl
        refine ⟨[], by simp, by simp [RepL], by simp, fun w' => by simp [e1, Builtin.lenOf], fun k => ?_⟩
        rw [e1]
        cases A <;> simp [Builtin.firstCells, loadCells, loadCellsFrom]
      · have hz : z2 = z := by
          rcases hc.2 with h | h
          · exact h
          · exact absurd h hl
        subst hz
        rcases e4 with e4 | ⟨b, k0, rfl, e6⟩
        · exact absurd e4 hl
        · obtain ⟨vs, v1, v2, v3, v4⟩ := RepR_vals e6
          refine ⟨vs, v1, v2, v4, fun w' => by simp [e1, Builtin.lenOf], fun k => ?_⟩
          have hld := run_loadCells_list (P := P) { w with drawn := k } ⟨b, k0, none⟩ vs (fun j v hj => by rw [add_none]; exact v3 j v hj)
          rw [v1] at hld
          simp [e1, Builtin.firstCells, hld]
    · cases h
  · rename_i s he
    split at h
    · rename_i hc
      cases h
      obtain ⟨hstr, rfl⟩ := hc
      obtain ⟨b, e1, e2⟩ := hs.rdStr hy he
      have hsz : b.size = s.length := by rw [← e2]; simp
      refine ⟨s.map fun c => .int .u8 (c.toNat : Int), by simp [bytesRows], ?_, by simp [bytesRows], fun w' => by simp [e1, Builtin.lenOf, bytesRows, hsz], fun k => ?_⟩
      · have : (bytesRows s).flatten = s.map fun c => AV.int .u8 (c.toNat : Int) := by
          unfold bytesRows
          clear e2 he hy hsz
          induction s with
          | nil => rfl
          | cons c s ih => simp at ih ⊢; exact ih
        rw [this]
        clear e2 he hy hsz this
        induction s with
        | nil => trivial
        | cons c s ih => exact ⟨rfl, ih⟩
      · have hbl : (bytesRows s).length = s.length := by simp [bytesRows]
        have hbd : b.data = s.toArray := by rw [← e2]
        simp [e1, Builtin.firstCells, hbl, hbd]
    · cases h
  · cases h

theorem firstCells_old {A : Option Addr} {n c z : Nat} {l : List (List AV)} {S : Nat → Nat → Prop} (hn : n = l.length) (h : l = [] ∨ ∃ b k, A = some ⟨b, k, none⟩ ∧ RepR S w z l b k) :
    ∃ vs : List Value, vs.length = n * z ∧ RepL (RepF S w) l.flatten vs ∧ (∀ e ∈ l, e.length = z) ∧ ∀ k, (Builtin.firstCells z n (.slice A n c)).run P { w with drawn := k } = .ok vs.toArray { w with drawn := k } := by
  subst hn
  by_cases hl : l = []
  · subst hl
    refine ⟨[], by simp, by simp [RepL], by simp, fun k => ?_⟩
    cases A <;> simp [Builtin.firstCells, loadCells, loadCellsFrom]
  · rcases h with h | ⟨b, k0, rfl, e6⟩
    · exact absurd h hl
    · obtain ⟨vs, v1, v2, v3, v4⟩ := RepR_vals e6
      refine ⟨vs, v1, v2, v4, fun k => ?_⟩
      have hld := run_loadCells_list (P := P) { w with drawn := k } ⟨b, k0, none⟩ vs (fun j v hj => by rw [add_none]; exact v3 j v hj)
      rw [v1] at hld
      simp [Builtin.firstCells, hld]

/-- append where a new array is made. -/
theorem run_app_grow {t u ty e : TypeId} {i : TypeInfo} {zv yv : Value} {A : Option Addr} {n c m : Nat} {olds news : List Value} {ud : TypeDesc} (ht : P.underlying t = some (.slice e)) (hu : P.underlying u = some ud) (hud : ∀ k, ud ≠ .int k)
    (hi : P.info? e = some i) (hz : i.zero = some zv) (hlen : ∀ w', (Builtin.lenOf yv).run P w' = .ok m w')
    (hold : ∀ k, (Builtin.firstCells i.size n (.slice A n c)).run P { w with drawn := k } = .ok olds.toArray { w with drawn := k })
    (hnew : ∀ k, (Builtin.firstCells i.size m yv).run P { w with drawn := k } = .ok news.toArray { w with drawn := k })
    (hg : c < n + m) (h63 : ((n + m : Nat) : Int) ≤ 9223372036854775807) (hfit : (n + m) * i.bytes ≤ 140737488355328) :
    (Builtin.append_ #[t, u] ty #[.slice A n c, yv]).run P w =
      .ok (.slice (some ⟨w.heap.size, 0, none⟩) (n + m) (grownCap w (n + m) c e))
        (w.drew.alloc (.cells (olds.toArray ++ news.toArray ++ Builtin.zeroCells zv.cells (grownCap w (n + m) c e - (n + m))) e)) := by
  have hn : ¬ (n + m ≤ c) := by omega
  have h63' : ¬ (9223372036854775807 < ((n : Int) + (m : Int))) := by omega
  have hfit' : ¬ (281474976710656 < Builtin.nextslicecap (n + m) c * i.bytes) := by have := growslice_fits hg hfit; omega
  have ho := hold w.drew.drawn
  have hw := hnew w.drew.drawn
  have e0 : ({ w with drawn := w.drew.drawn } : World) = w.drew := rfl
  rw [e0] at ho hw
  have hroom : ∀ (bytes : Nat) (w' : World), (askRoom bytes).run P w' = .ok () w' := by
    intro bytes w'
    unfold askRoom; split <;> rfl
  simp [Builtin.append_, run_underlying ht, run_underlying hu, sizeOf, typeInfo, zeroValue, hi, hz, hlen, hn, h63', hfit', hroom, ho, hw, Question.forced, newRow, grownCap]
  refine congrArg (fun x => w.drew.alloc (Obj.cells x e)) ?_
  apply Array.ext'
  simp


theorem run_app_room {t u ty e e' : TypeId} {i : TypeInfo} {yv : Value} {b n c m : Nat} {cur : Array Value} {news : List Value} {ud : TypeDesc} (ht : P.underlying t = some (.slice e)) (hu : P.underlying u = some ud) (hud : ∀ k, ud ≠ .int k)
    (hi : P.info? e = some i) (hlen : ∀ w', (Builtin.lenOf yv).run P w' = .ok m w')
    (hnew : ∀ k, (Builtin.firstCells i.size m yv).run P { w with drawn := k } = .ok news.toArray { w with drawn := k })
    (hg : w.heap[b]? = some (.cells cur e' (0, 0))) (hroom : n + m ≤ c) (hfit : n * i.size + news.length ≤ cur.size) (h1 : ∀ v ∈ news, v.oneCell' = true) :
    (Builtin.append_ #[t, u] ty #[.slice (some ⟨b, 0, none⟩) n c, yv]).run P w =
      .ok (.slice (some ⟨b, 0, none⟩) (n + m) c) (w.setRow b (cur.toList.take (n * i.size) ++ news ++ cur.toList.drop (n * i.size + news.length)).toArray) := by
  have hw := hnew w.drawn
  have hst := run_storeCells_at P b (n * i.size) e' news 0 cur w hg (by simpa using hfit) h1
  simp only [Nat.add_zero] at hst
  simp [Builtin.append_, run_underlying ht, run_underlying hu, sizeOf, typeInfo, hi, hlen, hroom, hw, add_none, hst]

/-- Nothing is appended. -/
theorem run_app_none {t u ty e : TypeId} {i : TypeInfo} {yv : Value} {A : Option Addr} {n c : Nat} {ud : TypeDesc} (ht : P.underlying t = some (.slice e)) (hu : P.underlying u = some ud) (hud : ∀ k, ud ≠ .int k)
    (hi : P.info? e = some i) (hlen : ∀ w', (Builtin.lenOf yv).run P w' = .ok 0 w')
    (hnew : ∀ k, (Builtin.firstCells i.size 0 yv).run P { w with drawn := k } = .ok #[] { w with drawn := k }) (hroom : n ≤ c) :
    (Builtin.append_ #[t, u] ty #[.slice A n c, yv]).run P w = .ok (.slice A n c) w := by
  have hw := hnew w.drawn
  cases A <;> simp [Builtin.append_, run_underlying ht, run_underlying hu, sizeOf, typeInfo, hi, hlen, hroom, hw, storeCells]

theorem ownInfo (hs : Sim E g σ a w) {x : Operand} {rx : AR} (hx : okR x rx = true) {dem : Option Nat} (hdem : (∃ s, rx = .t s ∧ dem = some s) ∨ (∃ v, rx = .c v ∧ dem = none)) {z : Nat} {l : List (List AV)} (he : ev σ.fr rx = .sl .own z l) :
    ∃ s, dem = some s ∧ OwnAt g.kd w (.slot s) (a.eval x) z l.length := by
  rcases hdem with ⟨s, rfl, h⟩ | ⟨v, rfl, h⟩
  · refine ⟨s, h, ?_⟩
    obtain ⟨ow, h1, h2⟩ := hs.rdT hx
    rw [he] at h1
    rw [h2 s rfl] at h1
    exact h1.2
  · exfalso
    simp only [ev] at he
    subst he
    unfold okR at hx
    split at hx
    · rename_i e2; cases e2
    · rename_i e2; cases e2
    · rename_i v0 a0 e2
      cases e2
      unfold okV at hx
      split at hx
      · rename_i e3; cases e3
      · have := (okC_cases hx).1
        simp [demV] at this
    · rename_i e2; cases e2
    · cases hx

theorem snd_app (hs : Sim E g σ a w) (hd : ∀ d, o.dst = some d → d < E.nt) {t u e : TypeId} {x y : Operand} {rx ry : AR} (hop : o.op = .call { callee := .builtin .append, args := #[x, y], argTypes := #[t, u] })
    (hx : okR x rx = true) (hy : okR y ry = true) {dem : Option Nat} (hdem : (∃ s, rx = .t s ∧ dem = some s) ∨ (∃ v, rx = .c v ∧ dem = none))
    (ht : P.underlying t = some (.slice e)) {str : Bool} {ud : TypeDesc} (hu : P.underlying u = some ud) (hud : ∀ k, ud ≠ .int k) {i : TypeInfo} {zv : Value} {z bytes : Nat} (hi : P.info? e = some i) (hiz : i.size = z) (hib : i.bytes = bytes) (hz : i.zero = some zv) (hzs : zv.cells.size = z)
    {md : Own} {z' : Nat} {l l2 : List (List AV)} (he : ev σ.fr rx = .sl md z' l) (hr : rowsA str z (ev σ.fr ry) = some l2) (hzz : z' = z ∨ (l = [] ∧ md = .full)) (hmd : md ≠ .no) (hz0 : 0 < z)
    (hby : (l.length + l2.length) * bytes ≤ 140737488355328) (hle : l.length + l2.length ≤ 4611686018427387904) :
    o.wp P a w (Post E (put (demS σ dem) o.dst (.sl .own z (l ++ l2)))) Q := by
  subst hiz
  subst hib
  obtain ⟨news, n1, n2, n3, n4, n5⟩ := rowsA_vals (P := P) hs hy hr
  obtain ⟨A, c, e1, e2, e3, e4⟩ := hs.rdSl hx he
  have e4' : l = [] ∨ ∃ b k, A = some ⟨b, k, none⟩ ∧ RepR (SS E g w) w i.size l b k := by
    rcases hzz with h | h
    · rw [← h]; exact e4
    · exact .inl h.1
  obtain ⟨olds, o1, o2, o3, o4⟩ := firstCells_old (P := P) (A := A) (c := c) (w := w) rfl e4'
  have hrunof : ∀ v w', (Builtin.append_ #[t, u] o.type #[.slice A l.length c, a.eval y]).run P w = .ok v w' → (execOp a.eval o).run P w = .ok (.value v) w' := by
    intro v w' h
    simp [execOp, hop, resolve, invoke, builtin, e1, h]
  have hsd := hs.dem_ dem
  have hflat : RepL (RepF (SS E g w) w) (l ++ l2).flatten (olds ++ news) := by
    rw [List.flatten_append]; exact o2.append n2
  have hez : ∀ e ∈ l ++ l2, e.length = i.size := fun e he => by
    rcases List.mem_append.1 he with h | h
    · exact o3 e h
    · exact n3 e h
  have hlen : (olds ++ news).length = (l ++ l2).length * i.size := by simp [o1, n1, Nat.add_mul]
  -- what is known of the owner
  have hown : c = l.length ∨ ∃ s b arr ty, dem = some s ∧ A = some ⟨b, 0, none⟩ ∧ w.heap[b]? = some (.cells arr ty (0, 0)) ∧ arr.size = c * i.size ∧ g.kd b = .own (.slot s) (l.length * i.size) := by
    cases md with
    | no => exact absurd rfl hmd
    | full => exact .inl (e3 rfl)
    | own =>
      obtain ⟨s, hs1, A', c', hv, h2⟩ := ownInfo hs hx hdem he
      rw [e1] at hv
      injection hv with hA _ hc
      subst hA; subst hc
      have hzz' : z' = i.size := by
        rcases hzz with h | h
        · exact h
        · cases h.2
      subst hzz'
      rcases h2 with h2 | ⟨b, arr, ty, h3, h4, h5, h6⟩
      · exact .inl h2
      · exact .inr ⟨s, b, arr, ty, hs1, h3, h4, h5, h6⟩
  by_cases hg : c < l.length + l2.length
  · -- a new array
    have hrun := run_app_grow (P := P) (w := w) (ty := o.type) ht hu hud hi hz n4 o4 n5 hg (by omega) hby
    have h1 := hsd.drawn (w.drawn + 1)
    obtain ⟨h2, hle2⟩ := h1.alloc (.cells (olds.toArray ++ news.toArray ++ Builtin.zeroCells zv.cells (grownCap w (l.length + l2.length) c e - (l.length + l2.length))) e) (.own (.slot (o.dst.getD 0)) ((l.length + l2.length) * i.size))
    have hm := hle2.cell
    have hflat' : RepL (RepF (SS E g w) { w with drawn := w.drawn + 1 }) (l ++ l2).flatten (olds ++ news) := hflat.mono (RepF.mono (S := SS E g w) (S' := SS E g w) (w := w) (w' := { w with drawn := w.drawn + 1 }) fun b n h => ⟨h, rfl⟩)
    refine fin_val h2 (hrunof _ _ hrun) fun d hdd => ⟨hd d hdd, ?_, ?_⟩
    · simp only [RepF]
      refine ⟨_, _, by rw [List.length_append], by rw [List.length_append]; exact grownCap_ge w _ _ _, by simp, by simp, .inr ⟨w.heap.size, 0, rfl, ?_⟩⟩
      refine RepR_flat (vs := olds ++ news) hez (hflat'.mono (RepF.mono hm)) (fun j hj => .inr (.inr ⟨by simp, .slot (o.dst.getD 0), (l.length + l2.length) * i.size, by simp [upd], ?_⟩)) (fun j v hv => ?_)
      · simpa using hj
      · simp only [Nat.zero_add]
        show (World.alloc _ (.cells _ e)).cell? _ = _
        rw [show w.heap.size = ({ w with drawn := w.drawn + 1 } : World).heap.size from rfl, World.cell?_alloc_new]
        rw [Array.getElem?_append_left]
        · simpa using hv
        · have := (List.getElem?_eq_some_iff.1 hv).1
          simpa using this
    · refine ⟨_, _, by rw [List.length_append], .inr ⟨w.heap.size, _, e, rfl, heap_alloc_new _ _, ?_, ?_⟩⟩
      · have hge := grownCap_ge w (l.length + l2.length) c e
        simp only [Array.size_append, List.size_toArray, size_zeroCells, hzs, o1, n1, ← Nat.add_mul]
        congr 1
        omega
      · simp [upd, hdd]
  · rcases hown with hcn | ⟨s, b, arr, ty, hs1, rfl, h4, h5, h6⟩
    · -- nothing is appended
      have hm0 : l2.length = 0 := by omega
      have hl2 : l2 = [] := List.eq_nil_of_length_eq_zero hm0
      subst hl2
      have hnews : news = [] := List.eq_nil_of_length_eq_zero (by simpa using n1)
      subst hnews
      have hrun := run_app_none (P := P) (w := w) (ty := o.type) (A := A) (c := c) ht hu hud hi (by simpa using n4) (by simpa using n5) e2
      refine fin_val hsd (hrunof _ _ hrun) fun d hdd => ⟨hd d hdd, ?_, ?_⟩
      · rw [List.append_nil]
        simp only [RepF]
        exact ⟨A, c, rfl, e2, by simp, by simp, e4'⟩
      · rw [List.append_nil]
        exact ⟨A, c, rfl, .inl hcn⟩
    · subst hs1
      by_cases hm0 : l2 = []
      · subst hm0
        have hnews : news = [] := List.eq_nil_of_length_eq_zero (by simpa using n1)
        subst hnews
        have hrun := run_app_none (P := P) (w := w) (ty := o.type) (A := some ⟨b, 0, none⟩) (c := c) ht hu hud hi (by simpa using n4) (by simpa using n5) e2
        have hfree : freeAt (demS σ (some s)) (.slot s) := by
          intro z' l' e
          simp only [demS, upd, if_true] at e
          have := congrArg demV e
          rw [demV_demV, e] at this
          simp [demV] at this
        obtain ⟨h8, hle9⟩ := hsd.turn (t' := .slot (o.dst.getD 0)) (arr' := arr) h4 h6 hfree (Nat.le_refl _) (fun _ _ => rfl)
        rw [setRow_self h4] at h8 hle9
        have h9 := hle9.cell
        refine fin_val h8 (hrunof _ _ hrun) fun d hdd => ⟨hd d hdd, ?_, ?_⟩
        · rw [List.append_nil]
          have : RepF (SS E g w) w (.sl .no i.size l) (.slice (some ⟨b, 0, none⟩) l.length c) := by
            simp only [RepF]
            exact ⟨_, c, rfl, e2, by simp, by simp, e4'⟩
          exact RepF.mono h9 _ _ this
        · rw [List.append_nil]
          exact ⟨_, c, rfl, .inr ⟨b, arr, ty, rfl, h4, h5, by simp [upd, hdd]⟩⟩
      · have hm1 : 0 < l2.length := by
          rcases Nat.eq_zero_or_pos l2.length with h | h
          · exact absurd (List.eq_nil_of_length_eq_zero h) hm0
          · exact h
        have hroom : l.length + l2.length ≤ c := by omega
        have hfit : l.length * i.size + news.length ≤ arr.size := by rw [n1, h5, ← Nat.add_mul]; exact Nat.mul_le_mul_right _ hroom
        have hlb : b < w.heap.size := lt_of_some h4
        have hrun := run_app_room (P := P) (w := w) (ty := o.type) (c := c) ht hu hud hi n4 n5 h4 hroom hfit (oneCell_of_repL (S := fun _ _ => True) (c := cx E g σ w) n2)
        generalize harr : (arr.toList.take (l.length * i.size) ++ news ++ arr.toList.drop (l.length * i.size + news.length)).toArray = arr' at hrun
        have hsz' : arr'.size = arr.size := by rw [← harr]; simp; omega
        have hlow : ∀ j, j < l.length * i.size → arr'[j]? = arr[j]? := by
          intro j hj
          rw [← harr]
          have hlt : l.length * i.size ≤ arr.size := by omega
          rw [List.getElem?_toArray, List.append_assoc, List.getElem?_append_left (by simp; omega), List.getElem?_take_of_lt hj]
          simp
        have hhigh : ∀ j v, news[j]? = some v → arr'[l.length * i.size + j]? = some v := by
          intro j v hv
          have hj := (List.getElem?_eq_some_iff.1 hv).1
          rw [← harr, List.getElem?_toArray, List.getElem?_append_left (by simp; omega), List.getElem?_append_right (by simp; omega)]
          rw [← hv]; congr 1; simp; omega
        have hfree : freeAt (demS σ (some s)) (.slot s) := by
          intro z' l' e
          simp only [demS, upd, if_true] at e
          have := congrArg demV e
          rw [demV_demV, e] at this
          simp [demV] at this
        obtain ⟨h8, hle9⟩ := hsd.turn (t' := .slot (o.dst.getD 0)) (k' := (l.length + l2.length) * i.size) (arr' := arr') h4 h6 hfree (Nat.mul_le_mul_right _ (by omega)) hlow
        have h9 := hle9.cell
        have hsr : (w.setRow b arr').heap.size = w.heap.size := by simp [World.setRow]
        have hcell : ∀ j, (w.setRow b arr').cell? ⟨b, j, none⟩ = arr'[j]? := fun j => cell_setRow_same w b j arr arr' ty (0, 0) h4
        refine fin_val h8 (hrunof _ _ hrun) fun d hdd => ⟨hd d hdd, ?_, ?_⟩
        · simp only [RepF]
          refine ⟨_, c, by rw [List.length_append], by rw [List.length_append]; exact hroom, by simp, by simp, .inr ⟨b, 0, rfl, RepR.mk fun q e hq => ?_⟩⟩
          rw [List.getElem?_append] at hq
          split at hq
          · rcases e4' with rfl | ⟨b', k', hA, e6⟩
            · simp at hq
            · injection hA with hA
              injection hA with hb hk
              subst hb; subst hk
              have := e6.get hq
              exact ⟨this.1, RepC.mono h9 _ _ _ this.2⟩
          · rename_i hge
            have hS : ∀ j, j < l2.length * i.size → SS E { g with kd := upd g.kd b (.own (.slot (o.dst.getD 0)) ((l.length + l2.length) * i.size)) } (w.setRow b arr') b (l.length * i.size + j) := fun j hj =>
              .inr (.inr ⟨by rw [hsr]; exact hlb, .slot (o.dst.getD 0), (l.length + l2.length) * i.size, by simp [upd], by rw [Nat.add_mul]; omega⟩)
            have hR2 := RepR_flat (S := SS E { g with kd := upd g.kd b (.own (.slot (o.dst.getD 0)) ((l.length + l2.length) * i.size)) } (w.setRow b arr')) (w := w.setRow b arr') (b := b) (o := l.length * i.size) n3 (n2.mono (RepF.mono h9)) hS (fun j v hv => by rw [hcell]; exact hhigh j v hv)
            have := hR2.get hq
            have hq' : l.length * i.size + (q - l.length) * i.size = 0 + q * i.size := by
              rw [← Nat.add_mul, Nat.zero_add]; congr 1; omega
            rw [hq'] at this
            exact this
        · refine ⟨_, c, by rw [List.length_append], .inr ⟨b, arr', ty, rfl, setRow_heap w b arr arr' ty (0, 0) h4, by rw [hsz', h5], by simp [upd, hdd]⟩⟩

end
end Go.Av
