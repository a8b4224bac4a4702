/- A part of the proof: Ev12d. No conditions. -/
import Derived.Test.YthnablnojflbnaaDoorEv12c
set_option linter.unusedSimpArgs false
set_option linter.unusedVariables false
namespace Go.Av
set_option linter.unusedSectionVars false
variable [Gtab]
open Go.RowKit
section
variable {P : Program} {E : Env} {g g' : Gh} {σ σ1 : AS} {a : Act} {w w' : World} {o : Oper} {Q : Exit → Act → World → Prop}

/-- The cells of an object are in its block. -/
theorem obj_len {c : Cx} {ow : Nat → Value → Nat → Nat → Prop} {cells : List AV} {arr : Array Value} (h : ∀ (j : Nat) (x : AV), cells[j]? = some x → ∃ v, arr[j]? = some v ∧ RepC' c (ow j) x v) : cells.length ≤ arr.size := by
  by_cases h0 : cells.length = 0
  · omega
  · obtain ⟨u, h9, _⟩ := h (cells.length - 1) _ (List.getElem?_eq_getElem (by omega))
    have := (Array.getElem?_eq_some_iff.1 h9).1
    omega

theorem boundsx_run {lo : Option AV} {lo' : Option Value} {n c i j : Nat} {hi : AV} {hv : Value} (hl : bval lo lo') (hh : bval (some hi) (some hv)) (h1 : boundA lo 0 = some i) (h2 : boundA (some hi) n = some j) (hij : i ≤ j) (hjc : j ≤ c) (w : World) :
    (Instr.sliceBounds true n c lo' (some hv) none).run P w = .ok (i, j, c) w := by
  have hlo : ∀ code, (match lo' with | some v => Instr.sliceBound v j code | none => pure 0).run P w = .ok i w := by
    intro code
    unfold bval at hl
    split at hl
    · simp only [boundA, Option.some.injEq] at h1; subst h1; rfl
    · subst hl
      obtain ⟨_, rfl⟩ := natOf_eq h1
      exact sliceBound_run hij w
    · exact hl.elim
  have hhi : ∀ code, (Instr.sliceBound hv c code).run P w = .ok j w := by
    intro code
    cases hi <;> simp [bval] at hh
    subst hh
    obtain ⟨_, rfl⟩ := natOf_eq h2
    exact sliceBound_run hjc w
  unfold Instr.sliceBounds
  cases lo' <;> simp at hlo ⊢ <;> simp [hlo, hhi]

theorem snd_slx (hs : Sim E g σ a w) (hd : ∀ d, o.dst = some d → d < E.nt) {t e : TypeId} {x : Operand} {lo : Option Operand} {hi : Operand} {r rh : AR} (hop : o.op = .slice t x lo (some hi) none) (hx : okR x r = true) (hhi : okR hi rh = true)
    {z : Nat} (ht : P.underlying t = some (.slice e)) (hz : sizeOf' P e = some z) {lo' : Option AV} (hl : bval lo' (lo.map a.eval)) {v : AV} (hint : ∃ k n, ev σ.fr rh = .int k n) (hv : slxA z σ.sh (ev σ.fr r) lo' (ev σ.fr rh) = some v) :
    o.wp P a w (Post E (put σ o.dst v)) Q := by
  obtain ⟨hk, hn, hint⟩ := hint
  have hh : bval (some (ev σ.fr rh)) (some (a.eval hi)) := bval_ev hs hhi hint
  unfold slxA at hv
  split at hv
  · rename_i so off n z' he
    split at hv
    · rename_i i j cells hi1 hj1 hc1
      split at hv
      · rename_i hc
        obtain ⟨hij, hjn, rfl, hz0, hbk⟩ := hc
        obtain ⟨inf, h1, h2⟩ := size_info hz
        obtain ⟨e0, cp, e1, e2, e3⟩ := hs.rd hx he
        obtain ⟨_, k2, _⟩ := hs.shr so cells hc1 (blk_dead hbk)
        obtain ⟨arr, ty, fz, h6, hfz, h7, h8⟩ := k2 hbk
        have hal := obj_len h8
        have e3' : off + cp * z' = g.bs so / 2 := (e3.2 (by omega)).1
        have hz0 : 0 < z' := by omega
        have h7' := h7.1
        have hjc : j ≤ cp := by
          have : j * z' ≤ cp * z' := by omega
          exact Nat.le_of_mul_le_mul_right this hz0
        have hb := boundsx_run (P := P) (n := n) hl hh hi1 hj1 hij hjc w
        have hrun : (execOp a.eval o).run P w = .ok (.value (.slice (if cp = i then some ⟨(cx E g σ w).β so, off, none⟩ else some ⟨(cx E g σ w).β so, off + i * z', none⟩) (j - i) (cp - i))) w := by
          simp [execOp, hop, e1, Instr.sliceAt, Instr.slice, run_underlying ht, hb, sizeOf, typeInfo, h1, h2, add_none]
        split at hv
        · rename_i hcc
          cases hv
          refine plain_fin hs hd hrun rfl ?_
          refine ⟨e0, cp - i, ?_, by omega, ssz_sub e3 (by omega)⟩
          by_cases hci : cp = i
          · have hi0 : i = 0 := by omega
            subst hi0
            simp [hci]
          · rw [if_neg hci]
        · rename_i hcc
          cases hv
          refine plain_fin hs hd hrun rfl ?_
          have : j - i = 0 := by omega
          show RepF _ _ (.sl .no z' []) _
          simp only [RepF]
          exact ⟨_, _, by rw [this]; rfl, by simp, by simp, by simp, .inl trivial⟩
      · cases hv
    · cases hv
  · refine slc_core hs hd hop hx (.inl ⟨e, ht, rfl, hz⟩) hl ?_ hv
    exact hh

theorem snd_slm (hs : Sim E g σ a w) (hd : ∀ d, o.dst = some d → d < E.nt) {t e : TypeId} {x lo hi mx : Operand} {rx ri rj rk : AR} (hop : o.op = .slice t x (some lo) (some hi) (some mx)) (hx : okR x rx = true) (hi' : okR lo ri = true) (hj' : okR hi rj = true) (hk' : okR mx rk = true)
    (ht : P.underlying t = some (.slice e)) {inf : TypeInfo} (hinf : P.info? e = some inf) (hv : slmA (ev σ.fr rx) (ev σ.fr ri) (ev σ.fr rj) (ev σ.fr rk) = true) :
    o.wp P a w (Post E (put σ o.dst .any)) Q := by
  have key : ∀ (A : Option Addr) (n c : Nat) (k1 k2 k3 : IntKind) (i j m : Int), a.eval x = .slice A n c → n ≤ c → ev σ.fr ri = .int k1 i → ev σ.fr rj = .int k2 j → ev σ.fr rk = .int k3 m → 0 ≤ i ∧ i ≤ j ∧ j ≤ m ∧ m ≤ n →
      o.wp P a w (Post E (put σ o.dst .any)) Q := by
    intro A n c k1 k2 k3 i j m q1 q2 q3 q4 q5 ⟨q6, q7, q8, q9⟩
    have r3 := hs.rdNat hi' q3
    have r4 := hs.rdNat hj' q4
    have r5 := hs.rdNat hk' q5
    obtain ⟨i', rfl⟩ := Int.eq_ofNat_of_zero_le q6
    obtain ⟨j', rfl⟩ := Int.eq_ofNat_of_zero_le (show 0 ≤ j by omega)
    obtain ⟨m', rfl⟩ := Int.eq_ofNat_of_zero_le (show 0 ≤ m by omega)
    have b1 : ∀ code, (Instr.sliceBound (.int k3 (m' : Int)) c code).run P w = .ok m' w := fun code => sliceBound_run (by omega) w
    have b2 : ∀ code, (Instr.sliceBound (.int k2 (j' : Int)) m' code).run P w = .ok j' w := fun code => sliceBound_run (by omega) w
    have b3 : ∀ code, (Instr.sliceBound (.int k1 (i' : Int)) j' code).run P w = .ok i' w := fun code => sliceBound_run (by omega) w
    have hb : (Instr.sliceBounds true n c (some (.int k1 (i' : Int))) (some (.int k2 (j' : Int))) (some (.int k3 (m' : Int)))).run P w = .ok (i', j', m') w := by
      unfold Instr.sliceBounds
      simp [b1, b2, b3]
    refine fin_val hs (val := .slice (if m' = i' then A else A.map (·.add (i' * inf.size))) (j' - i') (m' - i')) ?_ fun d hdd => ⟨hd d hdd, trivial⟩
    simp [execOp, hop, q1, r3, r4, r5, Instr.sliceAt, Instr.slice, run_underlying ht, hb, sizeOf, typeInfo, hinf]
  unfold slmA at hv
  split at hv
  · rename_i e1 e2 e3 e4
    obtain ⟨_, cp, q1, q2, _⟩ := hs.rd hx e1
    exact key _ _ _ _ _ _ _ _ _ q1 q2 e2 e3 e4 (by simpa using hv)
  · rename_i e1 e2 e3 e4
    obtain ⟨A, c, q1, q2, _, _⟩ := hs.rdSl hx e1
    exact key _ _ _ _ _ _ _ _ _ q1 q2 e2 e3 e4 (by simpa using hv)
  · cases hv

theorem ite_some {α : Type} {c : Prop} [Decidable c] {x : Option α} {y : α} (h : (if c then x else none) = some y) : c ∧ x = some y := by
  split at h
  · rename_i hc; exact ⟨hc, h⟩
  · cases h

theorem flatten_take {z : Nat} : ∀ (l : List (List AV)) (n : Nat), (∀ e ∈ l, e.length = z) → (l.take n).flatten = l.flatten.take (n * z)
  | [], n, _ => by simp
  | e :: l, 0, _ => by simp
  | e :: l, n + 1, h => by
    have he := h e (by simp)
    rw [List.take_succ_cons, List.flatten_cons, List.flatten_cons, flatten_take l n (fun x hx => h x (by simp [hx])), List.take_append, he]
    congr 1
    · rw [List.take_of_length_le]
      rw [he, Nat.add_mul]; omega
    · congr 1
      rw [Nat.add_mul]; omega

/-- Rows of an object, as the model has them. -/
theorem rowsT_vals (hs : Sim E g σ a w) {so off j z : Nat} {cells : List AV} {l2 : List (List AV)} (h1 : σ.sh[so]? = some cells) (h2 : rowsC off j z cells = some l2) :
    ∃ vs : List Value, vs.length = l2.length * z ∧ RepL (RepF (SS E g w) w) l2.flatten vs ∧ (∀ e ∈ l2, e.length = z) ∧ l2.length = j ∧
      ∀ n cp, (Builtin.firstCells z j (.slice (some ⟨g.β so, off, none⟩) n cp)).run P w = .ok vs.toArray w := by
  by_cases hn0 : j = 0
  · subst hn0
    have hl : l2 = [] := by
      unfold rowsC at h2
      split at h2
      · cases h2; rfl
      · cases h2
    subst hl
    refine ⟨[], by simp, by simp [RepL], by simp, rfl, fun n cp => ?_⟩
    simp [Builtin.firstCells, loadCells, loadCellsFrom]
  · have hz : 0 < z ∧ off + j * z ≤ cells.length ∧ ((cells.drop off).take (j * z)).all (fun x => flatB (demV x)) = true := by
      unfold rowsC at h2
      split at h2
      · rename_i h; exact h
      · cases h2
    have hpos : 0 < j * z := Nat.mul_pos (by omega) hz.1
    have hblk : blkB cells = true := by
      have key : ∀ y, cells = [y] → flatB (demV y) = true := by
        rintro y rfl
        have : off = 0 ∧ j * z = 1 := by have := hz.2.1; simp at this; omega
        obtain ⟨rfl, h1⟩ := this
        have h3 := hz.2.2
        rw [h1] at h3
        simpa using h3
      unfold blkB
      split
      · have := key _ rfl; simp [demV, flatB] at this
      · have := key _ rfl; simp [demV, flatB] at this
      · rfl
    obtain ⟨_, hob, _⟩ := hs.shr so cells h1 (blk_dead hblk)
    obtain ⟨arr, ty, fz, q1, _, q2, q3⟩ := hob hblk
    have hal := obj_len q3
    have hrep : RepL (RepF (SS E g w) w) (((cells.drop off).take (j * z)).map demV) ((arr.toList.drop off).take (j * z)) := by
      refine RepL_drop_take off (j * z) demV hz.2.1 fun q x hq hx => ?_
      obtain ⟨u, h3, h4⟩ := q3 _ x hx
      have h5 := hz.2.2
      rw [List.all_eq_true] at h5
      refine ⟨u, h3, demF_rep (c := cx E g σ w) (h5 x (List.mem_iff_getElem?.2 ⟨q, ?_⟩)) h4⟩
      rw [List.getElem?_take_of_lt hq, List.getElem?_drop]; exact hx
    have hlen : (((cells.drop off).take (j * z)).map demV).length = j * z := by simp; omega
    obtain ⟨f1, f2, f3⟩ := rowsOf_flat z j _ hlen
    have hl2 : l2 = rowsOf z j (((cells.drop off).take (j * z)).map demV) := by
      unfold rowsC at h2
      rw [if_pos hz] at h2
      cases h2; rfl
    subst hl2
    have hlv : ((arr.toList.drop off).take (j * z)).length = j * z := by rw [hrep.length]; exact hlen
    refine ⟨_, by rw [hlv, f3], by rw [f1]; exact hrep, f2, f3, fun n cp => ?_⟩
    have hld := run_loadCells_list (P := P) w ⟨g.β so, off, none⟩ ((arr.toList.drop off).take (j * z)) (fun q v hq => by
      rw [add_none]
      rw [List.getElem?_take] at hq
      split at hq
      · rw [List.getElem?_drop] at hq
        simp [World.cell?, q1]; simpa using hq
      · cases hq)
    rw [hlv] at hld
    simp only [Builtin.firstCells, hld]

theorem snd_cpy (hs : Sim E g σ a w) (hd : ∀ d, o.dst = some d → d < E.nt) {t u e : TypeId} {x y : Operand} {rx ry : AR} (hop : o.op = .call { callee := .builtin .copy, args := #[x, y], argTypes := #[t, u] })
    (hx : okR x rx = true) (hy : okR y ry = true) (ht : P.underlying t = some (.slice e)) {z : Nat} (hz : sizeOf' P e = some z)
    {v : AV} {sh' : List (List AV)} (hv : cpyA z σ.sh (ev σ.fr ry) (ev σ.fr rx) = some (v, sh')) :
    o.wp P a w (Post E (put { σ with sh := sh' } o.dst v)) Q := by
  unfold cpyA at hv
  cases he : ev σ.fr rx <;> rw [he] at hv <;> dsimp only at hv <;> first | (cases hv; done) | skip
  rename_i so off n z'
  obtain ⟨l2, hr, hv1⟩ := Option.bind_eq_some_iff.1 hv
  obtain ⟨hc, hv2⟩ := ite_some hv1
  obtain ⟨rfl, hz0, hle⟩ := hc
  obtain ⟨cells, hcl, hv3⟩ := Option.bind_eq_some_iff.1 hv2
  obtain ⟨hbk, hv4⟩ := ite_some hv3
  obtain ⟨c', hp, hv5⟩ := Option.map_eq_some_iff.1 hv4
  simp only [Prod.mk.injEq] at hv5
  obtain ⟨rfl, rfl⟩ := hv5
  obtain ⟨inf, hi, hin⟩ := size_info hz
  have hsrc : ∃ (news : List Value) (m : Nat), news.length = l2.length * z' ∧ RepL (RepF (SS E g w) w) l2.flatten news ∧ (∀ w', (Builtin.lenOf (a.eval y)).run P w' = .ok m w') ∧ Nat.min m n = l2.length ∧ (Builtin.firstCells z' l2.length (a.eval y)).run P w = .ok news.toArray w := by
    cases hey : ev σ.fr ry with
    | ss s2 off2 k2 z2 =>
      rw [hey] at hr
      simp only [truncV, rowsS] at hr
      obtain ⟨hq, hr2⟩ := ite_some hr
      obtain ⟨_, rfl⟩ := hq
      obtain ⟨cells2, p1, p2⟩ := Option.bind_eq_some_iff.1 hr2
      obtain ⟨vs, q1, q2, q3, q4, q5⟩ := rowsT_vals (P := P) hs p1 p2
      obtain ⟨_, cp2, e1, _⟩ := hs.rd hy hey
      have e1' : a.eval y = .slice (some ⟨g.β s2, off2, none⟩) k2 cp2 := e1
      refine ⟨vs, k2, q1, q2, fun w' => by rw [e1']; rfl, by rw [q4], ?_⟩
      rw [e1', q4]
      exact q5 k2 cp2
    | _ =>
      rw [hey] at hr
      simp only [truncV] at hr
      rw [← hey] at hr
      obtain ⟨news, n1, n2, n3, n4, n5⟩ := rowsS_vals (P := P) hs hy hr
      exact ⟨news, l2.length, n1, n2, n4, Nat.min_eq_left hle, n5 w.drawn⟩
  obtain ⟨news, m, n1, n2, n4, hmin, n5⟩ := hsrc
  obtain ⟨e0, cp, e1, e2, e3, _⟩ := hs.rd hx he
  have e1' : a.eval x = .slice (some ⟨g.β so, off, none⟩) n cp := e1
  obtain ⟨k1, k2, _⟩ := hs.shr so cells hcl (blk_dead hbk)
  obtain ⟨arr, ty, fz, h6, hfz, h7, h8⟩ := k2 hbk
  have hal := obj_len h8
  obtain ⟨h5, rfl⟩ := putC_eq hp
  have hlen := n2.length
  have hst := run_storeCells_nofz P (g.β so) off ty fz news 0 arr w h6 hfz (by omega) (oneCell_of_repL (S := fun _ _ => True) (c := cx E g σ w) n2)
  simp only [Nat.add_zero] at hst
  have hrun : (Builtin.copy_ #[t, u] o.type #[.slice (some ⟨g.β so, off, none⟩) n cp, a.eval y]).run P w = .ok (goInt l2.length) (w.setRow (g.β so) (arr.toList.take off ++ news ++ arr.toList.drop (off + news.length)).toArray) := by
    have hw0' : (Builtin.firstCells inf.size l2.length (a.eval y)).run P w = .ok news.toArray w := by rw [hin]; exact n5
    simp only [Builtin.copy_]
    simp [run_underlying ht, n4, hmin, sizeOf, typeInfo, hi, hw0', hst]
  have hnew := hs.setShr (cells' := cells.take off ++ l2.flatten ++ cells.drop (off + l2.flatten.length)) (arr' := (arr.toList.take off ++ news ++ arr.toList.drop (off + news.length)).toArray) hcl (blk_dead hbk) h6 hfz
    (by simp; omega) h7 (by
      refine st_cells (by rw [hlen]) h5 (by simpa using h8) (fun j y hj => ?_)
      obtain ⟨v, h3, h4⟩ := n2.get hj
      exact ⟨v, h3, (repF_one (c := cx E g σ w) h4).2⟩)
  refine fin_val hnew (val := .int .i64 (l2.length : Int)) ?_ fun d hdd => ⟨hd d hdd, rfl⟩
  simp [execOp, hop, resolve, invoke, builtin, e1', hrun, goInt]

theorem snd_appC (hs : Sim E g σ a w) (hd : ∀ d, o.dst = some d → d < E.nt) {t u e e2 : TypeId} {x y : Operand} {rx ry : AR} (hop : o.op = .call { callee := .builtin .append, args := #[x, y], argTypes := #[t, u] })
    (hx : okR x rx = true) (hy : okR y ry = true) (ht : P.underlying t = some (.slice e)) (hu : P.underlying u = some (.slice e2)) {z : Nat} (hz : sizeOf' P e = some z)
    {v : AV} {sh' : List (List AV)} (hv : appCA z σ.sh (rowsS false z σ.sh (ev σ.fr ry)) (ev σ.fr rx) = some (v, sh')) :
    o.wp P a w (Post E (put { σ with sh := sh' } o.dst v)) Q := by
  unfold appCA at hv
  obtain ⟨l2, hr, hv⟩ := Option.bind_eq_some_iff.1 hv
  cases he : ev σ.fr rx <;> rw [he] at hv <;> dsimp only at hv <;> first | (cases hv; done) | skip
  rename_i so off n z'
  obtain ⟨hc, hv2⟩ := ite_some hv
  obtain ⟨rfl, rfl, hz0⟩ := hc
  obtain ⟨cells, hcl, hv3⟩ := Option.bind_eq_some_iff.1 hv2
  obtain ⟨hbk, hv4⟩ := ite_some hv3
  obtain ⟨hbk, hfitc⟩ := hbk
  obtain ⟨c', hp, hv5⟩ := Option.map_eq_some_iff.1 hv4
  simp only [Prod.mk.injEq] at hv5
  obtain ⟨rfl, rfl⟩ := hv5
  obtain ⟨inf, hi, hin⟩ := size_info hz
  obtain ⟨news, n1, n2, n3, n4, n5⟩ := rowsS_vals (P := P) hs hy hr
  obtain ⟨e0, cp, e1, e2', e3⟩ := hs.rd hx he
  have e1' : a.eval x = .slice (some ⟨g.β so, 0, none⟩) n cp := e1
  have e3' : 0 + cp * z' = g.bs so / 2 := (e3.2 (by omega)).1
  have hz0 : 0 < z' := by omega
  obtain ⟨k1, k2, _⟩ := hs.shr so cells hcl (blk_dead hbk)
  obtain ⟨arr, ty, fz, h6, hfz, h7, h8⟩ := k2 hbk
  have hal := obj_len h8
  have h7' := h7.1
  obtain ⟨h5, rfl⟩ := putC_eq hp
  have hroom : n + l2.length ≤ cp := by
    have : (n + l2.length) * z' ≤ cp * z' := by omega
    exact Nat.le_of_mul_le_mul_right this hz0
  have hlen := n2.length
  have hfit : n * inf.size + news.length ≤ arr.size := by rw [hin]; omega
  have hrun := run_app_room' (P := P) (w := w) (ty := o.type) (c := cp) (ud := .slice e2) ht hu (fun k h => by cases h) hi n4 (by rw [hin]; exact n5) h6 hfz hroom hfit (oneCell_of_repL (S := fun _ _ => True) (c := cx E g σ w) n2)
  rw [hin] at hrun
  have hnew := hs.setShr (cells' := cells.take (n * z') ++ l2.flatten ++ cells.drop (n * z' + l2.flatten.length)) (arr' := (arr.toList.take (n * z') ++ news ++ arr.toList.drop (n * z' + news.length)).toArray) hcl (blk_dead hbk) h6 hfz
    (by simp; omega) h7 (by
      refine st_cells (by rw [hlen]) h5 (by simpa using h8) (fun j y hj => ?_)
      obtain ⟨v, h3, h4⟩ := n2.get hj
      exact ⟨v, h3, (repF_one (c := cx E g σ w) h4).2⟩)
  refine fin_val hnew (val := .slice (some ⟨g.β so, 0, none⟩) (n + l2.length) cp) ?_ fun d hdd => ⟨hd d hdd, ?_⟩
  · simp [execOp, hop, resolve, invoke, builtin, e1', hrun]
  · have e0' : so < σ.sh.length := e0
    exact ⟨by show so < (σ.sh.set so _).length; simpa using e0', cp, rfl, hroom, e3⟩
/-- A slice of an array of bytes (or of other one-cell elements) that is an object. -/
theorem snd_sla (hs : Sim E g σ a w) (hd : ∀ d, o.dst = some d → d < E.nt) {t e : TypeId} {x lo hi : Operand} {rx rl rh : AR} (hop : o.op = .slice t x (some lo) (some hi) none) (hx : okR x rx = true) (hl : okR lo rl = true) (hh : okR hi rh = true)
    {len : Nat} (ht : P.underlying t = some (.array len e)) (hz : sizeOf' P e = some 1) {so off : Nat} {k1 k2 : IntKind} {i j : Int} (he : ev σ.fr rx = .ptr so off) (hli : ev σ.fr rl = .int k1 i) (hhj : ev σ.fr rh = .int k2 j)
    (h0 : 0 ≤ i) (hij : i < j) (hj : j ≤ len) {cells : List AV} (hc : σ.sh[so]? = some cells) (hbk : blkB cells = true) (hfit : off + len ≤ cells.length) :
    o.wp P a w (Post E (put σ o.dst (.ss so (off + i.toNat) (j.toNat - i.toNat) 1))) Q := by
  obtain ⟨e0, e1⟩ := hs.rd hx he
  have e2 := hs.rdNat hl hli
  have e3 := hs.rdNat hh hhj
  obtain ⟨_, k2', _⟩ := hs.shr so cells hc (blk_dead hbk)
  obtain ⟨arr, ty, fz, h6, hfz, h7, h8⟩ := k2' hbk
  have hal := obj_len h8
  have h7' := h7.1
  obtain ⟨inf, hi1, hi2⟩ := size_info hz
  obtain ⟨i, rfl⟩ := Int.eq_ofNat_of_zero_le h0
  obtain ⟨j, rfl⟩ := Int.eq_ofNat_of_zero_le (show 0 ≤ j by omega)
  have hij' : i < j := by omega
  have hj' : j ≤ len := by omega
  simp only [Int.toNat_natCast]
  have hbd : (Instr.sliceBounds false len len (some (.int k1 (i : Int))) (some (.int k2 (j : Int))) none).run P w = .ok (i, j, len) w := by
    have q1 : ∀ code, (Instr.sliceBound (.int k1 (i : Int)) j code).run P w = .ok i w := fun code => sliceBound_run (by omega) w
    have q2 : ∀ code, (Instr.sliceBound (.int k2 (j : Int)) len code).run P w = .ok j w := fun code => sliceBound_run hj' w
    unfold Instr.sliceBounds
    simp [q1, q2]
  have hne : len ≠ i := by omega
  have hrun : (execOp a.eval o).run P w = .ok (.value (.slice (some ⟨(cx E g σ w).β so, off + i, none⟩) (j - i) (len - i))) w := by
    simp [execOp, hop, e1, e2, e3, Instr.sliceAt, Instr.sureAddr, run_underlying ht, hbd, sizeOf, typeInfo, hi1, hi2, add_none, hne]
  refine plain_fin hs hd hrun rfl ⟨e0, len - i, rfl, by omega, ?_, fun h => absurd rfl h⟩
  show off + i + (len - i) * 1 ≤ g.bs so / 2
  omega
end
end Go.Av
