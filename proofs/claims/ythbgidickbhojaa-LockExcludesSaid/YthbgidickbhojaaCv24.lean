/- A part of the proof: Cv24. No conditions. -/
import Derived.Test.YthbgidickbhojaaCv23
import Derived.Lib.AppendZerosOnto
set_option linter.unusedSimpArgs false
set_option linter.unusedVariables false
namespace Go.Av
open Go.RowKit
set_option linter.unusedSimpArgs false
set_option linter.unusedVariables false
set_option maxHeartbeats 4000000
section
variable {P : Program} {E : Env} {g g' : Gh} {σ σ1 : AS} {a : Act} {w w' : World} {o : Oper} {Q : Exit → Act → World → Prop}

theorem flat_dem {x : AV} (h : flatB x = true) : demV x = x := by
  cases x <;> try rfl
  rename_i m z l
  cases m <;> first | rfl | simp [flatB] at h
theorem flat_nown {x : AV} (h : flatB x = true) : nownB x = true := by
  cases x <;> try rfl
  rename_i m z l
  cases m <;> first | rfl | simp [flatB] at h
theorem flat_all_nown {l : List AV} (h : l.all flatB = true) : l.all nownB = true := by
  rw [List.all_eq_true] at h ⊢
  exact fun x hx => flat_nown (h x hx)
theorem flat_blk {l : List AV} (h : l.all flatB = true) : blkB l = true := by
  rw [List.all_eq_true] at h
  unfold blkB
  split
  · have := h _ (List.mem_singleton.2 rfl); simp [flatB] at this
  · have := h _ (List.mem_singleton.2 rfl); simp [flatB] at this
  · rfl
theorem flat_map {l : List AV} (h : l.all flatB = true) : l.map demV = l := by
  rw [List.all_eq_true] at h
  conv => rhs; rw [← List.map_id l]
  exact List.map_congr_left fun x hx => flat_dem (h x hx)
theorem flat_all_dem {l : List AV} (h : l.all flatB = true) : l.all (fun x => flatB (demV x)) = true := by
  rw [List.all_eq_true] at h ⊢
  exact fun x hx => by rw [flat_dem (h x hx)]; exact h x hx

/-- append of a make that does not fit. -/
theorem snd_appZ (hs : Sim E g σ a w) (hd : ∀ d, o.dst = some d → d < E.nt) {t tn e : TypeId} {x y : Operand} {rx ry : AR} {kn : IntKind} (hop : o.op = .call { callee := .builtin .append, args := #[x, y], argTypes := #[t, tn] })
    (hx : okR x rx = true) (hy : okR y ry = true) (ht : P.underlying t = some (.slice e)) (htn : P.underlying tn = some (.int kn)) {z bytes : Nat} {zero : List AV} (hzi : zeroIs P e zero = true) (hzl : zero.length = z) {inf : TypeInfo} (hi : P.info? e = some inf) (hib : inf.bytes = bytes) (hz0 : 0 < z)
    {so i k : Nat} {cells : List AV} (he : ev σ.fr rx = .ss so 0 i z) (hk : ev σ.fr ry = .int .i64 (k : Int)) (hk0 : 0 < k) (hcl : σ.sh[so]? = some cells) (hfl : cells.all flatB = true) (hle : i * z ≤ cells.length)
    (hcap : ∀ cp, 0 + cp * z = g.bs so / 2 → cp < i + k) (hby : (i + k) * bytes ≤ 140737488355328) (h62 : i + k ≤ 4611686018427387904) :
    o.wp P a w (Post E (put { σ with sh := σ.sh ++ [cells.take (i * z) ++ zeroRow zero k] } o.dst (.ss σ.sh.length 0 (i + k) z))) Q := by
  obtain ⟨i', zv, q1, q2, q3, q4⟩ := zero_info hzi
  rw [hi] at q1; cases q1
  have hbk := flat_blk hfl
  have hiz : inf.size = z := by omega
  obtain ⟨e0, cp, e1, e2, e3, _⟩ := hs.rd hx he
  have e1' : a.eval x = .slice (some ⟨g.β so, 0, none⟩) i cp := e1
  have hg := hcap cp e3
  have ek := hs.rdNat hy hk
  have hzr := okL_rep (S := SS E g w) (w := w) q3
  have hzv : zv.cells.size = z := by have := hzr.length; simp at this; omega
  obtain ⟨k1, k2, _⟩ := hs.shr so cells hcl (blk_dead hbk)
  obtain ⟨arr, ty, fz, h6, hfz, h7, h8⟩ := k2 hbk
  have hal := obj_len h8
  have hlt : (arr.toList.take (i * inf.size)).length = i * inf.size := by rw [hiz]; simp; omega
  have hold : (Builtin.firstCells inf.size i (.slice (some ⟨g.β so, 0, none⟩) i cp)).run P w.drew = .ok (arr.toList.take (i * inf.size)).toArray w.drew := by
    have hld := run_loadCells_list (P := P) w.drew ⟨g.β so, 0, none⟩ (arr.toList.take (i * inf.size)) (fun j v hj => by
      rw [add_none]
      rw [List.getElem?_take] at hj
      split at hj
      · have h6' : w.drew.heap[g.β so]? = some (.cells arr ty fz) := h6
        simp [World.cell?, h6']; simpa using hj
      · cases hj)
    rw [hlt] at hld
    simp only [Builtin.firstCells, hld]
  have hrun := Lib.run_append_grow_zeros (P := P) w t tn o.type e inf zv .i64 kn ht htn hi q2 (some ⟨g.β so, 0, none⟩) i cp (arr.toList.take (i * inf.size)) hold k hk0 (by omega) hg (by omega) (by
    have : k * inf.bytes ≤ (i + k) * bytes := by rw [hib]; exact Nat.mul_le_mul_right _ (by omega)
    omega) (growslice_fits hg (by rw [hib]; exact hby))
  have h1 := hs.drawn (w.drawn + 1)
  have hge := grownCap_ge w (i + k) cp e
  have hze : ∀ (n j : Nat) (y : AV), (zeroRow zero n)[j]? = some y → ∃ v, (Builtin.zeroCells zv.cells n)[j]? = some v ∧ RepC' (cx E g σ { w with drawn := w.drawn + 1 }) noOwn y v := by
    intro n j y hj
    obtain ⟨j1, j2⟩ := zeroRow_take zero j n y hj
    obtain ⟨v, j3, j4⟩ := hzr.get j2
    rw [hzl] at j1
    refine ⟨v, ?_, (repF_one (c := cx E g σ { w with drawn := w.drawn + 1 }) (RepF.mono (S := SS E g w) (S' := SS E g w) (w := w) (w' := { w with drawn := w.drawn + 1 }) (fun b n h => ⟨h, rfl⟩) _ _ j4)).2⟩
    have h9 : zv.cells[j % zero.length]? = some v := by simpa using j3
    rw [hzl] at h9
    unfold Builtin.zeroCells
    rw [hzv]
    rw [Array.getElem?_map, Array.getElem?_range, if_pos j1]
    simp only [Option.map_some, Option.some.injEq]
    rw [getElem!_def, h9]
  obtain ⟨g2, p1, p2, p3, p4⟩ := h1.newShr (cells := cells.take (i * z) ++ zeroRow zero k) (cs := (arr.toList.take (i * inf.size)).toArray ++ Builtin.zeroCells zv.cells k ++ Builtin.zeroCells zv.cells (grownCap w (i + k) cp e - (i + k))) (e := e) (fun j y hj => by
    have hle1 : Cx.le (cx E g σ w) (cx E g σ { w with drawn := w.drawn + 1 }) := ⟨fun b n h => ⟨h, rfl⟩, Nat.le_refl _, fun _ _ => rfl, fun _ _ => rfl, fun s hs => ⟨hs, rfl⟩⟩
    have hs1 : (arr.toList.take (i * inf.size)).toArray.size = i * z := by rw [List.size_toArray, hlt, hiz]
    have hs2 : (cells.take (i * z)).length = i * z := by simp; omega
    have hs3 : (Builtin.zeroCells zv.cells k).size = k * z := by rw [zeroCells_list, hzv]
    rw [List.getElem?_append, hs2] at hj
    split at hj
    · rename_i hjl
      rw [List.getElem?_take_of_lt hjl] at hj
      obtain ⟨v, h3, h4⟩ := h8 j y hj
      refine ⟨v, ?_, RepC'.mono hle1 _ _ (fun z l e => ?_) h4⟩
      · rw [Array.getElem?_append_left (by rw [Array.size_append]; omega), Array.getElem?_append_left (by omega), List.getElem?_toArray, List.getElem?_take_of_lt (by rw [hiz]; exact hjl)]
        simpa using h3
      · subst e
        rw [List.all_eq_true] at hfl
        have := hfl _ (List.mem_iff_getElem?.2 ⟨j, hj⟩)
        simp [flatB] at this
    · rename_i hjl
      obtain ⟨v, h3, h4⟩ := hze k _ y hj
      refine ⟨v, ?_, h4⟩
      have hjl2 := (Array.getElem?_eq_some_iff.1 h3).1
      rw [Array.getElem?_append_left (by rw [Array.size_append]; omega), Array.getElem?_append_right (by omega), hs1]
      exact h3)
  refine fin_val p1 (val := .slice (some ⟨w.heap.size, 0, none⟩) (i + k) (grownCap w (i + k) cp e)) ?_ fun d hdd => ⟨hd d hdd, ?_⟩
  · simp [execOp, hop, resolve, invoke, builtin, e1', ek, hrun]
  · refine ⟨by simp [cx], grownCap w (i + k) cp e, ?_, hge, ?_⟩
    · show _ = Value.slice (some ⟨g2.β σ.sh.length, 0, none⟩) _ _
      have : g2.β σ.sh.length = w.heap.size := p3
      rw [this]
    · have hb : g2.bs σ.sh.length = 2 * _ + 1 := p4
      refine ⟨?_, fun _ => by show g2.bs σ.sh.length % 2 = 1; rw [hb]; omega⟩
      show 0 + _ = g2.bs σ.sh.length / 2
      rw [hb, show ∀ X : Nat, (2 * X + 1) / 2 = X from fun X => by omega]
      rw [Array.size_append, Array.size_append, List.size_toArray, hlt, zeroCells_list, zeroCells_list, hzv, hiz, ← Nat.add_mul, ← Nat.add_mul, Nat.zero_add]
      congr 1
      omega
end

/-! ### slices.Insert -/
def mvO (d s : Nat) : AOper := ⟨some d, .mv, [.t s], .none, none, none⟩
def stuckC : ACode := .reg false [] [⟨none, .mv, [], .none, none, none⟩] []
def insI0 (z : Nat) : ACode := .reg false [] [⟨some 6, .mv, [.c (.sl .full z [])], .none, none, none⟩] [6]
def insI1 (z : Nat) : ACode := .reg false [] [mvO 10 0, mvO 11 1, ⟨some 12, .slc false z true false, [.t 10, .t 11], .none, none, none⟩] [10, 11, 12]
def insI2 : ACode := .reg false [] [mvO 13 2, ⟨some 14, .len false, [.t 13], .none, none, none⟩, mvO 7 14] [13, 14]
def insI3 : ACode := .seq (.reg false [] [mvO 15 7, ⟨some 16, .bin .eql, [.t 15, .c (.int .i64 0)], .none, none, none⟩] [15]) (.cond (.t 16) (.seq stuckC .ret) .skip)
def insI5 : ACode := .reg false [] [mvO 18 0, ⟨some 19, .len false, [.t 18], .none, none, none⟩, mvO 8 19] [18, 19]
def insI6 : ACode := .seq (.reg false [] [mvO 20 1, mvO 21 8, ⟨some 22, .bin .eql, [.t 20, .t 21], .none, none, none⟩] [20, 21]) (.cond (.t 22) (.seq stuckC .ret) .skip)
def insP8 : List AOper := [mvO 26 8, mvO 27 7, ⟨some 28, .bin .add, [.t 26, .t 27], .none, none, none⟩, mvO 29 0]
def insQ8 : List AOper := [⟨some 31, .bin .gtr, [.t 28, .t 30], .none, none, none⟩]
def insP9 (z : Nat) : List AOper := [mvO 32 0, mvO 33 1, ⟨some 34, .slc false z false true, [.t 32, .t 33], .none, none, none⟩, mvO 35 8, mvO 36 7, ⟨some 37, .bin .add, [.t 35, .t 36], .none, none, none⟩, mvO 38 1, ⟨some 39, .bin .sub, [.t 37, .t 38], .none, none, none⟩]
def insQ9 : List AOper := [mvO 9 40]
def insG (z : Nat) : ACode :=
  .seq (.reg false [] [mvO 41 9, mvO 42 1, ⟨some 43, .slc false z true false, [.t 41, .t 42], .none, none, none⟩, mvO 44 2, ⟨some 45, .cpy z, [.t 43, .t 44], .sh, none, none⟩] [41, 42, 43, 44, 45]) <|
  .seq (.reg true [] [mvO 46 9, mvO 47 1, mvO 48 7, ⟨some 49, .bin .add, [.t 47, .t 48], .none, none, none⟩, ⟨some 50, .slc false z true false, [.t 46, .t 49], .none, none, none⟩, mvO 51 0, mvO 52 1, ⟨some 53, .slc false z true false, [.t 51, .t 52], .none, none, none⟩, ⟨some 54, .cpy z, [.t 50, .t 53], .sh, none, none⟩] [46, 47, 48, 49, 50, 51, 52, 53, 54]) <|
  .seq (.reg false [] [mvO 55 9, mvO 6 55] [55]) .ret
def insR (z f72 : Nat) : ACode :=
  .seq (.reg false [] [mvO 56 0, mvO 57 8, mvO 58 7, ⟨some 59, .bin .add, [.t 57, .t 58], .none, none, none⟩, ⟨some 60, .slx z false, [.t 56, .t 59], .sh, none, none⟩, mvO 0 60] [56, 57, 58, 59, 60]) <|
  .seq (.seq (.reg false [] [mvO 61 2, mvO 62 0, mvO 63 1, mvO 64 7, ⟨some 65, .bin .add, [.t 63, .t 64], .none, none, none⟩, ⟨some 66, .slc false z true false, [.t 62, .t 65], .none, none, none⟩, ⟨some 67, .call f72, [.t 61, .t 66], .sh, none, none⟩, ⟨some 68, .un .not, [.t 67], .none, none, none⟩] [61, 62, 63, 64, 65, 66, 67])
    (.cond (.t 68) (.seq (.reg true [] [mvO 69 0, mvO 70 1, mvO 71 7, ⟨some 72, .bin .add, [.t 70, .t 71], .none, none, none⟩, ⟨some 73, .slc false z true false, [.t 69, .t 72], .none, none, none⟩, mvO 74 0, mvO 75 1, ⟨some 76, .slc false z true false, [.t 74, .t 75], .none, none, none⟩, ⟨some 77, .cpy z, [.t 73, .t 76], .sh, none, none⟩] [69, 70, 71, 72, 73, 74, 75, 76, 77]) <|
      .seq (.reg false [] [mvO 78 0, mvO 79 1, ⟨some 80, .slc false z true false, [.t 78, .t 79], .none, none, none⟩, mvO 81 2, ⟨some 82, .cpy z, [.t 80, .t 81], .sh, none, none⟩] [78, 79, 80, 81, 82]) <|
      .seq (.reg false [] [mvO 83 0, mvO 6 83] [83]) .ret) .skip)) <|
  .seq stuckC <| .seq stuckC <| .seq stuckC .ret
def isCapOf (P : Program) (i : Nat) : Op → Bool
  | .call { callee := .builtin .cap, args := xs, argTypes := ts } => (match xs.toList, ts.toList with
    | [.tmp j], [t] => i == j && (match P.underlying t with | some (.slice _) => true | _ => false)
    | _, _ => false)
  | _ => false
def isAppZ (P : Program) (i k z bytes : Nat) (zero : List AV) : Op → Bool
  | .call { callee := .builtin .append, args := xs, argTypes := ts } => (match xs.toList, ts.toList with
    | [.tmp j, .tmp l], [t, tn] => i == j && k == l && (match P.underlying t, P.underlying tn with | some (.slice e), some (.int _) => zeroIs P e zero && zero.length == z && (match P.info? e with | some inf => inf.bytes == bytes | none => false) | _, _ => false)
    | _, _ => false)
  | _ => false
def okInsert (P : Program) (f f72 z bytes : Nat) (zero : List AV) : Bool :=
  match P.funcs[f]? with
  | some fn => (match fn.body with
    | some (.seq c0 (.seq c1 (.seq c2 (.seq c3 (.seq c5 (.seq c6 (.seq (.seq (.region _ ops8 false) (.cond (.tmp 31) (.seq (.region _ ops9 false) gr) .skip)) rest))))))) =>
      okCode P fn.ntmps c0 (insI0 z) && okCode P fn.ntmps c1 (insI1 z) && okCode P fn.ntmps c2 insI2 && okCode P fn.ntmps c3 insI3 && okCode P fn.ntmps c5 insI5 && okCode P fn.ntmps c6 insI6 && okCode P fn.ntmps gr (insG z) && okCode P fn.ntmps rest (insR z f72) &&
      (match ops8.toList with
       | [p1, p2, p3, p4, q, r] => okOs P fn.ntmps ops8 [p1, p2, p3, p4] insP8 && okOs P fn.ntmps ops8 [r] insQ8 && q.dst == some 30 && q.guard.isNone && isCapOf P 29 q.op
       | _ => false) &&
      (match ops9.toList with
       | [p1, p2, p3, p4, p5, p6, p7, p8, q, r] => okOs P fn.ntmps ops9 [p1, p2, p3, p4, p5, p6, p7, p8] (insP9 z) && okOs P fn.ntmps ops9 [r] insQ9 && q.dst == some 40 && q.guard.isNone && isAppZ P 34 39 z bytes zero q.op
       | _ => false)
    | _ => false) && decide (84 ≤ fn.ntmps) && okRes P fn.results.toList [.tmpD 6] && !(fn.name == "runtime.NumGoroutine")
  | none => false
end Go.Av
