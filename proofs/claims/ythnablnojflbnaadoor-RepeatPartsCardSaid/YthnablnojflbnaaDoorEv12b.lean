/- A part of the proof: Ev12b. No conditions. -/
import Derived.Test.YthnablnojflbnaaDoorEv12a
set_option linter.unusedSimpArgs false
set_option linter.unusedVariables false
namespace Go.Av
set_option linter.unusedSectionVars false
variable [Gtab]
open Go.RowKit
section
variable {P : Program} {E : Env} {g g' : Gh} {σ σ1 : AS} {a : Act} {w w' : World} {o : Oper} {Q : Exit → Act → World → Prop}

theorem zeroRow_take (zero : List AV) (j n : Nat) (x : AV) (h : (zeroRow zero n)[j]? = some x) : j < n * zero.length ∧ zero[j % zero.length]? = some x := by
  have hj : j < n * zero.length := by
    have := (List.getElem?_eq_some_iff.1 h).1
    rwa [zeroRow_length] at this
  rw [zeroRow_get zero n j hj] at h
  exact ⟨hj, h⟩

theorem notMapZero {zero : List AV} {n : Nat} {S : Nat → Nat → Prop} {vs : List Value} (hr : RepL (RepF S w) zero vs) (l : List (List AV)) : zeroRow zero n ≠ [.mapv l] := by
  intro e
  have h0 : (zeroRow zero n)[0]? = some (.mapv l) := by rw [e]; rfl
  obtain ⟨h1, h2⟩ := zeroRow_take zero 0 n _ h0
  obtain ⟨u, _, h4⟩ := hr.get h2
  simp [RepF] at h4

theorem snd_mkl (hs : Sim E g σ a w) (hd : ∀ d, o.dst = some d → d < E.nt) {t e : TypeId} {x y : Operand} {rx ry : AR} (hop : o.op = .makeSlice t x y) (hx : okR x rx = true) (hy : okR y ry = true)
    (hu : P.underlying t = some (.slice e)) {z bytes : Nat} {zero : List AV} (hsz : sizeOf' P e = some z) (hz : zeroIs P e zero = true) {i : TypeInfo} (hi : P.info? e = some i) (hb : i.bytes = bytes)
    {n c : Int} (h1 : ev σ.fr rx = .int .i64 n) (h2 : ev σ.fr ry = .int .i64 c) (h0 : 0 ≤ n) (hnc : n ≤ c) (hcb : c * bytes ≤ 140737488355328) (hc63 : c ≤ 4611686018427387904) (hz0 : 0 < z) (hzl : zero.length = z) :
    o.wp P a w (Post E (put { σ with sh := σ.sh ++ [zeroRow zero n.toNat] } o.dst (.ss σ.sh.length 0 n.toNat z))) Q := by
  obtain ⟨i', zv, q1, q2, q3, q4⟩ := zero_info hz
  rw [hi] at q1; cases q1
  obtain ⟨i2, r1, r2⟩ := size_info hsz
  rw [hi] at r1; cases r1
  have e1 := hs.rdNat hx h1
  have e2 := hs.rdNat hy h2
  have hzr := okL_rep (S := SS E g w) (w := w) q3
  have hzv : zv.cells.size = z := by have := hzr.length; simp at this; omega
  have hcb' : (i.bytes : Int) * c ≤ 281474976710656 := by
    rw [hb, Int.mul_comm]; omega
  have hmk := run_make (P := P) w t e i zv hu hi q2 .i64 .i64 n c h0 hnc hcb' (by omega)
  have hszm : (madeCells zv.cells (c.toNat * i.size)).size = c.toNat * z := by rw [r2]; exact size_madeCells _ _
  obtain ⟨g', k1, k2, k3, k4⟩ := hs.newShr (cs := madeCells zv.cells (c.toNat * i.size)) (e := e) (cells := zeroRow zero n.toNat) (fun j u hj => by
    obtain ⟨j1, j2⟩ := zeroRow_take zero j _ u hj
    obtain ⟨v, j3, j4⟩ := hzr.get j2
    rw [hzl] at j1
    have hjc : j < c.toNat * z := Nat.lt_of_lt_of_le j1 (Nat.mul_le_mul_right _ (by omega))
    refine ⟨v, ?_, (repF_one (c := cx E g σ w) j4).2⟩
    have h3 : zv.cells[j % zero.length]? = some v := by simpa using j3
    rw [hzl] at h3
    unfold madeCells
    rw [r2]
    simp only [Array.getElem?_map, Array.getElem?_range, hjc, if_true, Option.map_some, Option.some.injEq]
    rw [hzv, getElem!_def, h3])
  refine fin_val k1 (val := .slice (some ⟨w.heap.size, 0, none⟩) n.toNat c.toNat) ?_ fun d hdd => ⟨hd d hdd, ?_⟩
  · simp [execOp, hop, e1, e2, hmk]
  · refine ⟨by simp [cx], c.toNat, ?_, by omega, ?_⟩
    · simp [cx, k3]
    · exact ssz_full (by simp only [cx, k4, hszm]; omega) (by simp only [cx, k4, hszm]; omega)

/-- What a clear of a slice does. -/
theorem snd_clr0 (hs : Sim E g σ a w) (hd : ∀ d, o.dst = some d → d < E.nt) {t e : TypeId} {x : Operand} {rx : AR} (hop : o.op = .call { callee := .builtin .clear, args := #[x], argTypes := #[t] }) (hx : okR x rx = true)
    (hu : P.underlying t = some (.slice e)) {m : Own} {z : Nat} (h1 : ev σ.fr rx = .sl m z []) :
    o.wp P a w (Post E (put σ o.dst (.tup []))) Q := by
  obtain ⟨A, c, e1, _⟩ := hs.rdSl hx h1
  refine plain_fin hs hd (val := .tuple #[]) ?_ rfl ⟨#[], rfl, trivial⟩
  cases A <;> simp [execOp, hop, resolve, invoke, builtin, e1, Builtin.clear_, run_underlying hu]

theorem zeroCells_list {zv : Array Value} {n : Nat} : (Builtin.zeroCells zv n).size = n * zv.size := by simp [Builtin.zeroCells]

theorem snd_clr (hs : Sim E g σ a w) (hd : ∀ d, o.dst = some d → d < E.nt) {t e : TypeId} {x : Operand} {rx : AR} (hop : o.op = .call { callee := .builtin .clear, args := #[x], argTypes := #[t] }) (hx : okR x rx = true)
    (hu : P.underlying t = some (.slice e)) {z : Nat} {zero : List AV} (hz : zeroIs P e zero = true) (hzl : zero.length = z)
    {so off n : Nat} {cells c' : List AV} (h1 : ev σ.fr rx = .ss so off n z) (hc : σ.sh[so]? = some cells) (hbk : blkB cells = true) (hp : putC off (zeroRow zero n) cells = some c') :
    o.wp P a w (Post E (put { σ with sh := σ.sh.set so c' } o.dst (.tup []))) Q := by
  obtain ⟨i', zv, q1, q2, q3, q4⟩ := zero_info hz
  obtain ⟨e0, cp, e1, e2, e3⟩ := hs.rd hx h1
  have hzr := okL_rep (S := SS E g w) (w := w) q3
  have hzv : zv.cells.size = z := by have := hzr.length; simp at this; omega
  have hnd := blk_dead hbk
  obtain ⟨k1, k2, _⟩ := hs.shr so cells hc hnd
  obtain ⟨arr, ty, fz, h6, hfz, h7, h8⟩ := k2 hbk
  obtain ⟨h5, rfl⟩ := putC_eq hp
  have hal : cells.length ≤ arr.size := by
    by_cases h0 : cells.length = 0
    · omega
    · obtain ⟨u, h9, _⟩ := h8 (cells.length - 1) _ (List.getElem?_eq_getElem (by omega))
      have := (Array.getElem?_eq_some_iff.1 h9).1
      omega
  have hlz : (zeroRow zero n).length = n * z := by rw [zeroRow_length, hzl]
  have hone : ∀ v ∈ (Builtin.zeroCells zv.cells n).toList, v.oneCell' = true := by
    intro v hv
    unfold Builtin.zeroCells at hv
    simp only [Array.toList_map, List.mem_map] at hv
    obtain ⟨k, hk, rfl⟩ := hv
    simp only [Array.toList_range, List.mem_range] at hk
    have hmod : k % zv.cells.size < zv.cells.size := Nat.mod_lt _ (by
      rcases Nat.eq_zero_or_pos zv.cells.size with h | h
      · rw [h] at hk; simp at hk
      · exact h)
    have : zv.cells[k % zv.cells.size]! = zv.cells[k % zv.cells.size] := by rw [getElem!_def, Array.getElem?_eq_getElem hmod]
    rw [this]
    exact oneCell_of_repL (S := fun _ _ => True) (c := cx E g σ w) hzr _ (by simp)
  have hst := run_storeCells_nofz P (g.β so) off ty fz (Builtin.zeroCells zv.cells n).toList 0 arr w h6 hfz (by simp [zeroCells_list, hzv]; omega) hone
  simp only [Nat.add_zero] at hst
  have hb : a.eval x = .slice (some ⟨g.β so, off, none⟩) n cp := e1
  have hzrun : (zeroValue e).run P w = .ok zv w := by simp [zeroValue, typeInfo, q1, q2]
  have hnew := hs.setShr (cells' := cells.take off ++ zeroRow zero n ++ cells.drop (off + (zeroRow zero n).length)) (arr' := (arr.toList.take off ++ (Builtin.zeroCells zv.cells n).toList ++ arr.toList.drop (off + (Builtin.zeroCells zv.cells n).toList.length)).toArray) hc hnd h6 hfz
    (by simp [zeroCells_list, hzv]; omega) h7 (by
      refine st_cells (by simp [zeroCells_list, hzv, hlz]) h5 (by simpa using h8) (fun j y hj => ?_)
      obtain ⟨j1, j2⟩ := zeroRow_take zero j n y hj
      obtain ⟨v, j3, j4⟩ := hzr.get j2
      rw [hzl] at j1
      refine ⟨v, ?_, (repF_one (c := cx E g σ w) j4).2⟩
      have h9 : zv.cells[j % zero.length]? = some v := by simpa using j3
      rw [hzl] at h9
      unfold Builtin.zeroCells
      rw [hzv]
      simp only [Array.toList_map, List.getElem?_map, Array.toList_range, List.getElem?_range j1, Option.map_some, Option.some.injEq]
      rw [getElem!_def, h9])
  by_cases hn0 : n = 0
  · subst hn0
    have hz0 : (Builtin.zeroCells zv.cells 0).toList = [] := by simp [Builtin.zeroCells]
    rw [hz0] at hnew
    have hsame : (arr.toList.take off ++ ([] : List Value) ++ arr.toList.drop (off + ([] : List Value).length)).toArray = arr := by simp
    rw [hsame, setRow_self h6] at hnew
    refine fin_val hnew (val := .tuple #[]) ?_ fun d hdd => ⟨hd d hdd, ⟨#[], rfl, trivial⟩⟩
    simp [execOp, hop, resolve, invoke, builtin, hb, Builtin.clear_, run_underlying hu]
  · obtain ⟨n', rfl⟩ : ∃ n', n = n' + 1 := ⟨n - 1, by omega⟩
    refine fin_val hnew (val := .tuple #[]) ?_ fun d hdd => ⟨hd d hdd, ⟨#[], rfl, trivial⟩⟩
    simp [execOp, hop, resolve, invoke, builtin, hb, Builtin.clear_, run_underlying hu, hzrun, hst]

theorem snd_ixA (hs : Sim E g σ a w) (hd : ∀ d, o.dst = some d → d < E.nt) {t e : TypeId} {n z : Nat} {agg : Bool} {x y : Operand} {rx ry : AR} (hop : o.op = .index t x y) (hx : okR x rx = true) (hy : okR y ry = true)
    (hu : P.underlying t = some (.array n e)) (hsz : sizeIs P e agg z = true) {l : List AV} {k : IntKind} {i : Int} (h1 : ev σ.fr rx = .agg l) (h2 : ev σ.fr ry = .int k i) (h0 : 0 ≤ i) (hlt : i < n) (hl : l.length = n * z) {v : AV} (hv : takeC agg (i.toNat * z) z l = some v) :
    o.wp P a w (Post E (put σ o.dst v)) Q := by
  obtain ⟨cs, e1, e2⟩ := hs.rd hx h1
  have e3 := hs.rdNat hy h2
  obtain ⟨ha, hn⟩ := isAgg_run hsz
  obtain ⟨h3, h4, h5⟩ := takeC_rep (c := cx E g σ w) hv ((e2.drop (i.toNat * z)).take z)
  rcases h4 with ⟨rfl, h4⟩ | ⟨rfl, u, hu2, h4⟩
  · refine plain_fin hs hd (val := .agg (cs.extract (i.toNat * z) (i.toNat * z + z))) ?_ h5 ?_
    · simp [execOp, hop, e1, e3, Instr.index, asIntOf, run_underlying hu, asAgg, h0, hlt, part, ha, hn]
    · have : ((cs.toList.drop (i.toNat * z)).take z).toArray = cs.extract (i.toNat * z) (i.toNat * z + z) := by
        apply Array.ext'
        simp [List.extract_eq_take_drop]
      rw [this] at h4
      exact h4
  · have hy' : cs[i.toNat * z]? = some u := by
      have h0 : ((cs.toList.drop (i.toNat * z)).take z)[0]? = some u := by rw [hu2]; rfl
      rw [List.getElem?_take] at h0
      split at h0
      · rw [List.getElem?_drop] at h0; simpa using h0
      · cases h0
    refine plain_fin hs hd (val := u) ?_ h5 h4
    simp [execOp, hop, e1, e3, Instr.index, asIntOf, run_underlying hu, asAgg, h0, hlt, part, ha, hn, hy']
end
end Go.Av
