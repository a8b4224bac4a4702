/- A part of the proof: Ev9. No conditions. -/
import Derived.Test.YthnablnojflbnaaDoorEv8
set_option linter.unusedSimpArgs false
set_option linter.unusedVariables false
namespace Go.Av
set_option linter.unusedSectionVars false
variable [Gtab]
open Go.RowKit
section
variable {P : Program} {E : Env} {g g' : Gh} {σ σ1 : AS} {a : Act} {w w' : World} {o : Oper} {Q : Exit → Act → World → Prop}

theorem snd_mks (hs : Sim E g σ a w) (hd : ∀ d, o.dst = some d → d < E.nt) {t e : TypeId} {len z : Nat} {parts : Array (Nat × Operand)} {rs : List AR} {zero cs : List AV} (hop : o.op = .buildSlice t len parts)
    (hr : okRs (parts.toList.map (·.2)) rs = true) (hu : P.underlying t = some (.slice e)) (hz : zeroIs P e zero = true) (hsz : sizeOf' P e = some z) (hz0 : 0 < z) (hle : len * z ≤ 16777216)
    (hf : fillA (zeroRow zero len) ((parts.toList.map (·.1)).map fun i => (i * z, z)) (rs.map (ev σ.fr)) = some cs) (hcs : cs.length = len * z) :
    o.wp P a w (Post E (put σ o.dst (.sl .full z (rowsOf z len cs)))) Q := by
  obtain ⟨i, zv, h1, h2, h3, h4⟩ := zero_info hz
  obtain ⟨i', h1', h5⟩ := size_info hsz
  rw [h1] at h1'; cases h1'
  have hzl : zero.length = z := by omega
  have hzr := okL_rep (S := SS E g w) (w := w) h3
  have hzv : zv.cells.size = z := by have := hzr.length; simp at this; omega
  -- the cells to begin with
  have hinit : RepL (RepF (SS E g w) w) (zeroRow zero len) ((Array.range (len * z)).map (fun k => zv.cells[k % zv.cells.size]!)).toList := by
    apply RepL.of_get
    · simp [zeroRow_length, hzl]
    · intro j x v hj hv
      have hjl : j < len * z := by
        have := (List.getElem?_eq_some_iff.1 hj).1
        rw [zeroRow_length, hzl] at this; exact this
      rw [zeroRow_get _ _ _ (by rw [hzl]; exact hjl), hzl] at hj
      have hjm : j % z < z := Nat.mod_lt _ hz0
      obtain ⟨u, hu1, hu2⟩ := hzr.get hj
      have hv' : v = zv.cells[j % zv.cells.size]! := by
        simp only [Array.toList_map, Array.toList_range, List.getElem?_map, List.getElem?_range hjl, Option.map_some, Option.some.injEq] at hv
        exact hv.symm
      have hu3 : zv.cells[j % z]? = some u := by simpa using hu1
      rw [hv', hzv]
      have : zv.cells[j % z]! = u := by
        rw [getElem!_def, hu3]
      rw [this]; exact hu2
  have hok : okPl (fun i => some (i * z, z)) parts.toList ((parts.toList.map (·.1)).map fun i => (i * z, z)) = true := by
    generalize parts.toList = l
    induction l with
    | nil => rfl
    | cons p l ih => simp [okPl]; simpa using ih
  obtain ⟨arr, h6, h7⟩ := fill_sound (c := cx E g σ w) (ρ := a.eval) hok (by simp) hr (fun x r i ho hr => hs.argsT x r i ho hr) hf hinit
  obtain ⟨hal, hle⟩ := hs.alloc (.cells arr e) .stab
  have hm := hle.cell
  obtain ⟨f1, f2, f3⟩ := rowsOf_flat z len cs hcs
  refine fin_val hal (val := .slice (some ⟨w.heap.size, 0, none⟩) len len) ?_ fun d hdd => ⟨hd d hdd, ?_⟩
  · have hn : ¬ (16777216 < len * z) := by omega
    have h6' : Instr.fill (fun i => some (i * z, z)) ((Array.range (len * z)).map (fun k => zv.cells[k % zv.cells.size]!)) (parts.toList.map fun p => (p.1, a.eval p.2)) = some arr := h6
    by_cases h0 : len * z = 0
    · have h6'' : Instr.fill (fun i => some (i * z, z)) #[] (parts.toList.map fun p => (p.1, a.eval p.2)) = some arr := by
        have hr0 : Array.range 0 = #[] := rfl
        rw [h0, hr0] at h6'
        simpa using h6'
      have hlen : len = 0 := by
        rcases Nat.mul_eq_zero.1 h0 with h | h
        · exact h
        · omega
      subst hlen
      have hr0 : Array.range 0 = #[] := rfl
      simp [execOp, hop, Instr.buildSlice, run_underlying hu, sizeOf, typeInfo, h1, h5, hr0, h6'', newRow]
    · simp [execOp, hop, Instr.buildSlice, run_underlying hu, sizeOf, typeInfo, zeroValue, h1, h2, h5, hn, h6', newRow]
      intro h
      exact absurd h h0
  · show RepF _ _ (.sl .full z (rowsOf z len cs)) _
    simp only [RepF]
    refine ⟨some ⟨w.heap.size, 0, none⟩, len, by rw [f3], by rw [f3]; exact Nat.le_refl _, fun _ => f3.symm, by simp, .inr ⟨w.heap.size, 0, rfl, ?_⟩⟩
    have h7' := h7.mono (RepF.mono hm)
    refine RepR_flat (vs := arr.toList) f2 (by rw [f1]; exact h7') (fun j hj => .inr (.inl ⟨hs.hsize, by simp, by simp [upd]⟩)) (fun j v hv => ?_)
    simp only [Nat.zero_add]
    show (w.alloc (.cells arr e)).cell? _ = _
    rw [World.cell?_alloc_new]
    simpa using hv

theorem fillA_length : ∀ {pl : List (Nat × Nat)} {xs : List AV} {cells cs : List AV}, fillA cells pl xs = some cs → cs.length = cells.length
  | [], [], _, _, h => by simp only [fillA, Option.some.injEq] at h; rw [h]
  | (off, n) :: pl, x :: xs, cells, cs, h => by
    simp only [fillA] at h
    split at h
    · split at h
      · rename_i c1 hc1 _ c2 hc2
        obtain ⟨h5, rfl⟩ := putC_eq hc2
        rw [fillA_length h]
        simp; omega
      · cases h
    · cases h
  | [], _ :: _, _, _, h => by simp [fillA] at h
  | _ :: _, [], _, _, h => by simp [fillA] at h

theorem snd_mkf (hs : Sim E g σ a w) (hd : ∀ d, o.dst = some d → d < E.nt) {f : FuncId} {first caps : Array Operand} {rs : List AR} (hop : o.op = .makeFunc (.func f) first caps) (h0 : first.isEmpty = true)
    (hr : okRs caps.toList rs = true) (hc : ((rs.map (ev σ.fr)).all (capB true)) = true) :
    o.wp P a w (Post E (put σ o.dst (.fn f (rs.map (ev σ.fr))))) Q := by
  have h0' : first = #[] := by simpa using h0
  subst h0'
  refine plain_fin hs hd (val := .func (.func f) #[] (caps.map a.eval)) ?_ rfl ⟨_, rfl, ?_⟩
  · simp [execOp, hop, Instr.makeFunc]
  · rw [Array.toList_map]
    generalize caps.toList = l at hr
    clear hop
    induction l generalizing rs with
    | nil => have := okRs0 hr; subst this; exact trivial
    | cons x l ih =>
      obtain ⟨r, rs', rfl, h1, h2⟩ := okRsc hr
      simp only [List.map_cons, List.all_cons, Bool.and_eq_true] at hc
      refine ⟨?_, ih hc.2 h2⟩
      have hx := hs.ev_ (ow := noOwn) h1
      have hc1 := hc.1
      generalize ev σ.fr r = v at hx hc1
      cases v <;> simp [capB, flatB] at hc1 <;> first | exact hx | skip
      rename_i m z ll
      cases m <;> first | exact hx | simp at hc1

theorem natOf_eq {n : Int} {k : Nat} (h : natOf n = some k) : 0 ≤ n ∧ n = (k : Int) := by
  unfold natOf at h
  split at h
  · cases h; omega
  · cases h

theorem sliceBound_run {k : IntKind} {i : Nat} {y : Nat} {code : BoundsCode} (h : i ≤ y) (w : World) : (Instr.sliceBound (.int k (i : Int)) y code).run P w = .ok i w := by
  have h1 : (i : Int) ≤ (y : Int) := by omega
  simp [Instr.sliceBound, asIntOf, h1]

/-- A bound that is given or not, in the model. -/
def bval : Option AV → Option Value → Prop
  | none, none => True
  | some (.int k n), some v => v = .int k n
  | _, _ => False

theorem bounds_run {str : Bool} {lo hi : Option AV} {lo' hi' : Option Value} {n c i j : Nat} (hl : bval lo lo') (hh : bval hi hi') (h1 : boundA lo 0 = some i) (h2 : boundA hi n = some j) (hij : i ≤ j) (hjn : j ≤ n) (hnc : n ≤ c) (w : World) :
    (Instr.sliceBounds str n c lo' hi' none).run P w = .ok (i, j, c) w := by
  have hlo : ∀ code, (match lo' with | some v => Instr.sliceBound v j code | none => pure 0).run P w = .ok i w := by
    intro code
    unfold bval at hl
    split at hl
    · simp only [boundA, Option.some.injEq] at h1; subst h1; rfl
    · subst hl
      obtain ⟨_, rfl⟩ := natOf_eq h1
      exact sliceBound_run hij w
    · exact hl.elim
  have hhi : ∀ code, (match hi' with | some v => Instr.sliceBound v c code | none => pure n).run P w = .ok j w := by
    intro code
    unfold bval at hh
    split at hh
    · simp only [boundA, Option.some.injEq] at h2; subst h2; rfl
    · subst hh
      obtain ⟨_, rfl⟩ := natOf_eq h2
      exact sliceBound_run (by omega) w
    · exact hh.elim
  unfold Instr.sliceBounds
  cases lo' <;> cases hi' <;> simp at hlo hhi ⊢ <;> simp [hlo, hhi]

theorem bval_ev (hs : Sim E g σ a w) {x : Operand} {r : AR} (hx : okR x r = true) {k : IntKind} {n : Int} (hv : ev σ.fr r = .int k n) : bval (some (ev σ.fr r)) (some (a.eval x)) := by
  rw [hv, hs.rdNat hx hv]; rfl

/-- 'x[lo:hi]' of a slice or a string. -/
theorem slc_core (hs : Sim E g σ a w) (hd : ∀ d, o.dst = some d → d < E.nt) {t : TypeId} {x : Operand} {lo hi : Option Operand} {r : AR} (hop : o.op = .slice t x lo hi none) (hx : okR x r = true)
    {str : Bool} {z : Nat} (hty : (∃ e, P.underlying t = some (.slice e) ∧ str = false ∧ sizeOf' P e = some z) ∨ (P.underlying t = some .string ∧ str = true)) {lo' hi' : Option AV}
    (hl : bval lo' (lo.map a.eval)) (hh : bval hi' (hi.map a.eval)) {v : AV} (hv : sliceA str z (ev σ.fr r) lo' hi' = some v) :
    o.wp P a w (Post E (put σ o.dst v)) Q := by
  unfold sliceA at hv
  split at hv
  · rename_i m z' l he
    rcases hty with ⟨e, ht, _, hz⟩ | ⟨_, h⟩
    · split at hv
      · rename_i i j hi1 hj1
        split at hv
        · rename_i hc
          cases hv
          obtain ⟨hij, hjn, hzz⟩ := hc
          obtain ⟨inf, h1, h2⟩ := size_info hz
          obtain ⟨A, c, e1, e2, _, e4⟩ := hs.rdSl hx he
          have hb := bounds_run (P := P) (str := true) hl hh hi1 hj1 hij hjn e2 w
          have hlen : ((l.take j).drop i).length = j - i := by rw [List.length_drop, List.length_take]; omega
          refine plain_fin hs hd (val := .slice (if c = i then A else A.map (·.add (i * z))) (j - i) (c - i)) ?_ rfl ?_
          · simp [execOp, hop, e1, Instr.sliceAt, Instr.slice, run_underlying ht, hb, sizeOf, typeInfo, h1, h2]
          · show RepF _ _ (.sl .no z ((l.take j).drop i)) _
            simp only [RepF, cx]
            refine ⟨_, _, by rw [hlen], by rw [hlen]; omega, by simp, by simp, ?_⟩
            rcases Nat.eq_zero_or_pos (j - i) with h0 | h0
            · exact .inl (List.eq_nil_of_length_eq_zero (by omega))
            · rcases e4 with rfl | ⟨b, k, rfl, e6⟩
              · simp at hjn; omega
              · have hzz' : z' = z := by
                  rcases hzz with h | h
                  · exact h
                  · subst h; simp at hjn; omega
                subst hzz'
                refine .inr ⟨b, k + i * z', ?_, RepR.mk fun q e hq => ?_⟩
                · rw [if_neg (by omega)]; simp [add_none]
                · rw [List.getElem?_drop, List.getElem?_take] at hq
                  split at hq
                  · have := e6.get hq
                    rw [Nat.add_mul] at this
                    rw [Nat.add_assoc]; exact this
                  · cases hq
        · cases hv
      · cases hv
    · cases h
  · rename_i so off n z' he
    rcases hty with ⟨e, ht, _, hz⟩ | ⟨_, h⟩
    · split at hv
      · rename_i i j hi1 hj1
        split at hv
        · rename_i hc
          obtain ⟨hij, hjn, hzz⟩ := hc
          subst hzz
          obtain ⟨inf, h1, h2⟩ := size_info hz
          obtain ⟨e0, cp, e1, e2, e3⟩ := hs.rd hx he
          have hb := bounds_run (P := P) (str := true) hl hh hi1 hj1 hij hjn e2 w
          have hrun : (execOp a.eval o).run P w = .ok (.value (.slice (if cp = i then some ⟨(cx E g σ w).β so, off, none⟩ else some ⟨(cx E g σ w).β so, off + i * z', none⟩) (j - i) (cp - i))) w := by
            simp [execOp, hop, e1, Instr.sliceAt, Instr.slice, run_underlying ht, hb, sizeOf, typeInfo, h1, h2, add_none]
          split at hv
          · rename_i hcc
            cases hv
            refine plain_fin hs hd hrun rfl ?_
            refine ⟨e0, cp - i, ?_, by omega, ssz_sub e3 (by omega)⟩
            by_cases hci : cp = i
            · have hi0 : i = 0 := by omega
              subst hi0
              simp [hci]
            · rw [if_neg hci]
          · rename_i hcc
            cases hv
            refine plain_fin hs hd hrun rfl ?_
            show RepF _ _ (.sl .no z' []) _
            simp only [RepF, List.length_nil]
            refine ⟨_, _, by rw [show j - i = 0 by omega], by omega, by simp, by simp, .inl trivial⟩
        · cases hv
      · cases hv
    · cases h
  · rename_i s he
    rcases hty with ⟨_, _, h, _⟩ | ⟨ht, _⟩
    · cases h
    · split at hv
      · rename_i i j hi1 hj1
        split at hv
        · rename_i hc
          cases hv
          obtain ⟨hij, hjn⟩ := hc
          obtain ⟨b, e1, e2⟩ := hs.rdStr hx he
          have hsz : b.size = s.length := by rw [← e2]; simp
          have hb := bounds_run (P := P) (str := false) hl hh hi1 hj1 hij hjn (Nat.le_refl _) w
          refine plain_fin hs hd (val := .string (b.extract i j)) ?_ rfl ⟨_, rfl, ?_⟩
          · simp [execOp, hop, e1, Instr.sliceAt, Instr.slice, run_underlying ht, hsz, hb]
          · rw [← e2]
            simp [ByteArray.data_extract, List.drop_take]
        · cases hv
      · cases hv
  · cases hv

theorem snd_slc0 (hs : Sim E g σ a w) (hd : ∀ d, o.dst = some d → d < E.nt) {t : TypeId} {x hi mx : Operand} {r : AR} {z : Nat} (hop : o.op = .slice t x none (some hi) (some mx)) (hx : okR x r = true)
    (h0 : isConst0 hi = true) (h1 : isConst0 mx = true) (hty : (match P.underlying t with | some (.slice e) => (P.info? e).isSome | _ => false) = true)
    (hv : (∃ m z l, ev σ.fr r = .sl m z l) ∨ ∃ o off n z, ev σ.fr r = .ss o off n z) :
    o.wp P a w (Post E (put σ o.dst (.sl .full z []))) Q := by
  obtain ⟨k1, e1⟩ : ∃ k, a.eval hi = .int k 0 := by
    unfold isConst0 at h0; split at h0
    · exact ⟨_, rfl⟩
    · cases h0
  obtain ⟨k2, e2⟩ : ∃ k, a.eval mx = .int k 0 := by
    unfold isConst0 at h1; split at h1
    · exact ⟨_, rfl⟩
    · cases h1
  split at hty
  · rename_i e hu
    obtain ⟨inf, hinf⟩ := Option.isSome_iff_exists.1 hty
    obtain ⟨A, n, c, ex⟩ : ∃ A n c, a.eval x = .slice A n c := by
      rcases hv with ⟨m, z, l, he⟩ | ⟨so, off, n, z, he⟩
      · obtain ⟨A, c, h2, _⟩ := hs.rdSl hx he
        exact ⟨_, _, _, h2⟩
      · obtain ⟨_, cp, h2, _⟩ := hs.rd hx he
        exact ⟨_, _, _, h2⟩
    have hb : (Instr.sliceBounds true n c none (some (.int k1 0)) (some (.int k2 0))).run P w = .ok (0, 0, 0) w := by
      simp [Instr.sliceBounds, Instr.sliceBound, asIntOf]
    refine plain_fin hs hd (val := .slice A 0 0) ?_ rfl ?_
    · simp [execOp, hop, ex, e1, e2, Instr.sliceAt, Instr.slice, run_underlying hu, hb, sizeOf, typeInfo, hinf]
    · show RepF _ _ (.sl .full z []) _
      simp only [RepF]
      exact ⟨A, 0, rfl, Nat.le_refl _, fun _ => rfl, by simp, .inl trivial⟩
  · cases hty

end
end Go.Av
