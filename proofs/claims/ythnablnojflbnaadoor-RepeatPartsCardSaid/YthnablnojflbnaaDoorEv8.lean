/- A part of the proof: Ev8. No conditions. -/
import Derived.Test.YthnablnojflbnaaDoorEv7
import Derived.Laws.CopyRow
set_option linter.unusedSimpArgs false
set_option linter.unusedVariables false
namespace Go.Av
set_option linter.unusedSectionVars false
variable [Gtab]
open Go.RowKit
section
variable {P : Program} {E : Env} {g g' : Gh} {σ σ1 : AS} {a : Act} {w w' : World} {o : Oper} {Q : Exit → Act → World → Prop}

theorem RepL.of_get {R : AV → Value → Prop} : ∀ {l : List AV} {vs : List Value}, l.length = vs.length → (∀ (j : Nat) (x : AV) (v : Value), l[j]? = some x → vs[j]? = some v → R x v) → RepL R l vs
  | [], [], _, _ => trivial
  | x :: l, v :: vs, h, hr => ⟨hr 0 x v rfl rfl, RepL.of_get (by simpa using h) fun j y u hy hu => hr (j + 1) y u (by simpa using hy) (by simpa using hu)⟩
  | [], _ :: _, h, _ => by simp at h
  | _ :: _, [], h, _ => by simp at h

theorem foldl_set (off : Nat) : ∀ (l : List Value) (j : Nat) (arr : Array Value), off + j + l.length ≤ arr.size →
    ((l.zipIdx j).foldl (fun (cs : Array Value) (p : Value × Nat) => cs.setIfInBounds (off + p.2) p.1) arr).toList = arr.toList.take (off + j) ++ l ++ arr.toList.drop (off + j + l.length)
  | [], j, arr, _ => by simp
  | v :: l, j, arr, h => by
    simp only [List.zipIdx_cons, List.foldl_cons]
    rw [foldl_set off l (j + 1) (arr.setIfInBounds (off + j) v) (by simp at h ⊢; omega)]
    have e := list_seg_step arr.toList (off + j) v l (by simp at h ⊢; omega)
    simpa [Array.toList_setIfInBounds, Nat.add_assoc] using e

theorem fill_sound {c : Cx} {pl : Nat → Option (Nat × Nat)} : ∀ {parts : List (Nat × Operand)} {qs : List (Nat × Nat)} {rs : List AR} {xs : List AV} {cells cs : List AV} {arr : Array Value} {ρ : Operand → Value},
    okPl pl parts qs = true → xs.length = rs.length → okRs (parts.map (·.2)) rs = true → (∀ (x : Operand) (r : AR) (i : Nat), okR x r = true → rs[i]? = some r → ∃ ow v, xs[i]? = some v ∧ RepT c ow v (ρ x)) →
    fillA cells qs xs = some cs → RepL (RepF c.S c.w) cells arr.toList →
    ∃ arr', Instr.fill pl arr (parts.map fun p => (p.1, ρ p.2)) = some arr' ∧ RepL (RepF c.S c.w) cs arr'.toList
  | [], [], rs, xs, cells, cs, arr, ρ, _, hl, hr, _, hf, hrep => by
    have := okRs0 hr
    subst this
    have : xs = [] := List.eq_nil_of_length_eq_zero (by simpa using hl)
    subst this
    simp only [fillA, Option.some.injEq] at hf
    subst hf
    exact ⟨arr, rfl, hrep⟩
  | (i, x) :: parts, q :: qs, rs, xs, cells, cs, arr, ρ, hp, hl, hr, hx, hf, hrep => by
    obtain ⟨r, rs', rfl, h1, h2⟩ := okRsc hr
    simp only [okPl, Bool.and_eq_true] at hp
    obtain ⟨ow, v, hv, hrv⟩ := hx x r 0 h1 rfl
    match xs, hl, hv with
    | u :: xs', hl, hv =>
      simp at hv
      subst hv
      obtain ⟨off, n⟩ := q
      simp only [fillA] at hf
      split at hf
      · rename_i c1 hc1
        split at hf
        · rename_i c2 hc2
          obtain ⟨h3, h4⟩ := cellsOfV_rep hc1 hrv
          obtain ⟨h5, rfl⟩ := putC_eq hc2
          have hsz : (ρ x).cells.size = n := by have := h3.length; simp at this; omega
          have hla : arr.size = cells.length := by have := hrep.length; simpa using this
          have hpl : pl i = some (off, n) := by simpa using hp.1
          have hfs := foldl_set off (ρ x).cells.toList 0 arr (by simp [hsz]; omega)
          have hrep' : RepL (RepF c.S c.w) (cells.take off ++ c1 ++ cells.drop (off + c1.length)) ((ρ x).cells.zipIdx.foldl (fun (cs : Array Value) (p : Value × Nat) => cs.setIfInBounds (off + p.2) p.1) arr).toList := by
            have : (ρ x).cells.zipIdx.foldl (fun (cs : Array Value) (p : Value × Nat) => cs.setIfInBounds (off + p.2) p.1) arr = ((ρ x).cells.toList.zipIdx 0).foldl (fun (cs : Array Value) (p : Value × Nat) => cs.setIfInBounds (off + p.2) p.1) arr := by
              rw [← Array.foldl_toList]; simp
            rw [this, hfs]
            have := st_rep (off := off) hrep h3
            simpa using this
          obtain ⟨arr', h6, h7⟩ := fill_sound (ρ := ρ) hp.2 (by simpa using hl) h2 (fun y s k hy hs => hx y s (k + 1) hy (by simpa using hs)) hf hrep'
          refine ⟨arr', ?_, h7⟩
          have hguard : ((ρ x).cells.size ≠ n || decide (off + (ρ x).cells.size > arr.size)) = false := by
            simp [hsz]; omega
          simp only [List.map_cons, Instr.fill, hpl]
          rw [if_neg (by simpa using hguard)]
          exact h6
        · cases hf
      · cases hf
  | [], _ :: _, _, _, _, _, _, _, hp, _, _, _, _, _ => by simp [okPl] at hp
  | _ :: _, [], _, _, _, _, _, _, hp, _, _, _, _, _ => by simp [okPl] at hp

theorem Sim.argsT (h : Sim E g σ a w) {rs : List AR} (x : Operand) (r : AR) (i : Nat) (ho : okR x r = true) (hr : rs[i]? = some r) :
    ∃ ow v, (rs.map (ev σ.fr))[i]? = some v ∧ RepT (cx E g σ w) ow v (a.eval x) := by
  obtain ⟨ow, h1, _⟩ := h.rdT ho
  exact ⟨ow, _, by simp [hr], h1⟩

theorem snd_build (hs : Sim E g σ a w) (hd : ∀ d, o.dst = some d → d < E.nt) {t : TypeId} {parts : Array (Nat × Operand)} {rs : List AR} {zero cs : List AV} {pl : List (Nat × Nat)} (hop : o.op = .build t parts)
    (hr : okRs (parts.toList.map (·.2)) rs = true) (hz : zeroIs P t zero = true) (hpl : okPl (placeOf P t) parts.toList pl = true)
    (hty : (match P.underlying t with
       | some (.array _ e) => (P.info? e).isSome
       | some (.struct fields) => (fields.toList.mapM (fun f => (P.info? f.type).map fun i => (f.offset, i.size))).isSome
       | _ => false) = true)
    (hf : fillA zero pl (rs.map (ev σ.fr)) = some cs) :
    o.wp P a w (Post E (put σ o.dst (.agg cs))) Q := by
  obtain ⟨i, zv, h1, h2, h3, _⟩ := zero_info hz
  obtain ⟨arr, h4, h5⟩ := fill_sound (c := cx E g σ w) (ρ := a.eval) hpl (by simp) hr (fun x r i ho hr => hs.argsT x r i ho hr) hf (okL_rep h3)
  refine plain_fin hs hd (val := .agg arr) ?_ rfl ⟨arr, rfl, h5⟩
  have hb : P.built t ((parts.map fun p => (p.1, a.eval p.2)).toList) = some arr := by
    unfold Program.built
    rw [Array.toList_map]
    unfold placeOf at h4
    split at hty
    · rename_i e hu
      obtain ⟨ie, hie⟩ := Option.isSome_iff_exists.1 hty
      simp only [hu, hie] at h4
      simp only [h1, hu, h2, hie]
      exact h4
    · rename_i fields hu
      obtain ⟨pls, hpls⟩ := Option.isSome_iff_exists.1 hty
      simp only [hu, hpls] at h4
      simp only [h1, hu, h2, hpls]
      exact h4
    · cases hty
  have := run_build w t (parts.map fun p => (p.1, a.eval p.2)) arr hb
  simp [execOp, hop, this]

theorem st_repO {c : Cx} {R : AV → Value → Prop} {off : Nat} {cells c1 : List AV} {vs us : List Value} (h1 : RepL R cells vs) (h2 : RepL R c1 us) : RepL R (cells.take off ++ c1 ++ cells.drop (off + c1.length)) (vs.take off ++ us ++ vs.drop (off + us.length)) := by
  rw [h2.length]
  exact ((h1.take off).append h2).append (h1.drop _)
theorem fill_soundO {c : Cx} {pl : Nat → Option (Nat × Nat)} : ∀ {parts : List (Nat × Operand)} {qs : List (Nat × Nat)} {rs : List AR} {xs : List AV} {cells cs : List AV} {arr : Array Value} {ρ : Operand → Value},
    okPl pl parts qs = true → xs.length = rs.length → okRs (parts.map (·.2)) rs = true → (∀ (x : Operand) (r : AR) (i : Nat), okR x r = true → rs[i]? = some r → ∃ ow v, xs[i]? = some v ∧ RepT c ow v (ρ x)) →
    fillR cells qs xs = some cs → RepL (RepC' c noOwn) cells arr.toList →
    ∃ arr', Instr.fill pl arr (parts.map fun p => (p.1, ρ p.2)) = some arr' ∧ RepL (RepC' c noOwn) cs arr'.toList
  | [], [], rs, xs, cells, cs, arr, ρ, _, hl, hr, _, hf, hrep => by
    have := okRs0 hr
    subst this
    have : xs = [] := List.eq_nil_of_length_eq_zero (by simpa using hl)
    subst this
    simp only [fillR, Option.some.injEq] at hf
    subst hf
    exact ⟨arr, rfl, hrep⟩
  | (i, x) :: parts, q :: qs, rs, xs, cells, cs, arr, ρ, hp, hl, hr, hx, hf, hrep => by
    obtain ⟨r, rs', rfl, h1, h2⟩ := okRsc hr
    simp only [okPl, Bool.and_eq_true] at hp
    obtain ⟨ow, v, hv, hrv⟩ := hx x r 0 h1 rfl
    match xs, hl, hv with
    | u :: xs', hl, hv =>
      simp at hv
      subst hv
      obtain ⟨off, n⟩ := q
      simp only [fillR] at hf
      split at hf
      · rename_i c1 hc1
        split at hf
        · rename_i c2 hc2
          obtain ⟨h30, h31, _, h3⟩ := cellsOfO_rep hc1 hrv
          obtain ⟨h5, rfl⟩ := putC_eq hc2
          have h4 : RepL (RepC' c noOwn) c1 (ρ x).cells.toList := RepL.of_get (by simp [h30, h31]) fun j y u hy hu => by
            obtain ⟨u', k1, k2⟩ := h3 j y hy
            have : (ρ x).cells[j]? = some u := by simpa using hu
            rw [k1] at this; cases this
            exact k2
          have hsz : (ρ x).cells.size = n := h31
          have hla : arr.size = cells.length := by have := hrep.length; simpa using this
          have hpl : pl i = some (off, n) := by simpa using hp.1
          have hfs := foldl_set off (ρ x).cells.toList 0 arr (by simp [hsz]; omega)
          have hrep' : RepL (RepC' c noOwn) (cells.take off ++ c1 ++ cells.drop (off + c1.length)) ((ρ x).cells.zipIdx.foldl (fun (cs : Array Value) (p : Value × Nat) => cs.setIfInBounds (off + p.2) p.1) arr).toList := by
            have : (ρ x).cells.zipIdx.foldl (fun (cs : Array Value) (p : Value × Nat) => cs.setIfInBounds (off + p.2) p.1) arr = ((ρ x).cells.toList.zipIdx 0).foldl (fun (cs : Array Value) (p : Value × Nat) => cs.setIfInBounds (off + p.2) p.1) arr := by
              rw [← Array.foldl_toList]; simp
            rw [this, hfs]
            have := st_repO (c := c) (off := off) hrep h4
            simpa using this
          obtain ⟨arr', h6, h7⟩ := fill_soundO (ρ := ρ) hp.2 (by simpa using hl) h2 (fun y s k hy hs => hx y s (k + 1) hy (by simpa using hs)) hf hrep'
          refine ⟨arr', ?_, h7⟩
          have hguard : ((ρ x).cells.size ≠ n || decide (off + (ρ x).cells.size > arr.size)) = false := by
            simp [hsz]; omega
          simp only [List.map_cons, Instr.fill, hpl]
          rw [if_neg (by simpa using hguard)]
          exact h6
        · cases hf
      · cases hf
  | [], _ :: _, _, _, _, _, _, _, hp, _, _, _, _, _ => by simp [okPl] at hp
  | _ :: _, [], _, _, _, _, _, _, hp, _, _, _, _, _ => by simp [okPl] at hp
theorem snd_buildR (hs : Sim E g σ a w) (hd : ∀ d, o.dst = some d → d < E.nt) {t : TypeId} {parts : Array (Nat × Operand)} {rs : List AR} {zero cs : List AV} {pl : List (Nat × Nat)} (hop : o.op = .build t parts)
    (hr : okRs (parts.toList.map (·.2)) rs = true) (hz : zeroIsO P t zero = true) (hpl : okPl (placeOf P t) parts.toList pl = true)
    (hty : (match P.underlying t with
       | some (.array _ e) => (P.info? e).isSome
       | some (.struct fields) => (fields.toList.mapM (fun f => (P.info? f.type).map fun i => (f.offset, i.size))).isSome
       | _ => false) = true)
    (hf : fillR zero pl (rs.map (ev σ.fr)) = some cs) :
    o.wp P a w (Post E (put σ o.dst (.aggR cs))) Q := by
  obtain ⟨i, zv, h1, h2, h3, _⟩ := zero_infoO hz
  obtain ⟨arr, h4, h5⟩ := fill_soundO (c := cx E g σ w) (ρ := a.eval) hpl (by simp) hr (fun x r i ho hr => hs.argsT x r i ho hr) hf (okLO_rep h3)
  refine plain_fin hs hd (val := .agg arr) ?_ rfl ⟨arr, rfl, h5⟩
  have hb : P.built t ((parts.map fun p => (p.1, a.eval p.2)).toList) = some arr := by
    unfold Program.built
    rw [Array.toList_map]
    unfold placeOf at h4
    split at hty
    · rename_i e hu
      obtain ⟨ie, hie⟩ := Option.isSome_iff_exists.1 hty
      simp only [hu, hie] at h4
      simp only [h1, hu, h2, hie]
      exact h4
    · rename_i fields hu
      obtain ⟨pls, hpls⟩ := Option.isSome_iff_exists.1 hty
      simp only [hu, hpls] at h4
      simp only [h1, hu, h2, hpls]
      exact h4
    · cases hty
  have := run_build w t (parts.map fun p => (p.1, a.eval p.2)) arr hb
  simp [execOp, hop, this]

theorem zeroRow_length (zero : List AV) : ∀ n, (zeroRow zero n).length = n * zero.length
  | 0 => by simp [zeroRow]
  | n + 1 => by simp [zeroRow, zeroRow_length zero n, Nat.add_mul, Nat.add_comm]
theorem zeroRow_get (zero : List AV) : ∀ n k, k < n * zero.length → (zeroRow zero n)[k]? = zero[k % zero.length]?
  | 0, k, h => by simp at h
  | n + 1, k, h => by
    simp only [zeroRow]
    rw [List.getElem?_append]
    split
    · rename_i hk; rw [Nat.mod_eq_of_lt hk]
    · rename_i hk
      rw [Nat.add_mul] at h
      rw [zeroRow_get zero n (k - zero.length) (by omega)]
      congr 1
      rw [Nat.mod_eq_sub_mod (by omega : k ≥ zero.length)]

theorem rowsOf_flat (z : Nat) : ∀ (n : Nat) (cs : List AV), cs.length = n * z → (rowsOf z n cs).flatten = cs ∧ (∀ e ∈ rowsOf z n cs, e.length = z) ∧ (rowsOf z n cs).length = n
  | 0, cs, h => by
    have : cs = [] := List.eq_nil_of_length_eq_zero (by simpa using h)
    subst this; simp [rowsOf]
  | n + 1, cs, h => by
    have hl : (cs.drop z).length = n * z := by rw [List.length_drop, h, Nat.add_mul]; omega
    obtain ⟨h1, h2, h3⟩ := rowsOf_flat z n (cs.drop z) hl
    simp only [rowsOf, List.flatten_cons, List.length_cons]
    refine ⟨by rw [h1, List.take_append_drop], ?_, by rw [h3]⟩
    intro e he
    rcases List.mem_cons.1 he with rfl | he
    · rw [List.length_take, h, Nat.add_mul]; omega
    · exact h2 e he

theorem RepC_of {S : Nat → Nat → Prop} {b : Nat} : ∀ {l : List AV} {vs : List Value} {o : Nat}, RepL (RepF S w) l vs → (∀ j, j < l.length → S b (o + j)) → (∀ j v, vs[j]? = some v → w.cell? ⟨b, o + j, none⟩ = some v) → RepC S w l b o
  | [], _, _, _, _, _ => by simp [RepC]
  | x :: l, v :: vs, o, h, hS, hc => by
    simp only [RepC]
    refine ⟨⟨by simpa using hS 0 (by simp), v, by simpa using hc 0 v rfl, h.1⟩, RepC_of h.2 (fun j hj => ?_) (fun j u hu => ?_)⟩
    · have := hS (j + 1) (by simpa using hj)
      rwa [show o + 1 + j = o + (j + 1) from by omega]
    · have := hc (j + 1) u (by simpa using hu)
      rwa [show o + 1 + j = o + (j + 1) from by omega]
  | _ :: _, [], _, h, _, _ => by simp [RepL] at h

theorem RepR_flat {S : Nat → Nat → Prop} {b z : Nat} : ∀ {l : List (List AV)} {vs : List Value} {o : Nat}, (∀ e ∈ l, e.length = z) → RepL (RepF S w) l.flatten vs → (∀ j, j < l.length * z → S b (o + j)) → (∀ j v, vs[j]? = some v → w.cell? ⟨b, o + j, none⟩ = some v) → RepR S w z l b o
  | [], _, _, _, _, _, _ => by simp [RepR]
  | e :: l, vs, o, he, h, hS, hc => by
    simp only [RepR]
    have hez : e.length = z := he e (by simp)
    simp only [List.flatten_cons] at h
    have h1 := h.take z
    have h2 := h.drop z
    rw [List.take_left' hez] at h1
    rw [List.drop_left' hez] at h2
    refine ⟨hez, RepC_of h1 (fun j hj => hS j (by simp [Nat.add_mul]; omega)) (fun j v hv => hc j v ?_), RepR_flat (vs := vs.drop z) (fun e' he' => he e' (by simp [he'])) h2 (fun j hj => ?_) (fun j v hv => ?_)⟩
    · rw [List.getElem?_take] at hv
      split at hv
      · exact hv
      · cases hv
    · rw [Nat.add_assoc]; exact hS _ (by simp [Nat.add_mul]; omega)
    · rw [List.getElem?_drop] at hv
      rw [Nat.add_assoc]; exact hc _ v hv

theorem RepR_vals {S : Nat → Nat → Prop} {b z : Nat} : ∀ {l : List (List AV)} {o : Nat}, RepR S w z l b o → ∃ vs : List Value, vs.length = l.length * z ∧ RepL (RepF S w) l.flatten vs ∧ (∀ j v, vs[j]? = some v → w.cell? ⟨b, o + j, none⟩ = some v) ∧ (∀ e ∈ l, e.length = z)
  | [], _, _ => ⟨[], by simp, by simp [RepL], by simp, by simp⟩
  | e :: l, o, h => by
    simp only [RepR] at h
    obtain ⟨h1, h2, h3⟩ := h
    obtain ⟨vs, h4, h5, h6, h7⟩ := RepR_vals h3
    obtain ⟨us, h8, h9⟩ := RepC_cells h2 z
    rw [List.take_of_length_le (by omega)] at h8
    have hus : us.length = z := by rw [h8.length]; exact h1
    refine ⟨us ++ vs, by simp [hus, h4, Nat.add_mul]; omega, by simpa using h8.append h5, fun j v hv => ?_, ?_⟩
    · rw [List.getElem?_append] at hv
      split at hv
      · exact h9 j v hv
      · rename_i hj
        have := h6 (j - us.length) v hv
        rwa [show o + z + (j - us.length) = o + j from by omega] at this
    · intro e' he'
      rcases List.mem_cons.1 he' with rfl | he'
      · exact h1
      · exact h7 e' he'

end
end Go.Av
