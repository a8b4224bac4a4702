/- A part of the proof: Ev21. No conditions. -/
import Derived.Test.YthnablnojflbnaaDoorEv17
import Derived.WalkKit
import Derived.ProofKit
import Derived.OpenShut
import Derived.Below
import Derived.Carry
import Derived.Lib.SmallJoins
set_option linter.unusedSimpArgs false
set_option linter.unusedVariables false
namespace Go.Av
set_option linter.unusedSectionVars false
variable [Gtab]
open Go.ChangeShapes Go.WideShapes Go.ChangeAt Go.RowKit

section
variable {H : Type} {enc : TypeId × Value → H} {P : Program}

/-- Behind a call that changed nothing old, every argument reads as it did. -/
theorem trodAll_below {W W' : World} {sp : Nat → Bool} (hl : laidOutB P = true) (hb : Below W.heap.size W W') :
    ∀ {ts : List TypeId} {vs : List Value} {ds : List (DataW H)} {ps : List MemPlace}, (ts.all fun t => P.readableRec t && decide (t < P.types.size)) = true →
    DataW.TrodAll enc P W 0 (fun _ => true) true ts vs ds ps → (∀ p ∈ ps, p.block < W.heap.size) → (∀ p ∈ ps, sp p.block = true) → DataW.TrodAll enc P W' 0 sp true ts vs ds ps
  | [], _, _, _, _, h, _, _ => by
    obtain ⟨rfl, rfl, rfl⟩ := trodAll_nil h
    exact trodAll_mk0
  | t :: ts, _, _, _, ha, h, hlt, hs => by
    obtain ⟨v, vs, d, ds, p, q, rfl, rfl, rfl, h1, h2⟩ := trodAll_cons h
    simp only [List.all_cons, Bool.and_eq_true, decide_eq_true_eq] at ha
    refine ⟨p, q, ?_, ?_, rfl⟩
    · exact WideElems.Trod_stays hl ha.1.1 ha.1.2 h1 (fun x hx => hb.same (hlt x (by simp [hx]))) (fun x hx => hs x (by simp [hx]))
    · exact trodAll_below hl hb ha.2 h2 (fun x hx => hlt x (by simp [hx])) (fun x hx => hs x (by simp [hx]))

theorem post_below {f : Func} {s : ChangeSpec} {apart fresh handsOn again : Bool} {W W' : World} {args : Array Value} {v : Value} {ds gs : List (DataW H)} {before pa pv : List MemPlace}
    (hW : DataW.Whole enc P f.params.toList s.vars apart W args.toList ds gs before)
    (hres : ∀ (b : Nat) (sp : Nat → Bool) (hd : Bool), DataW.TrodAll enc P W' b sp hd f.resultTypes.toList (v.resultList f.resultTypes.size) (s.fn H (ds ++ gs)).results [])
    (hargs : ∀ sp : Nat → Bool, (∀ p ∈ before, sp p.block = true) → DataW.TrodAll enc P W' 0 sp true f.params.toList args.toList (s.fn H (ds ++ gs)).args pa)
    (hvars : ∀ sp : Nat → Bool, (∀ p ∈ before, sp p.block = true) → DataW.TrodVars enc P W' sp s.vars (s.fn H (ds ++ gs)).vars pv)
    (hps : before = pa ++ pv) (hb : Below W.heap.size W W')
    (hok : ∀ (j : Nat) (t : TypeId) (r : Value), f.resultTypes[j]? = some t → (v.resultList f.resultTypes.size)[j]? = some r → Value.okWide P W' .any 0 t r) :
    s.post enc P f apart fresh handsOn again W args v W' := by
  have hold : ∀ p ∈ before, (fun b => decide (b < W.heap.size)) p.block = true := fun p hp => by simpa using hW.lt p hp
  refine ⟨ds, gs, before, [], pa, pv, hW, hres _ _ _, hargs _ hold, hvars _ hold, World.keptBut_mono (fun p hp => ⟨hp, ?_⟩) (hb.frame (· ∈ before)), fun _ => ?_⟩
  · rw [hps, List.mem_append] at hp
    exact Or.inr hp
  · have hW2 := hW
    obtain ⟨_, _, _, _, _, hz, hn⟩ := hW
    refine ⟨hok, _, _, ([] ++ pa) ++ pv, ⟨[] ++ pa, pv, trodAll_append (hargs _ (fun _ _ => rfl)) (hres _ _ _), hvars _ (fun _ _ => rfl), rfl, ?_, ?_⟩, ?_⟩
    · intro b off hp
      have hp' : MemPlace.cell b off ∈ before := by rw [hps]; simpa using hp
      rw [hb.frozen (p := ⟨b, off, none⟩) (hW2.lt _ hp')]
      exact hz b off hp'
    · intro ha
      have := hn ha
      rw [hps] at this
      simpa using this
    · intro p hp _
      rw [hps]
      simpa using hp

/-- A law whose abstract run returns true. -/
theorem law_goal {f : Func} {n : Nat} {s : ChangeSpec} {W : World} {args : Array Value} {ds gs : List (DataW H)} {before : List MemPlace} {apart fresh handsOn again : Bool} {tb : TypeId} {G : Calls'} {avs : List AV}
    (hW : DataW.Whole enc P f.params.toList s.vars apart W args.toList ds gs before) (hv : s.vars = []) (hl : laidOutB P = true)
    (hpar : (f.params.toList.all fun t => P.readableRec t && decide (t < P.types.size)) = true) (hrt : f.resultTypes = #[tb]) (htb : P.underlying tb = some .bool)
    (hG : Good P G) (hrep : RepL (RepT (cx0 (fun _ => 0) (fun _ => 0) (fun b _ => b < W.heap.size) W 0) noOwn) avs args.toList)
    (hg : G n avs [] = some (.bool true, [])) (hfn : s.fn H ds = { results := [.lit (.bool true)], args := ds }) (hreal : Real P n) (hgl : GlobOK (fun b _ => b < W.heap.size) W) :
    Calls P n args W fun e W' => ∃ v, e = .returned v ∧ s.post enc P f apart fresh handsOn again W args v W' := by
  have hsem : SemCall P n avs [] (.bool true) [] := by
    rcases hG _ _ _ _ _ hg with h | hx
    · exact h.2
    · intro kd β bs S0 O0 w vs he hr
      obtain ⟨v, w', _, _, _, hrn, _⟩ := hx kd β bs S0 O0 w vs he hr
      rw [callFunc_run hreal] at hrn
      cases hrn
  have hS := hsem (fun _ => .stab) (fun _ => 0) (fun _ => 0) (fun b _ => b < W.heap.size) (fun _ => none) W args (entP (fun b n hb => hb) hgl) hrep
  refine hS.mono ?_
  rintro e W' ⟨v, kd', β', bs', rfl, ha⟩
  have hr := ha.rep
  have hv' : v = .bool true := by simpa [RepT, RepE, RepF] using hr
  subst hv'
  have hb : Below W.heap.size W W' := ⟨ha.os, ha.tape, ha.output, ha.size, fun k hk => ha.frame k hk (fun i hi => by simp at hi) rfl⟩
  refine ⟨_, rfl, ?_⟩
  have hW2 := hW
  obtain ⟨p, q, hA, hV, hpq, _, _⟩ := hW2
  rw [hv] at hV
  obtain ⟨rfl, rfl⟩ := trodVars_none hV
  rw [List.append_nil] at hpq
  subst hpq
  have e1 : (s.fn H (ds ++ [])).results = [.lit (.bool true)] := by rw [List.append_nil, hfn]
  have e2 : (s.fn H (ds ++ [])).args = ds := by rw [List.append_nil, hfn]
  have e3 : (s.fn H (ds ++ [])).vars = [] := by rw [List.append_nil, hfn]
  have hsz : f.resultTypes.size = 1 := by rw [hrt]; rfl
  refine post_below (pa := before) (pv := []) hW ?_ ?_ ?_ (by simp) hb ?_
  · intro b sp hd
    rw [e1, hsz, hrt]
    exact trodAll_cons_mk (shut_bool htb true) trodAll_mk0
  · intro sp hsp
    rw [e2]
    exact trodAll_below hl hb hpar hA (fun p hp => hW.lt p hp) hsp
  · intro sp _
    rw [hv, e3]
    exact rfl
  · exact ok_one hrt rfl (okWide_bool_mk htb true)

/-! ### What came in, as the evaluator sees it -/
variable {w : World} {base : Nat} {spare : Nat → Bool} {held : Bool}
theorem spot_of_cell {a : Addr} {u : Value} (h : w.cell? a = some u) : a.spot = none := by
  unfold World.cell? at h
  split at h
  · split at h
    · cases h
    · rename_i hs; simpa using hs
  · cases h
theorem rep_rows {S : Nat → Nat → Prop} {k : IntKind} (b : Nat) : ∀ (l : List Int) (o : Nat), (∀ i, i < l.length → S b (o + i) ∧ w.cell? ⟨b, o + i, none⟩ = some (.int k (l.getD i 0))) → RepR S w 1 (l.map fun x => [.int k x]) b o
  | [], o, _ => by simp [RepR]
  | x :: l, o, h => by
    have h0 := h 0 (by simp)
    simp only [List.map_cons, RepR, RepC, List.length_cons, List.length_nil, Nat.zero_add, and_true, true_and]
    refine ⟨⟨h0.1, _, h0.2, rfl⟩, ?_⟩
    exact rep_rows b l (o + 1) fun i hi => by
      have := h (i + 1) (by simp; omega)
      rw [show o + 1 + i = o + (i + 1) by omega]
      simpa using this
theorem rep_ints {r : Reach} {b0 n : Nat} {t e : TypeId} {k : IntKind} {v : Value} {d : DataW H} {ps : List MemPlace} {ow : Value → Nat → Nat → Prop} (ht : P.underlying t = some (.slice e)) (he : P.underlying e = some (.int k)) (hc : P.cellsOf e = 1)
    (hval : Value.okWide P w r b0 t v) (hd : DataW.Trod enc P w base spare held t v d ps) :
    ∃ l : List Int, RepT (cx0 (fun _ => 0) (fun _ => 0) (fun b _ => b < w.heap.size) w n) ow (.sl .no 1 (l.map fun x => [.int k x])) v := by
  obtain ⟨a0, len, cap, rfl⟩ := okWide_slice ht hval
  obtain ⟨fuel, hf⟩ := hd
  rcases open_ints ht he hc hf with ⟨hcs, hx⟩ | ⟨a, len', cap', zs, hcs, _, hl, hm, hz, hx, hcell, hwz⟩
  · simp [Value.cells] at hcs
    obtain ⟨rfl, rfl, rfl⟩ := hcs
    refine ⟨[], ?_⟩
    simp only [RepT, RepE, RepF]
    exact ⟨none, 0, rfl, Nat.le_refl _, by simp, by simp, .inl rfl⟩
  · simp [Value.cells] at hcs
    obtain ⟨rfl, rfl, rfl⟩ := hcs
    have hlen : len ≤ zs.length := by rw [hz]; split <;> omega
    refine ⟨zs.take len, ?_⟩
    simp only [RepT, RepE, RepF]
    have hl2 : ((zs.take len).map fun x => ([.int k x] : List AV)).length = len := by simp; omega
    refine ⟨some a, cap, by rw [hl2], by rw [hl2]; omega, by simp, by simp, ?_⟩
    by_cases h0 : len = 0
    · left; subst h0; simp
    · right
      have c0 := hcell 0 (by omega)
      have hsp : a.spot = none := spot_of_cell (by simpa [Addr.add] using c0)
      obtain ⟨b, o, sp⟩ := a
      simp only at hsp
      subst hsp
      refine ⟨b, o, rfl, rep_rows b _ _ fun i hi => ?_⟩
      have hi' : i < len := by simpa [Nat.lt_min] using (show i < (zs.take len).length from hi) |> fun h => by simp at h; omega
      have ci := hcell i (by omega)
      have e1 : (⟨b, o, none⟩ : Addr).add i = ⟨b, o + i, none⟩ := by
        unfold Addr.add; split
        · rename_i h; subst h; rfl
        · rfl
      rw [e1] at ci
      refine ⟨World.block_lt_of_cell? w _ ci, ?_⟩
      show w.cell? _ = _
      rw [ci]
      simp [List.getD_eq_getElem?_getD, hi']
theorem rep_int {r : Reach} {b0 n : Nat} {t : TypeId} {k : IntKind} {v : Value} {d : DataW H} {ps : List MemPlace} {ow : Value → Nat → Nat → Prop} (ht : P.underlying t = some (.int k))
    (hval : Value.okWide P w r b0 t v) (hd : DataW.Trod enc P w base spare held t v d ps) :
    ∃ x : Int, (Lit.int k x).wf = true ∧ RepT (cx0 (fun _ => 0) (fun _ => 0) (fun b _ => b < w.heap.size) w n) ow (.int k x) v := by
  obtain ⟨x, rfl, _, _, hw⟩ := open_int ht hval hd
  exact ⟨x, hw, by simp [RepT, RepE, RepF]⟩
theorem rep_bool {r : Reach} {b0 n : Nat} {t : TypeId} {v : Value} {d : DataW H} {ps : List MemPlace} {ow : Value → Nat → Nat → Prop} (ht : P.underlying t = some .bool)
    (hval : Value.okWide P w r b0 t v) (hd : DataW.Trod enc P w base spare held t v d ps) :
    ∃ x : Bool, RepT (cx0 (fun _ => 0) (fun _ => 0) (fun b _ => b < w.heap.size) w n) ow (.bool x) v := by
  obtain ⟨x, rfl, _⟩ := open_bool ht hval hd
  exact ⟨x, by simp [RepT, RepE, RepF]⟩
/-- A struct of three integers. -/
theorem rep_int3 {r : Reach} {b0 n : Nat} {t : TypeId} {f0 f1 f2 : Field} {k0 k1 k2 : IntKind} {v : Value} {d : DataW H} {ps : List MemPlace} {ow : Value → Nat → Nat → Prop} (hs : P.underlying t = some (.struct #[f0, f1, f2])) (hone : Go.Deep.oneCellFields P #[f0, f1, f2] = true) (hC : P.cellsOf t = 3)
    (h0 : P.underlying f0.type = some (.int k0)) (h1 : P.underlying f1.type = some (.int k1)) (h2 : P.underlying f2.type = some (.int k2))
    (hval : Value.okWide P w r b0 t v) (hd : DataW.Trod enc P w base spare held t v d ps) :
    ∃ x y z : Int, RepT (cx0 (fun _ => 0) (fun _ => 0) (fun b _ => b < w.heap.size) w n) ow (.agg [.int k0 x, .int k1 y, .int k2 z]) v := by
  obtain ⟨v0, v1, v2, y0, y1, y2, m, rfl, _, _, a0, a1, a2⟩ := Go.Joins.open_agg3 hs hone hC hval hd
  obtain ⟨x, e0, _⟩ := DataW.trod_int h0 a0
  obtain ⟨y, e1, _⟩ := DataW.trod_int h1 a1
  obtain ⟨z, e2, _⟩ := DataW.trod_int h2 a2
  simp at e0 e1 e2
  subst e0 e1 e2
  exact ⟨x, y, z, by simp [RepT, RepE, RepL, RepF]⟩
end
end Go.Av
