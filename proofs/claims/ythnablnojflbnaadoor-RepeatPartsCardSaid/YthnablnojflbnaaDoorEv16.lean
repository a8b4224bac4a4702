/- A part of the proof: Ev16. No conditions. -/
import Derived.Test.YthnablnojflbnaaDoorEv15
set_option linter.unusedSimpArgs false
set_option linter.unusedVariables false
namespace Go.Av
set_option linter.unusedSectionVars false
variable [Gtab]
open Go.RowKit

theorem args_get {c : Cx} {ow : Value → Nat → Nat → Prop} {args : List AV} {vs : Array Value} (h : RepL (RepT c ow) args vs.toList) (n : Nat) (t : Nat) :
    RepT c ow ((args[t]?).getD .any) ((vs ++ Array.replicate n undef).getD t undef) := by
  cases hx : args[t]? with
  | none => exact trivial
  | some x =>
    obtain ⟨v, h1, h2⟩ := h.get hx
    have hv : vs[t]? = some v := by simpa using h1
    have hlt := (Array.getElem?_eq_some_iff.1 hv).1
    have : (vs ++ Array.replicate n undef).getD t undef = v := by
      rw [Array.getD_eq_getD_getElem?, Array.getElem?_append_left hlt, hv]; rfl
    rw [this]; exact h2

section
variable {P : Program} {E : Env} {a : Act} {w : World} {G : Calls'} {g : Gh} {σ : AS}

/-- The ghosts that are left when a function has ended: the objects from n on are dropped. -/
noncomputable def kdF (kd : Nat → BK) (β : Nat → Nat) (n : Nat) (b : Nat) : BK :=
  open Classical in if ∃ i, i < n ∧ β i = b then kd b else match kd b with | .shr _ => .stab | .loc _ => .stab | x => x

theorem kdF_shr {kd : Nat → BK} {β : Nat → Nat} {n i : Nat} (hi : i < n) : kdF kd β n (β i) = kd (β i) := by
  unfold kdF; rw [if_pos ⟨i, hi, rfl⟩]
theorem kdF_stab {kd : Nat → BK} {β : Nat → Nat} {n b : Nat} (h : kd b = .stab) : kdF kd β n b = .stab := by
  unfold kdF; split <;> simp [h]
theorem kdF_own {kd : Nat → BK} {β : Nat → Nat} {n b k : Nat} {t : Ow} : kdF kd β n b = .own t k ↔ kd b = .own t k := by
  unfold kdF; split
  · exact Iff.rfl
  · cases h : kd b <;> simp
theorem kdF_drop {kd : Nat → BK} {β : Nat → Nat} {n b i : Nat} (h : kd b = .shr i) (hb : ∀ j, j < n → β j ≠ b) : kdF kd β n b = .stab := by
  unfold kdF
  rw [if_neg (by rintro ⟨j, h1, h2⟩; exact hb j h1 h2), h]

theorem SS.out (hs : Sim E g σ a w) {n : Nat} : ∀ b m, SS E g w b m → S1 E.S0 E.w0 w (kdF g.kd g.β n) b m := by
  rintro b m (⟨_, h⟩ | ⟨h1, h2, h3⟩ | ⟨h1, t, k, h2, h3⟩)
  · exact .inl h
  · exact .inr (.inl ⟨h1, h2, kdF_stab h3⟩)
  · exact .inr (.inr ⟨h1, t, k, kdF_own.2 h2, h3⟩)

/-- What is handed out reads, too, in the caller's terms. -/
theorem out_rep (hs : Sim E g σ a w) {n : Nat} {k : Bool} (hk : k = true → n = σ.sh.length) {x : AV} {v : Value} (ho : outB k x = true) (r : RepT (cx E g σ w) noOwn x v) :
    RepE (cx0 g.β g.bs (S1 E.S0 E.w0 w (kdF g.kd g.β n)) w n) x v := by
  have hm : ∀ b m, SS E g w b m → S1 E.S0 E.w0 w (kdF g.kd g.β n) b m ∧ w.cell? ⟨b, m, none⟩ = w.cell? ⟨b, m, none⟩ := fun b m h => ⟨SS.out hs b m h, rfl⟩
  cases x with
  | int => exact r
  | bool => exact r
  | nilp => exact r
  | str s =>
    have r' : RepF (SS E g w) w (.str s) v := r
    exact RepF.mono hm _ _ r'
  | sl m z l =>
    cases m with
    | own => exact r.2.elim
    | no =>
      have r' : RepF (SS E g w) w (.sl .no z l) v := r
      exact RepF.mono hm _ _ r'
    | full =>
      have r' : RepF (SS E g w) w (.sl .full z l) v := r
      exact RepF.mono hm _ _ r'
  | agg l =>
    obtain ⟨cs, h1, h2⟩ := r
    exact ⟨cs, h1, h2.mono (RepF.mono hm)⟩
  | ptr o off =>
    have hkt : k = true := by simpa [outB] using ho
    have r' : o < σ.sh.length ∧ v = _ := r
    exact ⟨by rw [show (cx0 g.β g.bs (S1 E.S0 E.w0 w (kdF g.kd g.β n)) w n).shn = n from rfl, hk hkt]; exact r'.1, r'.2⟩
  | ss o off m z =>
    have hkt : k = true := by simpa [outB] using ho
    have r' : o < σ.sh.length ∧ _ := r
    exact ⟨by rw [show (cx0 g.β g.bs (S1 E.S0 E.w0 w (kdF g.kd g.β n)) w n).shn = n from rfl, hk hkt]; exact r'.1, r'.2⟩
  | mp o =>
    have hkt : k = true := by simpa [outB] using ho
    have r' : o < σ.sh.length ∧ _ := r
    exact ⟨by rw [show (cx0 g.β g.bs (S1 E.S0 E.w0 w (kdF g.kd g.β n)) w n).shn = n from rfl, hk hkt]; exact r'.1, r'.2⟩
  | _ => simp [outB, plainB] at ho

theorem demV_idem (x : AV) : demV (demV x) = demV x := by
  cases x with
  | sl m z l => cases m <;> rfl
  | _ => rfl
theorem demV_strV (x : AV) : demV (strV x) = strV x := by cases x <;> rfl

theorem RepE.topT {c : Cx} {ow : Value → Nat → Nat → Prop} {x : AV} {v : Value} (hd : demV x = x) (h : RepE c x v) : RepT c ow x v := by
  cases x with
  | sl m z l =>
    cases m with
    | own => simp [demV] at hd
    | no => exact h
    | full => exact h
  | any => simp [RepE, RepF] at h
  | undef => simp [RepE, RepF] at h
  | loc => simp [RepE, RepF] at h
  | ip => simp [RepE, RepF] at h
  | fn => simp [RepE, RepF] at h
  | tup => simp [RepE, RepF] at h
  | mapv => simp [RepE, RepF] at h
  | aggR => simp [RepE, RepF] at h
  | _ => exact h

theorem isDead_eq {c : List AV} : isDead c = true ↔ c = dead := by
  unfold isDead dead
  split
  · simp
  · rename_i h
    constructor
    · intro h; cases h
    · intro e; exact absurd e h

theorem sameDead_get : ∀ {xs ys : List (List AV)}, sameDead xs ys = true → ∀ {j : Nat} {x : List AV}, xs[j]? = some x → ys[j]? = some dead → isDead x = true
  | x :: xs, y :: ys, h, 0, u, hu, hy => by
    simp only [sameDead, Bool.and_eq_true, Bool.or_eq_true] at h
    simp at hu hy; subst hu; subst hy
    rcases h.1 with h | h
    · exact h
    · simp [isDead, dead] at h
  | x :: xs, y :: ys, h, j + 1, u, hu, hy => by
    simp only [sameDead, Bool.and_eq_true] at h
    exact sameDead_get h.2 (j := j) (by simpa using hu) (by simpa using hy)
  | [], _, _, _, _, hu, _ => by simp at hu
  | _ :: _, [], h, _, _, _, _ => by simp [sameDead] at h

/-- A slice of an object that goes out with the call. -/
theorem frz_rep (hs : Sim E g σ a w) {sh0 : List (List AV)} {k : Bool} {n : Nat} (hn : n = if k then σ.sh.length else sh0.length) (hn0 : E.n0 = sh0.length) (hβ : ∀ i, i < E.n0 → E.β0 i < E.w0.heap.size)
    (hD : ∀ (j : Nat) (x : List AV), sh0[j]? = some x → isDead x = true → E.D0 j = true) {x y : AV} {v : Value} (hdx : demV x = x) (hy : frzV k sh0 σ.sh x = some y) (ho : outB k y = true) (r : RepT (cx E g σ w) noOwn x v) :
    RepE (cx0 g.β g.bs (S1 E.S0 E.w0 w (kdF g.kd g.β n)) w n) y v ∧ demV y = y := by
  by_cases hss : ∃ o off m z, x = .ss o off m z
  · obtain ⟨o, off, m, z, rfl⟩ := hss
    simp only [frzV] at hy
    split at hy
    · rename_i hk
      cases hy
      exact ⟨out_rep hs (fun _ => by rw [hn, if_pos hk]) ho r, rfl⟩
    · rename_i hk
      split at hy
      · rename_i hc
        obtain ⟨hc1, hc2⟩ := hc
        simp only [snapV] at hy
        obtain ⟨cells, h1, h2⟩ := Option.bind_eq_some_iff.1 hy
        obtain ⟨l, h3, h4⟩ := Option.map_eq_some_iff.1 h2
        subst h4
        refine ⟨?_, rfl⟩
        obtain ⟨e0, cp, rfl, e2, e3⟩ : o < σ.sh.length ∧ ∃ cp, v = .slice (some ⟨g.β o, off, none⟩) m cp ∧ m ≤ cp ∧ ssz off cp z (g.bs o) := r
        show RepF _ w (.sl .no z l) _
        simp only [RepF]
        by_cases hn0' : m = 0
        · have hl : l.length = 0 := by
            unfold rowsC at h3
            split at h3
            · cases h3; subst hn0'; simp [rowsOf]
            · cases h3
          have hl' := List.eq_nil_of_length_eq_zero hl
          exact ⟨_, cp, by rw [hl, hn0'], by omega, by simp, by simp, .inl hl'⟩
        · have hd : cells ≠ dead ∧ blkB cells = true := by
            have hc : 0 < z ∧ off + m * z ≤ cells.length ∧ ((cells.drop off).take (m * z)).all (fun x => flatB (demV x)) = true := by
              unfold rowsC at h3
              split at h3
              · assumption
              · cases h3
            obtain ⟨hz, hlen, hall⟩ := hc
            have hpos : 0 < m * z := Nat.mul_pos (by omega) hz
            have key : ∀ y, cells = [y] → flatB (demV y) = true := by
              rintro y rfl
              have : off = 0 ∧ m * z = 1 := by simp at hlen; omega
              obtain ⟨rfl, h1⟩ := this
              rw [h1] at hall
              simpa using hall
            refine ⟨fun e => ?_, ?_⟩
            · have := key _ e; simp [demV, flatB] at this
            · unfold blkB
              split
              · have := key _ rfl; simp [demV, flatB] at this
              · have := key _ rfl; simp [demV, flatB] at this
              · rfl
          obtain ⟨f1, hob, _⟩ := hs.shr o cells h1 hd.1
          have hnew : E.w0.heap.size ≤ g.β o := by
            rcases hs.shr1 o e0 (by omega) with h9 | ⟨j, h9, h10, h11, h12⟩
            · exact h9
            · exfalso
              have hjl : j < sh0.length := by omega
              have := sameDead_get hc2 (List.getElem?_eq_getElem hjl) h12
              have := hD j _ (List.getElem?_eq_getElem hjl) this
              rw [h11] at this; cases this
          have hkd : kdF g.kd g.β n (g.β o) = .stab := by
            refine kdF_drop f1 (fun j hj e => ?_)
            have hkf : k = false := by simpa using hk
            rw [hn, hkf] at hj
            simp at hj
            have h9 := (hs.shr0 j (by omega)).1
            have h10 := hβ j (by omega)
            omega
          have hlt := hs.shrlt o e0
          obtain ⟨_, r1, r2, r3, _⟩ := rowsC_rep (S' := S1 E.S0 E.w0 w (kdF g.kd g.β n)) h3 (hob hd.2) (fun b' n h => ⟨SS.out hs b' n h, rfl⟩) (fun _ => .inr (.inl ⟨hnew, hlt, hkd⟩))
          exact ⟨_, cp, by rw [r1], by rw [r1]; exact e2, by simp, by simp, .inr ⟨_, _, rfl, r3⟩⟩
      · cases hy
  · have hxy : y = x := by
      unfold frzV at hy
      split at hy
      · rename_i o off m z
        exact absurd ⟨o, off, m, z, rfl⟩ hss
      · cases hy; rfl
    subst hxy
    refine ⟨?_, hdx⟩
    by_cases hk : k = true
    · exact out_rep hs (fun _ => by rw [hn, if_pos hk]) ho r
    · exact out_rep hs (k := k) (fun h => absurd h hk) ho r

def resOne (tmps : Array Value) : ResultVar → Sem Value
  | .tmp t => pure (tmps.getD t undef)
  | .cell s t => do loadVar t (← asAddr (tmps.getD s undef))

/-- The value of a load of an object's cells. -/
theorem ldO_val {c : Cx} {t : TypeId} {agg : Bool} {n off b : Nat} (hsz : sizeIs P t agg n = true) {cells : List AV} {v : AV} (ht : ldC agg off n cells = some v) {ow : Nat → Value → Nat → Nat → Prop} {m : Nat} (hb : ObjB c ow w b m cells) :
    ∃ val, (loadVar t ⟨b, off, none⟩).run P w = .ok val w ∧ RepT c noOwn v val ∧ demV v = v := by
  obtain ⟨arr, ty, fz, h1, _, h2, h3⟩ := hb
  obtain ⟨h4, h5⟩ := ldC_rep ht h3
  have hcell : ∀ j u, arr[off + j]? = some u → w.cell? ⟨b, off + j, none⟩ = some u := fun j u hu => by
    simp [World.cell?, h1]; simpa using hu
  rcases h5 with ⟨rfl, vs, h6, h7, h8⟩ | ⟨rfl, u, h6, h7⟩
  · obtain ⟨val, h9, h10⟩ := load_run (P := P) (off := off) hsz h6 (fun j u hu => hcell j u (h7 j u hu)) (fun h => by cases h)
    rcases h10 with ⟨_, rfl⟩ | ⟨h10, _⟩
    · exact ⟨_, by simpa [Instr.loadAt, Instr.sureAddr] using h9, h8, h4⟩
    · cases h10
  · obtain ⟨ha, _⟩ := isAgg_run hsz
    have hc0 : w.cell? ⟨b, off, none⟩ = some u := by simpa using hcell 0 u (by simpa using h6)
    exact ⟨u, by simp [loadVar, ha, hc0], h7, h4⟩

/-- One result. -/
theorem res_one (hs : Sim E g σ a w) {rv : ResultVar} {ar : ARes} {x : AV} (hok : okRes P [rv] [ar] = true) (hr : resA σ ar = some x) :
    ∃ v, (resOne a.tmps rv).run P w = .ok v w ∧ RepT (cx E g σ w) noOwn x v ∧ demV x = x := by
  cases rv with
  | tmp t => cases ar with
    | tmp t' =>
      simp only [okRes, Bool.and_eq_true] at hok
      have ht : t = t' := by simpa using hok.1
      subst ht
      simp only [resA, Option.some.injEq] at hr
      subst hr
      exact ⟨_, rfl, (hs.slots t).str, demV_strV _⟩
    | tmpD t' =>
      simp only [okRes, Bool.and_eq_true] at hok
      have ht : t = t' := by simpa using hok.1
      subst ht
      simp only [resA, Option.some.injEq] at hr
      subst hr
      exact ⟨_, rfl, (hs.slots t).dem, demV_idem _⟩
    | cell => simp [okRes] at hok
  | cell s t => cases ar with
    | tmp => simp [okRes] at hok
    | tmpD => simp [okRes] at hok
    | cell s' agg m =>
      simp only [okRes, Bool.and_eq_true] at hok
      obtain ⟨⟨hss, hsz⟩, _⟩ := hok
      have ht : s = s' := by simpa using hss
      subst ht
      have hslot := hs.slots s
      simp only [resA] at hr
      split at hr
      · rename_i ls off hfr
        obtain ⟨cells, hc, htk⟩ := Option.bind_eq_some_iff.1 hr
        rw [hfr] at hslot
        obtain ⟨hlive, hval⟩ := hslot
        have hval2 : (a.tmps[s]?).getD undef = .pointer (some ⟨g.lam ls, off, none⟩) := by rw [← Array.getD_eq_getD_getElem?]; exact hval
        obtain ⟨val, h1, h2, h3⟩ := ldO_val (P := P) hsz htk (hs.loc ls cells hc).2.2
        exact ⟨val, by simp [resOne, hval2, asAddr, h1], h2, h3⟩
      · rename_i ls off hfr
        obtain ⟨cells, hc, htk⟩ := Option.bind_eq_some_iff.1 hr
        split at htk
        · rename_i hbk
          rw [hfr] at hslot
          obtain ⟨hlive, hval⟩ := hslot
          have hval2 : (a.tmps[s]?).getD undef = .pointer (some ⟨g.β ls, off, none⟩) := by rw [← Array.getD_eq_getD_getElem?]; exact hval
          obtain ⟨val, h1, h2, h3⟩ := ldO_val (P := P) hsz htk ((hs.shr ls cells hc (blk_dead hbk)).2.1 hbk)
          exact ⟨val, by simp [resOne, hval2, asAddr, h1], h2, h3⟩
        · cases htk
      · cases hr

/-- A function's results, one by one. -/
theorem results_sound (hs : Sim E g σ a w) {sh0 : List (List AV)} {k : Bool} {n : Nat} (hn : n = if k then σ.sh.length else sh0.length) (hn0 : E.n0 = sh0.length) (hβ : ∀ i, i < E.n0 → E.β0 i < E.w0.heap.size)
    (hD : ∀ (j : Nat) (x : List AV), sh0[j]? = some x → isDead x = true → E.D0 j = true) :
    ∀ {rs : List ResultVar} {as : List ARes} {xs : List AV}, okRes P rs as = true → resultsA k sh0 σ as = some xs → xs.all (outB k) = true →
      ∃ vs : List Value, (rs.mapM (resOne a.tmps)).run P w = .ok vs w ∧ RepL (RepE (cx0 g.β g.bs (S1 E.S0 E.w0 w (kdF g.kd g.β n)) w n)) xs vs ∧ (∀ x ∈ xs, demV x = x)
  | [], [], xs, _, hr, _ => by
    simp only [resultsA, Option.some.injEq] at hr
    subst hr
    exact ⟨[], rfl, trivial, by simp⟩
  | rv :: rs, ar :: as, xs, hok, hr, hall => by
    have hok1 : okRes P [rv] [ar] = true ∧ okRes P rs as = true := by
      cases rv <;> cases ar <;> simp only [okRes, Bool.and_eq_true, Bool.false_eq_true] at hok ⊢
      · exact ⟨⟨hok.1, trivial⟩, hok.2⟩
      · exact ⟨⟨hok.1, trivial⟩, hok.2⟩
      · exact ⟨⟨hok.1, trivial⟩, hok.2⟩
    simp only [resultsA] at hr
    split at hr
    · rename_i y ys hy hys
      simp only [Option.some.injEq] at hr
      subst hr
      simp only [List.all_cons, Bool.and_eq_true] at hall
      obtain ⟨x, hx, hfz⟩ := Option.bind_eq_some_iff.1 hy
      obtain ⟨v, h0, h1, h2⟩ := res_one hs hok1.1 hx
      obtain ⟨us, h3, h4, h5⟩ := results_sound hs hn hn0 hβ hD hok1.2 hys hall.2
      obtain ⟨h6, h7⟩ := frz_rep hs hn hn0 hβ hD h2 hfz hall.1 h1
      refine ⟨v :: us, by simp only [List.mapM_cons, Sem.run_bind, h0, h3, Result.andThen_ok, Sem.run_pure], ⟨h6, h4⟩, ?_⟩
      intro x hx
      rcases List.mem_cons.1 hx with rfl | hx
      · exact h7
      · exact h5 x hx
    · cases hr
  | [], _ :: _, _, hok, _, _ => by simp [okRes] at hok
  | rv :: _, [], _, hok, _, _ => by cases rv <;> simp [okRes] at hok

def packV : List Value → Value
  | [v] => v
  | vs => .tuple vs.toArray

theorem results_run {fn : Func} {tmps : Array Value} {vs : List Value} (h : (fn.results.toList.mapM (resOne tmps)).run P w = .ok vs w) :
    (results fn tmps).run P w = .ok (packV vs) w := by
  have h1 : (fn.results.mapM (resOne tmps)).run P w = .ok vs.toArray w := by
    rw [Array.mapM_eq_mapM_toList]
    simp [h]
  have h2 : results fn tmps = (do let vs ← fn.results.mapM (resOne tmps); pure (if h : vs.size = 1 then vs[0] else .tuple vs)) := rfl
  rw [h2]
  simp only [Sem.run_bind, h1, Result.andThen_ok, Sem.run_pure]
  match vs with
  | [] => rfl
  | [v] => rfl
  | v :: u :: vs => rfl

theorem refLt_mono {c c' : Cx} {ow ow' : Value → Nat → Nat → Prop} {x : AV} {v : Value} {n : Nat} (hm : ∀ b o, c.S b o → c'.S b o ∧ c'.w.cell? ⟨b, o, none⟩ = c.w.cell? ⟨b, o, none⟩) (hβ : c'.β = c.β) (hbs : c'.bs = c.bs) (hn : c'.shn = n) (hlt : refLt n x = true)
    (ho : ∀ z l, x = .sl .own z l → ow v z l.length → ow' v z l.length) (r : RepC' c ow x v) : RepC' c' ow' x v := by
  cases x with
  | any => trivial
  | sl m z l =>
    cases m with
    | own => exact ⟨RepF.mono hm _ _ r.1, ho z l rfl r.2⟩
    | no =>
      have r' : RepF c.S c.w (.sl .no z l) v := r
      exact RepF.mono hm _ _ r'
    | full =>
      have r' : RepF c.S c.w (.sl .full z l) v := r
      exact RepF.mono hm _ _ r'
  | ptr o off =>
    have r' : o < c.shn ∧ v = .pointer (some ⟨c.β o, off, none⟩) := r
    have hl : o < n := by simpa [refLt] using hlt
    show o < c'.shn ∧ v = .pointer (some ⟨c'.β o, off, none⟩)
    rw [hn, hβ]; exact ⟨hl, r'.2⟩
  | ss o off m z =>
    have r' : o < c.shn ∧ ∃ cp, v = .slice (some ⟨c.β o, off, none⟩) m cp ∧ m ≤ cp ∧ ssz off cp z (c.bs o) := r
    have hl : o < n := by simpa [refLt] using hlt
    show o < c'.shn ∧ ∃ cp, v = .slice (some ⟨c'.β o, off, none⟩) m cp ∧ m ≤ cp ∧ ssz off cp z (c'.bs o)
    rw [hn, hβ, hbs]; exact ⟨hl, r'.2⟩
  | mp o =>
    have r' : o < c.shn ∧ v = .map (some (c.β o)) := r
    have hl : o < n := by simpa [refLt] using hlt
    show o < c'.shn ∧ v = .map (some (c'.β o))
    rw [hn, hβ]; exact ⟨hl, r'.2⟩
  | agg l =>
    obtain ⟨cs, h1, h2⟩ : ∃ cs, v = .agg cs ∧ RepL (RepF c.S c.w) l cs.toList := r
    exact ⟨cs, h1, h2.mono (RepF.mono hm)⟩
  | str s =>
    have r' : RepF c.S c.w (.str s) v := r
    exact RepF.mono hm _ _ r'
  | int => exact r
  | bool => exact r
  | nilp => exact r
  | undef => simp [RepC', RepE, RepF] at r
  | loc => simp [RepC', RepE, RepF] at r
  | ip => simp [RepC', RepE, RepF] at r
  | fn => simp [RepC', RepE, RepF] at r
  | tup => simp [RepC', RepE, RepF] at r
  | aggR => simp [RepC', RepE, RepF] at r
  | mapv => simp [RepC', RepE, RepF] at r

theorem aggScal_mono {c c' : Cx} {x : AV} {v : Value} (hm : ∀ b o, c.S b o → c'.S b o ∧ c'.w.cell? ⟨b, o, none⟩ = c.w.cell? ⟨b, o, none⟩) (h : aggScal x = true) (r : RepE c x v) : RepE c' x v := by
  cases x with
  | int => exact r
  | bool => exact r
  | nilp => exact r
  | str s =>
    have r' : RepF c.S c.w (.str s) v := r
    exact RepF.mono hm _ _ r'
  | agg l =>
    obtain ⟨cs, h1, h2⟩ : ∃ cs, v = .agg cs ∧ RepL (RepF c.S c.w) l cs.toList := r
    exact ⟨cs, h1, h2.mono (RepF.mono hm)⟩
  | _ => simp [aggScal, scalarB] at h

theorem RepM_mono' {c c' : Cx} (hm : ∀ b o, c.S b o → c'.S b o ∧ c'.w.cell? ⟨b, o, none⟩ = c.w.cell? ⟨b, o, none⟩) : ∀ {l : List (List AV)} {es : List MapEntry}, RepM c l es → RepM c' l es
  | [], [], _ => trivial
  | [k, v] :: l, e :: es, r => by
    simp only [RepM] at r ⊢
    exact ⟨r.1, r.2.1, aggScal_mono hm r.1 r.2.2.1, aggScal_mono hm r.2.1 r.2.2.2.1, RepM_mono' hm r.2.2.2.2⟩
  | [], _ :: _, r => by simp [RepM] at r
  | [] :: _, _, r => by simp [RepM] at r
  | [_] :: _, _, r => by simp [RepM] at r
  | (_ :: _ :: _ :: _) :: _, _, r => by simp [RepM] at r
  | [_, _] :: _, [], r => by simp [RepM] at r

/-- A function's body gives what its contract says. -/
theorem fun_sound (hmix : P.follows .mixedOrders = true) (hG : Good P G) {n : Nat} {f : FuncId} {F : AFun} (hok : okFun P f F = true) {args : List AV} {sh sh' : List (List AV)} {r : AV} (h : callA n G F args sh = some (r, sh')) :
    Real P f ∧ SemCall P f args sh r sh' := by
  unfold okFun at hok
  split at hok
  case h_2 => cases hok
  rename_i fn hfn
  simp only [Bool.and_eq_true, decide_eq_true_eq] at hok
  obtain ⟨⟨⟨hbody, hnt⟩, hres⟩, hname⟩ := hok
  split at hbody
  case h_2 => cases hbody
  rename_i C hC
  refine ⟨⟨fn, hfn, by rw [hC]; rfl, by simpa using hname⟩, ?_⟩
  intro kd β bs S0 O0 w vs hent hargs
  obtain ⟨⟨e1, e2⟩, e3, e4, e5, e6⟩ := hent
  unfold callA at h
  split at h
  case isFalse => cases h
  rename_i hlen
  have hsz : vs.size = F.nargs := by have := hargs.length; simp at this; omega
  let E : Env := { w0 := w, S0 := S0, β0 := β, bs0 := bs, O0 := O0, D0 := fun j => match sh[j]? with | some c => isDead c | none => false, n0 := sh.length, nt := fn.ntmps }
  let g : Gh := { β := β, bs := bs, lam := fun _ => 0, kd := kd }
  have hSS : ∀ b m, S0 b m → SS E g w b m := fun b m hS => .inl ⟨(e3 b m hS).1, hS⟩
  have hle0 : Cx.le (cx0 β bs S0 w sh.length) (cx E g (initA args sh) w) := ⟨fun b m hS => ⟨hSS b m hS, rfl⟩, Nat.le_refl _, fun _ _ => rfl, fun _ _ => rfl, fun s hs => hs.elim⟩
  have hsim : Sim E g (initA args sh) { tmps := vs ++ Array.replicate (fn.ntmps - vs.size) undef, defers := [] } w := by
    refine { size := by show (vs ++ Array.replicate (fn.ntmps - vs.size) undef).size = fn.ntmps; simp; omega, defers := rfl, slots := ?_, shr := ?_, shr0 := fun _ _ => ⟨rfl, rfl⟩, shr1 := ?_, dd := ?_, shrlt := fun i hi => (e2 i hi).1, shrk := fun i hi => (e2 i hi).2, loc := fun s c hc => by simp [initA] at hc, n0 := Nat.le_refl _, s0 := e3, o0 := e4, own0 := ?_, os := rfl, tape := rfl, output := rfl, hsize := Nat.le_refl _, frame := fun _ _ _ _ => rfl, sframe := fun _ _ _ => rfl, gl := e6 }
    · intro t
      have h1 := args_get hargs (fn.ntmps - vs.size) t
      exact RepT.mono hle0 _ _ (fun _ _ _ h => h.elim) h1
    · intro i cells hi hd
      obtain ⟨f1, f2⟩ := e1 i cells hi hd
      exact ⟨f1, f2.mono hle0 rfl (fun _ _ _ _ _ h => h)⟩
    · intro i hi hn
      have hi' : i < sh.length := hi
      have hn' : sh.length ≤ i := hn
      omega
    · intro i hi hd
      have hi' : i < sh.length := hi
      have hd' : (match sh[i]? with | some c => isDead c | none => false) = true := hd
      show sh[i]? = some dead
      rw [List.getElem?_eq_getElem hi'] at hd' ⊢
      rw [isDead_eq.1 hd']
    · intro b t k hk
      rcases Nat.lt_or_ge b w.heap.size with hb | hb
      · exact .inr (e5 b t k hk hb)
      · exact .inl hb
  unfold finA at h
  split at h
  · cases h
  · rename_i e σ hx hex
    split at h
    case h_2 => cases h
    rename_i xs hxs
    unfold packA at h
    split at h
    case isFalse => cases h
    rename_i hall
    obtain ⟨hall, hkeep⟩ := hall
    simp only [Option.some.injEq, Prod.mk.injEq] at h
    obtain ⟨hr, hsh'⟩ := h
    refine calls_of_wp hfn hC (exec_sound hmix hG n C F.body _ σ e _ w _ hbody hex ⟨g, hsim⟩ ?_)
    rintro a1 w1 ⟨g1, hs1⟩
    have hn0 : sh.length ≤ σ.sh.length := hs1.n0
    have hlen' : sh'.length = if F.keep then σ.sh.length else sh.length := by
      rw [← hsh']; split
      · rfl
      · simp; omega
    have hshl : sh'.length ≤ σ.sh.length ∧ sh.length ≤ sh'.length := by
      rw [hlen']; split <;> omega
    have hshget : ∀ (i : Nat), i < sh'.length → sh'[i]? = σ.sh[i]? := by
      intro i hi
      rw [← hsh'] at hi ⊢
      split
      · rfl
      · rename_i hk
        rw [if_neg hk] at hi
        rw [List.getElem?_take_of_lt (by simp at hi; omega)]
    have hβ0 : ∀ i, i < E.n0 → E.β0 i < E.w0.heap.size := fun i hi => (e2 i hi).1
    have hD : ∀ (j : Nat) (x : List AV), sh[j]? = some x → isDead x = true → E.D0 j = true := by
      intro j x hj hx
      show (match sh[j]? with | some c => isDead c | none => false) = true
      rw [hj]; exact hx
    obtain ⟨us, hu1, hu2, hu3⟩ := results_sound hs1 (sh0 := sh) (k := F.keep) (n := sh'.length) hlen' rfl hβ0 hD hres hxs hall
    have hrun := results_run (fn := fn) hu1
    have hm1 : ∀ b m, SS E g1 w1 b m → S1 S0 w w1 (kdF g1.kd g1.β sh'.length) b m := SS.out hs1
    have hfin : ∃ v kd' β' bs', Ending.returned (packV us) = Ending.returned v ∧ After S0 O0 β bs w sh sh' r v kd' β' bs' w1 := by
      refine ⟨_, kdF g1.kd g1.β sh'.length, g1.β, g1.bs, rfl, ?_⟩
      refine { same := fun i hi => hs1.shr0 i hi, len := hshl.2, shok := ⟨fun i cells hi hd => ?_, fun i hi => ?_⟩, rep := ?_, os := hs1.os, tape := hs1.tape, output := hs1.output, size := hs1.hsize, frame := fun b hb hnb ho => hs1.frame b hb hnb ho, sframe := fun b o hS => hs1.sframe b o hS, o0 := fun b k hk => ?_, own0 := fun b t k hk => hs1.own0 b t k (kdF_own.1 hk), new := fun i h1 h2 => ?_, deads := fun i hi => ?_ }
      · have hil := (List.getElem?_eq_some_iff.1 hi).1
        have hi' : σ.sh[i]? = some cells := by rw [← hshget i hil]; exact hi
        obtain ⟨f1, f2, f3⟩ := hs1.shr i cells hi' hd
        refine ⟨by rw [kdF_shr hil]; exact f1, ?_⟩
        have how : ∀ j z v m, OwnAt g1.kd w1 (.cell i j) v z m → OwnAt (kdF g1.kd g1.β sh'.length) w1 (.cell i j) v z m := by
          rintro j z v m ⟨A, c, q1, q2⟩
          refine ⟨A, c, q1, ?_⟩
          rcases q2 with q2 | ⟨b, ar, tt, q3, q4, q5, q6⟩
          · exact .inl q2
          · exact .inr ⟨b, ar, tt, q3, q4, q5, kdF_own.2 q6⟩
        refine ⟨fun hbk => ?_, ?_⟩
        · obtain ⟨arr, ty, fz, q1, q2, q3, q4⟩ := f2 hbk
          refine ⟨arr, ty, fz, q1, q2, q3, fun j x hx => ?_⟩
          obtain ⟨v, q5, q6⟩ := q4 j x hx
          refine ⟨v, q5, ?_⟩
          by_cases hk : F.keep = true
          · have hln : sh'.length = σ.sh.length := by rw [hlen', if_pos hk]
            have q7 := (RepC'_noloc (c := cx E g1 σ w1)).2 q6
            refine RepC'.mono (c := (cx E g1 σ w1).noloc) (c' := cx0 g1.β g1.bs (S1 S0 w w1 (kdF g1.kd g1.β sh'.length)) w1 sh'.length) ⟨fun b m hS => ⟨hm1 b m hS, rfl⟩, by show σ.sh.length ≤ sh'.length; omega, fun _ _ => rfl, fun _ _ => rfl, fun s hs => hs.elim⟩ _ _ (fun z l _ => how _ _ _ _) q7
          · have hall2 : ((σ.sh.take sh.length).all fun c => c.all (refLt sh.length)) = true := by
              rcases hkeep with hk' | hk'
              · exact absurd hk' hk
              · exact hk'
            have hln : sh'.length = sh.length := by rw [hlen', if_neg hk]
            refine refLt_mono (c := cx E g1 σ w1) (n := sh.length) (fun b m hS => ⟨hm1 b m hS, rfl⟩) rfl rfl hln ?_ (fun z l _ => how _ _ _ _) q6
            rw [List.all_eq_true] at hall2
            have h8 := hall2 cells (List.mem_iff_getElem?.2 ⟨i, by rw [List.getElem?_take_of_lt (by omega)]; exact hi'⟩)
            rw [List.all_eq_true] at h8
            exact h8 x (List.mem_iff_getElem?.2 ⟨j, hx⟩)
        · unfold ObjM at f3 ⊢
          split
          · obtain ⟨es, cl, q1, q2⟩ := f3
            exact ⟨es, cl, q1, RepM_mono' (c := cx E g1 σ w1) (c' := cx0 g1.β g1.bs (S1 S0 w w1 (kdF g1.kd g1.β sh'.length)) w1 sh'.length) (fun b m hS => ⟨hm1 b m hS, rfl⟩) q2⟩
          · trivial
      · obtain ⟨j, hj⟩ := hs1.shrk i (by omega)
        exact ⟨hs1.shrlt i (by omega), j, by rw [kdF_shr hi]; exact hj⟩
      · rw [← hr]
        match xs, us, hu2, hu3 with
        | [x], [v], hu2, hu3 => exact RepE.topT (hu3 x (by simp)) hu2.1
        | [], [], hu2, _ => exact ⟨#[], rfl, trivial⟩
        | x :: y :: xs, v :: u :: us, hu2, _ => exact ⟨(v :: u :: us).toArray, rfl, hu2⟩
        | [], _ :: _, hu2, _ => simp [RepL] at hu2
        | _ :: _, [], hu2, _ => simp [RepL] at hu2
        | [_], _ :: _ :: _, hu2, _ => simp [RepL] at hu2
        | _ :: _ :: _, [_], hu2, _ => simp [RepL] at hu2
      · obtain ⟨_, _, t, k', q1, q2⟩ := hs1.o0 b k hk
        exact ⟨t, k', kdF_own.2 q1, q2⟩
      · rcases hs1.shr1 i (by omega) h1 with q | ⟨j, q1, q2, q3, q4⟩
        · exact .inl q
        · have hjl : j < sh.length := q1
          refine .inr ⟨j, q1, q2, fun hjd => ?_, ?_⟩
          · have := hD j _ hjd (isDead_eq.2 rfl)
            rw [q3] at this; cases this
          · rw [hshget j (by omega)]; exact q4
      · have hil := (List.getElem?_eq_some_iff.1 hi).1
        rw [hshget i (by omega)]
        exact hs1.dd i hil (hD i _ hi (isDead_eq.2 rfl))
    cases e with
    | norm => exact ⟨hs1.defers, _, hrun, hfin⟩
    | ret => exact ⟨hs1.defers, _, hrun, hfin⟩
    | ex i => exact (hx i rfl).elim
  · cases h

theorem funs_sound (hmix : P.follows .mixedOrders = true) {B : Calls'} (hB : Good P B) {T : FuncId → Option AFun} (hT : ∀ f F, T f = some F → okFun P f F = true) : ∀ n, Good P (funA B T n)
  | 0 => hB
  | n + 1 => by
    intro f args sh r sh' h
    simp only [funA] at h
    split at h
    · rename_i x hx
      simp only [Option.some.injEq] at h
      subst h
      exact hB f args sh r sh' hx
    · split at h
      · rename_i F hF
        exact .inl (fun_sound hmix (funs_sound hmix hB hT n) (hT f F hF) h)
      · cases h
end
end Go.Av
