/- A part of the proof: Ev12. No conditions. -/
import Derived.Test.YthnablnojflbnaaDoorEv12d
set_option linter.unusedSimpArgs false
set_option linter.unusedVariables false
namespace Go.Av
set_option linter.unusedSectionVars false
variable [Gtab]
open Go.RowKit
section
variable {P : Program} {E : Env} {g g' : Gh} {σ σ' σ1 : AS} {a : Act} {w w' : World} {o : Oper} {ao : AOper} {Q : Exit → Act → World → Prop}

theorem plainO_eq (h : plainO ao = true) : ao.ml = .none ∧ ao.dem = none := by
  unfold plainO at h
  simpa using h

/-- What a step leaves, once its operation has been run. -/
theorem step_eq {G : Calls'} (h : stepA G ao σ = some σ') (hg : guardA σ.fr ao.guard = some true) :
    ∃ v m, kf G (ao.dst.getD 0) ao.ml ao.k (ao.args.map (ev σ.fr)) (rdm σ ao.ml) = some (v, m) ∧ σ' = put (demS (wrm σ m ao.ml) ao.dem) ao.dst v := by
  unfold stepA at h
  rw [hg] at h
  simp only at h
  split at h
  · rename_i v m hk
    cases h
    exact ⟨v, m, hk, rfl⟩
  · cases h

theorem snd_fld (hs : Sim E g σ a w) (hd : ∀ d, o.dst = some d → d < E.nt) {t : TypeId} {x : Operand} {r : AR} {fi : Nat} (hop : o.op = .field t x fi)
    (hx : okR x r = true) {fs : Array Field} {f : Field} {agg : Bool} {n : Nat} (ht : P.underlying t = some (.struct fs)) (hf : fs[fi]? = some f) (hsz : sizeIs P f.type agg n = true) {l : List AV} {v : AV}
    (he : ev σ.fr r = .agg l) (hv : takeC agg f.offset n l = some v) :
    o.wp P a w (Post E (put σ o.dst v)) Q := by
  obtain ⟨cs, h1, h2⟩ := hs.rd hx he
  obtain ⟨ha, hn⟩ := isAgg_run hsz
  obtain ⟨h3, h4, h5⟩ := takeC_rep (c := cx E g σ w) hv ((h2.drop f.offset).take n)
  rcases h4 with ⟨rfl, h4⟩ | ⟨rfl, y, hy, h4⟩
  · refine plain_fin hs hd (val := .agg (cs.extract f.offset (f.offset + n))) ?_ h5 ?_
    · simp [execOp, hop, h1, Instr.field, run_underlying ht, hf, asAgg, part, ha, hn]
    · have : ((cs.toList.drop f.offset).take n).toArray = cs.extract f.offset (f.offset + n) := by
        apply Array.ext'
        simp [List.extract_eq_take_drop]
      rw [this] at h4
      exact h4
  · have hy' : cs[f.offset]? = some y := by
      have h0 : ((cs.toList.drop f.offset).take n)[0]? = some y := by rw [hy]; rfl
      rw [List.getElem?_take] at h0
      split at h0
      · rw [List.getElem?_drop] at h0; simpa using h0
      · cases h0
    refine plain_fin hs hd (val := y) ?_ h5 h4
    simp [execOp, hop, h1, Instr.field, run_underlying ht, hf, asAgg, part, ha, hy']

theorem arr_two {α : Type} {xs : Array α} (h : xs.size = 2) : ∃ x y, xs = #[x, y] := by
  obtain ⟨l⟩ := xs
  match l, h with
  | [x, y], _ => exact ⟨x, y, rfl⟩

theorem boundA_int {u : AV} {d i : Nat} (h : boundA (some u) d = some i) : ∃ k n, u = .int k n := by
  cases u <;> simp [boundA] at h
  exact ⟨_, _, rfl⟩

theorem sliceA_int {str : Bool} {z : Nat} {x v : AV} {lo hi : Option AV} (h : sliceA str z x lo hi = some v) : (∀ u, lo = some u → ∃ k n, u = .int k n) ∧ (∀ u, hi = some u → ∃ k n, u = .int k n) := by
  unfold sliceA at h
  split at h
  all_goals first | (cases h; done) | skip
  all_goals
    split at h
    · rename_i h1 h2
      exact ⟨fun u e => boundA_int (by rw [← e]; exact h1), fun u e => boundA_int (by rw [← e]; exact h2)⟩
    · cases h

theorem slxA_int {z : Nat} {sh : List (List AV)} {x v h : AV} {lo : Option AV} (hv : slxA z sh x lo h = some v) : (∀ u, lo = some u → ∃ k n, u = .int k n) ∧ ∃ k n, h = .int k n := by
  unfold slxA at hv
  split at hv
  · split at hv
    · rename_i h1 h2 _
      exact ⟨fun u e => boundA_int (by rw [← e]; exact h1), boundA_int h2⟩
    · cases hv
  · exact ⟨(sliceA_int hv).1, (sliceA_int hv).2 _ rfl⟩

theorem wrm_rdm0 (σ : AS) (ml : ML) : wrm σ (rdm σ ml) ml = σ := by
  cases ml with
  | none => rfl
  | sh => rfl
  | lo s =>
    show { σ with lo := upd σ.lo s (σ.lo s) } = σ
    have : upd σ.lo s (σ.lo s) = σ.lo := by funext t; unfold upd; split <;> simp_all
    rw [this]

theorem len_ss (hs : Sim E g σ a w) (hd : ∀ d, o.dst = some d → d < E.nt) {x : Operand} {r : AR} {t e : TypeId} {ts : Array TypeId} (hop : o.op = .call { callee := .builtin .len, args := #[x], argTypes := ts })
    (hx : okR x r = true) (hts : ts[0]? = some t) (ht : P.underlying t = some (.slice e)) {so off n z : Nat} (hv : ev σ.fr r = .ss so off n z) :
    o.wp P a w (Post E (put σ o.dst (.int .i64 (n : Int)))) Q := by
  obtain ⟨_, cp, h1, _⟩ := hs.rd hx hv
  refine plain_fin hs hd (val := .int .i64 (n : Int)) ?_ rfl rfl
  simp [execOp, hop, resolve, invoke, builtin, h1, Builtin.len_, hts, run_underlying ht, goInt]

theorem ia_ss (hs : Sim E g σ a w) (hd : ∀ d, o.dst = some d → d < E.nt) {t e : TypeId} {x y : Operand} {rx ry : AR} (hop : o.op = .indexAddr t x y)
    (hx : okR x rx = true) (hy : okR y ry = true) (ht : P.underlying t = some (.slice e)) {z : Nat} (hz : sizeOf' P e = some z)
    {so off n : Nat} {k : IntKind} {i : Int} (h1 : ev σ.fr rx = .ss so off n z) (h2 : ev σ.fr ry = .int k i) (h0 : 0 ≤ i) (hlt : i < n) :
    o.wp P a w (Post E (put σ o.dst (.ptr so (off + i.toNat * z)))) Q := by
  obtain ⟨inf, hi, hin⟩ := size_info hz
  obtain ⟨e0, cp, e1, e2, _⟩ := hs.rd hx h1
  have e3 := hs.rdNat hy h2
  refine plain_fin hs hd (val := .pointer (some ⟨(cx E g σ w).β so, off + i.toNat * z, none⟩)) ?_ rfl ⟨e0, rfl⟩
  simp [execOp, hop, e1, e3, Instr.indexAt, asIntOf, run_underlying ht, h0, hlt, sizeOf, typeInfo, hi, hin, add_none]

theorem mapOf_eq {sh : List (List AV)} {o : Nat} {l : List (List AV)} (h : mapOf sh o = some l) : sh[o]? = some [.mapv l] := by
  unfold mapOf at h
  split at h
  · rename_i m hm; cases h; exact hm
  · cases h

set_option maxHeartbeats 2000000 in
theorem kind_sound {G : Calls'} (hG : Good P G) (hs : Sim E g σ a w) (hd : ∀ d, o.dst = some d → d < E.nt) (hdst : ao.dst = o.dst) (hok : okK P o ao = true) {v : AV} {m : MV}
    (hk : kf G (ao.dst.getD 0) ao.ml ao.k (ao.args.map (ev σ.fr)) (rdm σ ao.ml) = some (v, m)) :
    o.wp P a w (Post E (put (demS (wrm σ m ao.ml) ao.dem) o.dst v)) Q := by
  rw [hdst] at hk
  unfold okK at hok
  split at hok
  · -- move, mv
    rename_i x hop hkk
    simp only [Bool.and_eq_true] at hok
    obtain ⟨r, hr, hr'⟩ := okRs1 hok.1
    obtain ⟨hml, hdem⟩ := plainO_eq hok.2
    rw [hkk, hr, hml] at hk
    simp only [List.map_cons, List.map_nil, kf, kf0, Option.some.injEq, Prod.mk.injEq] at hk
    obtain ⟨rfl, rfl⟩ := hk
    rw [hml, hdem]
    exact snd_mv hs hd (.inl hop) hr'
  · rename_i x hop hkk
    simp only [Bool.and_eq_true] at hok
    obtain ⟨r, hr, hr'⟩ := okRs1 hok.1
    obtain ⟨hml, hdem⟩ := plainO_eq hok.2
    rw [hkk, hr, hml] at hk
    simp only [List.map_cons, List.map_nil, kf, kf0, Option.some.injEq, Prod.mk.injEq] at hk
    obtain ⟨rfl, rfl⟩ := hk
    rw [hml, hdem]
    exact snd_mv hs hd (.inr hop) hr'
  · rename_i x hop hkk
    simp only [Bool.and_eq_true] at hok
    obtain ⟨r, hr, hr'⟩ := okRs1 hok.1.1
    have hml : ao.ml = .none := by simpa using hok.1.2
    have hdd := hok.2
    rw [hr] at hdd
    split at hdd
    · rename_i s hs1
      cases hs1
      have hdem : ao.dem = some s := by simpa using hdd
      rw [hkk, hr, hml] at hk
      simp only [List.map_cons, List.map_nil, kf, kf0, Option.some.injEq, Prod.mk.injEq] at hk
      obtain ⟨rfl, rfl⟩ := hk
      rw [hml, hdem]
      exact snd_mvo hs hd (.inl hop) hr'
    · cases hdd
  · rename_i x hop hkk
    simp only [Bool.and_eq_true] at hok
    obtain ⟨r, hr, hr'⟩ := okRs1 hok.1.1
    have hml : ao.ml = .none := by simpa using hok.1.2
    have hdd := hok.2
    rw [hr] at hdd
    split at hdd
    · rename_i s hs1
      cases hs1
      have hdem : ao.dem = some s := by simpa using hdd
      rw [hkk, hr, hml] at hk
      simp only [List.map_cons, List.map_nil, kf, kf0, Option.some.injEq, Prod.mk.injEq] at hk
      obtain ⟨rfl, rfl⟩ := hk
      rw [hml, hdem]
      exact snd_mvo hs hd (.inr hop) hr'
    · cases hdd
  · -- pick
    rename_i c x y hop hkk
    simp only [Bool.and_eq_true] at hok
    obtain ⟨rc, rx, ry, hr, h1, h2, h3⟩ := okRs3 hok.1
    obtain ⟨hml, hdem⟩ := plainO_eq hok.2
    rw [hkk, hr, hml] at hk
    simp only [List.map_cons, List.map_nil] at hk
    generalize hvc : ev σ.fr rc = vc at hk
    cases vc <;> simp only [kf, kf0, reduceCtorEq, Option.some.injEq, Prod.mk.injEq] at hk
    obtain ⟨rfl, rfl⟩ := hk
    rw [hml, hdem]
    exact snd_pick hs hd hop h1 h2 h3 hvc
  · -- alloc
    rename_i e zero hop hkk
    simp only [Bool.and_eq_true] at hok
    have hr := okRs0 hok.1.1.1
    have hdem : ao.dem = none := by simpa using hok.1.2
    obtain ⟨d, hdd⟩ := Option.isSome_iff_exists.1 hok.2
    rw [hdst] at hdd
    rw [hkk, hr, hdd] at hk
    simp only [List.map_nil, kf, kf0, Option.getD_some] at hk
    split at hk
    · rename_i hc
      obtain ⟨hml, hn⟩ := hc
      simp only [Option.some.injEq, Prod.mk.injEq] at hk
      obtain ⟨rfl, rfl⟩ := hk
      rw [hml, hdem]
      rw [hml] at hn
      exact snd_alloc hs hdd (hd d hdd) hop hok.1.1.2 (by simpa [rdm] using hn)
    · cases hk
  · rename_i e zero hop hkk
    simp only [Bool.and_eq_true] at hok
    have hr := okRs0 hok.1.1.1
    have hdem : ao.dem = none := by simpa using hok.1.2
    obtain ⟨d, hdd⟩ := Option.isSome_iff_exists.1 hok.2
    rw [hdst] at hdd
    rw [hkk, hr, hdd] at hk
    simp only [List.map_nil, kf, kf0] at hk
    split at hk
    · rename_i hml
      simp only [Option.some.injEq, Prod.mk.injEq] at hk
      obtain ⟨rfl, rfl⟩ := hk
      rw [hml, hdem]
      exact snd_allocS hs hdd (hd d hdd) hop hok.1.1.2
    · cases hk
  · -- box
    rename_i e x n hop hkk
    simp only [Bool.and_eq_true] at hok
    obtain ⟨r, hr, hr'⟩ := okRs1 hok.1.1
    have hdem : ao.dem = none := by simpa using hok.1.2
    obtain ⟨d, hdd⟩ := Option.isSome_iff_exists.1 hok.2
    rw [hdst] at hdd
    rw [hkk, hr, hdd] at hk
    simp only [List.map_cons, List.map_nil, kf, kf0, Option.getD_some] at hk
    split at hk
    · rename_i hc
      obtain ⟨hml, hn⟩ := hc
      obtain ⟨cs, hcs, he⟩ := Option.map_eq_some_iff.1 hk
      simp only [Prod.mk.injEq] at he
      obtain ⟨rfl, rfl⟩ := he
      rw [hml, hdem]
      rw [hml] at hn
      exact snd_box hs hdd (hd d hdd) hop hr' hcs (by simpa [rdm] using hn)
    · cases hk
  · rename_i e x n hop hkk
    simp only [Bool.and_eq_true] at hok
    obtain ⟨r, hr, hr'⟩ := okRs1 hok.1.1
    have hdem : ao.dem = none := by simpa using hok.1.2
    obtain ⟨d, hdd⟩ := Option.isSome_iff_exists.1 hok.2
    rw [hdst] at hdd
    rw [hkk, hr, hdd] at hk
    simp only [List.map_cons, List.map_nil, kf, kf0] at hk
    split at hk
    · rename_i hml
      obtain ⟨cs, hcs, he⟩ := Option.map_eq_some_iff.1 hk
      simp only [Prod.mk.injEq] at he
      obtain ⟨rfl, rfl⟩ := he
      rw [hml, hdem]
      exact snd_boxS hs hdd (hd d hdd) hop hr' hcs
    · cases hk
  · -- build
    rename_i t parts zero pl hop hkk
    simp only [Bool.and_eq_true] at hok
    obtain ⟨⟨⟨⟨h1, h2⟩, h3⟩, h4⟩, h5⟩ := hok
    obtain ⟨hml, hdem⟩ := plainO_eq h3
    rw [hkk, hml] at hk
    simp only [kf, kf0] at hk
    obtain ⟨cs, hcs, he⟩ := Option.map_eq_some_iff.1 hk
    simp only [Prod.mk.injEq] at he
    obtain ⟨rfl, rfl⟩ := he
    rw [hml, hdem]
    exact snd_build hs hd hop h1 h2 h4 h5 hcs
  · -- buildR
    rename_i t parts zero pl hop hkk
    simp only [Bool.and_eq_true] at hok
    obtain ⟨⟨⟨⟨h1, h2⟩, h3⟩, h4⟩, h5⟩ := hok
    obtain ⟨hml, hdem⟩ := plainO_eq h3
    rw [hkk, hml] at hk
    simp only [kf, kf0] at hk
    obtain ⟨cs, hcs, he⟩ := Option.map_eq_some_iff.1 hk
    simp only [Prod.mk.injEq] at he
    obtain ⟨rfl, rfl⟩ := he
    rw [hml, hdem]
    exact snd_buildR hs hd hop h1 h2 h4 h5 hcs
  · -- mks
    rename_i t len parts z zero len' pl hop hkk
    simp only [Bool.and_eq_true] at hok
    obtain ⟨⟨⟨⟨h1, h2⟩, h3⟩, h4⟩, h5⟩ := hok
    obtain ⟨hml, hdem⟩ := plainO_eq h2
    have hlen : len = len' := by simpa using h3
    have hpl : pl = parts.toList.map (·.1) := by simpa using h4
    subst hlen; subst hpl
    split at h5
    · rename_i e hu
      simp only [Bool.and_eq_true, decide_eq_true_eq] at h5
      obtain ⟨⟨⟨h6, h7⟩, h8⟩, h9⟩ := h5
      rw [hkk, hml] at hk
      simp only [kf, kf0] at hk
      obtain ⟨cs, hcs, he⟩ := Option.map_eq_some_iff.1 hk
      simp only [Prod.mk.injEq] at he
      obtain ⟨rfl, rfl⟩ := he
      rw [hml, hdem]
      have hsz : sizeOf' P e = some z := by simpa using h6
      have hzl : zero.length = z := by
        obtain ⟨i, _, i1, _, _, i2⟩ := zero_info h7
        obtain ⟨i', i3, i4⟩ := size_info hsz
        rw [i1] at i3; cases i3; omega
      exact snd_mks hs hd hop h1 hu h7 hsz h9 h8 hcs (by rw [fillA_length hcs, zeroRow_length, hzl])
    · cases h5
  · -- ld
    rename_i t x agg n hop hkk
    simp only [Bool.and_eq_true] at hok
    obtain ⟨r, hr, hr'⟩ := okRs1 hok.1.1
    have hdem : ao.dem = none := by simpa using hok.1.2
    rw [hkk, hr] at hk
    simp only [List.map_cons, List.map_nil, kf, kf0] at hk
    rw [hdem]
    split at hk
    · rename_i s off he
      split at hk
      · rename_i hml
        rw [hml] at hk ⊢
        obtain ⟨cells, hc, hk⟩ := Option.bind_eq_some_iff.1 hk
        obtain ⟨v', hv', he'⟩ := Option.map_eq_some_iff.1 hk
        simp only [Prod.mk.injEq] at he'
        obtain ⟨rfl, rfl⟩ := he'
        have hsame : wrm σ (rdm σ (.lo s)) (.lo s) = σ := by
          show { σ with lo := upd σ.lo s (σ.lo s) } = σ
          have : upd σ.lo s (σ.lo s) = σ.lo := by funext t; unfold upd; split <;> simp_all
          rw [this]
        rw [hsame]
        exact snd_ldL hs hd hop hr' hok.2 he hc hv'
      · cases hk
    · rename_i s off he
      split at hk
      · rename_i hml
        rw [hml] at hk ⊢
        obtain ⟨cells, hc, hk⟩ := Option.bind_eq_some_iff.1 hk
        obtain ⟨v', hv', he'⟩ := Option.map_eq_some_iff.1 hk
        simp only [Prod.mk.injEq] at he'
        obtain ⟨rfl, rfl⟩ := he'
        exact snd_ldS hs hd hop hr' hok.2 he hc hv'
      · cases hk
    · rename_i cells he
      obtain ⟨v', hv', he'⟩ := Option.map_eq_some_iff.1 hk
      simp only [Prod.mk.injEq] at he'
      obtain ⟨rfl, rfl⟩ := he'
      have hsame : wrm σ (rdm σ ao.ml) ao.ml = σ := by
        cases ao.ml with
        | none => rfl
        | sh => rfl
        | lo s =>
          show { σ with lo := upd σ.lo s (σ.lo s) } = σ
          have : upd σ.lo s (σ.lo s) = σ.lo := by funext t; unfold upd; split <;> simp_all
          rw [this]
      rw [hsame]
      exact snd_ldI hs hd hop hr' hok.2 he hv'
    · cases hk
  · -- st
    rename_i t x y n hop hkk
    simp only [Bool.and_eq_true] at hok
    obtain ⟨⟨⟨h1, h2⟩, h3⟩, h4⟩ := hok
    obtain ⟨rx, ry, hr, hx, hy⟩ := okRs2 h1
    have hdem : ao.dem = none := by simpa using h2
    have hdn : o.dst = none := by rw [← hdst]; simpa using h3
    have hsz : sizeOf' P t = some n := by simpa using h4
    rw [hkk, hr] at hk
    simp only [List.map_cons, List.map_nil, kf, kf0] at hk
    rw [hdem, hdn]
    split at hk
    · rename_i s off he
      split at hk
      · rename_i hml
        rw [hml] at hk ⊢
        obtain ⟨cells, hc, hk⟩ := Option.bind_eq_some_iff.1 hk
        obtain ⟨cs, hcs, hk⟩ := Option.bind_eq_some_iff.1 hk
        obtain ⟨c', hc', he'⟩ := Option.map_eq_some_iff.1 hk
        simp only [Prod.mk.injEq] at he'
        obtain ⟨rfl, rfl⟩ := he'
        exact snd_stL hs hop hdn hx hy hsz he hc hcs hc'
      · cases hk
    · rename_i s off he
      split at hk
      · rename_i hml
        rw [hml] at hk ⊢
        obtain ⟨cells, hc, hk⟩ := Option.bind_eq_some_iff.1 hk
        split at hk
        · rename_i hbk
          obtain ⟨cs, hcs, hk⟩ := Option.bind_eq_some_iff.1 hk
          obtain ⟨c', hc', he'⟩ := Option.map_eq_some_iff.1 hk
          simp only [Prod.mk.injEq] at he'
          obtain ⟨rfl, rfl⟩ := he'
          exact snd_stS hs hop hdn hx hy hsz he hc hbk hcs hc'
        · cases hk
      · cases hk
    · cases hk
  · -- nilc
    rename_i x hop hkk
    simp only [Bool.and_eq_true] at hok
    obtain ⟨r, hr, hr'⟩ := okRs1 hok.1
    obtain ⟨hml, hdem⟩ := plainO_eq hok.2
    rw [hkk, hr, hml] at hk
    simp only [List.map_cons, List.map_nil, kf, kf0] at hk
    rw [hml, hdem]
    have hfin : (∃ i j, ev σ.fr r = .ptr i j) ∨ (∃ i j, ev σ.fr r = .loc i j) ∨ (∃ l, ev σ.fr r = .ip l) := by
      split at hk
      · rename_i i j he; exact .inl ⟨i, j, he⟩
      · rename_i i j he; exact .inr (.inl ⟨i, j, he⟩)
      · rename_i l he; exact .inr (.inr ⟨l, he⟩)
      · cases hk
    have hv : v = ev σ.fr r ∧ m = rdm σ .none := by
      split at hk
      all_goals first | (simp only [Option.some.injEq, Prod.mk.injEq] at hk; exact ⟨hk.1.symm, hk.2.symm⟩) | cases hk
    obtain ⟨rfl, rfl⟩ := hv
    exact snd_nilc hs hd hop hr' hfin
  · -- bin
    rename_i op t x y t' op' hop hkk
    simp only [Bool.and_eq_true] at hok
    obtain ⟨rx, ry, hr, hx, hy⟩ := okRs2 hok.1.1
    obtain ⟨hml, hdem⟩ := plainO_eq hok.1.2
    have hop' : op = op' := by simpa using hok.2
    subst hop'
    rw [hkk, hr, hml] at hk
    simp only [List.map_cons, List.map_nil, kf, kf0] at hk
    obtain ⟨v', hv', he'⟩ := Option.map_eq_some_iff.1 hk
    simp only [Prod.mk.injEq] at he'
    obtain ⟨rfl, rfl⟩ := he'
    rw [hml, hdem]
    exact snd_bin hs hd hop hx hy hv'
  · -- beq
    rename_i op t x y t' ne hop hkk
    simp only [Bool.and_eq_true] at hok
    obtain ⟨⟨⟨h1, h2⟩, h3⟩, h4⟩ := hok
    obtain ⟨rx, ry, hr, hx, hy⟩ := okRs2 h1
    obtain ⟨hml, hdem⟩ := plainO_eq h2
    have ht : P.underlying t = some .bool := by
      split at h4
      · assumption
      · cases h4
    rw [hkk, hr, hml] at hk
    simp only [List.map_cons, List.map_nil] at hk
    generalize hvx : ev σ.fr rx = vx at hk
    generalize hvy : ev σ.fr ry = vy at hk
    cases vx <;> cases vy <;> simp only [kf, kf0, reduceCtorEq, Option.some.injEq, Prod.mk.injEq] at hk
    obtain ⟨rfl, rfl⟩ := hk
    rw [hml, hdem]
    exact snd_beq hs hd hop h3 ht hx hy hvx hvy
  · -- seq
    rename_i op t x y t' ne ks hop hkk
    simp only [Bool.and_eq_true] at hok
    obtain ⟨⟨⟨h1, h2⟩, h3⟩, h4⟩ := hok
    obtain ⟨rx, ry, hr, hx, hy⟩ := okRs2 h1
    obtain ⟨hml, hdem⟩ := plainO_eq h2
    split at h4
    · rename_i fs ht
      simp only [Bool.and_eq_true, Bool.not_eq_true'] at h4
      obtain ⟨⟨h5, h6⟩, h7⟩ := h4
      rw [hkk, hr, hml] at hk
      simp only [List.map_cons, List.map_nil] at hk
      generalize hvx : ev σ.fr rx = vx at hk
      generalize hvy : ev σ.fr ry = vy at hk
      cases vx <;> cases vy <;> simp only [kf, kf0, reduceCtorEq] at hk
      obtain ⟨r, hr2, he'⟩ := Option.map_eq_some_iff.1 hk
      simp only [Prod.mk.injEq] at he'
      obtain ⟨rfl, rfl⟩ := he'
      rw [hml, hdem]
      exact snd_seq hs hd hop h3 ht h5 h6 h7 hx hy hvx hvy hr2
    · cases h4
  · -- un
    rename_i op t x op' hop hkk
    simp only [Bool.and_eq_true] at hok
    obtain ⟨r, hr, hr'⟩ := okRs1 hok.1.1
    obtain ⟨hml, hdem⟩ := plainO_eq hok.1.2
    have hop' : op = op' := by simpa using hok.2
    subst hop'
    rw [hkk, hr, hml] at hk
    simp only [List.map_cons, List.map_nil] at hk
    generalize hvx : ev σ.fr r = vx at hk
    rw [hml, hdem]
    cases op <;> cases vx <;> simp only [kf, kf0, reduceCtorEq, Option.some.injEq, Prod.mk.injEq] at hk
    · obtain ⟨rfl, rfl⟩ := hk
      exact snd_neg hs hd hop hr' hvx
    · obtain ⟨rfl, rfl⟩ := hk
      exact snd_not hs hd hop hr' hvx
  · -- slc
    rename_i t x lo hi str z l h hop hkk
    simp only [Bool.and_eq_true] at hok
    obtain ⟨⟨⟨⟨h1, h2⟩, h3⟩, h4⟩, h5⟩ := hok
    obtain ⟨hml, hdem⟩ := plainO_eq h2
    have hty : (∃ e, P.underlying t = some (.slice e) ∧ str = false ∧ sizeOf' P e = some z) ∨ (P.underlying t = some .string ∧ str = true) := by
      split at h5
      · rename_i e hu
        simp at h5
        exact .inl ⟨e, hu, h5.1, h5.2⟩
      · rename_i hu; exact .inr ⟨hu, h5⟩
      · cases h5
    have hl : l = lo.isSome := by simpa using (beq_iff_eq.1 h3).symm
    have hh : h = hi.isSome := by simpa using (beq_iff_eq.1 h4).symm
    subst hl; subst hh
    rw [hkk, hml] at hk
    rw [hml, hdem]
    have hbv : ∀ {y : Operand} {r : AR}, okR y r = true → (∃ k n, ev σ.fr r = .int k n) → bval (some (ev σ.fr r)) (some (a.eval y)) := by
      rintro y r hy ⟨k, n, hv⟩
      exact bval_ev hs hy hv
    cases lo with
    | none => cases hi with
      | none =>
        obtain ⟨r, hr, hr'⟩ := okRs1 (x := x) (by simpa using h1)
        rw [hr] at hk
        simp only [List.map_cons, List.map_nil, Option.isSome_none, kf, kf0] at hk
        obtain ⟨v', hv', he'⟩ := Option.map_eq_some_iff.1 hk
        simp only [Prod.mk.injEq] at he'
        obtain ⟨rfl, rfl⟩ := he'
        exact slc_core hs hd hop hr' hty (lo' := none) (hi' := none) trivial trivial hv'
      | some y =>
        obtain ⟨r, ry, hr, hr', hy⟩ := okRs2 (x := x) (y := y) (by simpa using h1)
        rw [hr] at hk
        simp only [List.map_cons, List.map_nil, Option.isSome_none, Option.isSome_some, kf, kf0] at hk
        obtain ⟨v', hv', he'⟩ := Option.map_eq_some_iff.1 hk
        simp only [Prod.mk.injEq] at he'
        obtain ⟨rfl, rfl⟩ := he'
        exact slc_core hs hd hop hr' hty (lo' := none) (hi' := some (ev σ.fr ry)) trivial (hbv hy ((sliceA_int hv').2 _ rfl)) hv'
    | some y => cases hi with
      | none =>
        obtain ⟨r, ry, hr, hr', hy⟩ := okRs2 (x := x) (y := y) (by simpa using h1)
        rw [hr] at hk
        simp only [List.map_cons, List.map_nil, Option.isSome_none, Option.isSome_some, kf, kf0] at hk
        obtain ⟨v', hv', he'⟩ := Option.map_eq_some_iff.1 hk
        simp only [Prod.mk.injEq] at he'
        obtain ⟨rfl, rfl⟩ := he'
        exact slc_core hs hd hop hr' hty (lo' := some (ev σ.fr ry)) (hi' := none) (hbv hy ((sliceA_int hv').1 _ rfl)) trivial hv'
      | some y' =>
        obtain ⟨r, ry, ry', hr, hr', hy, hy'⟩ := okRs3 (x := x) (y := y) (z := y') (by simpa using h1)
        rw [hr] at hk
        simp only [List.map_cons, List.map_nil, Option.isSome_some, kf, kf0] at hk
        obtain ⟨v', hv', he'⟩ := Option.map_eq_some_iff.1 hk
        simp only [Prod.mk.injEq] at he'
        obtain ⟨rfl, rfl⟩ := he'
        exact slc_core hs hd hop hr' hty (lo' := some (ev σ.fr ry)) (hi' := some (ev σ.fr ry')) (hbv hy ((sliceA_int hv').1 _ rfl)) (hbv hy' ((sliceA_int hv').2 _ rfl)) hv'
  · -- fa
    rename_i t x fi off hop hkk
    simp only [Bool.and_eq_true] at hok
    obtain ⟨⟨h1, h2⟩, h3⟩ := hok
    obtain ⟨r, hr, hr'⟩ := okRs1 h1
    obtain ⟨hml, hdem⟩ := plainO_eq h2
    split at h3
    · rename_i fs hu
      split at h3
      · rename_i f hf
        simp only [Bool.and_eq_true] at h3
        have hoff : off = f.offset := by simpa using (beq_iff_eq.1 h3.1).symm
        subst hoff
        have h4 := h3.2
        split at h4
        · rename_i n hn
          have hn0 : n ≠ 0 := by simpa using h4
          rw [hkk, hr, hml] at hk
          simp only [List.map_cons, List.map_nil, kf, kf0] at hk
          rw [hml, hdem]
          split at hk <;> rename_i he <;> simp only [reduceCtorEq, Option.some.injEq, Prod.mk.injEq] at hk <;> obtain ⟨rfl, rfl⟩ := hk
          · exact snd_fa hs hd hop hr' hu hf hn hn0 he (.inl ⟨_, _, rfl, rfl⟩)
          · exact snd_fa hs hd hop hr' hu hf hn hn0 he (.inr (.inl ⟨_, _, rfl, rfl⟩))
          · exact snd_fa hs hd hop hr' hu hf hn hn0 he (.inr (.inr ⟨_, rfl, rfl⟩))
        · cases h4
      · cases h3
    · cases h3
  · -- fld
    rename_i t x fi agg off n hop hkk
    simp only [Bool.and_eq_true] at hok
    obtain ⟨⟨h1, h2⟩, h3⟩ := hok
    obtain ⟨r, hr, hr'⟩ := okRs1 h1
    obtain ⟨hml, hdem⟩ := plainO_eq h2
    split at h3
    · rename_i fs hu
      split at h3
      · rename_i f hf
        simp only [Bool.and_eq_true] at h3
        have hoff : off = f.offset := by simpa using (beq_iff_eq.1 h3.1).symm
        subst hoff
        rw [hkk, hr, hml] at hk
        simp only [List.map_cons, List.map_nil] at hk
        generalize hvx : ev σ.fr r = vx at hk
        cases vx <;> simp only [kf, kf0, reduceCtorEq] at hk
        obtain ⟨v', hv', he'⟩ := Option.map_eq_some_iff.1 hk
        simp only [Prod.mk.injEq] at he'
        obtain ⟨rfl, rfl⟩ := he'
        rw [hml, hdem]
        exact snd_fld hs hd hop hr' hu hf h3.2 hvx hv'
      · cases h3
    · cases h3
  · -- ia
    rename_i t x i z hop hkk
    simp only [Bool.and_eq_true] at hok
    obtain ⟨⟨h1, h2⟩, h3⟩ := hok
    obtain ⟨rx, ry, hr, hx, hy⟩ := okRs2 h1
    obtain ⟨hml, hdem⟩ := plainO_eq h2
    split at h3
    · rename_i e hu
      have hz : sizeOf' P e = some z := by simpa using h3
      rw [hkk, hr, hml] at hk
      simp only [List.map_cons, List.map_nil] at hk
      generalize hvx : ev σ.fr rx = vx at hk
      generalize hvy : ev σ.fr ry = vy at hk
      cases vx <;> cases vy <;> simp only [kf, kf0, reduceCtorEq] at hk
      · split at hk
        · rename_i hc
          obtain ⟨rfl, h0⟩ := hc
          obtain ⟨v', hv', he'⟩ := Option.map_eq_some_iff.1 hk
          simp only [Prod.mk.injEq] at he'
          obtain ⟨rfl, rfl⟩ := he'
          rw [hml, hdem]
          exact snd_ia hs hd hop hx hy hu hz hvx hvy h0 hv'
        · cases hk
      · split at hk
        · rename_i hc
          obtain ⟨rfl, h0, hlt⟩ := hc
          simp only [Option.some.injEq, Prod.mk.injEq] at hk
          obtain ⟨rfl, rfl⟩ := hk
          rw [hml, hdem]
          exact ia_ss hs hd hop hx hy hu hz hvx hvy h0 hlt
        · cases hk
    · cases h3
  · -- iaA
    rename_i t x i z len hop hkk
    simp only [Bool.and_eq_true] at hok
    obtain ⟨⟨h1, h2⟩, h3⟩ := hok
    obtain ⟨rx, ry, hr, hx, hy⟩ := okRs2 h1
    obtain ⟨hml, hdem⟩ := plainO_eq h2
    split at h3
    · rename_i n e hu
      simp only [Bool.and_eq_true] at h3
      have hn : n = len := by simpa using h3.1
      subst hn
      have hz : sizeOf' P e = some z := by simpa using h3.2
      rw [hkk, hr, hml] at hk
      simp only [List.map_cons, List.map_nil] at hk
      generalize hvy : ev σ.fr ry = vy at hk
      cases vy <;> simp only [kf, kf0, reduceCtorEq] at hk
      split at hk
      · rename_i hc
        obtain ⟨h0, hlt⟩ := hc
        rw [hml, hdem]
        split at hk <;> rename_i he <;> simp only [reduceCtorEq, Option.some.injEq, Prod.mk.injEq] at hk <;> obtain ⟨rfl, rfl⟩ := hk
        · exact snd_iaA hs hd hop hx hy hu hz he hvy h0 hlt (.inl ⟨_, _, rfl, rfl⟩)
        · exact snd_iaA hs hd hop hx hy hu hz he hvy h0 hlt (.inr (.inl ⟨_, _, rfl, rfl⟩))
        · exact snd_iaA hs hd hop hx hy hu hz he hvy h0 hlt (.inr (.inr ⟨_, rfl, rfl⟩))
      · cases hk
    · cases h3
  · -- ixs
    rename_i t x i hop hkk
    simp only [Bool.and_eq_true] at hok
    obtain ⟨⟨h1, h2⟩, h3⟩ := hok
    obtain ⟨rx, ry, hr, hx, hy⟩ := okRs2 h1
    obtain ⟨hml, hdem⟩ := plainO_eq h2
    split at h3
    · rename_i hu
      rw [hkk, hr, hml] at hk
      simp only [List.map_cons, List.map_nil] at hk
      generalize hvx : ev σ.fr rx = vx at hk
      generalize hvy : ev σ.fr ry = vy at hk
      cases vx <;> cases vy <;> simp only [kf, kf0, reduceCtorEq] at hk
      split at hk
      · rename_i h0
        obtain ⟨v', hv', he'⟩ := Option.map_eq_some_iff.1 hk
        simp only [Prod.mk.injEq] at he'
        obtain ⟨rfl, rfl⟩ := he'
        rw [hml, hdem]
        exact snd_ixs hs hd hop hx hy hu hvx hvy h0 hv'
      · cases hk
    · cases h3
  · -- len
    rename_i xs ts str hop hkk
    simp only [Bool.and_eq_true] at hok
    obtain ⟨⟨⟨h1, h2⟩, h3⟩, h4⟩ := hok
    obtain ⟨x, rfl⟩ : ∃ x, xs = #[x] := by
      have : xs.size = 1 := by simpa using h3
      exact Array.size_eq_one_iff.1 this
    obtain ⟨r, hr, hr'⟩ := okRs1 (x := x) (by simpa using h1)
    obtain ⟨hml, hdem⟩ := plainO_eq h2
    split at h4
    · rename_i t hts
      rw [hkk, hr, hml] at hk
      simp only [List.map_cons, List.map_nil] at hk
      generalize hvx : ev σ.fr r = vx at hk
      rw [hml, hdem]
      split at h4
      · rename_i hu
        have hst : str = true := by simpa using h4
        subst hst
        cases vx <;> simp only [kf, kf0, reduceCtorEq, Option.some.injEq, Prod.mk.injEq] at hk
        obtain ⟨rfl, rfl⟩ := hk
        exact snd_lenT hs hd hop hr' hts hu hvx
      · rename_i e hu
        have hst : str = false := by simpa using h4
        subst hst
        cases vx <;> simp only [kf, kf0, reduceCtorEq, Option.some.injEq, Prod.mk.injEq] at hk
        · obtain ⟨rfl, rfl⟩ := hk
          exact snd_lenS hs hd hop hr' hts hu hvx
        · obtain ⟨rfl, rfl⟩ := hk
          exact len_ss hs hd hop hr' hts hu hvx
      · cases h4
    · cases h4
  · -- max
    rename_i xs ts hop hkk
    simp only [Bool.and_eq_true] at hok
    obtain ⟨⟨h1, h2⟩, h3⟩ := hok
    obtain ⟨x, y, rfl⟩ : ∃ x y, xs = #[x, y] := by
      have : xs.size = 2 := by simpa using h3
      exact arr_two this
    obtain ⟨rx, ry, hr, hx, hy⟩ := okRs2 (x := x) (y := y) (by simpa using h1)
    obtain ⟨hml, hdem⟩ := plainO_eq h2
    rw [hkk, hr, hml] at hk
    simp only [List.map_cons, List.map_nil] at hk
    generalize hvx : ev σ.fr rx = vx at hk
    generalize hvy : ev σ.fr ry = vy at hk
    cases vx <;> cases vy <;> simp only [kf, kf0, reduceCtorEq] at hk
    split at hk
    · rename_i he
      subst he
      simp only [Option.some.injEq, Prod.mk.injEq] at hk
      obtain ⟨rfl, rfl⟩ := hk
      rw [hml, hdem]
      exact snd_mm hs hd (isMax := true) hop hx hy hvx hvy
    · cases hk
  · -- min
    rename_i xs ts hop hkk
    simp only [Bool.and_eq_true] at hok
    obtain ⟨⟨h1, h2⟩, h3⟩ := hok
    obtain ⟨x, y, rfl⟩ : ∃ x y, xs = #[x, y] := by
      have : xs.size = 2 := by simpa using h3
      exact arr_two this
    obtain ⟨rx, ry, hr, hx, hy⟩ := okRs2 (x := x) (y := y) (by simpa using h1)
    obtain ⟨hml, hdem⟩ := plainO_eq h2
    rw [hkk, hr, hml] at hk
    simp only [List.map_cons, List.map_nil] at hk
    generalize hvx : ev σ.fr rx = vx at hk
    generalize hvy : ev σ.fr ry = vy at hk
    cases vx <;> cases vy <;> simp only [kf, kf0, reduceCtorEq] at hk
    split at hk
    · rename_i he
      subst he
      simp only [Option.some.injEq, Prod.mk.injEq] at hk
      obtain ⟨rfl, rfl⟩ := hk
      rw [hml, hdem]
      exact snd_mm hs hd (isMax := false) hop hx hy hvx hvy
    · cases hk
  · -- append
    rename_i xs ts str z bytes hop hkk
    simp only [Bool.and_eq_true] at hok
    obtain ⟨⟨⟨⟨h1, h2⟩, h3⟩, h4⟩, h5⟩ := hok
    obtain ⟨x, y, rfl⟩ : ∃ x y, xs = #[x, y] := by
      have : xs.size = 2 := by simpa using h3
      exact arr_two this
    obtain ⟨rx, ry, hr, hx, hy⟩ := okRs2 (x := x) (y := y) (by simpa using h1)
    have hml : ao.ml = .none := by simpa using h2
    have hdem : (∃ s, rx = .t s ∧ ao.dem = some s) ∨ (∃ v, rx = .c v ∧ ao.dem = none) := by
      rw [hr] at h4
      split at h4
      · rename_i s rest he
        cases he
        exact .inl ⟨s, rfl, by simpa using h4⟩
      · rename_i u rest he
        cases he
        exact .inr ⟨u, rfl, by simpa using h4⟩
      · cases h4
    split at h5
    · rename_i t u hts
      have hts' : ts = #[t, u] := by
        apply Array.ext'
        simpa using hts
      subst hts'
      split at h5
      · rename_i e hu
        simp only [Bool.and_eq_true] at h5
        obtain ⟨h6, h7⟩ := h5
        split at h6
        · rename_i i hi
          simp only [Bool.and_eq_true] at h6
          obtain ⟨⟨h8, h9⟩, h10⟩ := h6
          split at h10
          · rename_i zv hzv
            have hud : ∃ ud, P.underlying u = some ud ∧ ∀ k, ud ≠ .int k := by
              split at h7
              · rename_i hu'; exact ⟨_, hu', fun k e => by cases e⟩
              · rename_i hu'; exact ⟨_, hu', fun k e => by cases e⟩
              · cases h7
            obtain ⟨ud, hud1, hud2⟩ := hud
            rw [hkk, hr, hml] at hk
            simp only [List.map_cons, List.map_nil] at hk
            generalize hvx : ev σ.fr rx = vx at hk
            cases vx <;> simp only [kf, kf0, reduceCtorEq] at hk
            obtain ⟨l2, hl2, hk⟩ := Option.bind_eq_some_iff.1 hk
            split at hk
            · rename_i hc
              obtain ⟨c1, c2, c3, c4, c5⟩ := hc
              simp only [Option.some.injEq, Prod.mk.injEq] at hk
              obtain ⟨rfl, rfl⟩ := hk
              rw [hml]
              exact snd_app hs hd hop hx hy hdem hu hud1 hud2 hi (by simpa using h8) (by simpa using h9) hzv (by simpa using h10) hvx hl2 c1 c2 c3 c4 c5
            · cases hk
          · cases h10
        · cases h6
      · cases h5
    · cases h5
  · -- mkf
    rename_i f first caps f' hop hkk
    simp only [Bool.and_eq_true] at hok
    obtain ⟨⟨⟨h1, h2⟩, h3⟩, h4⟩ := hok
    obtain ⟨hml, hdem⟩ := plainO_eq h2
    have hf : f = f' := by simpa using h3
    subst hf
    rw [hkk, hml] at hk
    simp only [kf, kf0] at hk
    split at hk
    · rename_i hc
      simp only [Option.some.injEq, Prod.mk.injEq] at hk
      obtain ⟨rfl, rfl⟩ := hk
      rw [hml, hdem]
      exact snd_mkf hs hd hop h4 h1 hc
    · cases hk
  · -- call
    rename_i f xs ts f' hop hkk
    simp only [Bool.and_eq_true] at hok
    obtain ⟨⟨h1, h2⟩, h3⟩ := hok
    have hdem : ao.dem = none := by simpa using h2
    have hf : f = f' := by simpa using h3
    subst hf
    rw [hkk] at hk
    simp only [kf, kf0] at hk
    rw [hdem]
    exact snd_call hs hd hG hop h1 hk
  · -- callv
    rename_i t xs ts hop hkk
    simp only [Bool.and_eq_true] at hok
    obtain ⟨h1, h2⟩ := hok
    have hdem : ao.dem = none := by simpa using h2
    obtain ⟨r, rs, hr, hr1, hr2⟩ := okRsc h1
    rw [hkk, hr] at hk
    simp only [List.map_cons] at hk
    generalize hvx : ev σ.fr r = vx at hk
    cases vx <;> simp only [kf, callvK, reduceCtorEq] at hk
    rw [hdem]
    exact snd_callv hs hd hG hop hr1 hr2 hvx hk
  · -- ext
    rename_i x i i' hop hkk
    simp only [Bool.and_eq_true] at hok
    obtain ⟨r, hr, hr'⟩ := okRs1 hok.1.1
    obtain ⟨hml, hdem⟩ := plainO_eq hok.1.2
    have hi : i = i' := by simpa using hok.2
    subst hi
    rw [hkk, hr, hml] at hk
    simp only [List.map_cons, List.map_nil] at hk
    generalize hvx : ev σ.fr r = vx at hk
    cases vx <;> simp only [kf, kf0, reduceCtorEq] at hk
    obtain ⟨v', hv', he'⟩ := Option.map_eq_some_iff.1 hk
    simp only [Prod.mk.injEq] at he'
    obtain ⟨rfl, rfl⟩ := he'
    rw [hml, hdem]
    exact snd_ext hs hd hop hr' hvx hv'
  · -- ldo
    rename_i t x hop hkk
    simp only [Bool.and_eq_true] at hok
    obtain ⟨r, hr, hr'⟩ := okRs1 hok.1.1
    have hdem : ao.dem = none := by simpa using hok.1.2
    rw [hkk, hr] at hk
    simp only [List.map_cons, List.map_nil] at hk
    generalize hvx : ev σ.fr r = vx at hk
    cases vx <;> simp only [kf, kf0, reduceCtorEq] at hk
    rw [hdem]
    split at hk
    · rename_i hml
      rw [hml] at hk ⊢
      obtain ⟨cells, hc, hk⟩ := Option.bind_eq_some_iff.1 hk
      split at hk
      · rename_i hbk
        obtain ⟨y, hy, hk⟩ := Option.bind_eq_some_iff.1 hk
        split at hk
        · simp only [Option.some.injEq, Prod.mk.injEq] at hk
          obtain ⟨rfl, rfl⟩ := hk
          exact snd_ldo hs hd hop hr' hok.2 hvx hc hbk hy
        · simp only [Option.some.injEq, Prod.mk.injEq] at hk
          obtain ⟨rfl, rfl⟩ := hk
          exact snd_ldf hs hd hop hr' hok.2 hvx hc hy
        · cases hk
      · cases hk
    · cases hk
  · -- sto
    rename_i t x y hop hkk
    simp only [Bool.and_eq_true] at hok
    obtain ⟨⟨⟨h1, h2⟩, h3⟩, h4⟩ := hok
    obtain ⟨rx, ry, hr, hx, hy⟩ := okRs2 h1
    have hdem : (∃ s, ry = .t s ∧ ao.dem = some s) ∨ (∃ v, ry = .c v ∧ ao.dem = none) := by
      unfold okArgs1 at h2
      rw [hr] at h2
      cases ry with
      | t s => exact .inl ⟨s, rfl, by simpa using h2⟩
      | c v => exact .inr ⟨v, rfl, by simpa using h2⟩
    have hdn : o.dst = none := by rw [← hdst]; simpa using h3
    have hsz : sizeOf' P t = some 1 := by simpa using h4
    rw [hkk, hr] at hk
    simp only [List.map_cons, List.map_nil] at hk
    generalize hvx : ev σ.fr rx = vx at hk
    generalize hvy : ev σ.fr ry = vy at hk
    cases vx <;> simp only [kf, kf0, reduceCtorEq] at hk
    rw [hdn]
    split at hk
    · rename_i hml
      rw [hml] at hk ⊢
      obtain ⟨cells, hc, hk⟩ := Option.bind_eq_some_iff.1 hk
      split at hk
      · rename_i hbk
        split at hk
        · simp only [Option.some.injEq, Prod.mk.injEq] at hk
          obtain ⟨rfl, rfl⟩ := hk
          exact snd_sto hs hop hdn hx hy hsz hdem hvx hc hbk.1 hbk.2 hvy
        · cases hk
      · cases hk
    · cases hk
  · -- cvi
    rename_i src dst x k hop hkk
    simp only [Bool.and_eq_true] at hok
    obtain ⟨⟨⟨h1, h2⟩, h3⟩, h4⟩ := hok
    obtain ⟨r, hr, hr'⟩ := okRs1 h1
    obtain ⟨hml, hdem⟩ := plainO_eq h2
    rw [hkk, hr, hml] at hk
    simp only [List.map_cons, List.map_nil] at hk
    generalize hvx : ev σ.fr r = vx at hk
    cases vx <;> simp only [kf, kf0, reduceCtorEq, Option.some.injEq, Prod.mk.injEq] at hk
    obtain ⟨rfl, rfl⟩ := hk
    rw [hml, hdem]
    exact snd_cvi hs hd hop h3 h4 hr' hvx
  · -- s2b
    rename_i src dst x hop hkk
    simp only [Bool.and_eq_true] at hok
    obtain ⟨⟨⟨h1, h2⟩, h3⟩, h4⟩ := hok
    obtain ⟨r, hr, hr'⟩ := okRs1 h1
    have hdem : ao.dem = none := by simpa using h2
    rw [hkk, hr] at hk
    simp only [List.map_cons, List.map_nil] at hk
    generalize hvx : ev σ.fr r = vx at hk
    cases vx <;> simp only [kf, kf0, reduceCtorEq] at hk
    rw [hdem]
    split at hk
    · rename_i hml
      rw [hml.1] at hk ⊢
      simp only [Option.some.injEq, Prod.mk.injEq] at hk
      obtain ⟨rfl, rfl⟩ := hk
      exact snd_s2b hs hd hop hr' h3 h4 hvx
    · cases hk
  · -- b2s
    rename_i src dst x hop hkk
    simp only [Bool.and_eq_true] at hok
    obtain ⟨⟨⟨h1, h2⟩, h3⟩, h4⟩ := hok
    obtain ⟨r, hr, hr'⟩ := okRs1 h1
    have hdem : ao.dem = none := by simpa using h2
    rw [hkk, hr] at hk
    simp only [List.map_cons, List.map_nil] at hk
    generalize hvx : ev σ.fr r = vx at hk
    cases vx <;> simp only [kf, kf0, reduceCtorEq] at hk
    · rw [hdem]
      split at hk
      · rename_i hz
        subst hz
        obtain ⟨s, hs1, he⟩ := Option.map_eq_some_iff.1 hk
        simp only [Prod.mk.injEq] at he
        obtain ⟨rfl, rfl⟩ := he
        rw [wrm_rdm0]
        exact snd_b2s hs hd hop hr' h3 h4 hvx hs1
      · cases hk
    · rw [hdem]
      split at hk
      · rename_i hz
        obtain ⟨hml, rfl⟩ := hz
        obtain ⟨l, hl, hk⟩ := Option.bind_eq_some_iff.1 hk
        obtain ⟨s, hs1, he⟩ := Option.map_eq_some_iff.1 hk
        simp only [Prod.mk.injEq] at he
        obtain ⟨rfl, rfl⟩ := he
        rw [wrm_rdm0]
        rw [hml] at hl
        simp only [rowsS, and_self, if_true] at hl
        obtain ⟨cells, hc, hl⟩ := Option.bind_eq_some_iff.1 hl
        exact snd_b2sS hs hd hop hr' h3 h4 hvx hc hl hs1
      · cases hk
  · -- mkl
    rename_i t l c z zero bytes hop hkk
    simp only [Bool.and_eq_true] at hok
    obtain ⟨⟨h1, h2⟩, h3⟩ := hok
    obtain ⟨rx, ry, hr, hx, hy⟩ := okRs2 h1
    have hdem : ao.dem = none := by simpa using h2
    split at h3
    · rename_i e hu
      simp only [Bool.and_eq_true] at h3
      obtain ⟨⟨h4, h5⟩, h6⟩ := h3
      have hz : sizeOf' P e = some z := by simpa using h4
      split at h6
      · rename_i i hi
        have hb : i.bytes = bytes := by simpa using h6
        rw [hkk, hr] at hk
        simp only [List.map_cons, List.map_nil] at hk
        generalize hvx : ev σ.fr rx = vx at hk
        generalize hvy : ev σ.fr ry = vy at hk
        cases vx <;> cases vy <;> simp only [kf, kf0, reduceCtorEq] at hk
        rw [hdem]
        split at hk
        · rename_i hc
          obtain ⟨hml, rfl, rfl, c1, c2, c3, c4, c5, c6⟩ := hc
          rw [hml] at hk ⊢
          simp only [Option.some.injEq, Prod.mk.injEq] at hk
          obtain ⟨rfl, rfl⟩ := hk
          exact snd_mkl hs hd hop hx hy hu hz h5 hi hb hvx hvy c1 c2 c3 c4 c5 c6
        · cases hk
      · cases h6
    · cases h3
  · -- appS
    rename_i xs ts str z bytes hop hkk
    simp only [Bool.and_eq_true] at hok
    obtain ⟨⟨⟨h1, h2⟩, h3⟩, h5⟩ := hok
    obtain ⟨x, y, rfl⟩ : ∃ x y, xs = #[x, y] := by
      have : xs.size = 2 := by simpa using h3
      exact arr_two this
    obtain ⟨rx, ry, hr, hx, hy⟩ := okRs2 (x := x) (y := y) (by simpa using h1)
    have hdem : ao.dem = none := by simpa using h2
    split at h5
    · rename_i t u hts
      have hts' : ts = #[t, u] := by
        apply Array.ext'
        simpa using hts
      subst hts'
      split at h5
      · rename_i e hu
        simp only [Bool.and_eq_true] at h5
        obtain ⟨h6, h7⟩ := h5
        split at h6
        · rename_i i hi
          simp only [Bool.and_eq_true] at h6
          obtain ⟨⟨h8, h9⟩, h10⟩ := h6
          split at h10
          · rename_i zv hzv
            have hud : ∃ ud, P.underlying u = some ud ∧ ∀ k, ud ≠ .int k := by
              split at h7
              · rename_i hu'; exact ⟨_, hu', fun k e => by cases e⟩
              · rename_i hu'; exact ⟨_, hu', fun k e => by cases e⟩
              · cases h7
            obtain ⟨ud, hud1, hud2⟩ := hud
            rw [hkk, hr] at hk
            simp only [List.map_cons, List.map_nil, kf, kf0] at hk
            rw [hdem]
            split at hk
            · rename_i hml
              rw [hml] at hk ⊢
              obtain ⟨l2, hl2, hk⟩ := Option.bind_eq_some_iff.1 hk
              split at hk
              · rename_i z' hvx
                split at hk
                · rename_i hl0
                  subst hl0
                  simp only [Option.some.injEq, Prod.mk.injEq] at hk
                  obtain ⟨rfl, rfl⟩ := hk
                  obtain ⟨news, n1, n2, n3, n4, n5⟩ := rowsS_vals (P := P) hs hy hl2
                  have hnews : news = [] := List.eq_nil_of_length_eq_zero (by simpa using n1)
                  subst hnews
                  obtain ⟨A, c, e1, e2, e3, _⟩ := hs.rdSl hx hvx
                  have hc0 : c = 0 := by simpa using e3 rfl
                  subst hc0
                  have his : i.size = z := by simpa using h8
                  have hrun := run_app_none (P := P) (w := w) (ty := o.type) (A := A) (c := 0) (n := 0) hu hud1 hud2 hi (by simpa using n4) (by rw [his]; simpa using n5) (Nat.le_refl _)
                  refine plain_fin hs hd (val := .slice A 0 0) ?_ rfl ?_
                  · have e1' : a.eval x = .slice A 0 0 := e1
                    simp [execOp, hop, resolve, invoke, builtin, e1', hrun]
                  · show RepF _ _ (.sl .full z []) _
                    simp only [RepF]
                    exact ⟨A, 0, rfl, Nat.le_refl _, fun _ => rfl, by simp, .inl trivial⟩
                · rename_i hne
                  split at hk
                  · rename_i hc
                    simp only [Option.some.injEq, Prod.mk.injEq] at hk
                    obtain ⟨rfl, rfl⟩ := hk
                    exact snd_appN hs hd hop hx hy hu hud1 hud2 hi (by simpa using h8) (by simpa using h9) hzv (by simpa using h10) hvx hl2 hne hc.1 hc.2.1 hc.2.2
                  · cases hk
              · rename_i so off n z' hvx
                split at hk
                · rename_i hc
                  obtain ⟨rfl, rfl, c3, c4, c5⟩ := hc
                  obtain ⟨cells, hcl, hk⟩ := Option.bind_eq_some_iff.1 hk
                  split at hk
                  · rename_i hb
                    simp only [Option.some.injEq, Prod.mk.injEq] at hk
                    obtain ⟨rfl, rfl⟩ := hk
                    exact snd_appS hs hd hop hx hy hu hud1 hud2 hi (by simpa using h8) (by simpa using h9) hzv (by simpa using h10) hvx hl2 hcl hb.1 hb.2.1 hb.2.2 c3 c4 c5
                  · cases hk
                · cases hk
              · cases hk
            · cases hk
          · cases h10
        · cases h6
      · cases h5
    · cases h5
  · -- clr
    rename_i xs ts z zero hop hkk
    simp only [Bool.and_eq_true] at hok
    obtain ⟨⟨⟨h1, h2⟩, h3⟩, h5⟩ := hok
    obtain ⟨x, rfl⟩ : ∃ x, xs = #[x] := by
      have : xs.size = 1 := by simpa using h3
      exact Array.size_eq_one_iff.1 this
    obtain ⟨r, hr, hr'⟩ := okRs1 (x := x) (by simpa using h1)
    have hdem : ao.dem = none := by simpa using h2
    split at h5
    · rename_i t hts
      have hts' : ts = #[t] := by
        apply Array.ext'
        simpa using hts
      subst hts'
      split at h5
      · rename_i e hu
        simp only [Bool.and_eq_true] at h5
        rw [hkk, hr] at hk
        simp only [List.map_cons, List.map_nil, kf, kf0] at hk
        rw [hdem]
        split at hk
        · rename_i hvx
          simp only [Option.some.injEq, Prod.mk.injEq] at hk
          obtain ⟨rfl, rfl⟩ := hk
          rw [wrm_rdm0]
          exact snd_clr0 hs hd hop hr' hu hvx
        · rename_i so off n z' hvx
          split at hk
          · rename_i hc
            obtain ⟨hml, rfl, c3⟩ := hc
            rw [hml] at hk ⊢
            obtain ⟨cells, hcl, hk⟩ := Option.bind_eq_some_iff.1 hk
            split at hk
            · rename_i hb
              obtain ⟨c', hc', he⟩ := Option.map_eq_some_iff.1 hk
              simp only [Prod.mk.injEq] at he
              obtain ⟨rfl, rfl⟩ := he
              exact snd_clr hs hd hop hr' hu h5.1 c3 hvx hcl hb hc'
            · cases hk
          · cases hk
        · cases hk
      · cases h5
    · cases h5
  · -- slc0
    rename_i t x lo hi mx z hop hkk
    simp only [Bool.and_eq_true] at hok
    obtain ⟨⟨⟨⟨⟨h1, h2⟩, h3⟩, h4⟩, h5⟩, h6⟩ := hok
    have hlo : lo = none := by simpa using h3
    subst hlo
    obtain ⟨r, hr, hr'⟩ := okRs1 h1
    obtain ⟨hml, hdem⟩ := plainO_eq h2
    rw [hkk, hr, hml] at hk
    simp only [List.map_cons, List.map_nil, kf, kf0] at hk
    rw [hml, hdem]
    split at hk
    · rename_i hvx
      simp only [Option.some.injEq, Prod.mk.injEq] at hk
      obtain ⟨rfl, rfl⟩ := hk
      exact snd_slc0 hs hd hop hr' h4 h5 h6 (.inl ⟨_, _, _, hvx⟩)
    · rename_i hvx
      simp only [Option.some.injEq, Prod.mk.injEq] at hk
      obtain ⟨rfl, rfl⟩ := hk
      exact snd_slc0 hs hd hop hr' h4 h5 h6 (.inr ⟨_, _, _, _, hvx⟩)
    · cases hk
  · -- mkm
    rename_i t hop hkk
    simp only [Bool.and_eq_true] at hok
    have hr := okRs0 hok.1
    have hdem : ao.dem = none := by simpa using hok.2
    rw [hkk, hr] at hk
    simp only [List.map_nil, kf, kf0] at hk
    rw [hdem]
    split at hk
    · rename_i hml
      rw [hml] at hk ⊢
      simp only [Option.some.injEq, Prod.mk.injEq] at hk
      obtain ⟨rfl, rfl⟩ := hk
      exact snd_mkm hs hd hop
    · cases hk
  · -- lkp
    rename_i t x y ok' ok agg kk zero hop hkk
    simp only [Bool.and_eq_true] at hok
    obtain ⟨⟨⟨h1, h2⟩, h3⟩, h4⟩ := hok
    obtain ⟨rx, ry, hr, hx, hy⟩ := okRs2 h1
    have hdem : ao.dem = none := by simpa using h2
    have hok' : ok' = ok := by simpa using h3
    subst hok'
    split at h4
    · rename_i key elem hu
      simp only [Bool.and_eq_true] at h4
      rw [hkk, hr] at hk
      simp only [List.map_cons, List.map_nil] at hk
      generalize hvx : ev σ.fr rx = vx at hk
      cases vx <;> simp only [kf, kf0, reduceCtorEq] at hk
      rw [hdem]
      split at hk
      · rename_i hc
        obtain ⟨hml, hky⟩ := hc
        rw [hml] at hk ⊢
        obtain ⟨l, hl, hk⟩ := Option.bind_eq_some_iff.1 hk
        obtain ⟨r, hr2, hk⟩ := Option.bind_eq_some_iff.1 hk
        obtain ⟨v', hv', he⟩ := Option.map_eq_some_iff.1 hk
        simp only [Prod.mk.injEq] at he
        obtain ⟨rfl, rfl⟩ := he
        rw [wrm_rdm0]
        exact snd_lkp hs hd hop hx hy hu h4.1 h4.2 hvx (mapOf_eq hl) hr2 hv' hky
      · cases hk
    · cases h4
  · -- mup
    rename_i t mm k x kk hop hkk
    simp only [Bool.and_eq_true] at hok
    obtain ⟨⟨⟨h1, h2⟩, h3⟩, h4⟩ := hok
    obtain ⟨rm, rx, ry, hr, hm, hx, hy⟩ := okRs3 h1
    have hdem : ao.dem = none := by simpa using h2
    have hdn : o.dst = none := by rw [← hdst]; simpa using h3
    split at h4
    · rename_i key elem hu
      rw [hkk, hr] at hk
      simp only [List.map_cons, List.map_nil] at hk
      generalize hvm : ev σ.fr rm = vm at hk
      cases vm <;> simp only [kf, kf0, reduceCtorEq] at hk
      rw [hdem, hdn]
      split at hk
      · rename_i hc
        obtain ⟨hml, sx, sy⟩ := hc
        rw [hml] at hk ⊢
        obtain ⟨l, hl, hk⟩ := Option.bind_eq_some_iff.1 hk
        obtain ⟨l', hl', he⟩ := Option.map_eq_some_iff.1 hk
        simp only [Prod.mk.injEq] at he
        obtain ⟨rfl, rfl⟩ := he
        exact snd_mup hs hop hdn hm hx hy hu h4 hvm (mapOf_eq hl) hl' sx sy
      · cases hk
    · cases h4
  · -- ixA
    rename_i t x i agg z len hop hkk
    simp only [Bool.and_eq_true] at hok
    obtain ⟨⟨h1, h2⟩, h3⟩ := hok
    obtain ⟨rx, ry, hr, hx, hy⟩ := okRs2 h1
    obtain ⟨hml, hdem⟩ := plainO_eq h2
    split at h3
    · rename_i n e hu
      simp only [Bool.and_eq_true] at h3
      have hn : n = len := by simpa using h3.1
      subst hn
      rw [hkk, hr, hml] at hk
      simp only [List.map_cons, List.map_nil] at hk
      generalize hvx : ev σ.fr rx = vx at hk
      generalize hvy : ev σ.fr ry = vy at hk
      cases vx <;> cases vy <;> simp only [kf, kf0, reduceCtorEq] at hk
      rw [hml, hdem]
      split at hk
      · rename_i hc
        obtain ⟨v', hv', he'⟩ := Option.map_eq_some_iff.1 hk
        simp only [Prod.mk.injEq] at he'
        obtain ⟨rfl, rfl⟩ := he'
        exact snd_ixA hs hd hop hx hy hu h3.2 hvx hvy hc.1 hc.2.1 hc.2.2 hv'
      · cases hk
    · cases h3
  · -- shf
    rename_i op t x y t' l hop hkk
    simp only [Bool.and_eq_true] at hok
    obtain ⟨⟨h1, h2⟩, h3⟩ := hok
    obtain ⟨rx, ry, hr, hx, hy⟩ := okRs2 h1
    obtain ⟨hml, hdem⟩ := plainO_eq h2
    rw [hkk, hr, hml] at hk
    simp only [List.map_cons, List.map_nil, kf, kf0] at hk
    obtain ⟨v', hv', he'⟩ := Option.map_eq_some_iff.1 hk
    simp only [Prod.mk.injEq] at he'
    obtain ⟨rfl, rfl⟩ := he'
    rw [hml, hdem]
    exact snd_shf hs hd hop h3 hx hy hv'
  · -- callR
    rename_i f xs ts f' hop hkk
    simp only [Bool.and_eq_true] at hok
    obtain ⟨⟨h1, h2⟩, h3⟩ := hok
    have hdem : ao.dem = none := by simpa using h2
    have hf : f = f' := by simpa using h3
    subst hf
    rw [hkk] at hk
    simp only [kf] at hk
    rw [hdem]
    exact snd_callR hs hd hG hop h1 hk
  · -- callvR
    rename_i t xs ts hop hkk
    simp only [Bool.and_eq_true] at hok
    obtain ⟨h1, h2⟩ := hok
    have hdem : ao.dem = none := by simpa using h2
    obtain ⟨r, rs, hr, hr1, hr2⟩ := okRsc h1
    rw [hkk, hr] at hk
    simp only [List.map_cons] at hk
    generalize hvx : ev σ.fr r = vx at hk
    cases vx <;> simp only [kf, callvRK, reduceCtorEq] at hk
    rw [hdem]
    exact snd_callvR hs hd hG hop hr1 hr2 hvx hk
  · -- slx
    rename_i t x lo hi z l hop hkk
    simp only [Bool.and_eq_true] at hok
    obtain ⟨⟨⟨h1, h2⟩, h3⟩, h4⟩ := hok
    have hdem : ao.dem = none := by simpa using h2
    have hl : l = lo.isSome := by simpa using (beq_iff_eq.1 h3).symm
    subst hl
    split at h4
    · rename_i e hu
      have hz : sizeOf' P e = some z := by simpa using h4
      rw [hdem]
      cases lo with
      | none =>
        obtain ⟨rx, ry, hr, hx, hy⟩ := okRs2 (x := x) (y := hi) (by simpa using h1)
        rw [hkk, hr] at hk
        simp only [List.map_cons, List.map_nil, Option.isSome_none, kf, kf0] at hk
        split at hk
        · rename_i hml
          rw [hml] at hk ⊢
          obtain ⟨v', hv', he'⟩ := Option.map_eq_some_iff.1 hk
          simp only [Prod.mk.injEq] at he'
          obtain ⟨rfl, rfl⟩ := he'
          exact snd_slx hs hd hop hx hy hu hz (lo' := none) trivial (slxA_int hv').2 hv'
        · cases hk
      | some y =>
        obtain ⟨rx, ry, ry', hr, hx, hy, hy'⟩ := okRs3 (x := x) (y := y) (z := hi) (by simpa using h1)
        rw [hkk, hr] at hk
        simp only [List.map_cons, List.map_nil, Option.isSome_some, kf, kf0] at hk
        split at hk
        · rename_i hml
          rw [hml] at hk ⊢
          obtain ⟨v', hv', he'⟩ := Option.map_eq_some_iff.1 hk
          simp only [Prod.mk.injEq] at he'
          obtain ⟨rfl, rfl⟩ := he'
          obtain ⟨k, n, hint⟩ := (slxA_int hv').1 _ rfl
          exact snd_slx hs hd hop hx hy' hu hz (lo' := some (ev σ.fr ry)) (bval_ev hs hy hint) (slxA_int hv').2 hv'
        · cases hk
    · cases h4
  · -- slm
    rename_i t x lo hi mx hop hkk
    simp only [Bool.and_eq_true] at hok
    obtain ⟨⟨h1, h2⟩, h3⟩ := hok
    obtain ⟨hml, hdem⟩ := plainO_eq h2
    obtain ⟨rx, rs, hr, hx, h1⟩ := okRsc h1
    obtain ⟨ri, rj, rk, hr2, hi', hj', hk'⟩ := okRs3 h1
    split at h3
    · rename_i e hu
      obtain ⟨inf, hinf⟩ := Option.isSome_iff_exists.1 h3
      rw [hkk, hr, hr2, hml] at hk
      simp only [List.map_cons, List.map_nil, kf, kf0] at hk
      split at hk
      · rename_i hb
        simp only [Option.some.injEq, Prod.mk.injEq] at hk
        obtain ⟨rfl, rfl⟩ := hk
        rw [hml, hdem]
        exact snd_slm hs hd hop hx hi' hj' hk' hu hinf hb
      · cases hk
    · cases h3
  · -- sla
    rename_i t x lo hi len hop hkk
    simp only [Bool.and_eq_true] at hok
    obtain ⟨⟨h1, h2⟩, h3⟩ := hok
    have hdem : ao.dem = none := by simpa using h2
    obtain ⟨rx, ri, rj, hr, hx, hi', hj'⟩ := okRs3 h1
    split at h3
    · rename_i n e hu
      simp only [Bool.and_eq_true] at h3
      have hn : n = len := by simpa using h3.1
      subst hn
      have hz : sizeOf' P e = some 1 := by simpa using h3.2
      rw [hkk, hr] at hk
      simp only [List.map_cons, List.map_nil, kf] at hk
      cases hvx : ev σ.fr rx <;> cases hvi : ev σ.fr ri <;> cases hvj : ev σ.fr rj <;> rw [hvx, hvi, hvj] at hk <;> simp only [kf0, reduceCtorEq] at hk
      split at hk
      · rename_i hc
        obtain ⟨hml, q0, q1, q2⟩ := hc
        obtain ⟨cells, q3, q4⟩ := Option.bind_eq_some_iff.1 hk
        split at q4
        · rename_i hc2
          obtain ⟨q5, q6⟩ := hc2
          simp only [Option.some.injEq, Prod.mk.injEq] at q4
          obtain ⟨rfl, rfl⟩ := q4
          rw [hml, hdem]
          rw [hml] at q3
          exact snd_sla hs hd hop hx hi' hj' hu hz hvx hvi hvj q0 q1 q2 q3 q5 q6
        · cases q4
      · cases hk
    · cases h3
  · -- cpy
    rename_i xs ts z hop hkk
    simp only [Bool.and_eq_true] at hok
    obtain ⟨⟨⟨h1, h2⟩, h3⟩, h5⟩ := hok
    obtain ⟨x, y, rfl⟩ : ∃ x y, xs = #[x, y] := by
      have : xs.size = 2 := by simpa using h3
      exact arr_two this
    obtain ⟨rx, ry, hr, hx, hy⟩ := okRs2 (x := x) (y := y) (by simpa using h1)
    have hdem : ao.dem = none := by simpa using h2
    split at h5
    · rename_i t u hts
      have hts' : ts = #[t, u] := by
        apply Array.ext'
        simpa using hts
      subst hts'
      split at h5
      · rename_i e hu
        have hz : sizeOf' P e = some z := by simpa using h5
        rw [hkk, hr] at hk
        simp only [List.map_cons, List.map_nil, kf, kf0] at hk
        rw [hdem]
        split at hk
        · rename_i hml
          rw [hml] at hk ⊢
          obtain ⟨⟨v', sh'⟩, hv', he'⟩ := Option.map_eq_some_iff.1 hk
          simp only [Prod.mk.injEq] at he'
          obtain ⟨rfl, rfl⟩ := he'
          exact snd_cpy hs hd hop hx hy hu hz hv'
        · cases hk
      · cases h5
    · cases h5
  · -- appC
    rename_i xs ts z hop hkk
    simp only [Bool.and_eq_true] at hok
    obtain ⟨⟨⟨h1, h2⟩, h3⟩, h5⟩ := hok
    obtain ⟨x, y, rfl⟩ : ∃ x y, xs = #[x, y] := by
      have : xs.size = 2 := by simpa using h3
      exact arr_two this
    obtain ⟨rx, ry, hr, hx, hy⟩ := okRs2 (x := x) (y := y) (by simpa using h1)
    have hdem : ao.dem = none := by simpa using h2
    split at h5
    · rename_i t u hts
      have hts' : ts = #[t, u] := by
        apply Array.ext'
        simpa using hts
      subst hts'
      split at h5
      · rename_i e hu
        simp only [Bool.and_eq_true] at h5
        have hz : sizeOf' P e = some z := by simpa using h5.1
        have h6 := h5.2
        split at h6
        · rename_i e2 hu2
          rw [hkk, hr] at hk
          simp only [List.map_cons, List.map_nil, kf, kf0] at hk
          rw [hdem]
          split at hk
          · rename_i hml
            rw [hml] at hk ⊢
            obtain ⟨⟨v', sh'⟩, hv', he'⟩ := Option.map_eq_some_iff.1 hk
            simp only [Prod.mk.injEq] at he'
            obtain ⟨rfl, rfl⟩ := he'
            exact snd_appC hs hd hop hx hy hu hu2 hz hv'
          · cases hk
        · cases h6
      · cases h5
    · cases h5
  · cases hok
end
end Go.Av
