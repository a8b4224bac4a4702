/- A part of the proof: Ev5. No conditions. -/
import Derived.Test.YthnablnojflbnaaDoorEv4
import Derived.Laws.Strings
import Derived.Laws.StructEq
set_option linter.unusedSimpArgs false
set_option linter.unusedVariables false
namespace Go.Av
set_option linter.unusedSectionVars false
variable [Gtab]
open Go.RowKit
section
variable {P : Program} {E : Env} {g g' : Gh} {σ σ1 : AS} {a : Act} {w w' : World} {o : Oper} {Q : Exit → Act → World → Prop}

theorem demV_demV (x : AV) : demV (demV x) = demV x := by
  cases x with
  | sl m z l => cases m <;> rfl
  | _ => rfl

theorem plain_fin {x : AV} {val : Value} (hs : Sim E g σ a w) (hd : ∀ d, o.dst = some d → d < E.nt)
    (hrun : (execOp a.eval o).run P w = .ok (.value val) w) (hv : demV x = x) (hx : RepT (cx E g σ w) noOwn x val) : o.wp P a w (Post E (put σ o.dst x)) Q :=
  fin_val hs hrun fun d h => ⟨hd d h, hx.noown hv⟩

theorem snd_mv (hs : Sim E g σ a w) (hd : ∀ d, o.dst = some d → d < E.nt) {x : Operand} {r : AR} (hop : o.op = .move x ∨ o.op = .assign x) (hr : okR x r = true) :
    o.wp P a w (Post E (put σ o.dst (demV (ev σ.fr r)))) Q := by
  refine plain_fin hs hd (val := a.eval x) ?_ (demV_demV _) (hs.ev_ hr)
  rcases hop with h | h <;> simp [execOp, h]

theorem snd_mvo (hs : Sim E g σ a w) (hd : ∀ d, o.dst = some d → d < E.nt) {x : Operand} {s : Nat} (hop : o.op = .move x ∨ o.op = .assign x) (hr : okR x (.t s) = true) :
    o.wp P a w (Post E (put (demS σ (some s)) o.dst (ev σ.fr (.t s)))) Q := by
  have hx : x = .tmp s := by
    unfold okR at hr; split at hr <;> simp_all
  subst hx
  have hrun : (execOp a.eval o).run P w = .ok (.value (a.eval (.tmp s))) w := by rcases hop with h | h <;> simp [execOp, h]
  have hslot := hs.slots s
  by_cases hown : ∃ z l, σ.fr s = .sl .own z l
  · obtain ⟨z, l, hfr⟩ := hown
    cases hdst : o.dst with
    | none =>
      have := fin_val (o := o) (P := P) (Q := Q) (x := ev σ.fr (.t s)) (hs.dem_ (some s)) hrun (fun d h => by rw [hdst] at h; cases h)
      rwa [hdst] at this
    | some d =>
      -- the block changes its owner
      rw [hfr] at hslot
      obtain ⟨h1, A, c, hv, h2⟩ := hslot
      rcases h2 with h2 | ⟨b, arr, ty, h3, h4, h5, h6⟩
      · have := fin_val (o := o) (P := P) (Q := Q) (x := ev σ.fr (.t s)) (hs.dem_ (some s)) hrun (fun d' h => ⟨hd d' h, by
          show RepT (cx E g (demS σ (some s)) w) _ (σ.fr s) (a.tmps.getD s undef)
          rw [hfr]
          exact ⟨h1, A, c, hv, .inl h2⟩⟩)
        rwa [hdst] at this
      · have hsd := hs.dem_ (some s)
        have hfree : freeAt (demS σ (some s)) (.slot s) := by
          intro z' l' e
          simp [demS, upd, hfr, demV] at e
        obtain ⟨hs', hle⟩ := hsd.turn (t' := .slot d) (k' := l.length * z) (arr' := arr) h4 h6 hfree (Nat.le_refl _) (fun _ _ => rfl)
        rw [setRow_self h4] at hs' hle
        have := fin_val (o := o) (P := P) (Q := Q) (x := ev σ.fr (.t s)) hs' hrun (fun d' h => ⟨hd d' h, by
          rw [hdst] at h
          cases h
          show RepT (cx E _ (demS σ (some s)) w) _ (σ.fr s) (a.tmps.getD s undef)
          rw [hfr]
          exact ⟨RepF.le hle h1, A, c, hv, .inr ⟨b, arr, ty, h3, h4, h5, by simp [upd]⟩⟩⟩)
        rwa [hdst] at this
  · have hdm : demV (σ.fr s) = σ.fr s := by
      cases hx : σ.fr s with
      | sl m z l => cases m <;> first | rfl | exact absurd ⟨z, l, hx⟩ hown
      | _ => rfl
    have hds : demS σ (some s) = σ := by
      show { σ with fr := upd σ.fr s (demV (σ.fr s)) } = σ
      have : upd σ.fr s (demV (σ.fr s)) = σ.fr := by
        funext t; unfold upd; split
        · rename_i h; subst h; exact hdm
        · rfl
      rw [this]
    rw [hds]
    exact plain_fin hs hd hrun hdm (RepT.noown hdm hslot)

theorem snd_pick (hs : Sim E g σ a w) (hd : ∀ d, o.dst = some d → d < E.nt) {c x y : Operand} {rc rx ry : AR} (hop : o.op = .pick c x y)
    (hc : okR c rc = true) (hx : okR x rx = true) (hy : okR y ry = true) {b : Bool} (hb : ev σ.fr rc = .bool b) :
    o.wp P a w (Post E (put σ o.dst (demV (if b then ev σ.fr rx else ev σ.fr ry)))) Q := by
  have h1 := hs.rdBool hc hb
  refine plain_fin hs hd (val := if b then a.eval x else a.eval y) ?_ (demV_demV _) ?_
  · simp [execOp, hop, h1, asBool]
  · cases b
    · exact hs.ev_ hy
    · exact hs.ev_ hx

theorem snd_nilc (hs : Sim E g σ a w) (hd : ∀ d, o.dst = some d → d < E.nt) {x : Operand} {r : AR} (hop : o.op = .nilCheck x) (hr : okR x r = true)
    (hp : (∃ i j, ev σ.fr r = .ptr i j) ∨ (∃ i j, ev σ.fr r = .loc i j) ∨ (∃ l, ev σ.fr r = .ip l)) :
    o.wp P a w (Post E (put σ o.dst (ev σ.fr r))) Q := by
  have hdv : demV (ev σ.fr r) = ev σ.fr r := by
    rcases hp with ⟨i, j, h⟩ | ⟨i, j, h⟩ | ⟨l, h⟩ <;> rw [h] <;> rfl
  have hrep := hs.ev_ (ow := noOwn) hr
  rw [hdv] at hrep
  have hval : ∃ ad, a.eval x = .pointer (some ad) := by
    rcases hp with ⟨i, j, h⟩ | ⟨i, j, h⟩ | ⟨l, h⟩ <;> rw [h] at hrep
    · exact ⟨_, hrep.2⟩
    · exact ⟨_, hrep.2⟩
    · obtain ⟨b, n, h1, _⟩ := hrep
      exact ⟨_, h1⟩
  obtain ⟨ad, had⟩ := hval
  refine plain_fin hs hd (val := a.eval x) ?_ hdv hrep
  simp [execOp, hop, had]

theorem bytes_eq {x y : ByteArray} : (x.toList == y.toList) = (x.data.toList == y.data.toList) := by
  simp [ByteArray.toList_eq]

theorem binA_sound {t : TypeId} {op : BinOp} {x y v : AV} {a b : Value} {c : Cx} {ow ow' : Value → Nat → Nat → Prop} (h : binA op x y = some v) (hx : RepT c ow x a) (hy : RepT c ow' y b) (w : World) :
    ∃ val, (binOp op t a b).run P w = .ok val w ∧ RepT c noOwn v val ∧ demV v = v ∧ (∀ X Y, (eqGuard op t X Y a b).run P w = .ok () w) := by
  have hgi : ∀ (X Y : Operand) k i k' j, (eqGuard op t X Y (.int k i) (.int k' j)).run P w = .ok () w := by intros; cases op <;> rfl
  have hgs : ∀ (X Y : Operand) i j, (eqGuard op t X Y (.string i) (.string j)).run P w = .ok () w := by intros; cases op <;> rfl
  unfold binA at h
  split at h
  · rename_i k n k' n'
    have ha : a = .int _ _ := hx
    have hb : b = .int _ _ := hy
    subst ha; subst hb
    split at h
    · rename_i hk
      subst hk
      have hgg := fun X Y => hgi X Y k n k n'
      cases op <;> simp only [Option.some.injEq, reduceCtorEq] at h
      case quo =>
        split at h
        · cases h
        · cases h
          rename_i hb
          exact ⟨_, by simp [binOp, Op.intDiv, hb], rfl, rfl, hgg⟩
      case rem =>
        split at h
        · cases h
        · cases h
          rename_i hb
          exact ⟨_, by simp [binOp, Op.intDiv, hb], rfl, rfl, hgg⟩
      case and => subst h; exact ⟨_, by simp [binOp, Op.intBits], rfl, rfl, hgg⟩
      case or => subst h; exact ⟨_, by simp [binOp, Op.intBits], rfl, rfl, hgg⟩
      all_goals
        subst h
        exact ⟨_, by simp [binOp, Op.intArith, Op.intCmp], rfl, rfl, hgg⟩
    · cases h
  · obtain ⟨sa, ha, ha'⟩ : ∃ s, a = .string s ∧ s.data.toList = _ := hx
    obtain ⟨sb, hb, hb'⟩ : ∃ s, b = .string s ∧ s.data.toList = _ := hy
    subst ha; subst hb
    have hgg := fun X Y => hgs X Y sa sb
    cases op <;> simp only [Option.some.injEq, reduceCtorEq] at h
    case add =>
      split at h
      · rename_i hl
        cases h
        have h1 : sa.size = sa.data.toList.length := by simp
        have h2 : sb.size = sb.data.toList.length := by simp
        rw [ha'] at h1
        rw [hb'] at h2
        have hsz : (sa.size : Int) + (sb.size : Int) ≤ 9223372036854775807 := by omega
        refine ⟨.string (sa ++ sb), by simp [binOp, Op.stringOp, hsz], ⟨_, rfl, ?_⟩, rfl, hgg⟩
        rw [← ha', ← hb']
        simp
      · cases h
    all_goals
      subst h
      refine ⟨_, by simp only [binOp, Op.stringOp]; rfl, ?_, rfl, hgg⟩
      simp only [ByteArray.toList_eq, ha', hb']
      rfl
  · cases h

theorem snd_bin (hs : Sim E g σ a w) (hd : ∀ d, o.dst = some d → d < E.nt) {op : BinOp} {t t' : TypeId} {x y : Operand} {rx ry : AR} (hop : o.op = .binOp op t x y t')
    (hx : okR x rx = true) (hy : okR y ry = true) {v : AV} (hv : binA op (ev σ.fr rx) (ev σ.fr ry) = some v) :
    o.wp P a w (Post E (put σ o.dst v)) Q := by
  obtain ⟨_, h1, _⟩ := hs.rdT hx
  obtain ⟨_, h2, _⟩ := hs.rdT hy
  obtain ⟨val, h3, h4, h5, h6⟩ := binA_sound (P := P) (t := t) hv h1 h2 w
  refine plain_fin hs hd (val := val) ?_ h5 h4
  simp [execOp, hop, h6, h3]

theorem snd_beq (hs : Sim E g σ a w) (hd : ∀ d, o.dst = some d → d < E.nt) {op : BinOp} {t t' : TypeId} {x y : Operand} {rx ry : AR} (hop : o.op = .binOp op t x y t') {ne : Bool}
    (hne : (if ne then op == .neq else op == .eql) = true) (ht : P.underlying t = some .bool)
    (hx : okR x rx = true) (hy : okR y ry = true) {b c : Bool} (hb : ev σ.fr rx = .bool b) (hc : ev σ.fr ry = .bool c) :
    o.wp P a w (Post E (put σ o.dst (.bool (if ne then b != c else b == c)))) Q := by
  have h1 := hs.rdBool hx hb
  have h2 := hs.rdBool hy hc
  have hu : ∀ w, (underlying t).run P w = .ok .bool w := run_underlying ht
  have he : ∀ w, (Op.equal t (.bool b) (.bool c)).run P w = .ok (b == c) w := by
    intro w
    have h : ∀ d : Nat, (Op.equalIn (d + 1) t (.bool b) (.bool c)).run P w = .ok (b == c) w := fun d => by
      simp only [Op.equalIn]
      simp [hu]
    exact h 9999
  refine plain_fin hs hd (val := .bool (if ne then b != c else b == c)) ?_ rfl rfl
  cases ne
  · have : op = .eql := by simpa using hne
    subst this
    have hg : (eqGuard .eql t x y (.bool b) (.bool c)).run P w = .ok () w := rfl
    have hb : (binOp .eql t (.bool b) (.bool c)).run P w = .ok (.bool (b == c)) w := by
      simp only [binOp]
      simp [he]
    simp [execOp, hop, h1, h2, hg, hb]
  · have : op = .neq := by simpa using hne
    subst this
    have hg : (eqGuard .neq t x y (.bool b) (.bool c)).run P w = .ok () w := rfl
    have hb : (binOp .neq t (.bool b) (.bool c)).run P w = .ok (.bool (b != c)) w := by
      simp only [binOp]
      simp [he, bne]
    simp [execOp, hop, h1, h2, hg, hb]

theorem run_part_one {e : TypeId} {d : TypeDesc} (hu : P.underlying e = some d) (hd : d = .bool ∨ d = .string ∨ ∃ k, d = .int k) {xs : Array Value} {off : Nat} {v : Value} (hx : xs[off]? = some v) (w : World) : (part e xs off).run P w = .ok v w := by
  rcases hd with rfl | rfl | ⟨k, rfl⟩ <;> simp [part, isAgg, run_underlying hu, hx]
theorem getElem?_of_drop {xs : Array Value} {n : Nat} {v : Value} {r : List Value} (h : xs.toList.drop n = v :: r) : xs[n]? = some v ∧ xs.toList.drop (n + 1) = r := by
  have h1 : (xs.toList.drop n)[0]? = some v := by rw [h]; rfl
  rw [List.getElem?_drop] at h1
  refine ⟨by simpa using h1, ?_⟩
  rw [← List.drop_drop, h]; rfl
theorem eqFields_sound {S : Nat → Nat → Prop} {w0 : World} (d : Nat) (xs ys : Array Value) (w : World) : ∀ (fs : List Field) (n : Nat) (ks : List Nat) (l m : List AV) (r : Bool), fieldsOK P fs n ks = true → RepL (RepF S w0) l (xs.toList.drop n) → RepL (RepF S w0) m (ys.toList.drop n) → eqL ks l m = some r →
    (Op.eqFields (d + 1) xs ys fs).run P w = .ok r w
  | [], n, [], l, m, r, _, hl, hm, h => by
    cases l <;> cases m <;> simp [eqL] at h
    subst h
    simp [Op.eqFields]
  | [], _, _ :: _, _, _, _, h, _, _, _ => by simp [fieldsOK] at h
  | _ :: _, _, [], _, _, _, h, _, _, _ => by simp [fieldsOK] at h
  | f :: fs, n, k :: ks, l, m, r, hf, hl, hm, h => by
    simp only [fieldsOK, Bool.and_eq_true, bne_iff_ne, ne_eq, beq_iff_eq] at hf
    obtain ⟨⟨⟨hn, hoff⟩, hty⟩, hrest⟩ := hf
    cases l with
    | nil => cases m <;> simp [eqL] at h
    | cons x l =>
      cases m with
      | nil => cases x <;> simp [eqL] at h
      | cons y m =>
        cases hxd : xs.toList.drop n with
        | nil => rw [hxd] at hl; exact hl.elim
        | cons a xr =>
          cases hyd : ys.toList.drop n with
          | nil => rw [hyd] at hm; exact hm.elim
          | cons b yr =>
            rw [hxd] at hl
            rw [hyd] at hm
            obtain ⟨xa, xd⟩ := getElem?_of_drop hxd
            obtain ⟨yb, yd⟩ := getElem?_of_drop hyd
            have hl2 := hl.2
            have hm2 := hm.2
            rw [← xd] at hl2
            rw [← yd] at hm2
            have key : ∀ (desc : TypeDesc) (q : Bool), P.underlying f.type = some desc → (desc = .bool ∨ desc = .string ∨ ∃ k, desc = .int k) → ((Op.equalIn (d + 1) f.type a b).run P w = .ok q w) →
                ∀ r', eqL ks l m = some r' → r = (q && r') → (Op.eqFields (d + 1) xs ys (f :: fs)).run P w = .ok r w := by
              intro desc q hu hd he r' hr' hrr
              have ih := eqFields_sound d xs ys w fs (n + 1) ks l m r' hrest hl2 hm2 hr'
              have p1 := run_part_one hu hd (off := f.offset) (by rw [hoff]; exact xa) w
              have p2 := run_part_one hu hd (off := f.offset) (by rw [hoff]; exact yb) w
              simp only [Op.eqFields, hn, ne_eq, not_false_eq_true, if_true, Sem.run_bind, p1, p2, he, Result.andThen_ok]
              cases q
              · simp [hrr]
              · simpa [hrr] using ih
            split at hty
            · rename_i kk hu
              cases x <;> cases y <;> simp only [eqL, reduceCtorEq] at h
              split at h
              · rename_i hk
                subst hk
                obtain ⟨r', hr', rfl⟩ := Option.map_eq_some_iff.1 h
                have ha := hl.1
                have hb := hm.1
                simp only [RepF] at ha hb
                subst ha; subst hb
                exact key _ _ hu (.inr (.inr ⟨_, rfl⟩)) (run_equalIn_int w d f.type _ kk _ _ hu) r' hr' rfl
              · cases h
            · rename_i hu
              cases x <;> cases y <;> simp only [eqL, reduceCtorEq] at h
              obtain ⟨r', hr', rfl⟩ := Option.map_eq_some_iff.1 h
              have ha := hl.1
              have hb := hm.1
              simp only [RepF] at ha hb
              subst ha; subst hb
              exact key _ _ hu (.inl rfl) (run_equalIn_bool' w d f.type _ _ hu) r' hr' rfl
            · rename_i hu
              cases x <;> cases y <;> simp only [eqL, reduceCtorEq] at h
              obtain ⟨r', hr', rfl⟩ := Option.map_eq_some_iff.1 h
              have ha := hl.1
              have hb := hm.1
              simp only [RepF] at ha hb
              obtain ⟨sa, ha, ha'⟩ := ha
              obtain ⟨sb, hb, hb'⟩ := hb
              subst ha; subst hb
              refine key _ _ hu (.inr (.inl rfl)) (run_equalIn_string w d f.type _ _ hu) r' hr' ?_
              rw [bytes_eq, ha', hb']
            · cases hty

theorem snd_seq (hs : Sim E g σ a w) (hd : ∀ d, o.dst = some d → d < E.nt) {op : BinOp} {t t' : TypeId} {x y : Operand} {rx ry : AR} (hop : o.op = .binOp op t x y t') {ne : Bool} {fs : Array Field} {ks : List Nat}
    (hne : (if ne then op == .neq else op == .eql) = true) (ht : P.underlying t = some (.struct fs)) (h1 : P.stoodInHeld t = false) (h2 : P.eqGuardType P.depth t = false) (hf : fieldsOK P fs.toList 0 ks = true)
    (hx : okR x rx = true) (hy : okR y ry = true) {l m : List AV} (hl : ev σ.fr rx = .agg l) (hm : ev σ.fr ry = .agg m) {r : Bool} (hr : eqL ks l m = some r) :
    o.wp P a w (Post E (put σ o.dst (.bool (if ne then !r else r)))) Q := by
  obtain ⟨_, r1, _⟩ := hs.rdT hx
  obtain ⟨_, r2, _⟩ := hs.rdT hy
  rw [hl] at r1
  rw [hm] at r2
  obtain ⟨xs, e1, q1⟩ := r1
  obtain ⟨ys, e2, q2⟩ := r2
  have hfs : P.fieldsOf t = fs := by simp [Program.fieldsOf, ht]
  have he : (Op.equalIn 10000 t (.agg xs) (.agg ys)).run P w = .ok r w := by
    rw [run_equalIn_struct w 9999 t xs ys (by rw [hfs]; exact ht) h1, hfs]
    exact eqFields_sound 9998 xs ys w fs.toList 0 ks l m r hf (by simpa using q1) (by simpa using q2) hr
  refine plain_fin hs hd (val := .bool (if ne then !r else r)) ?_ rfl rfl
  cases ne
  · have : op = .eql := by simpa using hne
    subst this
    have hg := run_eqGuard_agg (P := P) w .eql t x y xs ys h2
    have hb := run_eql_struct (P := P) w t xs ys
    rw [he] at hb
    simp [execOp, hop, e1, e2, hg, hb]
  · have : op = .neq := by simpa using hne
    subst this
    have hg := run_eqGuard_agg (P := P) w .neq t x y xs ys h2
    have hb := run_neq_struct (P := P) w t xs ys
    rw [he] at hb
    simp [execOp, hop, e1, e2, hg, hb]

theorem snd_shf (hs : Sim E g σ a w) (hd : ∀ d, o.dst = some d → d < E.nt) {op : BinOp} {t t' : TypeId} {x y : Operand} {rx ry : AR} (hop : o.op = .binOp op t x y t') {l : Bool}
    (hl : (if l then op == .shl else op == .shr) = true) (hx : okR x rx = true) (hy : okR y ry = true) {v : AV} (hv : shA l (ev σ.fr rx) (ev σ.fr ry) = some v) :
    o.wp P a w (Post E (put σ o.dst v)) Q := by
  generalize hvx : ev σ.fr rx = vx at hv
  generalize hvy : ev σ.fr ry = vy at hv
  unfold shA at hv
  split at hv
  · rename_i k n k' m
    have h1 := hs.rdNat hx hvx
    have h2 := hs.rdNat hy hvy
    split at hv
    · rename_i h0
      have h0' : ¬ m < 0 := by omega
      cases l
      · simp only [Bool.false_eq_true, if_false, Option.some.injEq] at hv
        subst hv
        have : op = .shr := by simpa using hl
        subst this
        refine plain_fin hs hd (val := .int k (n.fdiv (2 ^ (min m.toNat k.bits)))) ?_ rfl rfl
        have hg : (eqGuard .shr t x y (Value.int k n) (Value.int k' m)).run P w = .ok () w := rfl
        simp [execOp, hop, h1, h2, hg, binOp, Op.shift, h0']
      · simp only [if_true, Option.some.injEq] at hv
        subst hv
        have : op = .shl := by simpa using hl
        subst this
        refine plain_fin hs hd (val := .int k (k.wrap (n * 2 ^ (min m.toNat k.bits)))) ?_ rfl rfl
        have hg : (eqGuard .shl t x y (Value.int k n) (Value.int k' m)).run P w = .ok () w := rfl
        simp [execOp, hop, h1, h2, hg, binOp, Op.shift, h0']
    · cases hv
  · cases hv

theorem snd_cvi (hs : Sim E g σ a w) (hd : ∀ d, o.dst = some d → d < E.nt) {src dst : TypeId} {x : Operand} {rx : AR} (hop : o.op = .convert src dst x) {k k' : IntKind}
    (h1 : (P.underlying src).isSome = true) (h2 : isIntT P dst k = true) (hx : okR x rx = true) {n : Int} (hv : ev σ.fr rx = .int k' n) :
    o.wp P a w (Post E (put σ o.dst (.int k (k.wrap n)))) Q := by
  have e1 := hs.rdNat hx hv
  obtain ⟨u, hu⟩ := Option.isSome_iff_exists.1 h1
  have hd2 : P.underlying dst = some (.int k) := by
    unfold isIntT at h2
    split at h2
    · rename_i hq; rw [hq]; simp at h2; rw [h2]
    · cases h2
  refine plain_fin hs hd (val := .int k (k.wrap n)) ?_ rfl rfl
  simp [execOp, hop, e1, convert, run_underlying hu, run_underlying hd2, Conv.intToInt]

theorem snd_neg (hs : Sim E g σ a w) (hd : ∀ d, o.dst = some d → d < E.nt) {t : TypeId} {x : Operand} {rx : AR} (hop : o.op = .unOp .neg t x)
    (hx : okR x rx = true) {k : IntKind} {n : Int} (hv : ev σ.fr rx = .int k n) :
    o.wp P a w (Post E (put σ o.dst (.int k (k.wrap (0 - n))))) Q := by
  have h1 := hs.rdNat hx hv
  refine plain_fin hs hd (val := .int k (k.wrap (0 - n))) ?_ rfl rfl
  simp [execOp, hop, h1, Op.unary, Op.intArith]

theorem snd_not (hs : Sim E g σ a w) (hd : ∀ d, o.dst = some d → d < E.nt) {t : TypeId} {x : Operand} {rx : AR} (hop : o.op = .unOp .not t x)
    (hx : okR x rx = true) {b : Bool} (hv : ev σ.fr rx = .bool b) :
    o.wp P a w (Post E (put σ o.dst (.bool !b))) Q := by
  have h1 := hs.rdBool hx hv
  refine plain_fin hs hd (val := .bool !b) ?_ rfl rfl
  simp [execOp, hop, h1, Op.unary]

theorem snd_lenS (hs : Sim E g σ a w) (hd : ∀ d, o.dst = some d → d < E.nt) {x : Operand} {r : AR} {t e : TypeId} {ts : Array TypeId} (hop : o.op = .call { callee := .builtin .len, args := #[x], argTypes := ts })
    (hx : okR x r = true) (hts : ts[0]? = some t) (ht : P.underlying t = some (.slice e)) {m : Own} {z : Nat} {l : List (List AV)} (hv : ev σ.fr r = .sl m z l) :
    o.wp P a w (Post E (put σ o.dst (.int .i64 (l.length : Int)))) Q := by
  obtain ⟨A, c, h1, _⟩ := hs.rdSl hx hv
  refine plain_fin hs hd (val := .int .i64 (l.length : Int)) ?_ rfl rfl
  simp [execOp, hop, resolve, invoke, builtin, h1, Builtin.len_, hts, run_underlying ht, goInt]

theorem snd_lenT (hs : Sim E g σ a w) (hd : ∀ d, o.dst = some d → d < E.nt) {x : Operand} {r : AR} {t : TypeId} {ts : Array TypeId} (hop : o.op = .call { callee := .builtin .len, args := #[x], argTypes := ts })
    (hx : okR x r = true) (hts : ts[0]? = some t) (ht : P.underlying t = some .string) {s : List UInt8} (hv : ev σ.fr r = .str s) :
    o.wp P a w (Post E (put σ o.dst (.int .i64 (s.length : Int)))) Q := by
  obtain ⟨b, h1, h2⟩ := hs.rdStr hx hv
  have hsz : b.size = s.length := by rw [← h2]; simp
  refine plain_fin hs hd (val := .int .i64 (s.length : Int)) ?_ rfl rfl
  simp [execOp, hop, resolve, invoke, builtin, h1, Builtin.len_, hts, run_underlying ht, goInt, hsz]

theorem snd_mm (hs : Sim E g σ a w) (hd : ∀ d, o.dst = some d → d < E.nt) {isMax : Bool} {x y : Operand} {rx ry : AR} {ts : Array TypeId} (hop : o.op = .call { callee := .builtin (if isMax then .max else .min), args := #[x, y], argTypes := ts })
    (hx : okR x rx = true) (hy : okR y ry = true) {k : IntKind} {n n' : Int} (h1 : ev σ.fr rx = .int k n) (h2 : ev σ.fr ry = .int k n') :
    o.wp P a w (Post E (put σ o.dst (.int k (if isMax then (if n < n' then n' else n) else (if n' < n then n' else n))))) Q := by
  have e1 := hs.rdNat hx h1
  have e2 := hs.rdNat hy h2
  refine plain_fin hs hd (val := .int k (if isMax then (if n < n' then n' else n) else (if n' < n then n' else n))) ?_ rfl rfl
  cases isMax
  · simp [execOp, hop, resolve, invoke, builtin, e1, e2, Builtin.min_, Builtin.min2]
  · simp [execOp, hop, resolve, invoke, builtin, e1, e2, Builtin.max_, Builtin.max2]

theorem add_none (b n k : Nat) : (⟨b, n, none⟩ : Addr).add k = ⟨b, n + k, none⟩ := by
  unfold Addr.add; split <;> simp_all

theorem snd_fa (hs : Sim E g σ a w) (hd : ∀ d, o.dst = some d → d < E.nt) {t : TypeId} {x : Operand} {r : AR} {fi : Nat} (hop : o.op = .fieldAddr t x fi)
    (hx : okR x r = true) {fs : Array Field} {f : Field} {n : Nat} (ht : P.underlying t = some (.struct fs)) (hf : fs[fi]? = some f) (hn : sizeOf' P f.type = some n) (h0 : n ≠ 0) {v v' : AV}
    (hv : ev σ.fr r = v) (hv' : (∃ s k, v = .loc s k ∧ v' = .loc s (k + f.offset)) ∨ (∃ s k, v = .ptr s k ∧ v' = .ptr s (k + f.offset)) ∨ (∃ l, v = .ip l ∧ v' = .ip (l.drop f.offset))) :
    o.wp P a w (Post E (put σ o.dst v')) Q := by
  obtain ⟨i, hi, hin⟩ : ∃ i, P.info? f.type = some i ∧ i.size = n := by
    unfold sizeOf' at hn
    cases h : P.info? f.type with
    | none => rw [h] at hn; cases hn
    | some i => rw [h] at hn; exact ⟨i, rfl, by simpa using hn⟩
  have hrd := hs.rd hx hv
  have hrun : ∀ b k, a.eval x = .pointer (some ⟨b, k, none⟩) → (execOp a.eval o).run P w = .ok (.value (.pointer (some ⟨b, k + f.offset, none⟩))) w := by
    intro b k he
    simp [execOp, hop, he, Instr.fieldAt, run_underlying ht, hf, Instr.sureAddr, fieldPlace, sizeOf, typeInfo, hi, hin, h0, add_none]
  rcases hv' with ⟨s, k, rfl, rfl⟩ | ⟨s, k, rfl, rfl⟩ | ⟨l, rfl, rfl⟩
  · exact plain_fin hs hd (hrun _ _ hrd.2) rfl ⟨hrd.1, rfl⟩
  · exact plain_fin hs hd (hrun _ _ hrd.2) rfl ⟨hrd.1, rfl⟩
  · obtain ⟨b, k, h1, h2⟩ := hrd
    exact plain_fin hs hd (hrun _ _ h1) rfl ⟨b, _, rfl, h2.drop _⟩

theorem size_info {P : Program} {t : TypeId} {n : Nat} (hn : sizeOf' P t = some n) : ∃ i, P.info? t = some i ∧ i.size = n := by
  unfold sizeOf' at hn
  cases h : P.info? t with
  | none => rw [h] at hn; cases hn
  | some i => rw [h] at hn; exact ⟨i, rfl, by simpa using hn⟩

theorem snd_ia (hs : Sim E g σ a w) (hd : ∀ d, o.dst = some d → d < E.nt) {t e : TypeId} {x y : Operand} {rx ry : AR} (hop : o.op = .indexAddr t x y)
    (hx : okR x rx = true) (hy : okR y ry = true) (ht : P.underlying t = some (.slice e)) {z : Nat} (hz : sizeOf' P e = some z)
    {m : Own} {l : List (List AV)} {k : IntKind} {i : Int} {c : List AV} (h1 : ev σ.fr rx = .sl m z l) (h2 : ev σ.fr ry = .int k i) (h0 : 0 ≤ i) (hc : l[i.toNat]? = some c) :
    o.wp P a w (Post E (put σ o.dst (.ip c))) Q := by
  obtain ⟨inf, hi, hin⟩ := size_info hz
  obtain ⟨A, cp, e1, _, _, e5⟩ := hs.rdSl hx h1
  have e2 := hs.rdNat hy h2
  have hlt : i.toNat < l.length := (List.getElem?_eq_some_iff.1 hc).1
  rcases e5 with e5 | ⟨b, n, rfl, e6⟩
  · subst e5; simp at hlt
  · obtain ⟨_, e8⟩ := e6.get hc
    refine plain_fin hs hd (val := .pointer (some ⟨b, n + i.toNat * z, none⟩)) ?_ rfl ⟨b, _, rfl, e8⟩
    have hlt' : i < (l.length : Int) := by omega
    simp [execOp, hop, e1, e2, Instr.indexAt, asIntOf, run_underlying ht, h0, hlt', sizeOf, typeInfo, hi, hin, add_none]

theorem snd_iaA (hs : Sim E g σ a w) (hd : ∀ d, o.dst = some d → d < E.nt) {t e : TypeId} {len : Nat} {x y : Operand} {rx ry : AR} (hop : o.op = .indexAddr t x y)
    (hx : okR x rx = true) (hy : okR y ry = true) (ht : P.underlying t = some (.array len e)) {z : Nat} (hz : sizeOf' P e = some z)
    {k : IntKind} {i : Int} {v v' : AV} (h1 : ev σ.fr rx = v) (h2 : ev σ.fr ry = .int k i) (h0 : 0 ≤ i) (hlt : i < len)
    (hv' : (∃ s k, v = .loc s k ∧ v' = .loc s (k + i.toNat * z)) ∨ (∃ s k, v = .ptr s k ∧ v' = .ptr s (k + i.toNat * z)) ∨ (∃ l, v = .ip l ∧ v' = .ip (l.drop (i.toNat * z)))) :
    o.wp P a w (Post E (put σ o.dst v')) Q := by
  obtain ⟨inf, hi, hin⟩ := size_info hz
  have hrd := hs.rd hx h1
  have e2 := hs.rdNat hy h2
  have hrun : ∀ b n, a.eval x = .pointer (some ⟨b, n, none⟩) → (execOp a.eval o).run P w = .ok (.value (.pointer (some ⟨b, n + i.toNat * z, none⟩))) w := by
    intro b n he
    simp [execOp, hop, he, e2, Instr.indexAt, asIntOf, Instr.sureAddr, run_underlying ht, h0, hlt, sizeOf, typeInfo, hi, hin, add_none]
  rcases hv' with ⟨s, n, rfl, rfl⟩ | ⟨s, n, rfl, rfl⟩ | ⟨l, rfl, rfl⟩
  · exact plain_fin hs hd (hrun _ _ hrd.2) rfl ⟨hrd.1, rfl⟩
  · exact plain_fin hs hd (hrun _ _ hrd.2) rfl ⟨hrd.1, rfl⟩
  · obtain ⟨b, n, h1, h2⟩ := hrd
    exact plain_fin hs hd (hrun _ _ h1) rfl ⟨b, _, rfl, h2.drop _⟩

theorem snd_ixs (hs : Sim E g σ a w) (hd : ∀ d, o.dst = some d → d < E.nt) {t : TypeId} {x y : Operand} {rx ry : AR} (hop : o.op = .index t x y)
    (hx : okR x rx = true) (hy : okR y ry = true) (ht : P.underlying t = some .string)
    {s : List UInt8} {k : IntKind} {i : Int} {c : UInt8} (h1 : ev σ.fr rx = .str s) (h2 : ev σ.fr ry = .int k i) (h0 : 0 ≤ i) (hc : s[i.toNat]? = some c) :
    o.wp P a w (Post E (put σ o.dst (.int .u8 (c.toNat : Int)))) Q := by
  obtain ⟨b, e1, e1'⟩ := hs.rdStr hx h1
  have e2 := hs.rdNat hy h2
  have hb : b[i.toNat]? = some c := by
    rw [← e1'] at hc
    obtain ⟨h3, h4⟩ := List.getElem?_eq_some_iff.1 hc
    have h5 : i.toNat < b.size := by simpa using h3
    rw [getElem?_pos b i.toNat h5]
    have h6 : b[i.toNat] = b.data[i.toNat]'(by simpa using h3) := rfl
    rw [h6]
    simpa using h4
  refine plain_fin hs hd (val := .int .u8 (c.toNat : Int)) ?_ rfl rfl
  simp [execOp, hop, e1, e2, Instr.index, asIntOf, run_underlying ht, h0, hb]

theorem snd_ext (hs : Sim E g σ a w) (hd : ∀ d, o.dst = some d → d < E.nt) {x : Operand} {r : AR} {i : Nat} (hop : o.op = .extract x i)
    (hx : okR x r = true) {l : List AV} {v : AV} (h1 : ev σ.fr r = .tup l) (hv : l[i]? = some v) :
    o.wp P a w (Post E (put σ o.dst v)) Q := by
  obtain ⟨vs, e1, e2⟩ := hs.rd hx h1
  obtain ⟨u, hu, hr⟩ := e2.get hv
  have hu' : vs[i]? = some u := by simpa using hu
  have hr' : RepT (cx E g σ w) noOwn v u ∧ demV v = v := by
    cases v with
    | ptr => exact ⟨hr, rfl⟩
    | ss => exact ⟨hr, rfl⟩
    | mp => exact ⟨hr, rfl⟩
    | mapv => simp [RepE, RepF] at hr
    | aggR => simp [RepE, RepF] at hr
    | agg => exact ⟨hr, rfl⟩
    | any => simp [RepE, RepF] at hr
    | undef => simp [RepE, RepF] at hr
    | loc => simp [RepE, RepF] at hr
    | ip => simp [RepE, RepF] at hr
    | fn => simp [RepE, RepF] at hr
    | tup => simp [RepE, RepF] at hr
    | int k n => exact ⟨(RepF.top (c := cx E g σ w) hr).1, rfl⟩
    | bool b => exact ⟨(RepF.top (c := cx E g σ w) hr).1, rfl⟩
    | str s => exact ⟨(RepF.top (c := cx E g σ w) hr).1, rfl⟩
    | nilp => exact ⟨(RepF.top (c := cx E g σ w) hr).1, rfl⟩
    | sl m z l =>
      have := RepF.top (c := cx E g σ w) (ow := noOwn) (x := .sl m z l) hr
      exact ⟨this.1, this.2.1⟩
  refine plain_fin hs hd (val := u) ?_ hr'.2 hr'.1
  simp [execOp, hop, e1, Instr.extract, hu']

end
end Go.Av
