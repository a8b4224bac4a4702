/- A part of the proof: Ev22. No conditions. -/
import Derived.Test.YthnablnojflbnaaDoorEv21
import Derived.Test.YthnablnojflbnaaDoorEv20
set_option linter.unusedSimpArgs false
set_option linter.unusedVariables false
namespace Go.Av
set_option linter.unusedSectionVars false
variable [Gtab]
open Go.RowKit
set_option linter.unusedSimpArgs false
set_option linter.unusedVariables false
section
variable {P : Program}
/-- The same of a function whose code is walked by hand. -/
theorem fun_wp {f : FuncId} {fn : Func} {C : Code} {nargs : Nat} {keep : Bool} {res : List ARes} (hfn : P.funcs[f]? = some fn) (hC : fn.body = some C) (hnt : nargs ≤ fn.ntmps) (hres : okRes P fn.results.toList res = true)
    (hname : (fn.name == "runtime.NumGoroutine") = false) {args : List AV} {sh sh' : List (List AV)} {r : AV} (hlen : args.length = nargs)
    (hwp : ∀ (E : Env) (g : Gh) (a : Act) (w : World), E.nt = fn.ntmps → E.n0 = sh.length → Sim E g (initA args sh) a w →
      C.wp P (fun e a w => (e = .ret ∨ e = .normal) ∧ ∃ σ, Post E σ a w ∧ finA ⟨nargs, keep, .skip, res⟩ sh (some (.ret, σ)) = some (r, sh')) a w) :
    Real P f ∧ SemCall P f args sh r sh' := by
  refine ⟨⟨fn, hfn, by rw [hC]; rfl, hname⟩, ?_⟩
  intro kd β bs S0 O0 w vs hent hargs
  obtain ⟨⟨e1, e2⟩, e3, e4, e5, e6⟩ := hent
  have hsz : vs.size = nargs := by have := hargs.length; simp at this; omega
  let E : Env := { w0 := w, S0 := S0, β0 := β, bs0 := bs, O0 := O0, D0 := fun j => match sh[j]? with | some c => isDead c | none => false, n0 := sh.length, nt := fn.ntmps }
  let g : Gh := { β := β, bs := bs, lam := fun _ => 0, kd := kd }
  have hSS : ∀ b m, S0 b m → SS E g w b m := fun b m hS => .inl ⟨(e3 b m hS).1, hS⟩
  have hle0 : Cx.le (cx0 β bs S0 w sh.length) (cx E g (initA args sh) w) := ⟨fun b m hS => ⟨hSS b m hS, rfl⟩, Nat.le_refl _, fun _ _ => rfl, fun _ _ => rfl, fun s hs => hs.elim⟩
  have hsim : Sim E g (initA args sh) { tmps := vs ++ Array.replicate (fn.ntmps - vs.size) undef, defers := [] } w := by
    refine { size := by show (vs ++ Array.replicate (fn.ntmps - vs.size) undef).size = fn.ntmps; simp; omega, defers := rfl, slots := ?_, shr := ?_, shr0 := fun _ _ => ⟨rfl, rfl⟩, shr1 := ?_, dd := ?_, shrlt := fun i hi => (e2 i hi).1, shrk := fun i hi => (e2 i hi).2, loc := fun s c hc => by simp [initA] at hc, n0 := Nat.le_refl _, s0 := e3, o0 := e4, own0 := ?_, os := rfl, tape := rfl, output := rfl, hsize := Nat.le_refl _, frame := fun _ _ _ _ => rfl, sframe := fun _ _ _ => rfl, gl := e6 }
    · intro t
      have h1 := args_get hargs (fn.ntmps - vs.size) t
      exact RepT.mono hle0 _ _ (fun _ _ _ h => h.elim) h1
    · intro i cells hi hd
      obtain ⟨f1, f2⟩ := e1 i cells hi hd
      exact ⟨f1, f2.mono hle0 rfl (fun _ _ _ _ _ h => h)⟩
    · intro i hi hn
      have hi' : i < sh.length := hi
      have hn' : sh.length ≤ i := hn
      omega
    · intro i hi hd
      have hi' : i < sh.length := hi
      have hd' : (match sh[i]? with | some c => isDead c | none => false) = true := hd
      show sh[i]? = some dead
      rw [List.getElem?_eq_getElem hi'] at hd' ⊢
      rw [isDead_eq.1 hd']
    · intro b t k hk
      rcases Nat.lt_or_ge b w.heap.size with hb | hb
      · exact .inr (e5 b t k hk hb)
      · exact .inl hb
  refine calls_of_wp hfn hC (Code.wp_mono ?_ (hwp E g _ w rfl rfl hsim))
  rintro e a1 w1 ⟨hen, σ, ⟨g1, hs1⟩, h⟩
  unfold finA at h
  split at h
  · cases h
  · rename_i e' σ' hx hex
    simp only [Option.some.injEq, Prod.mk.injEq] at hex
    obtain ⟨_, rfl⟩ := hex
    split at h
    case h_2 => cases h
    rename_i xs hxs
    unfold packA at h
    split at h
    case isFalse => cases h
    rename_i hall
    obtain ⟨hall, hkeep⟩ := hall
    simp only [Option.some.injEq, Prod.mk.injEq] at h
    obtain ⟨hr, hsh'⟩ := h
    have hn0 : sh.length ≤ σ.sh.length := hs1.n0
    have hlen' : sh'.length = if keep then σ.sh.length else sh.length := by
      rw [← hsh']; split
      · rfl
      · simp; omega
    have hshl : sh'.length ≤ σ.sh.length ∧ sh.length ≤ sh'.length := by
      rw [hlen']; split <;> omega
    have hshget : ∀ (i : Nat), i < sh'.length → sh'[i]? = σ.sh[i]? := by
      intro i hi
      rw [← hsh'] at hi ⊢
      split
      · rfl
      · rename_i hk
        rw [if_neg hk] at hi
        rw [List.getElem?_take_of_lt (by simp at hi; omega)]
    have hβ0 : ∀ i, i < E.n0 → E.β0 i < E.w0.heap.size := fun i hi => (e2 i hi).1
    have hD : ∀ (j : Nat) (x : List AV), sh[j]? = some x → isDead x = true → E.D0 j = true := by
      intro j x hj hx
      show (match sh[j]? with | some c => isDead c | none => false) = true
      rw [hj]; exact hx
    obtain ⟨us, hu1, hu2, hu3⟩ := results_sound hs1 (sh0 := sh) (k := keep) (n := sh'.length) hlen' rfl hβ0 hD hres hxs hall
    have hrun := results_run (fn := fn) hu1
    have hm1 : ∀ b m, SS E g1 w1 b m → S1 S0 w w1 (kdF g1.kd g1.β sh'.length) b m := SS.out hs1
    have hfin : ∃ v kd' β' bs', Ending.returned (packV us) = Ending.returned v ∧ After S0 O0 β bs w sh sh' r v kd' β' bs' w1 := by
      refine ⟨_, kdF g1.kd g1.β sh'.length, g1.β, g1.bs, rfl, ?_⟩
      refine { same := fun i hi => hs1.shr0 i hi, len := hshl.2, shok := ⟨fun i cells hi hd => ?_, fun i hi => ?_⟩, rep := ?_, os := hs1.os, tape := hs1.tape, output := hs1.output, size := hs1.hsize, frame := fun b hb hnb ho => hs1.frame b hb hnb ho, sframe := fun b o hS => hs1.sframe b o hS, o0 := fun b k hk => ?_, own0 := fun b t k hk => hs1.own0 b t k (kdF_own.1 hk), new := fun i h1 h2 => ?_, deads := fun i hi => ?_ }
      · have hil := (List.getElem?_eq_some_iff.1 hi).1
        have hi' : σ.sh[i]? = some cells := by rw [← hshget i hil]; exact hi
        obtain ⟨f1, f2, f3⟩ := hs1.shr i cells hi' hd
        refine ⟨by rw [kdF_shr hil]; exact f1, ?_⟩
        have how : ∀ j z v m, OwnAt g1.kd w1 (.cell i j) v z m → OwnAt (kdF g1.kd g1.β sh'.length) w1 (.cell i j) v z m := by
          rintro j z v m ⟨A, c, q1, q2⟩
          refine ⟨A, c, q1, ?_⟩
          rcases q2 with q2 | ⟨b, ar, tt, q3, q4, q5, q6⟩
          · exact .inl q2
          · exact .inr ⟨b, ar, tt, q3, q4, q5, kdF_own.2 q6⟩
        refine ⟨fun hbk => ?_, ?_⟩
        · obtain ⟨arr, ty, fz, q1, q2, q3, q4⟩ := f2 hbk
          refine ⟨arr, ty, fz, q1, q2, q3, fun j x hx => ?_⟩
          obtain ⟨v, q5, q6⟩ := q4 j x hx
          refine ⟨v, q5, ?_⟩
          by_cases hk : keep = true
          · have hln : sh'.length = σ.sh.length := by rw [hlen', if_pos hk]
            have q7 := (RepC'_noloc (c := cx E g1 σ w1)).2 q6
            refine RepC'.mono (c := (cx E g1 σ w1).noloc) (c' := cx0 g1.β g1.bs (S1 S0 w w1 (kdF g1.kd g1.β sh'.length)) w1 sh'.length) ⟨fun b m hS => ⟨hm1 b m hS, rfl⟩, by show σ.sh.length ≤ sh'.length; omega, fun _ _ => rfl, fun _ _ => rfl, fun s hs => hs.elim⟩ _ _ (fun z l _ => how _ _ _ _) q7
          · have hall2 : ((σ.sh.take sh.length).all fun c => c.all (refLt sh.length)) = true := by
              rcases hkeep with hk' | hk'
              · exact absurd hk' hk
              · exact hk'
            have hln : sh'.length = sh.length := by rw [hlen', if_neg hk]
            refine refLt_mono (c := cx E g1 σ w1) (n := sh.length) (fun b m hS => ⟨hm1 b m hS, rfl⟩) rfl rfl hln ?_ (fun z l _ => how _ _ _ _) q6
            rw [List.all_eq_true] at hall2
            have h8 := hall2 cells (List.mem_iff_getElem?.2 ⟨i, by rw [List.getElem?_take_of_lt (by omega)]; exact hi'⟩)
            rw [List.all_eq_true] at h8
            exact h8 x (List.mem_iff_getElem?.2 ⟨j, hx⟩)
        · unfold ObjM at f3 ⊢
          split
          · obtain ⟨es, cl, q1, q2⟩ := f3
            exact ⟨es, cl, q1, RepM_mono' (c := cx E g1 σ w1) (c' := cx0 g1.β g1.bs (S1 S0 w w1 (kdF g1.kd g1.β sh'.length)) w1 sh'.length) (fun b m hS => ⟨hm1 b m hS, rfl⟩) q2⟩
          · trivial
      · obtain ⟨j, hj⟩ := hs1.shrk i (by omega)
        exact ⟨hs1.shrlt i (by omega), j, by rw [kdF_shr hi]; exact hj⟩
      · rw [← hr]
        match xs, us, hu2, hu3 with
        | [x], [v], hu2, hu3 => exact RepE.topT (hu3 x (by simp)) hu2.1
        | [], [], hu2, _ => exact ⟨#[], rfl, trivial⟩
        | x :: y :: xs, v :: u :: us, hu2, _ => exact ⟨(v :: u :: us).toArray, rfl, hu2⟩
        | [], _ :: _, hu2, _ => simp [RepL] at hu2
        | _ :: _, [], hu2, _ => simp [RepL] at hu2
        | [_], _ :: _ :: _, hu2, _ => simp [RepL] at hu2
        | _ :: _ :: _, [_], hu2, _ => simp [RepL] at hu2
      · obtain ⟨_, _, t, k', q1, q2⟩ := hs1.o0 b k hk
        exact ⟨t, k', kdF_own.2 q1, q2⟩
      · rcases hs1.shr1 i (by omega) h1 with q | ⟨j, q1, q2, q3, q4⟩
        · exact .inl q
        · have hjl : j < sh.length := q1
          refine .inr ⟨j, q1, q2, fun hjd => ?_, ?_⟩
          · have := hD j _ hjd (isDead_eq.2 rfl)
            rw [q3] at this; cases this
          · rw [hshget j (by omega)]; exact q4
      · have hil := (List.getElem?_eq_some_iff.1 hi).1
        rw [hshget i (by omega)]
        exact hs1.dd i hil (hD i _ hi (isDead_eq.2 rfl))
    rcases hen with rfl | rfl
    · exact ⟨hs1.defers, _, hrun, hfin⟩
    · exact ⟨hs1.defers, _, hrun, hfin⟩
  · cases h

/-- The evaluator with no functions to call. -/
noncomputable abbrev GN : Calls' := Gx (fun _ _ _ => none) (fun _ => none)
theorem execX_sound (hmix : P.follows .mixedOrders = true) {E : Env} {a : Act} {w : World} {σ σ' : AS} {C : Code} {c : ACode} {e : AX} {Q : Exit → Act → World → Prop} (hok : okCode P E.nt C c = true) (hx : execX GN c σ = some (e, σ')) (hp : Post E σ a w)
    (hQ : ∀ a w, Post E σ' a w → Q (xp e) a w) : C.wp P Q a w := by
  obtain ⟨n, hn⟩ := exec_lim c σ _ hx
  have hG : Good P (funA (fun _ _ _ => none) (fun _ => none) n) := funs_sound hmix (fun _ _ _ _ _ h => by cases h) (fun _ _ h => by cases h) n
  exact exec_sound hmix hG n C c σ σ' e a w Q hok (hn n (Nat.le_refl _)) hp hQ

theorem wpl_step {E : Env} {G : Calls'} {ops : Array Oper} {a : Act} {w : World} {σ σ1 : AS} {o : Oper} {ao : AOper} {os : List Oper} {Q : Exit → Act → World → Prop} (hG : Good P G) (hp : Post E σ a w) (hok : okO P E.nt ops o ao = true) (h1 : stepA G ao σ = some σ1)
    (hk : ∀ a w, Post E σ1 a w → wpList P ops Q os a w) : wpList P ops Q (o :: os) a w := by
  obtain ⟨g, hs⟩ := hp
  have hst := step_sound (Q := Q) hG hs hok h1
  unfold wpList
  split
  · rename_i hw
    rw [if_pos hw] at hst
    exact .inl (Oper.wp_mono (fun a w hp => hk a w hp) hst)
  · rename_i hw
    rw [if_neg hw] at hst
    exact hk _ _ hst

/-! ### slices.Clone -/
def cloneA0 (z : Nat) : ACode := .reg false [] [⟨some 2, .mv, [.c (.sl .full z [])], .none, none, none⟩] []
def cloneA3 (z bytes : Nat) (zero : List AV) : ACode := .seq (.reg false [] [
  ⟨some 5, .mks z zero 0 [], [], .none, none, none⟩,
  ⟨some 6, .mv, [.t 0], .none, none, none⟩,
  ⟨some 7, .appS false z bytes, [.t 5, .t 6], .sh, none, none⟩,
  ⟨some 2, .mvo, [.t 7], .none, some 7, none⟩] []) .ret
def isNilEq (P : Program) (x : Operand) : Op → Bool
  | .binOp .eql t y (.const (.slice none 0 0)) _ => (match x, y with | .tmp i, .tmp j => i == j | _, _ => false) && (match P.underlying t with | some (.slice _) => true | _ => false)
  | _ => false
def okClone (P : Program) (f : FuncId) (z bytes : Nat) (zero : List AV) : Bool :=
  match P.funcs[f]? with
  | some fn => (match fn.body with
    | some (.seq c0 (.seq (.seq (.region _ ops false) (.cond (.tmp 4) x .skip)) rest)) =>
      okCode P fn.ntmps c0 (cloneA0 z) && (match ops.toList with
         | [o3, o4] => okO P fn.ntmps ops o3 ⟨some 3, .mv, [.t 0], .none, none, none⟩ && o4.dst == some 4 && o4.guard.isNone && isNilEq P (.tmp 3) o4.op
         | _ => false) && okCode P fn.ntmps x (.seq (cloneA0 z) .ret) && okCode P fn.ntmps rest (cloneA3 z bytes zero)
    | _ => false) && decide (8 ≤ fn.ntmps) && okRes P fn.results.toList [.tmpD 2] && !(fn.name == "runtime.NumGoroutine")
  | none => false

theorem nilEq_sound {E : Env} {g : Gh} {σ : AS} {a : Act} {w : World} {o : Oper} {Q : Exit → Act → World → Prop} {x : Nat} (hs : Sim E g σ a w) (hd : ∀ d, o.dst = some d → d < E.nt) (hop : isNilEq P (.tmp x) o.op = true) {A : Option Addr} {n c : Nat}
    (hx : a.eval (.tmp x) = .slice A n c) : o.wp P a w (Post E (put σ o.dst (.bool A.isNone))) Q := by
  unfold isNilEq at hop
  split at hop
  · rename_i t y t' hop'
    simp only [Bool.and_eq_true] at hop
    obtain ⟨h1, h2⟩ := hop
    cases y <;> simp at h1
    subst h1
    split at h2
    · rename_i e he
      refine plain_fin hs hd (val := .bool A.isNone) ?_ rfl rfl
      have hq : ∀ w, (Op.equal t (.slice A n c) (.slice none 0 0)).run P w = .ok A.isNone w := by
        intro w
        have h : ∀ d : Nat, (Op.equalIn (d + 1) t (.slice A n c) (.slice none 0 0)).run P w = .ok A.isNone w := fun d => by
          simp only [Op.equalIn]
          cases A <;> simp [run_underlying he]
        exact h _
      have hx' : a.eval (.tmp x) = .slice A n c := hx
      have hc : a.eval (.const (.slice none 0 0)) = .slice none 0 0 := rfl
      have hg : (eqGuard .eql t (.tmp x) (.const (.slice none 0 0)) (.slice A n c) (.slice none 0 0)).run P w = .ok () w := rfl
      have hb : (binOp .eql t (.slice A n c) (.slice none 0 0)).run P w = .ok (.bool A.isNone) w := by
        simp only [binOp]
        simp [hq]
      simp [execOp, hop', hx', hc, hg, hb]
    · cases h2
  · cases hop

def cloneR (z : Nat) (l : List (List AV)) (sh : List (List AV)) : AV × List (List AV) :=
  match l with
  | [] => (.sl .full z [], sh)
  | r :: l => (.ss sh.length 0 (l.length + 1) z, sh ++ [(r :: l).flatten])

theorem mks0 (z : Nat) (zero : List AV) : mksA z zero 0 [] [] = some (.sl .full z []) := rfl
theorem appSA_nn (z bytes z' : Nat) (sh : List (List AV)) : appSA z bytes sh (some []) (.sl .full z' []) = some (.sl .full z [], sh) := by simp [appSA]
theorem rowsS_nl (o : Own) (z z' : Nat) (sh : List (List AV)) : rowsS false z sh (.sl o z' []) = some [] := by simp [rowsS, rowsA]
theorem clone_sound (hmix : P.follows .mixedOrders = true) {f : FuncId} {z bytes : Nat} {zero : List AV} (hok : okClone P f z bytes zero = true) (hz : 0 < z) {m : Own} {z' : Nat} {l : List (List AV)} {sh : List (List AV)}
    (hzl : z' = z ∨ l = []) (hb : appOK bytes l.length = true) : Real P f ∧ SemCall P f [.sl m z' l] sh (cloneR z l sh).1 (cloneR z l sh).2 := by
  unfold okClone at hok
  split at hok
  case h_2 => cases hok
  rename_i fn hfn
  simp only [Bool.and_eq_true, decide_eq_true_eq] at hok
  obtain ⟨⟨⟨hbody, hnt⟩, hres⟩, hname⟩ := hok
  split at hbody
  case h_2 => cases hbody
  rename_i c0 id ops x rest hC
  simp only [Bool.and_eq_true] at hbody
  obtain ⟨⟨⟨h0, h1⟩, h2⟩, h3⟩ := hbody
  split at h1
  case h_2 => cases h1
  rename_i o3 o4 hops
  simp only [Bool.and_eq_true] at h1
  obtain ⟨⟨⟨k1, k2⟩, k3⟩, k4⟩ := h1
  have k2' : o4.dst = some 4 := by simpa using k2
  have k3' : o4.guard = none := by simpa using k3
  refine fun_wp (nargs := 1) (keep := true) (res := [.tmpD 2]) hfn hC (by omega) hres (by simpa using hname) rfl ?_
  intro E g a w hEt hn0 hs
  rw [← hEt] at h0 h2 h3 k1
  have hG : Good P (funA (fun _ _ _ => none) (fun _ => none) 0) := fun _ _ _ _ _ h => by cases h
  rw [initA_ST] at hs
  refine wp_seq ?_
  have e0 : execX GN (cloneA0 z) (ST (argl 0 [.sl m z' l]) [] sh) = some (.norm, ST [(0, .sl m z' l), (2, .sl .full z [])] [] sh) := by
    simp only [cloneA0, argl, go_sem, List.set_cons_zero, List.set_cons_succ, List.take_succ_cons, and_false, false_and, and_true, true_and, Nat.reduceAdd, Nat.reduceEqDiff, Nat.reduceLT, ↓reduceIte, decide_eq_true_eq, List.take_nil, beq_self_eq_true, bne_self_eq_false, List.take_zero, List.map_cons, List.map_nil, Int.reduceNeg, Bool.and_true, and_self, Bool.true_and, Bool.and_self, ne_eq, not_true_eq_false, decide_false, decide_true, Bool.false_eq_true, Nat.reduceAdd, Option.map_some, Option.map_none, Option.bind_some, Option.bind_none, List.length_nil, List.length_cons, List.append_nil, Bool.and_false, w64, demV_sl, Int.cast_ofNat_Int, Int.reduceLT, Int.reduceAdd, Int.reduceSub, Int.reduceLE, Int.reduceEq, Int.reduceToNat, Int.toNat_natCast, Nat.reduceSub, Nat.reduceMul, Nat.reduceLeDiff, Nat.zero_add, Int.zero_add, not_false_eq_true, Bool.not_true, Bool.not_false, Bool.false_and, List.cons_append, List.nil_append]
  refine execX_sound hmix h0 e0 ⟨g, hs⟩ fun a1 w1 hp1 => ?_
  refine wp_seq ?_
  refine wp_seq ?_
  refine wp_region_list ?_
  rw [hops]
  have e1 : stepA (funA (fun _ _ _ => none) (fun _ => none) 0) ⟨some 3, .mv, [.t 0], .none, none, none⟩ (ST [(0, .sl m z' l), (2, .sl .full z [])] [] sh) = some (put (ST [(0, .sl m z' l), (2, .sl .full z [])] [] sh) (some 3) (demV (.sl m z' l))) := rfl
  have e1' : put (ST [(0, .sl m z' l), (2, .sl .full z [])] [] sh) (some 3) (demV (.sl m z' l)) = ST [(0, .sl m z' l), (2, .sl .full z []), (3, demV (.sl m z' l))] [] sh := by
    simp only [put, ST, upd_look, setl]
    rfl
  rw [e1'] at e1
  refine wpl_step hG hp1 k1 e1 fun a2 w2 hp2 => ?_
  obtain ⟨g2, hs2⟩ := hp2
  have hr3 : ∃ A c, a2.eval (.tmp 3) = .slice A l.length c ∧ (l = [] ∨ A.isNone = false) := by
    obtain ⟨A, c, q1, _, _, q4⟩ := hs2.rdSl (x := .tmp 3) (r := .t 3) (m := match m with | .own => .no | m => m) (z := z') (l := l) (by simp [okR]) (by cases m <;> rfl)
    refine ⟨A, c, q1, ?_⟩
    rcases q4 with q4 | ⟨b, o, q4, _⟩
    · exact .inl q4
    · exact .inr (by rw [q4]; rfl)
  obtain ⟨A, c, q1, q2⟩ := hr3
  refine wpList_plain k3' fun K hK => ?_
  refine Oper.wp_mono ?_ (nilEq_sound hs2 (fun d hd => by rw [k2'] at hd; injection hd with hd; rw [← hd, hEt]; exact Nat.lt_of_lt_of_le (by decide) hnt) k4 q1)
  intro a3 w3 hp3
  rw [k2'] at hp3
  refine hK _ _ ?_
  show ((Code.cond (.tmp 4) x .skip).wp P _ _ _)
  have hp3' : Post E (ST [(0, .sl m z' l), (2, .sl .full z []), (3, demV (.sl m z' l)), (4, .bool A.isNone)] [] sh) a3 w3 := by
    have : put (ST [(0, .sl m z' l), (2, .sl .full z []), (3, demV (.sl m z' l))] [] sh) (some 4) (.bool A.isNone) = ST [(0, .sl m z' l), (2, .sl .full z []), (3, demV (.sl m z' l)), (4, .bool A.isNone)] [] sh := by
      simp only [put, ST, upd_look, setl]
      rfl
    rwa [← this]
  have hb4 : a3.eval (.tmp 4) = .bool A.isNone := by
    obtain ⟨g3, hs3⟩ := hp3'
    exact hs3.rdBool (r := .t 4) (by simp [okR]) rfl
  refine wp_cond hb4 ?_
  cases hA : A.isNone with
  | true =>
    have hl : l = [] := by
      rcases q2 with q2 | q2
      · exact q2
      · rw [hA] at q2; cases q2
    subst hl
    rw [hA] at hp3'
    have e2 : execX GN (.seq (cloneA0 z) .ret) (ST [(0, .sl m z' []), (2, .sl .full z []), (3, demV (.sl m z' [])), (4, .bool true)] [] sh) = some (.ret, ST [(0, .sl m z' []), (2, .sl .full z []), (3, demV (.sl m z' [])), (4, .bool true)] [] sh) := by
      simp only [cloneA0, go_sem, List.set_cons_zero, List.set_cons_succ, List.take_succ_cons, and_false, false_and, and_true, true_and, Nat.reduceAdd, Nat.reduceEqDiff, Nat.reduceLT, ↓reduceIte, decide_eq_true_eq, List.take_nil, beq_self_eq_true, bne_self_eq_false, List.take_zero, List.map_cons, List.map_nil, Int.reduceNeg, Bool.and_true, and_self, Bool.true_and, Bool.and_self, ne_eq, not_true_eq_false, decide_false, decide_true, Bool.false_eq_true, Nat.reduceAdd, Option.map_some, Option.map_none, Option.bind_some, Option.bind_none, List.length_nil, List.length_cons, List.append_nil, Bool.and_false, w64, demV_sl, Int.cast_ofNat_Int, Int.reduceLT, Int.reduceAdd, Int.reduceSub, Int.reduceLE, Int.reduceEq, Int.reduceToNat, Int.toNat_natCast, Nat.reduceSub, Nat.reduceMul, Nat.reduceLeDiff, Nat.zero_add, Int.zero_add, not_false_eq_true, Bool.not_true, Bool.not_false, Bool.false_and, List.cons_append, List.nil_append]
    refine execX_sound hmix h2 e2 hp3' fun a4 w4 hp4 => ?_
    exact ⟨.inl rfl, _, hp4, by simp [finA, resultsA, resA, frzV, packA, outB, plainB, demV, ST, look, cloneR]⟩
  | false =>
    rw [hA] at hp3'
    refine wp_skip ?_
    cases l with
    | nil =>
      have e2 : execX GN (cloneA3 z bytes zero) (ST [(0, .sl m z' []), (2, .sl .full z []), (3, demV (.sl m z' [])), (4, .bool false)] [] sh) = some (.ret, ST [(0, .sl m z' []), (2, .sl .full z []), (3, demV (.sl m z' [])), (4, .bool false), (5, .sl .full z []), (6, demV (.sl m z' [])), (7, .sl .full z [])] [] sh) := by
        simp only [cloneA3, mks0, appSA_nn, rowsS_nl, go_sem, List.set_cons_zero, List.set_cons_succ, List.take_succ_cons, and_false, false_and, and_true, true_and, Nat.reduceAdd, Nat.reduceEqDiff, Nat.reduceLT, ↓reduceIte, decide_eq_true_eq, List.take_nil, beq_self_eq_true, bne_self_eq_false, List.take_zero, List.map_cons, List.map_nil, Int.reduceNeg, Bool.and_true, and_self, Bool.true_and, Bool.and_self, ne_eq, not_true_eq_false, decide_false, decide_true, Bool.false_eq_true, Nat.reduceAdd, Option.map_some, Option.map_none, Option.bind_some, Option.bind_none, List.length_nil, List.length_cons, List.append_nil, Bool.and_false, w64, demV_sl, Int.cast_ofNat_Int, Int.reduceLT, Int.reduceAdd, Int.reduceSub, Int.reduceLE, Int.reduceEq, Int.reduceToNat, Int.toNat_natCast, Nat.reduceSub, Nat.reduceMul, Nat.reduceLeDiff, Nat.zero_add, Int.zero_add, not_false_eq_true, Bool.not_true, Bool.not_false, Bool.false_and, List.cons_append, List.nil_append]
      refine execX_sound hmix h3 e2 hp3' fun a4 w4 hp4 => ?_
      exact ⟨.inl rfl, _, hp4, by simp [finA, resultsA, resA, frzV, packA, outB, plainB, demV, ST, look, cloneR]⟩
    | cons r l =>
      have hzz : z' = z := by simpa using hzl
      subst hzz
      have hb' : appOK bytes (l.length + 1) = true := hb
      have e2 : execX GN (cloneA3 z' bytes zero) (ST [(0, .sl m z' (r :: l)), (2, .sl .full z' []), (3, demV (.sl m z' (r :: l))), (4, .bool false)] [] sh) = some (.ret, ST [(0, .sl m z' (r :: l)), (2, .ss sh.length 0 (l.length + 1) z'), (3, demV (.sl m z' (r :: l))), (4, .bool false), (5, .sl .full z' []), (6, demV (.sl m z' (r :: l))), (7, .ss sh.length 0 (l.length + 1) z')] [] (sh ++ [(r :: l).flatten])) := by
        cases m <;> simp only [cloneA3, mks0, appSA_nn, rowsS_nl, go_sem, List.set_cons_zero, List.set_cons_succ, List.take_succ_cons, and_false, false_and, and_true, true_and, Nat.reduceAdd, Nat.reduceEqDiff, Nat.reduceLT, ↓reduceIte, decide_eq_true_eq, List.take_nil, beq_self_eq_true, bne_self_eq_false, List.take_zero, List.map_cons, List.map_nil, Int.reduceNeg, Bool.and_true, and_self, Bool.true_and, Bool.and_self, ne_eq, not_true_eq_false, decide_false, decide_true, Bool.false_eq_true, Nat.reduceAdd, Option.map_some, Option.map_none, Option.bind_some, Option.bind_none, List.length_nil, List.length_cons, List.append_nil, Bool.and_false, w64, demV_sl, Int.cast_ofNat_Int, Int.reduceLT, Int.reduceAdd, Int.reduceSub, Int.reduceLE, Int.reduceEq, Int.reduceToNat, Int.toNat_natCast, Nat.reduceSub, Nat.reduceMul, Nat.reduceLeDiff, Nat.zero_add, Int.zero_add, not_false_eq_true, Bool.not_true, Bool.not_false, Bool.false_and, List.cons_append, List.nil_append, hz, hb']
      refine execX_sound hmix h3 e2 hp3' fun a4 w4 hp4 => ?_
      exact ⟨.inl rfl, _, hp4, by simp [finA, resultsA, resA, frzV, packA, outB, plainB, demV, ST, look, cloneR]⟩
end
/-- slices.Clone as a given contract. -/
def cloneB (z bytes : Nat) : List AV → List (List AV) → Option (AV × List (List AV))
  | [.sl _ z' l], sh => if z' = z ∧ appOK bytes l.length = true then some (cloneR z l sh) else none
  | _, _ => none
theorem cloneB_sound {P : Program} (hmix : P.follows .mixedOrders = true) {f : FuncId} {z bytes : Nat} {zero : List AV} (hok : okClone P f z bytes zero = true) (hz : 0 < z) {args : List AV} {sh sh' : List (List AV)} {r : AV}
    (h : cloneB z bytes args sh = some (r, sh')) : Real P f ∧ SemCall P f args sh r sh' := by
  unfold cloneB at h
  split at h
  · rename_i m z' l
    split at h
    · rename_i hc
      simp only [Option.some.injEq] at h
      have := clone_sound (m := m) (sh := sh) hmix hok hz (.inl hc.1) hc.2
      rw [h] at this
      exact this
    · cases h
  · cases h
end Go.Av
