/- A part of the proof: Ev15. No conditions. -/
import Derived.Test.YthnablnojflbnaaDoorEv14
import Derived.LoopN
set_option linter.unusedSimpArgs false
set_option linter.unusedVariables false
namespace Go.Av
set_option linter.unusedSectionVars false
variable [Gtab]
open Go.RowKit

/-- A region that holds what the evaluator has no word for: it gives nothing. -/
def isStuck : List AOper → Bool
  | ⟨_, .mv, [], .none, none, none⟩ :: _ => true
  | _ => false
theorem stuck_none {G : Calls'} {os : List AOper} {σ : AS} (h : isStuck os = true) : runA G os σ = none := by
  unfold isStuck at h
  split at h
  · rfl
  · cases h

def okCode (P : Program) (nt : Nat) : Code → ACode → Bool
  | .skip, .skip => true
  | .label _, .skip => true
  | .region _ ops draw, .reg draw' _ aos _ => isStuck aos || draw == draw' && okOs P nt ops ops.toList aos && (!draw || drawOk ops aos)
  | .seq a b, .seq a' b' => okCode P nt a a' && okCode P nt b b'
  | .cond c x y, .cond r x' y' => okR c r && okCode P nt x x' && okCode P nt y y'
  | .block id a, .block id' a' => id == id' && okCode P nt a a'
  | .loop a, .loop _ a' => okCode P nt a a'
  | .exit id, .exit id' => id == id'
  | .ret, .ret => true
  | _, _ => false

def xp : AX → Exit
  | .norm => .normal
  | .ex i => .exit i
  | .ret => .ret

section
variable {P : Program} {E : Env} {a : Act} {w : World} {G : Calls'}

theorem Post.scrub {σ : AS} (h : Post E σ a w) (al : List Nat) : Post E (Av.scrub al σ) a w := by
  obtain ⟨g, h⟩ := h; exact ⟨g, h.scrub_ al⟩
theorem Post.forget {σ : AS} (h : Post E σ a w) (kl : List Nat) : Post E (Av.forget kl σ) a w := by
  obtain ⟨g, h⟩ := h; exact ⟨g, h.forget_ kl⟩

theorem reg_sound (hmix : P.follows .mixedOrders = true) (hG : Good P G) {id : Nat} {ops : Array Oper} {draw : Bool} {aos : List AOper} (hok : okOs P E.nt ops ops.toList aos = true) (hdr : (!draw || drawOk ops aos) = true)
    {σ σ' : AS} (hp : Post E σ a w) (hr : runA G aos σ = some σ') {Q : Exit → Act → World → Prop} (hQ : ∀ a w, Post E σ' a w → Q .normal a w) : (Code.region id ops draw).wp P Q a w := by
  cases draw with
  | false => exact wp_region_list (list_sound hG hok hp hr hQ)
  | true =>
    have hd : drawOk ops aos = true := by simpa using hdr
    obtain ⟨g, hs⟩ := hp
    have hfalse : ∀ i, (Array.replicate ops.size false).getD i false = false := by
      intro i
      simp only [Array.getD_eq_getD_getElem?, Array.getElem?_replicate]
      split <;> rfl
    refine wp_region_any hmix (draw_sound hG hok hd hr hQ ops.size _ _ _ (by simp) ?_ ?_ ?_)
    · unfold unl
      exact Nat.le_trans (List.length_filter_le _ _) (by simp)
    · intro i hi
      rw [hfalse] at hi; cases hi
    · intro τ hτ
      have hnil : ∀ (l : List AOper) (k : Nat), sel (fun i => (Array.replicate ops.size false).getD i false) k l = [] := by
        intro l
        induction l with
        | nil => intro k; rfl
        | cons o l ih =>
          intro k
          simp only [sel]
          rw [if_neg (by rw [hfalse]; simp)]
          exact ih (k + 1)
      rw [hnil] at hτ
      simp only [runA, Option.some.injEq] at hτ
      subst hτ
      exact ⟨_, hs.drawn _⟩

theorem exec_sound (hmix : P.follows .mixedOrders = true) (hG : Good P G) (n : Nat) : ∀ (C : Code) (c : ACode) (σ σ' : AS) (e : AX) (a : Act) (w : World) (Q : Exit → Act → World → Prop), okCode P E.nt C c = true → execA n G c σ = some (e, σ') → Post E σ a w →
    (∀ a w, Post E σ' a w → Q (xp e) a w) → C.wp P Q a w
  | .skip, .skip, σ, σ', e, a, w, Q, _, hx, hp, hQ => by
    simp only [execA, Option.some.injEq, Prod.mk.injEq] at hx
    obtain ⟨rfl, rfl⟩ := hx
    exact wp_skip (hQ a w hp)
  | .label _, .skip, σ, σ', e, a, w, Q, _, hx, hp, hQ => by
    simp only [execA, Option.some.injEq, Prod.mk.injEq] at hx
    obtain ⟨rfl, rfl⟩ := hx
    exact wp_label (hQ a w hp)
  | .region id ops draw, .reg draw' al aos kill, σ, σ', e, a, w, Q, hok, hx, hp, hQ => by
    simp only [okCode, Bool.and_eq_true, Bool.or_eq_true] at hok
    simp only [execA] at hx
    obtain ⟨σ1, h4, h5⟩ := Option.map_eq_some_iff.1 hx
    have hns : ¬ isStuck aos = true := fun h => by rw [stuck_none h] at h4; cases h4
    obtain ⟨⟨_, h2⟩, h3⟩ := hok.resolve_left hns
    have h3 : (!draw || drawOk ops aos) = true := by simpa using h3
    simp only [Prod.mk.injEq] at h5
    obtain ⟨rfl, rfl⟩ := h5
    exact reg_sound hmix hG h2 h3 (hp.scrub al) h4 (fun a w h => hQ a w (h.forget kill))
  | .seq x y, .seq x' y', σ, σ', e, a, w, Q, hok, hx, hp, hQ => by
    simp only [okCode, Bool.and_eq_true] at hok
    simp only [execA] at hx
    refine wp_seq ?_
    cases h1 : execA n G x' σ with
    | none => rw [h1] at hx; cases hx
    | some r =>
      obtain ⟨e1, σ1⟩ := r
      rw [h1] at hx
      refine exec_sound hmix hG n x x' σ σ1 e1 a w _ hok.1 h1 hp fun a1 w1 hp1 => ?_
      cases e1 with
      | norm => exact exec_sound hmix hG n y y' σ1 σ' e a1 w1 Q hok.2 hx hp1 hQ
      | ex i =>
        simp only [Option.some.injEq, Prod.mk.injEq] at hx
        obtain ⟨rfl, rfl⟩ := hx
        exact hQ _ _ hp1
      | ret =>
        simp only [Option.some.injEq, Prod.mk.injEq] at hx
        obtain ⟨rfl, rfl⟩ := hx
        exact hQ _ _ hp1
  | .cond c x y, .cond r x' y', σ, σ', e, a, w, Q, hok, hx, hp, hQ => by
    simp only [okCode, Bool.and_eq_true] at hok
    obtain ⟨⟨h1, h2⟩, h3⟩ := hok
    simp only [execA] at hx
    obtain ⟨g, hs⟩ := hp
    split at hx
    · rename_i t ht
      have hb := hs.rdBool h1 ht
      refine wp_cond hb ?_
      cases t with
      | true => exact exec_sound hmix hG n x x' σ σ' e a w Q h2 hx ⟨g, hs⟩ hQ
      | false => exact exec_sound hmix hG n y y' σ σ' e a w Q h3 hx ⟨g, hs⟩ hQ
    · cases hx
  | .block id x, .block id' x', σ, σ', e, a, w, Q, hok, hx, hp, hQ => by
    simp only [okCode, Bool.and_eq_true] at hok
    have hid : id = id' := by simpa using hok.1
    subst hid
    simp only [execA] at hx
    refine wp_block ?_
    cases h1 : execA n G x' σ with
    | none => rw [h1] at hx; cases hx
    | some r =>
      obtain ⟨e1, σ1⟩ := r
      rw [h1] at hx
      refine exec_sound hmix hG n x x' σ σ1 e1 a w _ hok.2 h1 hp fun a1 w1 hp1 => ?_
      cases e1 with
      | norm =>
        simp only [Option.some.injEq, Prod.mk.injEq] at hx
        obtain ⟨rfl, rfl⟩ := hx
        exact hQ _ _ hp1
      | ex i =>
        show if i = id then Q .normal a1 w1 else Q (.exit i) a1 w1
        simp only at hx
        split at hx
        · rename_i he
          rw [if_pos he]
          simp only [Option.some.injEq, Prod.mk.injEq] at hx
          obtain ⟨rfl, rfl⟩ := hx
          exact hQ _ _ hp1
        · rename_i he
          rw [if_neg he]
          simp only [Option.some.injEq, Prod.mk.injEq] at hx
          obtain ⟨rfl, rfl⟩ := hx
          exact hQ _ _ hp1
      | ret =>
        simp only [Option.some.injEq, Prod.mk.injEq] at hx
        obtain ⟨rfl, rfl⟩ := hx
        exact hQ _ _ hp1
  | .loop x, .loop kill x', σ, σ', e, a, w, Q, hok, hx, hp, hQ => by
    simp only [okCode] at hok
    simp only [execA] at hx
    refine wp_loop_rounds n ?_
    have key : ∀ m σ a w, iterA (fun σ => execA n G x' (forget kill σ)) m σ = some (e, σ') → Post E σ a w → Code.rounds P x Q m a w := by
      intro m
      induction m with
      | zero => intro σ a w h; simp [iterA] at h
      | succ m ih =>
        intro σ a w h hp
        rw [rounds_succ]
        simp only [iterA] at h
        cases h1 : execA n G x' (forget kill σ) with
        | none => rw [h1] at h; cases h
        | some r =>
          obtain ⟨e1, σ1⟩ := r
          rw [h1] at h
          refine exec_sound hmix hG n x x' (forget kill σ) σ1 e1 a w _ hok h1 (hp.forget kill) fun a1 w1 hp1 => ?_
          cases e1 with
          | norm => exact ih σ1 a1 w1 h hp1
          | ex i =>
            simp only [Option.some.injEq, Prod.mk.injEq] at h
            obtain ⟨rfl, rfl⟩ := h
            exact hQ _ _ hp1
          | ret =>
            simp only [Option.some.injEq, Prod.mk.injEq] at h
            obtain ⟨rfl, rfl⟩ := h
            exact hQ _ _ hp1
    exact key n σ a w hx hp
  | .exit id, .exit id', σ, σ', e, a, w, Q, hok, hx, hp, hQ => by
    simp only [okCode] at hok
    have hid : id = id' := by simpa using hok
    subst hid
    simp only [execA, Option.some.injEq, Prod.mk.injEq] at hx
    obtain ⟨rfl, rfl⟩ := hx
    exact wp_exit (hQ a w hp)
  | .ret, .ret, σ, σ', e, a, w, Q, hok, hx, hp, hQ => by
    simp only [execA, Option.some.injEq, Prod.mk.injEq] at hx
    obtain ⟨rfl, rfl⟩ := hx
    exact wp_ret (hQ a w hp)
end

def okRes (P : Program) : List ResultVar → List ARes → Bool
  | [], [] => true
  | .tmp t :: rs, .tmp t' :: as => t == t' && okRes P rs as
  | .tmp t :: rs, .tmpD t' :: as => t == t' && okRes P rs as
  | .cell s t :: rs, .cell s' agg n :: as => s == s' && sizeIs P t agg n && okRes P rs as
  | _, _ => false

def okFun (P : Program) (f : FuncId) (F : AFun) : Bool :=
  match P.funcs[f]? with
  | some fn => (match fn.body with | some C => okCode P fn.ntmps C F.body | none => false) && decide (F.nargs ≤ fn.ntmps) && okRes P fn.results.toList F.res && !(fn.name == "runtime.NumGoroutine")
  | none => false


end Go.Av
