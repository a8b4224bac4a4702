/- A part of the proof: Cv23. No conditions. -/
import Derived.Test.YthbgidickbhojaaCv22
import Derived.Lib.Overlaps
set_option linter.unusedSimpArgs false
set_option linter.unusedVariables false
namespace Go.Av
open Go.RowKit
set_option linter.unusedSimpArgs false
set_option linter.unusedVariables false
section
variable {P : Program}

/-- A call that turns nothing. -/
theorem After.refl {sh : List (List AV)} {kd : Nat → BK} {β bs : Nat → Nat} {S0 : Nat → Nat → Prop} {O0 : Nat → Option Nat} {w : World} (h : EntOK sh kd β bs S0 O0 w) {r : AV} {v : Value} (hr : RepT (cx0 β bs (S1 S0 w w kd) w sh.length) noOwn r v) :
    After S0 O0 β bs w sh sh r v kd β bs w := by
  obtain ⟨⟨e1, e2⟩, e3, e4, e5⟩ := h
  have hle : Cx.le (cx0 β bs S0 w sh.length) (cx0 β bs (S1 S0 w w kd) w sh.length) := ⟨fun b o hS => ⟨.inl hS, rfl⟩, Nat.le_refl _, fun _ _ => rfl, fun _ _ => rfl, fun s hs => hs.elim⟩
  refine { same := fun _ _ => ⟨rfl, rfl⟩, len := Nat.le_refl _, shok := ⟨fun i cells hi hd => ?_, e2⟩, rep := hr, os := rfl, tape := rfl, output := rfl, size := Nat.le_refl _, frame := fun _ _ _ _ => rfl, sframe := fun _ _ _ => rfl, o0 := fun b k hk => ?_, own0 := fun b t k hk => ?_, new := fun i h1 h2 => by omega, deads := fun _ h => h }
  · obtain ⟨f1, f2⟩ := e1 i cells hi hd
    exact ⟨f1, f2.mono hle rfl (fun _ _ _ _ _ h => h)⟩
  · exact (e4 b k hk).2.2
  · rcases Nat.lt_or_ge b w.heap.size with hb | hb
    · exact .inr (e5 b t k hk hb)
    · exact .inl hb

theorem run_overlaps_far (w : World) (tS tR e : TypeId) (ht : P.underlying tS = some (.slice e)) (size : Nat) (hz : ∀ w, (Go.sizeOf e).run P w = .ok size w)
    (a b : Addr) (la ca lb cb : Nat) (hne : a.block ≠ b.block) (tA tB : TypeId) (kA kB : Nat)
    (hsa : w.shape? a.block = some (tA, kA)) (hkA : kA ≠ 0) (hsb : w.shape? b.block = some (tB, kB)) (hfb : w.frozen? b = false) (hfe : w.frozen? { block := b.block, off := kB } = false) :
    (Extern.SlicesOverlaps.overlaps #[tS, tS] #[tR] #[.slice (some a) la ca, .slice (some b) lb cb]).run P w = .ok (.bool false) w := by
  have hnb : (a.block != b.block) = true := by simpa using hne
  have hnb' : (a.block == b.block) = false := by simpa using hne
  change Sem.run P (α := Value) (do
    let some t := (#[tS, tS] : Array TypeId)[0]? | stuck "slices.overlaps: no parameter types"
    let .slice elem ← underlying t | stuck "slices.overlaps: slice type expected"
    let size ← sizeOf elem
    match (some a : Option Addr), (some b : Option Addr) with
    | some a, some b =>
      if la = 0 ∨ lb = 0 ∨ size = 0 then pure (Value.bool false)
      else if a.block != b.block && (← frozen a) && (← frozen b) then unsupported .addressObserved
      else do
        if a.block != b.block then do
          noView a; noView b
          if ← mayBeOne a b then return Value.bool ((← choose (.extern "sameAddr.stringBytes" 2)) == 1)
        pure (Value.bool (a.block == b.block && a.off < b.off + lb * size && b.off < a.off + la * size))
    | _, _ => pure (Value.bool false)) w = _
  by_cases h0 : la = 0 ∨ lb = 0 ∨ size = 0
  · simp [run_underlying ht, hz, h0]
  · cases kA with
    | zero => exact absurd rfl hkA
    | succ kA =>
      cases hfa : w.frozen? a with
      | true => simp [run_underlying ht, hz, h0, hnb, hnb', frozen, noView, viewAt, mayBeOne, stringish, shape, Sem.run, hsa, hsb, hfa, hfb, hfe]
      | false =>
        cases hfa2 : w.frozen? { block := a.block, off := kA + 1 } <;> simp [run_underlying ht, hz, h0, hnb, hnb', frozen, noView, viewAt, mayBeOne, stringish, shape, Sem.run, hsa, hsb, hfa, hfa2, hfb, hfe]

theorem overlaps_sem {f : FuncId} {fn : Func} (hf : P.funcs[f]? = some fn) (hname : (fn.name == "runtime.NumGoroutine") = false) (hb : fn.body.isNone = true) (hn : Extern.findNext fn = none) {t tr e : TypeId}
    (he : Extern.find fn = some (Extern.SlicesOverlaps.overlaps #[t, t] #[tr])) (ht : P.underlying t = some (.slice e)) {z : Nat} (hz : sizeOf' P e = some z) (hz1 : z ≠ 1)
    {m : Own} {z' : Nat} {c : AV} {r : List AV} {l : List (List AV)} {o off n : Nat} {sh : List (List AV)} {cells : List AV} (ho : sh[o]? = some cells) (hbk : blkB cells = true) :
    SemX P f [.sl m z' ((c :: r) :: l), .ss o off n z] sh (.bool false) sh := by
  intro kd β bs S0 O0 w vs hent hargs
  have hent' := hent
  obtain ⟨⟨e1, e2⟩, e3, e4, e5⟩ := hent
  obtain ⟨xs⟩ := vs
  have hl2 := hargs.length
  simp at hl2
  match xs, hl2 with
  | [u, v], _ =>
    obtain ⟨h1, h2, _⟩ := hargs
    obtain ⟨ho1, cp, rfl, h3, h4, h5⟩ := h2
    have hum := h5 hz1
    have h1' : ∃ A cc, u = .slice A (l.length + 1) cc ∧ ∃ b k, A = some ⟨b, k, none⟩ ∧ RepR S0 w z' ((c :: r) :: l) b k := by
      cases m with
      | own => exact h1.2.elim
      | no =>
        obtain ⟨A, cc, q1, _, _, _, q5⟩ := h1
        rcases q5 with q5 | ⟨b, k, q5, q6⟩
        · cases q5
        · exact ⟨A, cc, q1, b, k, q5, q6⟩
      | full =>
        obtain ⟨A, cc, q1, _, _, _, q5⟩ := h1
        rcases q5 with q5 | ⟨b, k, q5, q6⟩
        · cases q5
        · exact ⟨A, cc, q1, b, k, q5, q6⟩
    obtain ⟨A, cc, rfl, b, k, rfl, hrep⟩ := h1'
    obtain ⟨_, hrc⟩ := hrep.get (i := 0) rfl
    obtain ⟨hS, x, hx, _⟩ := hrc.get (j := 0) rfl
    simp only [Nat.zero_mul, Nat.add_zero] at hS hx
    obtain ⟨hbl, hnb, _⟩ := e3 b k hS
    have hne : b ≠ β o := fun h => hnb o (List.getElem?_eq_some_iff.1 ho).1 h.symm
    have hsa : ∃ tA kA, w.shape? b = some (tA, kA) ∧ kA ≠ 0 := by
      unfold World.cell? at hx
      split at hx
      · rename_i arr ty fz hh
        have hx' : arr[k]? = some x := by simpa using hx
        have hlt := (Array.getElem?_eq_some_iff.1 hx').1
        exact ⟨ty, arr.size, by unfold World.shape?; have hh' : w.heap[b]? = some (.cells arr ty fz) := hh; rw [hh'], by omega⟩
      · cases hx
    obtain ⟨tA, kA, hsa, hkA⟩ := hsa
    obtain ⟨_, hob, _⟩ := e1 o cells ho (blk_dead hbk)
    obtain ⟨arr, ty, fz, q1, q2, q3, q4⟩ := hob hbk
    have hfz := q3.2 hum
    subst hfz
    obtain ⟨inf, hi, hin⟩ := size_info hz
    have hrun := run_overlaps_far (P := P) w t tr e ht z (fun w => by simp [sizeOf, typeInfo, hi, hin]) ⟨b, k, none⟩ ⟨β o, off, none⟩ (l.length + 1) cc n cp hne tA ty kA arr.size hsa hkA (by unfold World.shape?; have q1' : w.heap[β o]? = _ := q1; rw [q1']) (by unfold World.frozen?; have q1' : w.heap[β o]? = _ := q1; simp [q1']) (by unfold World.frozen?; have q1' : w.heap[β o]? = _ := q1; simp [q1'])
    refine ⟨.bool false, w, kd, β, bs, ?_, After.refl hent' rfl⟩
    rw [run_callFunc_extern hf hname hb hn he]
    have : (#[.slice (some ⟨b, k, none⟩) (l.length + 1) cc, .slice (some ⟨β o, off, none⟩) n cp] : Array Value) = ⟨[.slice (some ⟨b, k, none⟩) (l.length + 1) cc, .slice (some ⟨β o, off, none⟩) n cp]⟩ := rfl
    show ((Extern.SlicesOverlaps.overlaps #[t, t] #[tr] ⟨[.slice (some ⟨b, k, none⟩) (l.length + 1) cc, .slice (some ⟨β o, off, none⟩) n cp]⟩).run P w).andThen _ = _
    rw [← this, hrun]
    rfl

/-- slices.overlaps as a given contract. -/
def ovB (f72 z : Nat) : Calls' := fun f args sh => if f = f72 then (match args with
  | [.sl _ _ ((_ :: _) :: _), .ss o _ _ z'] => (match sh[o]? with
    | some cells => if blkB cells = true ∧ z' = z then some (.bool false, sh) else none
    | none => none)
  | _ => none) else none
theorem ovB_sound {f72 : FuncId} {fn : Func} (hf : P.funcs[f72]? = some fn) (hname : (fn.name == "runtime.NumGoroutine") = false) (hb : fn.body.isNone = true) (hn : Extern.findNext fn = none) {t tr e : TypeId}
    (he : Extern.find fn = some (Extern.SlicesOverlaps.overlaps #[t, t] #[tr])) (ht : P.underlying t = some (.slice e)) {z : Nat} (hz : sizeOf' P e = some z) (hz1 : z ≠ 1) : Good P (ovB f72 z) := by
  intro f args sh r sh' h
  unfold ovB at h
  split at h
  · rename_i hff
    subst hff
    split at h
    · split at h
      · rename_i cells hc
        split at h
        · rename_i hq
          obtain ⟨hbk, rfl⟩ := hq
          simp only [Option.some.injEq, Prod.mk.injEq] at h
          obtain ⟨rfl, rfl⟩ := h
          exact .inr (overlaps_sem hf hname hb hn he ht hz hz1 hc hbk)
        · cases h
      · cases h
    · cases h
  · cases h

theorem execX_soundB (hmix : P.follows .mixedOrders = true) {B : Calls'} (hB : Good P B) {E : Env} {a : Act} {w : World} {σ σ' : AS} {C : Code} {c : ACode} {e : AX} {Q : Exit → Act → World → Prop} (hok : okCode P E.nt C c = true) (hx : execX (Gx B (fun _ => none)) c σ = some (e, σ')) (hp : Post E σ a w)
    (hQ : ∀ a w, Post E σ' a w → Q (xp e) a w) : C.wp P Q a w := by
  obtain ⟨n, hn⟩ := exec_lim c σ _ hx
  have hG : Good P (funA B (fun _ => none) n) := funs_sound hmix hB (fun _ _ h => by cases h) n
  exact exec_sound hmix hG n C c σ σ' e a w Q hok (hn n (Nat.le_refl _)) hp hQ

/-- The first operations of a region. -/
theorem list_pre {E : Env} {G : Calls'} {ops : Array Oper} {Q : Exit → Act → World → Prop} (hG : Good P G) : ∀ {os rest : List Oper} {aos : List AOper} {σ σ' : AS} {a : Act} {w : World}, okOs P E.nt ops os aos = true → Post E σ a w → runA G aos σ = some σ' →
    (∀ a w, Post E σ' a w → wpList P ops Q rest a w) → wpList P ops Q (os ++ rest) a w
  | [], rest, [], σ, σ', a, w, _, hp, hr, hQ => by
    simp only [runA, Option.some.injEq] at hr
    subst hr
    exact hQ a w hp
  | o :: os, rest, ao :: aos, σ, σ', a, w, hok, hp, hr, hQ => by
    simp only [okOs, Bool.and_eq_true] at hok
    simp only [runA] at hr
    obtain ⟨σ1, h1, h2⟩ := Option.bind_eq_some_iff.1 hr
    exact wpl_step hG hp hok.1 h1 fun a w hp => list_pre hG hok.2 hp h2 hQ
  | [], _, _ :: _, _, _, _, _, hok, _, _, _ => by simp [okOs] at hok
  | _ :: _, _, [], _, _, _, _, hok, _, _, _ => by simp [okOs] at hok

theorem forget_nil (σ : AS) : forget [] σ = σ := by
  unfold forget
  cases σ
  simp only [AS.mk.injEq, List.not_mem_nil, if_false, and_true]
  funext t
  rename_i fr lo sh
  cases h : fr t <;> simp [scrubV]

theorem run_of_exec {aos : List AOper} {σ σ' : AS} (h : execX GN (.reg false [] aos []) σ = some (.norm, σ')) : ∃ n, runA (funA (fun _ _ _ => none) (fun _ => none) n) aos σ = some σ' := by
  obtain ⟨n, hn⟩ := exec_lim _ σ _ h
  refine ⟨n, ?_⟩
  have := hn n (Nat.le_refl _)
  simp only [execA, scrub_nil] at this
  obtain ⟨σ1, h1, h2⟩ := Option.map_eq_some_iff.1 this
  simp only [Prod.mk.injEq, true_and, forget_nil] at h2
  rw [h1, h2]

/-- The prefix of a region, reckoned by the rules. -/
theorem pre_sound {E : Env} {ops : Array Oper} {Q : Exit → Act → World → Prop} (hmix : P.follows .mixedOrders = true) {os rest : List Oper} {aos : List AOper} {σ σ' : AS} {a : Act} {w : World} (hok : okOs P E.nt ops os aos = true) (hp : Post E σ a w) (hx : execX GN (.reg false [] aos []) σ = some (.norm, σ'))
    (hQ : ∀ a w, Post E σ' a w → wpList P ops Q rest a w) : wpList P ops Q (os ++ rest) a w := by
  obtain ⟨n, hn⟩ := run_of_exec hx
  have hG : Good P (funA (fun _ _ _ => none) (fun _ => none) n) := funs_sound hmix (fun _ _ _ _ _ h => by cases h) (fun _ _ h => by cases h) n
  exact list_pre hG hok hp hn hQ

/-- Of an object more cells are named: they are there, as its block is larger. -/
theorem Sim.extObj {E : Env} {g : Gh} {σ : AS} {a : Act} {w : World} (h : Sim E g σ a w) {i k : Nat} {cells : List AV} (hi : σ.sh[i]? = some cells) (hbk : blkB cells = true) (hne : cells ≠ []) (hk : cells.length + k ≤ g.bs i / 2) :
    Sim E g { σ with sh := σ.sh.set i (cells ++ List.replicate k .any) } a w := by
  obtain ⟨_, f2, _⟩ := h.shr i cells hi (blk_dead hbk)
  obtain ⟨arr, ty, fz, q1, q2, q3, q4⟩ := f2 hbk
  have q3' := q3.1
  refine h.setObj hi (blk_dead hbk) rfl (fun _ _ => rfl) rfl rfl rfl (fun hle how _ => ⟨fun _ => ⟨arr, ty, fz, q1, q2, q3, fun j x hx => ?_⟩, ?_⟩)
  · rw [List.getElem?_append] at hx
    split at hx
    · obtain ⟨v, h1, h2⟩ := q4 j x hx
      exact ⟨v, h1, RepC'.mono hle _ _ (fun _ _ _ => how _ _ _ _) h2⟩
    · rename_i hj
      have hlt := (List.getElem?_eq_some_iff.1 hx).1
      simp only [List.length_replicate] at hlt
      have hx' : x = .any := by
        have := List.eq_of_mem_replicate (List.mem_iff_getElem?.2 ⟨_, hx⟩)
        exact this
      subst hx'
      have hj2 : j < arr.size := by omega
      refine ⟨arr[j], Array.getElem?_eq_getElem hj2, ?_⟩
      show True
      trivial
  · unfold ObjM
    split
    · rename_i l hl
      exfalso
      cases cells with
      | nil => exact hne rfl
      | cons c cs =>
        simp only [List.cons_append, List.cons.injEq, List.append_eq_nil_iff] at hl
        obtain ⟨rfl, rfl, _⟩ := hl
        simp [blkB] at hbk
    · trivial

/-- A slot's value is said in other words. -/
theorem Sim.reslot {E : Env} {g : Gh} {σ : AS} {a : Act} {w : World} (h : Sim E g σ a w) {t : Nat} {x : AV} (hx : RepT (cx E g σ w) (OwnAt g.kd w (.slot t)) x (a.tmps.getD t undef)) : Sim E g { σ with fr := upd σ.fr t x } a w := by
  refine { h with slots := fun t' => ?_ }
  by_cases e : t' = t
  · subst e
    show RepT _ _ (upd σ.fr t' x t') _
    simp only [upd, if_true]
    exact hx
  · show RepT _ _ (upd σ.fr t x t') _
    simp only [upd, e, if_false]
    exact h.slots t'
end
end Go.Av
