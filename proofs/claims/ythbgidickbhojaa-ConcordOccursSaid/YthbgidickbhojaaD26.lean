/- A part of the proof: D26. No conditions. -/
import Derived.Test.YthbgidickbhojaaD25
import Derived.Deep.Strs
import Derived.Deep.Fields
set_option linter.unusedSimpArgs false
set_option linter.unusedVariables false
namespace Go.Av
open Go.ChangeShapes Go.WideShapes Go.ChangeAt Go.RowKit Go.Deep
set_option linter.unusedSimpArgs false
section
variable {H : Type} {enc : TypeId × Value → H} {P : Program} {w : World} {base : Nat} {spare : Nat → Bool} {held : Bool}
theorem reach47 : reachBytes ≤ 140737488355328 := by decide
theorem rep_strs {r : Reach} {b0 nn : Nat} {t e : TypeId} {v : Value} {d : DataW H} {ps : List MemPlace} {ow : Value → Nat → Nat → Prop} (ht : P.underlying t = some (.slice e)) (he : P.underlying e = some .string) (hc : P.cellsOf e = 1) (hb : P.bytesOf e = 16)
    (hval : Value.okWide P w r b0 t v) (hd : DataW.Trod enc P w base spare held t v d ps) (hs : ∀ m ∈ d.weights P t, m ≤ reachBytes) :
    ∃ l : List (List UInt8), RepT (cx0 (fun _ => 0) (fun _ => 0) (fun b _ => b < w.heap.size) w nn) ow (.sl .no 1 (Av.strs l)) v ∧ l.length ≤ 8796093022208 := by
  obtain ⟨l, h1, _, h3⟩ := rep_slice (nn := nn) (ow := ow) (fun s : List UInt8 => [AV.str s]) 1 (fun _ => True) ht hc (by decide) hval hd hs (by
    intro S n cs dd hcs htr _
    obtain ⟨s, rfl, _, _⟩ := DataW.trod_string he htr
    refine ⟨s.data.toList, rfl, trivial, fun j a hj => ?_⟩
    cases j with
    | zero =>
      simp only [List.getElem?_cons_zero, Option.some.injEq] at hj
      subst hj
      exact ⟨.string s, rfl, by simp only [RepF]; exact ⟨s, rfl, rfl⟩⟩
    | succ j => simp at hj)
  refine ⟨l, h1, ?_⟩
  have := reach47
  rw [hb] at h3
  omega
theorem rep_toks {r : Reach} {b0 nn : Nat} {t e : TypeId} {f0 f1 f2 : Field} {v : Value} {d : DataW H} {ps : List MemPlace} {ow : Value → Nat → Nat → Prop} (ht : P.underlying t = some (.slice e)) (he : P.underlying e = some (.struct #[f0, f1, f2])) (hone : oneCellFields P #[f0, f1, f2] = true) (hc : P.cellsOf e = 3) (hb : P.bytesOf e = 32)
    (k0 : P.underlying f0.type = some (.int .i64)) (k1 : P.underlying f1.type = some .string) (k2 : P.underlying f2.type = some (.int .i64))
    (hval : Value.okWide P w r b0 t v) (hd : DataW.Trod enc P w base spare held t v d ps) (hs : ∀ m ∈ d.weights P t, m ≤ reachBytes) :
    ∃ l : List Tk, RepT (cx0 (fun _ => 0) (fun _ => 0) (fun b _ => b < w.heap.size) w nn) ow (.sl .no 3 (tks l)) v ∧ l.length ≤ 4398046511104 ∧ ∀ x ∈ l, x.2.1.length ≤ 140737488355328 := by
  obtain ⟨l, h1, h2, h3⟩ := rep_slice (nn := nn) (ow := ow) tkR 3 (fun x => x.2.1.length ≤ 140737488355328) ht hc (by decide) hval hd hs (by
    intro S n cs dd hcs htr hwt
    obtain ⟨y0, y1, y2, m, rfl, _, a0, a1, a2⟩ := trod_struct3 he htr
    obtain ⟨o0, c0⟩ := hone_of hone 0 f0 rfl
    obtain ⟨o1, c1⟩ := hone_of hone 1 f1 rfl
    obtain ⟨o2, c2⟩ := hone_of hone 2 f2 rfl
    match cs, hcs with
    | [u0, u1, u2], _ =>
      rw [o0, c0] at a0
      rw [o1, c1] at a1
      rw [o2, c2] at a2
      obtain ⟨x0, e0, _, _⟩ := DataW.trod_int k0 a0
      obtain ⟨s, e1, q1, _⟩ := DataW.trod_string k1 a1
      obtain ⟨x2, e2, _, _⟩ := DataW.trod_int k2 a2
      simp at e0 e1 e2
      subst e0 e1 e2 q1
      have hl : s.data.toList.length ≤ reachBytes := hwt _ (by
        simp only [DataW.weights, he]
        simp [DataW.weightsEach, DataW.weights])
      refine ⟨(x0, s.data.toList, x2), rfl, Nat.le_trans hl reach47, fun j a hj => ?_⟩
      match j with
      | 0 =>
        simp [tkR] at hj
        subst hj
        exact ⟨.int .i64 x0, rfl, by simp [RepF]⟩
      | 1 =>
        simp [tkR] at hj
        subst hj
        exact ⟨.string s, rfl, by simp only [RepF]; exact ⟨s, rfl, rfl⟩⟩
      | 2 =>
        simp [tkR] at hj
        subst hj
        exact ⟨.int .i64 x2, rfl, by simp [RepF]⟩
      | j + 3 => simp [tkR] at hj)
  refine ⟨l, h1, ?_, h2⟩
  have := reach47
  rw [hb] at h3
  omega
end
end Go.Av
