/- A part of the proof: Cv26. No conditions. -/
import Derived.Test.YthbgidickbhojaaCv25
set_option linter.unusedSimpArgs false
set_option linter.unusedVariables false
namespace Go.Av
open Go.RowKit
set_option linter.unusedSimpArgs false
set_option linter.unusedVariables false
/-- slices.Insert into a slice that is no empty one, ahead of its end. -/
def insOK (z bytes n : Nat) (ii : Int) (cells : List AV) (V : List (List AV)) : Bool :=
  decide (0 ≤ ii ∧ ii < (n : Int) ∧ n * z = cells.length) && cells.all flatB && V.all (fun e => e.length == z) && V.flatten.all flatB && decide ((n + V.length) * bytes ≤ 140737488355328 ∧ n + V.length ≤ 4611686018427387904)
def insB (z bytes : Nat) : List AV → List (List AV) → Option (AV × List (List AV))
  | [.ss o 0 n z1, .int .i64 ii, .sl .full z2 ((c :: r) :: V)], sh => (sh[o]?).bind fun cells => if z1 = z ∧ z2 = z ∧ insOK z bytes n ii cells ((c :: r) :: V) = true then some (.ss sh.length 0 (n + (V.length + 1)) z, sh.set o dead ++ [insX z ii.toNat cells ((c :: r) :: V)]) else none
  | _, _ => none
theorem insB_sound {P : Program} (hmix : P.follows .mixedOrders = true) {f f72 : FuncId} {z bytes : Nat} {zero : List AV} (hok : okInsert P f f72 z bytes zero = true) (hB : Good P (ovB f72 z)) (hz0 : 0 < z) (hzl : zero.length = z) (hzf : zero.all flatB = true) {args : List AV} {sh sh' : List (List AV)} {r : AV}
    (h : insB z bytes args sh = some (r, sh')) : Real P f ∧ SemCall P f args sh r sh' := by
  unfold insB at h
  split at h
  · rename_i o n z1 ii z2 c r0 V
    obtain ⟨cells, hc, h1⟩ := Option.bind_eq_some_iff.1 h
    obtain ⟨hq, h2⟩ := ite_some h1
    obtain ⟨rfl, rfl, hin⟩ := hq
    unfold insOK at hin
    simp only [Bool.and_eq_true, decide_eq_true_eq, List.all_eq_true] at hin
    obtain ⟨⟨⟨⟨⟨a1, a2, a3⟩, a4⟩, a5⟩, a6⟩, a7, a8⟩ := hin
    obtain ⟨i, rfl⟩ := Int.eq_ofNat_of_zero_le a1
    simp only [Option.some.injEq, Prod.mk.injEq] at h2
    obtain ⟨rfl, rfl⟩ := h2
    exact insert_sound hmix hok hB hz0 hzl hzf (V := (c :: r0) :: V) rfl hc (List.all_eq_true.2 a4) a3 (by simpa using a2) (fun e he => by simpa using a5 e he) (List.all_eq_true.2 a6) a7 a8
  · cases h
end Go.Av
