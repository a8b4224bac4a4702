/- A part of the proof: W2. No conditions. -/
import Derived.Test.YthbgidickbhojaaRows
import Derived.Test.YthbgidickbhojaaD18
import Derived.Test.YthbgidickbhojaaBv21
set_option linter.unusedSimpArgs false
set_option linter.unusedVariables false
namespace Go.Proofs.Ythbgidickbhojaa
open Go.ChangeShapes Go.WideShapes Go.ChangeAt Go.RowKit Go.Av
set_option maxRecDepth 100000
theorem own : ownKnob Try.prog.godebug = none := by kernel_rfl
theorem laidOut : laidOutB Try.prog = true := by kernel_rfl
namespace concordNarrows
theorem lifted (os : Os) (started : os.Started) (H : Type) (enc : TypeId × Value → H) :
    ReturnsInHanded {} Try.checked os 6 .any (Rows.concordNarrowsSpec.pre6 enc Try.prog Try.f6 Rows.concordNarrowsRow.domain false) (Rows.concordNarrowsSpec.post enc Try.prog Try.f6 false true false false) := by
  refine returnsInHanded_of_change (C := Try.checked) own started (by kernel_rfl) Try.func6
    (ChangeSpec.witness6 (enc := enc) (C := Try.checked) false ⟨#[], #[.slice none 0 0, .slice none 0 0, .string ⟨#[]⟩], []⟩ 8 (by kernel_rfl) (by kernel_rfl) (by kernel_rfl) (by kernel_rfl)) ?_
  intro W base args ds gs before hval0 hW hcnd _
  have hval : ∀ (j : Nat) t v, Try.f6.params[j]? = some t → args[j]? = some v → Value.okWide Try.prog W .any base t v := hval0
  have hW' := hW
  obtain ⟨p, q, hA0, hV, rfl, hfz, hnd⟩ := hW
  have hA : DataW.TrodAll enc Try.prog W 0 (fun _ => true) true Try.f6.params.toList args.toList ds p := hA0
  rw [Try.params6] at hA hval
  obtain ⟨v0, vs0, d0, ds0, p0, q0, hargs, rfl, rfl, h0, r0⟩ := trodAll_cons hA
  obtain ⟨v1, vs1, d1, ds1, p1, q1, rfl, rfl, rfl, h1, r1⟩ := trodAll_cons r0
  obtain ⟨v2, vs2, d2, ds2, p2, q2, rfl, rfl, rfl, h2, r2⟩ := trodAll_cons r1
  obtain ⟨rfl, rfl, rfl⟩ := trodAll_nil r2
  obtain rfl : args = #[v0, v1, v2] := by cases args; simp_all
  obtain ⟨x0, e0⟩ := rep_ints (n := 0) (ow := noOwn) (k := .i64) Try.underlying22 Try.underlying3 (by kernel_rfl) (hval 0 _ _ rfl rfl) h0
  obtain ⟨x1, e1⟩ := rep_ints (n := 0) (ow := noOwn) (k := .i64) Try.underlying22 Try.underlying3 (by kernel_rfl) (hval 1 _ _ rfl rfl) h1
  obtain ⟨x2, e2⟩ := rep_str (n := 0) (ow := noOwn) Try.underlying9 (hval 2 _ _ rfl rfl)
  refine law_goal (tb := 4) (hg := c6 x0 x1 x2) hW' rfl laidOut (by kernel_rfl) rfl Try.underlying4 G0_good ?_ rfl
  exact ⟨e0, e1, e2, trivial⟩
theorem over : Rows.concordNarrowsRow.holds Try.pinned (OpenSpec.ofChange Rows.concordNarrowsSpec) :=
  OpenClaim.holds_of_wide 6 Try.f6 rfl rfl rfl rfl rfl rfl rfl ⟨rfl, rfl, rfl, rfl, rfl⟩ rfl rfl rfl rfl rfl (by kernel_rfl) Try.func6 (by kernel_rfl)
    (of_decide_eq_true (by kernel_rfl)) (by unfold Func.isWrapper; first | (rw [if_pos (by decide +kernel)]; kernel_rfl) | (rw [if_neg (by decide +kernel)]; exact ⟨rfl, rfl⟩))
    (fun os started H enc _ => lifted os started H enc)
theorem proved : Rows.ConcordNarrowsSaid := over
end concordNarrows
end Go.Proofs.Ythbgidickbhojaa
