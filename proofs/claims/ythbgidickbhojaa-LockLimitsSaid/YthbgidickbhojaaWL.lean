/- A part of the proof: WL. No conditions. -/
import Derived.Test.YthbgidickbhojaaRows
import Derived.Test.YthbgidickbhojaaM20
import Derived.Test.YthbgidickbhojaaM9
import Derived.Test.YthbgidickbhojaaCv21
set_option linter.unusedSimpArgs false
set_option linter.unusedVariables false
namespace Go.Proofs.Ythbgidickbhojaa
open Go.ChangeShapes Go.WideShapes Go.ChangeAt Go.RowKit Go.Av
set_option maxRecDepth 100000
theorem own : ownKnob Try.prog.godebug = none := by kernel_rfl
theorem laidOut : laidOutB Try.prog = true := by kernel_rfl
namespace lockLimits
theorem lifted (os : Os) (started : os.Started) (H : Type) (enc : TypeId × Value → H) :
    ReturnsInHanded {} Try.checked os 7 .any (Rows.lockLimitsSpec.pre6 enc Try.prog Try.f7 Rows.lockLimitsRow.domain false) (Rows.lockLimitsSpec.post enc Try.prog Try.f7 false true false false) := by
  refine returnsInHanded_of_change (C := Try.checked) own started (by kernel_rfl) Try.func7
    (ChangeSpec.witness6 (enc := enc) (C := Try.checked) false ⟨#[], #[.int .i64 0, .int .i64 0, .int .i64 0, .int .i64 0], []⟩ 8 (by kernel_rfl) (by kernel_rfl) (by kernel_rfl) (by kernel_rfl)) ?_
  intro W base args ds gs before hval0 hW hcnd _
  have hval : ∀ (j : Nat) t v, Try.f7.params[j]? = some t → args[j]? = some v → Value.okWide Try.prog W .any base t v := hval0
  have hW' := hW
  obtain ⟨p, q, hA0, hV, rfl, hfz, hnd⟩ := hW
  have hA : DataW.TrodAll enc Try.prog W 0 (fun _ => true) true Try.f7.params.toList args.toList ds p := hA0
  rw [Try.params7] at hA hval
  obtain ⟨v0, vs0, d0, ds0, p0, q0, hargs, rfl, rfl, h0, r0⟩ := trodAll_cons hA
  obtain ⟨v1, vs1, d1, ds1, p1, q1, rfl, rfl, rfl, h1, r1⟩ := trodAll_cons r0
  obtain ⟨v2, vs2, d2, ds2, p2, q2, rfl, rfl, rfl, h2, r2⟩ := trodAll_cons r1
  obtain ⟨v3, vs3, d3, ds3, p3, q3, rfl, rfl, rfl, h3, r3⟩ := trodAll_cons r2
  obtain ⟨rfl, rfl, rfl⟩ := trodAll_nil r3
  obtain rfl : args = #[v0, v1, v2, v3] := by cases args; simp_all
  obtain ⟨x0, _, e0⟩ := rep_int (n := 0) (ow := noOwn) (k := .i64) Try.underlying3 (hval 0 _ _ rfl rfl) h0
  obtain ⟨x1, _, e1⟩ := rep_int (n := 0) (ow := noOwn) (k := .i64) Try.underlying3 (hval 1 _ _ rfl rfl) h1
  obtain ⟨x2, _, e2⟩ := rep_int (n := 0) (ow := noOwn) (k := .i64) Try.underlying3 (hval 2 _ _ rfl rfl) h2
  obtain ⟨x3, _, e3⟩ := rep_int (n := 0) (ow := noOwn) (k := .i64) Try.underlying3 (hval 3 _ _ rfl rfl) h3
  refine law_goal (tb := 4) (hg := c7 x0 x1 x2 x3) hW' rfl laidOut (by kernel_rfl) rfl Try.underlying4 G0_good ?_ rfl ⟨_, Try.func7, by kernel_rfl, by kernel_rfl⟩
  exact ⟨e0, e1, e2, e3, trivial⟩
theorem over : Rows.lockLimitsRow.holds Try.pinned (OpenSpec.ofChange Rows.lockLimitsSpec) :=
  OpenClaim.holds_of_wide 7 Try.f7 rfl rfl rfl rfl rfl rfl rfl ⟨rfl, rfl, rfl, rfl, rfl⟩ rfl rfl rfl rfl rfl (by kernel_rfl) Try.func7 (by kernel_rfl)
    (of_decide_eq_true (by kernel_rfl)) (by unfold Func.isWrapper; first | (rw [if_pos (by decide +kernel)]; kernel_rfl) | (rw [if_neg (by decide +kernel)]; exact ⟨rfl, rfl⟩))
    (fun os started H enc _ => lifted os started H enc)
theorem proved : Rows.LockLimitsSaid := over
end lockLimits
end Go.Proofs.Ythbgidickbhojaa
