/- A part of the proof: W1. No conditions. -/
import Derived.Test.YtcoblmocoegckaaRows
import Derived.Test.YtcoblmocoegckaaC7
import Derived.Test.YtcoblmocoegckaaAv21
set_option linter.unusedSimpArgs false
set_option linter.unusedVariables false
namespace Go.Proofs.Ytcoblmocoegckaa
open Go.ChangeShapes Go.WideShapes Go.ChangeAt Go.RowKit Go.Av
set_option maxRecDepth 100000
theorem own : ownKnob Try.prog.godebug = none := by kernel_rfl
theorem laidOut : laidOutB Try.prog = true := by kernel_rfl
namespace stampJoins
theorem lifted (os : Os) (started : os.Started) (H : Type) (enc : TypeId × Value → H) :
    ReturnsInHanded {} Try.checked os 6 .any (Rows.stampJoinsSpec.pre6 enc Try.prog Try.f6 Rows.stampJoinsRow.domain false) (Rows.stampJoinsSpec.post enc Try.prog Try.f6 false true false false) := by
  refine returnsInHanded_of_change (C := Try.checked) own started (by kernel_rfl) Try.func6
    (ChangeSpec.witness6 (enc := enc) (C := Try.checked) false ⟨#[], #[.slice none 0 0], []⟩ 8 (by kernel_rfl) (by kernel_rfl) (by kernel_rfl) (by kernel_rfl)) ?_
  intro W base args ds gs before hval0 hW hcnd _
  have hval : ∀ (j : Nat) t v, Try.f6.params[j]? = some t → args[j]? = some v → Value.okWide Try.prog W .any base t v := hval0
  have hW' := hW
  obtain ⟨p, q, hA0, hV, rfl, hfz, hnd⟩ := hW
  have hA : DataW.TrodAll enc Try.prog W 0 (fun _ => true) true Try.f6.params.toList args.toList ds p := hA0
  rw [Try.params6] at hA hval
  obtain ⟨v0, vs0, d0, ds0, p0, q0, hargs, rfl, rfl, h0, r0⟩ := trodAll_cons hA
  obtain ⟨rfl, rfl, rfl⟩ := trodAll_nil r0
  obtain rfl : args = #[v0] := by cases args; simp_all
  obtain ⟨x0, e0⟩ := rep_ints (n := 0) (ow := noOwn) (k := .i64) Try.underlying24 Try.underlying3 (by kernel_rfl) (hval 0 _ _ rfl rfl) h0
  refine law_goal (tb := 4) (hg := c6 x0) hW' rfl laidOut (by kernel_rfl) rfl Try.underlying4 G0_good ?_ rfl
  exact ⟨e0, trivial⟩
theorem over : Rows.stampJoinsRow.holds Try.pinned (OpenSpec.ofChange Rows.stampJoinsSpec) :=
  OpenClaim.holds_of_wide 6 Try.f6 rfl rfl rfl rfl rfl rfl rfl ⟨rfl, rfl, rfl, rfl, rfl⟩ rfl rfl rfl rfl rfl (by kernel_rfl) Try.func6 (by kernel_rfl)
    (of_decide_eq_true (by kernel_rfl)) (by unfold Func.isWrapper; first | (rw [if_pos (by decide +kernel)]; kernel_rfl) | (rw [if_neg (by decide +kernel)]; exact ⟨rfl, rfl⟩))
    (fun os started H enc _ => lifted os started H enc)
theorem proved : Rows.StampJoinsSaid := over
end stampJoins
namespace stampContains
theorem lifted (os : Os) (started : os.Started) (H : Type) (enc : TypeId × Value → H) :
    ReturnsInHanded {} Try.checked os 7 .any (Rows.stampContainsSpec.pre6 enc Try.prog Try.f7 Rows.stampContainsRow.domain false) (Rows.stampContainsSpec.post enc Try.prog Try.f7 false true false false) := by
  refine returnsInHanded_of_change (C := Try.checked) own started (by kernel_rfl) Try.func7
    (ChangeSpec.witness6 (enc := enc) (C := Try.checked) false ⟨#[], #[.slice none 0 0], []⟩ 8 (by kernel_rfl) (by kernel_rfl) (by kernel_rfl) (by kernel_rfl)) ?_
  intro W base args ds gs before hval0 hW hcnd _
  have hval : ∀ (j : Nat) t v, Try.f7.params[j]? = some t → args[j]? = some v → Value.okWide Try.prog W .any base t v := hval0
  have hW' := hW
  obtain ⟨p, q, hA0, hV, rfl, hfz, hnd⟩ := hW
  have hA : DataW.TrodAll enc Try.prog W 0 (fun _ => true) true Try.f7.params.toList args.toList ds p := hA0
  rw [Try.params7] at hA hval
  obtain ⟨v0, vs0, d0, ds0, p0, q0, hargs, rfl, rfl, h0, r0⟩ := trodAll_cons hA
  obtain ⟨rfl, rfl, rfl⟩ := trodAll_nil r0
  obtain rfl : args = #[v0] := by cases args; simp_all
  obtain ⟨x0, e0⟩ := rep_ints (n := 0) (ow := noOwn) (k := .i64) Try.underlying24 Try.underlying3 (by kernel_rfl) (hval 0 _ _ rfl rfl) h0
  refine law_goal (tb := 4) (hg := c7 x0) hW' rfl laidOut (by kernel_rfl) rfl Try.underlying4 G0_good ?_ rfl
  exact ⟨e0, trivial⟩
theorem over : Rows.stampContainsRow.holds Try.pinned (OpenSpec.ofChange Rows.stampContainsSpec) :=
  OpenClaim.holds_of_wide 7 Try.f7 rfl rfl rfl rfl rfl rfl rfl ⟨rfl, rfl, rfl, rfl, rfl⟩ rfl rfl rfl rfl rfl (by kernel_rfl) Try.func7 (by kernel_rfl)
    (of_decide_eq_true (by kernel_rfl)) (by unfold Func.isWrapper; first | (rw [if_pos (by decide +kernel)]; kernel_rfl) | (rw [if_neg (by decide +kernel)]; exact ⟨rfl, rfl⟩))
    (fun os started H enc _ => lifted os started H enc)
theorem proved : Rows.StampContainsSaid := over
end stampContains
namespace stampValidates
theorem lifted (os : Os) (started : os.Started) (H : Type) (enc : TypeId × Value → H) :
    ReturnsInHanded {} Try.checked os 4 .any (Rows.stampValidatesSpec.pre6 enc Try.prog Try.f4 Rows.stampValidatesRow.domain false) (Rows.stampValidatesSpec.post enc Try.prog Try.f4 false true false false) := by
  refine returnsInHanded_of_change (C := Try.checked) own started (by kernel_rfl) Try.func4
    (ChangeSpec.witness6 (enc := enc) (C := Try.checked) false ⟨#[], #[.agg #[.int .i64 0, .int .i64 0, .int .i64 0], .slice none 0 0], []⟩ 8 (by kernel_rfl) (by kernel_rfl) (by kernel_rfl) (by kernel_rfl)) ?_
  intro W base args ds gs before hval0 hW hcnd _
  have hval : ∀ (j : Nat) t v, Try.f4.params[j]? = some t → args[j]? = some v → Value.okWide Try.prog W .any base t v := hval0
  have hW' := hW
  obtain ⟨p, q, hA0, hV, rfl, hfz, hnd⟩ := hW
  have hA : DataW.TrodAll enc Try.prog W 0 (fun _ => true) true Try.f4.params.toList args.toList ds p := hA0
  rw [Try.params4] at hA hval
  obtain ⟨v0, vs0, d0, ds0, p0, q0, hargs, rfl, rfl, h0, r0⟩ := trodAll_cons hA
  obtain ⟨v1, vs1, d1, ds1, p1, q1, rfl, rfl, rfl, h1, r1⟩ := trodAll_cons r0
  obtain ⟨rfl, rfl, rfl⟩ := trodAll_nil r1
  obtain rfl : args = #[v0, v1] := by cases args; simp_all
  obtain ⟨x0, y0, z0, e0⟩ := rep_int3 (n := 0) (ow := noOwn) (k0 := .i64) (k1 := .i64) (k2 := .i64) Try.underlying23 (by kernel_rfl) (by kernel_rfl) Try.underlying3 Try.underlying3 Try.underlying3 (hval 0 _ _ rfl rfl) h0
  obtain ⟨x1, e1⟩ := rep_ints (n := 0) (ow := noOwn) (k := .i64) Try.underlying24 Try.underlying3 (by kernel_rfl) (hval 1 _ _ rfl rfl) h1
  refine law_goal (tb := 4) (hg := c4 x0 y0 z0 x1) hW' rfl laidOut (by kernel_rfl) rfl Try.underlying4 G0_good ?_ rfl
  exact ⟨e0, e1, trivial⟩
theorem over : Rows.stampValidatesRow.holds Try.pinned (OpenSpec.ofChange Rows.stampValidatesSpec) :=
  OpenClaim.holds_of_wide 4 Try.f4 rfl rfl rfl rfl rfl rfl rfl ⟨rfl, rfl, rfl, rfl, rfl⟩ rfl rfl rfl rfl rfl (by kernel_rfl) Try.func4 (by kernel_rfl)
    (of_decide_eq_true (by kernel_rfl)) (by unfold Func.isWrapper; first | (rw [if_pos (by decide +kernel)]; kernel_rfl) | (rw [if_neg (by decide +kernel)]; exact ⟨rfl, rfl⟩))
    (fun os started H enc _ => lifted os started H enc)
theorem proved : Rows.StampValidatesSaid := over
end stampValidates
namespace stampVectors
theorem lifted (os : Os) (started : os.Started) (H : Type) (enc : TypeId × Value → H) :
    ReturnsInHanded {} Try.checked os 5 .any (Rows.stampVectorsSpec.pre6 enc Try.prog Try.f5 Rows.stampVectorsRow.domain false) (Rows.stampVectorsSpec.post enc Try.prog Try.f5 false true false false) := by
  refine returnsInHanded_of_change (C := Try.checked) own started (by kernel_rfl) Try.func5
    (ChangeSpec.witness6 (enc := enc) (C := Try.checked) false ⟨#[], #[.slice none 0 0, .slice none 0 0, .agg #[.int .i64 0, .int .i64 0, .int .i64 0], .int .i64 0, .slice none 0 0], []⟩ 8 (by kernel_rfl) (by kernel_rfl) (by kernel_rfl) (by kernel_rfl)) ?_
  intro W base args ds gs before hval0 hW hcnd _
  have hval : ∀ (j : Nat) t v, Try.f5.params[j]? = some t → args[j]? = some v → Value.okWide Try.prog W .any base t v := hval0
  have hW' := hW
  obtain ⟨p, q, hA0, hV, rfl, hfz, hnd⟩ := hW
  have hA : DataW.TrodAll enc Try.prog W 0 (fun _ => true) true Try.f5.params.toList args.toList ds p := hA0
  rw [Try.params5] at hA hval
  obtain ⟨v0, vs0, d0, ds0, p0, q0, hargs, rfl, rfl, h0, r0⟩ := trodAll_cons hA
  obtain ⟨v1, vs1, d1, ds1, p1, q1, rfl, rfl, rfl, h1, r1⟩ := trodAll_cons r0
  obtain ⟨v2, vs2, d2, ds2, p2, q2, rfl, rfl, rfl, h2, r2⟩ := trodAll_cons r1
  obtain ⟨v3, vs3, d3, ds3, p3, q3, rfl, rfl, rfl, h3, r3⟩ := trodAll_cons r2
  obtain ⟨v4, vs4, d4, ds4, p4, q4, rfl, rfl, rfl, h4, r4⟩ := trodAll_cons r3
  obtain ⟨rfl, rfl, rfl⟩ := trodAll_nil r4
  obtain rfl : args = #[v0, v1, v2, v3, v4] := by cases args; simp_all
  obtain ⟨x0, e0⟩ := rep_ints (n := 0) (ow := noOwn) (k := .i64) Try.underlying24 Try.underlying3 (by kernel_rfl) (hval 0 _ _ rfl rfl) h0
  obtain ⟨x1, e1⟩ := rep_ints (n := 0) (ow := noOwn) (k := .i64) Try.underlying24 Try.underlying3 (by kernel_rfl) (hval 1 _ _ rfl rfl) h1
  obtain ⟨x2, y2, z2, e2⟩ := rep_int3 (n := 0) (ow := noOwn) (k0 := .i64) (k1 := .i64) (k2 := .i64) Try.underlying23 (by kernel_rfl) (by kernel_rfl) Try.underlying3 Try.underlying3 Try.underlying3 (hval 2 _ _ rfl rfl) h2
  obtain ⟨x3, _, e3⟩ := rep_int (n := 0) (ow := noOwn) (k := .i64) Try.underlying3 (hval 3 _ _ rfl rfl) h3
  obtain ⟨x4, e4⟩ := rep_ints (n := 0) (ow := noOwn) (k := .i64) Try.underlying24 Try.underlying3 (by kernel_rfl) (hval 4 _ _ rfl rfl) h4
  refine law_goal (tb := 4) (hg := c5 x0 x1 x4 x2 y2 z2 x3) hW' rfl laidOut (by kernel_rfl) rfl Try.underlying4 G0_good ?_ rfl
  exact ⟨e0, e1, e2, e3, e4, trivial⟩
theorem over : Rows.stampVectorsRow.holds Try.pinned (OpenSpec.ofChange Rows.stampVectorsSpec) :=
  OpenClaim.holds_of_wide 5 Try.f5 rfl rfl rfl rfl rfl rfl rfl ⟨rfl, rfl, rfl, rfl, rfl⟩ rfl rfl rfl rfl rfl (by kernel_rfl) Try.func5 (by kernel_rfl)
    (of_decide_eq_true (by kernel_rfl)) (by unfold Func.isWrapper; first | (rw [if_pos (by decide +kernel)]; kernel_rfl) | (rw [if_neg (by decide +kernel)]; exact ⟨rfl, rfl⟩))
    (fun os started H enc _ => lifted os started H enc)
theorem proved : Rows.StampVectorsSaid := over
end stampVectors
namespace stampCompares
theorem lifted (os : Os) (started : os.Started) (H : Type) (enc : TypeId × Value → H) :
    ReturnsInHanded {} Try.checked os 3 .any (Rows.stampComparesSpec.pre6 enc Try.prog Try.f3 Rows.stampComparesRow.domain false) (Rows.stampComparesSpec.post enc Try.prog Try.f3 false true false false) := by
  refine returnsInHanded_of_change (C := Try.checked) own started (by kernel_rfl) Try.func3
    (ChangeSpec.witness6 (enc := enc) (C := Try.checked) false ⟨#[], #[.agg #[.int .i64 0, .int .i64 0, .int .i64 0], .agg #[.int .i64 0, .int .i64 0, .int .i64 0], .agg #[.int .i64 0, .int .i64 0, .int .i64 0], .slice none 0 0], []⟩ 8 (by kernel_rfl) (by kernel_rfl) (by kernel_rfl) (by kernel_rfl)) ?_
  intro W base args ds gs before hval0 hW hcnd _
  have hval : ∀ (j : Nat) t v, Try.f3.params[j]? = some t → args[j]? = some v → Value.okWide Try.prog W .any base t v := hval0
  have hW' := hW
  obtain ⟨p, q, hA0, hV, rfl, hfz, hnd⟩ := hW
  have hA : DataW.TrodAll enc Try.prog W 0 (fun _ => true) true Try.f3.params.toList args.toList ds p := hA0
  rw [Try.params3] at hA hval
  obtain ⟨v0, vs0, d0, ds0, p0, q0, hargs, rfl, rfl, h0, r0⟩ := trodAll_cons hA
  obtain ⟨v1, vs1, d1, ds1, p1, q1, rfl, rfl, rfl, h1, r1⟩ := trodAll_cons r0
  obtain ⟨v2, vs2, d2, ds2, p2, q2, rfl, rfl, rfl, h2, r2⟩ := trodAll_cons r1
  obtain ⟨v3, vs3, d3, ds3, p3, q3, rfl, rfl, rfl, h3, r3⟩ := trodAll_cons r2
  obtain ⟨rfl, rfl, rfl⟩ := trodAll_nil r3
  obtain rfl : args = #[v0, v1, v2, v3] := by cases args; simp_all
  obtain ⟨x0, y0, z0, e0⟩ := rep_int3 (n := 0) (ow := noOwn) (k0 := .i64) (k1 := .i64) (k2 := .i64) Try.underlying23 (by kernel_rfl) (by kernel_rfl) Try.underlying3 Try.underlying3 Try.underlying3 (hval 0 _ _ rfl rfl) h0
  obtain ⟨x1, y1, z1, e1⟩ := rep_int3 (n := 0) (ow := noOwn) (k0 := .i64) (k1 := .i64) (k2 := .i64) Try.underlying23 (by kernel_rfl) (by kernel_rfl) Try.underlying3 Try.underlying3 Try.underlying3 (hval 1 _ _ rfl rfl) h1
  obtain ⟨x2, y2, z2, e2⟩ := rep_int3 (n := 0) (ow := noOwn) (k0 := .i64) (k1 := .i64) (k2 := .i64) Try.underlying23 (by kernel_rfl) (by kernel_rfl) Try.underlying3 Try.underlying3 Try.underlying3 (hval 2 _ _ rfl rfl) h2
  obtain ⟨x3, e3⟩ := rep_ints (n := 0) (ow := noOwn) (k := .i64) Try.underlying24 Try.underlying3 (by kernel_rfl) (hval 3 _ _ rfl rfl) h3
  refine law_goal (tb := 4) (hg := c3 x0 y0 z0 x1 y1 z1 x2 y2 z2 x3) hW' rfl laidOut (by kernel_rfl) rfl Try.underlying4 G0_good ?_ rfl
  exact ⟨e0, e1, e2, e3, trivial⟩
theorem over : Rows.stampComparesRow.holds Try.pinned (OpenSpec.ofChange Rows.stampComparesSpec) :=
  OpenClaim.holds_of_wide 3 Try.f3 rfl rfl rfl rfl rfl rfl rfl ⟨rfl, rfl, rfl, rfl, rfl⟩ rfl rfl rfl rfl rfl (by kernel_rfl) Try.func3 (by kernel_rfl)
    (of_decide_eq_true (by kernel_rfl)) (by unfold Func.isWrapper; first | (rw [if_pos (by decide +kernel)]; kernel_rfl) | (rw [if_neg (by decide +kernel)]; exact ⟨rfl, rfl⟩))
    (fun os started H enc _ => lifted os started H enc)
theorem proved : Rows.StampComparesSaid := over
end stampCompares
end Go.Proofs.Ytcoblmocoegckaa
