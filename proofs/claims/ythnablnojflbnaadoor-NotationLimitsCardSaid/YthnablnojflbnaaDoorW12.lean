/- The law 'NotationLimits': for every input the call returns true and leaves its arguments as they were. Conditions: those of the given card. -/
import Derived.Test.YthnablnojflbnaaDoorW0
import Derived.Test.YthnablnojflbnaaDoorPI
import Derived.Test.YthnablnojflbnaaDoorPG
set_option linter.unusedSimpArgs false
set_option linter.unusedVariables false
namespace Go.Proofs.YthnablnojflbnaaDoor
open Go.ChangeShapes Go.WideShapes Go.ChangeAt Go.RowKit Go.Av
set_option maxRecDepth 100000
namespace notationLimits
theorem lifted (os : Os) (started : os.Started) (H : Type) (enc : TypeId × Value → H) :
    ReturnsInHanded {} Tryd.checked os 12 .any (fun w args => (Rows.notationLimitsSpec.pre enc Tryd.prog Tryd.f12 [] false w args ∧ laidMetH Tryd.prog lst w) ∧ sizedMet enc Tryd.prog Tryd.f12 (OpenSpec.ofChange Rows.notationLimitsSpec) false w args) (Rows.notationLimitsSpec.post enc Tryd.prog Tryd.f12 false true false false) := by
  refine returnsInHanded_of_change_and (C := Tryd.checked) (X := fun w _ => laidMetH Tryd.prog lst w) (fun _ _ _ hh h => h.of_heap hh) own started (by kernel_rfl) Tryd.func12
    (ChangeSpec.witness_shaped (enc := enc) (C := Tryd.checked) (os := os) (X := fun w _ => laidMetH Tryd.prog lst w) false (World.doorLaid Tryd.prog 400 os) #[.int .i64 0, .bool false] 8 rfl (World.shaped_of_RefB (by kernel_rfl) (by kernel_rfl)) (by kernel_rfl) (by kernel_rfl) (by kernel_rfl) (door_met os _)) ?_
  intro W base args ds gs before hval0 hW _ hsz0 hL _
  have hval : ∀ (j : Nat) t v, Tryd.f12.params[j]? = some t → args[j]? = some v → Value.okWide Tryd.prog W .any base t v := hval0
  have hW' := hW
  obtain ⟨p, q, hA0, hV, rfl, hfz, hnd⟩ := hW
  have hA : DataW.TrodAll enc Tryd.prog W 0 (fun _ => true) true Tryd.f12.params.toList args.toList ds p := hA0
  rw [Tryd.params12] at hA hval
  obtain ⟨v0, vs0, d0, ds0, p0, q0, hargs, rfl, rfl, h0, r0⟩ := trodAll_cons hA
  obtain ⟨v1, vs1, d1, ds1, p1, q1, rfl, rfl, rfl, h1, r1⟩ := trodAll_cons r0
  obtain ⟨rfl, rfl, rfl⟩ := trodAll_nil r1
  obtain rfl : args = #[v0, v1] := by cases args; simp_all
  obtain ⟨x0, w0, e0⟩ := rep_int (n := 0) (ow := noOwn) (k := .i64) Tryd.underlying3 (hval 0 _ _ rfl rfl) h0
  obtain ⟨x1, e1⟩ := rep_bool (n := 0) (ow := noOwn) Tryd.underlying4 (hval 1 _ _ rfl rfl) h1
  refine law_goal (tb := 4) (hg := c12 x0 x1) hW' rfl laidOut (by kernel_rfl) rfl Tryd.underlying4 G0_good ?_ rfl ⟨_, Tryd.func12, by kernel_rfl, by kernel_rfl⟩ (glob hL)
  exact ⟨e0, e1, trivial⟩
theorem over : Rows.NotationLimitsSaid :=
  OpenClaim.holds_of_wide 12 Tryd.f12 rfl rfl rfl rfl rfl rfl rfl ⟨rfl, rfl, rfl, rfl, rfl⟩ rfl rfl rfl rfl rfl (by kernel_rfl) Tryd.func12 (by kernel_rfl)
    (of_decide_eq_true (by kernel_rfl)) (by unfold Func.isWrapper; first | (rw [if_pos (by decide +kernel)]; kernel_rfl) | (rw [if_neg (by decide +kernel)]; exact ⟨rfl, rfl⟩))
    (fun os started H enc _ => lifted os started H enc)
theorem proved : Rows.NotationLimitsCardSaid :=
  Claim7.holds_tied_plain_at .later [] [.data, .data, .data] true (true, "9ebe2f0bd66529b73b74ebf347accd58263aee867542155040d1e6175780842a") false
    over (fun _ h => by cases h) (by kernel_rfl) (fun _ h => by cases h) notationLimits_row_tie rfl ⟨rfl, rfl⟩ (by kernel_rfl) rfl
    (fun f fn hf hfn => by
      obtain rfl : f = 12 := Option.some.inj ((show Tryd.prog.funcNamed "bitext/bitextlaw4.NotationLimits" = some 12 by kernel_rfl).symm.trans hf) |>.symm
      obtain rfl : fn = Tryd.f12 := (Option.some.inj (Tryd.func12.symm.trans hfn)).symm
      refine ⟨by kernel_rfl, fun j t ht => ?_⟩
      rw [Tryd.params12] at ht
      match j, ht with
      | 0, ht =>
        obtain rfl : 3 = t := by simpa using ht
        exact (show Tryd.prog.wantsStandIn 3 = false by kernel_rfl)
      | 1, ht =>
        obtain rfl : 4 = t := by simpa using ht
        exact (show Tryd.prog.wantsStandIn 4 = false by kernel_rfl)
      | j + 2, ht => simp at ht)
    (by kernel_rfl)
end notationLimits
end Go.Proofs.YthnablnojflbnaaDoor
