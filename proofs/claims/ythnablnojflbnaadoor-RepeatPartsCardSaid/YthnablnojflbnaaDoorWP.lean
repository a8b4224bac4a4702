/- The law 'RepeatParts': for every input the call returns true and leaves its arguments as they were. Conditions: those of the given card. -/
import Derived.Test.YthnablnojflbnaaDoorV0
import Derived.Test.YthnablnojflbnaaDoorSG
import Derived.Test.YthnablnojflbnaaDoorQG
set_option linter.unusedSimpArgs false
set_option linter.unusedVariables false
namespace Go.Proofs.YthnablnojflbnaaDoor
open Go.ChangeShapes Go.WideShapes Go.ChangeAt Go.RowKit Go.Av
set_option maxRecDepth 100000
namespace repeatParts
theorem lifted (os : Os) (started : os.Started) (H : Type) (enc : TypeId × Value → H) :
    ReturnsInHanded {} Tryd.checked os 5 .any (fun w args => (Rows.repeatPartsSpec.pre enc Tryd.prog Tryd.f5 [] false w args ∧ laidMetH Tryd.prog lst w) ∧ sizedMet enc Tryd.prog Tryd.f5 (OpenSpec.ofChange Rows.repeatPartsSpec) false w args) (Rows.repeatPartsSpec.post enc Tryd.prog Tryd.f5 false true false false) := by
  refine returnsInHanded_of_change_and (C := Tryd.checked) (X := fun w _ => laidMetH Tryd.prog lst w) (fun _ _ _ hh h => h.of_heap hh) own started (by kernel_rfl) Tryd.func5
    (ChangeSpec.witness_shaped (enc := enc) (C := Tryd.checked) (os := os) (X := fun w _ => laidMetH Tryd.prog lst w) false (World.doorLaid Tryd.prog 400 os) #[.slice none 0 0] 8 rfl (World.shaped_of_RefB (by kernel_rfl) (by kernel_rfl)) (by kernel_rfl) (by kernel_rfl) (by kernel_rfl) (door_met os _)) ?_
  intro W base args ds gs before hval0 hW _ hsz0 hL _
  have hval : ∀ (j : Nat) t v, Tryd.f5.params[j]? = some t → args[j]? = some v → Value.okWide Tryd.prog W .any base t v := hval0
  have hW' := hW
  obtain ⟨p, q, hA0, hV, rfl, hfz, hnd⟩ := hW
  have hA : DataW.TrodAll enc Tryd.prog W 0 (fun _ => true) true Tryd.f5.params.toList args.toList ds p := hA0
  rw [Tryd.params5] at hA hval
  obtain ⟨v0, vs0, d0, ds0, p0, q0, hargs, rfl, rfl, h0, r0⟩ := trodAll_cons hA
  obtain ⟨rfl, rfl, rfl⟩ := trodAll_nil r0
  obtain rfl : args = #[v0] := by cases args; simp_all
  obtain ⟨x0, e0⟩ := rep_ints (n := 0) (ow := noOwn) (k := .i64) Tryd.underlying23 Tryd.underlying3 (by kernel_rfl) (hval 0 _ _ rfl rfl) h0
  refine law_goal (tb := 4) (hg := c5 x0) hW' rfl laidOut (by kernel_rfl) rfl Tryd.underlying4 G0_good ?_ rfl ⟨_, Tryd.func5, by kernel_rfl, by kernel_rfl⟩ (glob hL)
  exact ⟨e0, trivial⟩
theorem over : Rows.RepeatPartsSaid :=
  OpenClaim.holds_of_wide 5 Tryd.f5 rfl rfl rfl rfl rfl rfl rfl ⟨rfl, rfl, rfl, rfl, rfl⟩ rfl rfl rfl rfl rfl (by kernel_rfl) Tryd.func5 (by kernel_rfl)
    (of_decide_eq_true (by kernel_rfl)) (by unfold Func.isWrapper; first | (rw [if_pos (by decide +kernel)]; kernel_rfl) | (rw [if_neg (by decide +kernel)]; exact ⟨rfl, rfl⟩))
    (fun os started H enc _ => lifted os started H enc)
theorem proved : Rows.RepeatPartsCardSaid :=
  Claim7.holds_tied_plain_at .later [] [.data, .data, .data] true (true, "9ebe2f0bd66529b73b74ebf347accd58263aee867542155040d1e6175780842a") false
    over (fun _ h => by cases h) (by kernel_rfl) (fun _ h => by cases h) repeatParts_row_tie rfl ⟨rfl, rfl⟩ (by kernel_rfl) rfl
    (fun f fn hf hfn => by
      obtain rfl : f = 5 := Option.some.inj ((show Tryd.prog.funcNamed "bitext/bitextlaw19.RepeatParts" = some 5 by kernel_rfl).symm.trans hf) |>.symm
      obtain rfl : fn = Tryd.f5 := (Option.some.inj (Tryd.func5.symm.trans hfn)).symm
      refine ⟨by kernel_rfl, fun j t ht => ?_⟩
      rw [Tryd.params5] at ht
      match j, ht with
      | 0, ht =>
        obtain rfl : 23 = t := by simpa using ht
        exact (show Tryd.prog.wantsStandIn 23 = false by kernel_rfl)
      | j + 1, ht => simp at ht)
    (by kernel_rfl)
end repeatParts
end Go.Proofs.YthnablnojflbnaaDoor
