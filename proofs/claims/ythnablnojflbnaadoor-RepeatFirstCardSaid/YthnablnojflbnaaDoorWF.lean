/- The law 'RepeatFirst': for every input the call returns true and leaves its arguments as they were. Conditions: those of the given card. -/
import Derived.Test.YthnablnojflbnaaDoorV0
import Derived.Test.YthnablnojflbnaaDoorSF
import Derived.Test.YthnablnojflbnaaDoorQG
set_option linter.unusedSimpArgs false
set_option linter.unusedVariables false
namespace Go.Proofs.YthnablnojflbnaaDoor
open Go.ChangeShapes Go.WideShapes Go.ChangeAt Go.RowKit Go.Av
set_option maxRecDepth 100000
namespace repeatFirst
theorem lifted (os : Os) (started : os.Started) (H : Type) (enc : TypeId × Value → H) :
    ReturnsInHanded {} Tryd.checked os 4 .any (fun w args => (Rows.repeatFirstSpec.pre enc Tryd.prog Tryd.f4 [] false w args ∧ laidMetH Tryd.prog lst w) ∧ sizedMet enc Tryd.prog Tryd.f4 (OpenSpec.ofChange Rows.repeatFirstSpec) false w args) (Rows.repeatFirstSpec.post enc Tryd.prog Tryd.f4 false true false false) := by
  refine returnsInHanded_of_change_and (C := Tryd.checked) (X := fun w _ => laidMetH Tryd.prog lst w) (fun _ _ _ hh h => h.of_heap hh) own started (by kernel_rfl) Tryd.func4
    (ChangeSpec.witness_shaped (enc := enc) (C := Tryd.checked) (os := os) (X := fun w _ => laidMetH Tryd.prog lst w) false (World.doorLaid Tryd.prog 400 os) #[.slice none 0 0, .slice none 0 0] 8 rfl (World.shaped_of_RefB (by kernel_rfl) (by kernel_rfl)) (by kernel_rfl) (by kernel_rfl) (by kernel_rfl) (door_met os _)) ?_
  intro W base args ds gs before hval0 hW _ hsz0 hL _
  have hsz : ∀ (j : Nat) (t : TypeId) (d : DataW H), (Tryd.f4.params.toList ++ Rows.repeatFirstSpec.plain.varTypes Tryd.prog)[j]? = some t → (ds ++ gs)[j]? = some d → ∀ m ∈ d.weights Tryd.prog t, m ≤ reachBytes := fun j t d h1 h2 m hm => by simpa using List.all_eq_true.1 hsz0 m (DataW.weights_mem_each h1 h2 m hm)
  have hval : ∀ (j : Nat) t v, Tryd.f4.params[j]? = some t → args[j]? = some v → Value.okWide Tryd.prog W .any base t v := hval0
  have hW' := hW
  obtain ⟨p, q, hA0, hV, rfl, hfz, hnd⟩ := hW
  have hA : DataW.TrodAll enc Tryd.prog W 0 (fun _ => true) true Tryd.f4.params.toList args.toList ds p := hA0
  rw [Tryd.params4] at hA hval
  obtain ⟨v0, vs0, d0, ds0, p0, q0, hargs, rfl, rfl, h0, r0⟩ := trodAll_cons hA
  obtain ⟨v1, vs1, d1, ds1, p1, q1, rfl, rfl, rfl, h1, r1⟩ := trodAll_cons r0
  obtain ⟨rfl, rfl, rfl⟩ := trodAll_nil r1
  obtain rfl : args = #[v0, v1] := by cases args; simp_all
  obtain ⟨x0, e0⟩ := rep_ints (n := 0) (ow := noOwn) (k := .i64) Tryd.underlying23 Tryd.underlying3 (by kernel_rfl) (hval 0 _ _ rfl rfl) h0
  obtain ⟨x1, e1, hT1, hS1⟩ := rep_toks (nn := 0) (ow := noOwn) Tryd.underlying22 Tryd.underlying56 (by kernel_rfl) (by kernel_rfl) (by kernel_rfl) Tryd.underlying3 Tryd.underlying9 Tryd.underlying3 (hval 1 _ _ rfl rfl) h1 (hsz 1 _ _ (by rw [Tryd.params4]; rfl) rfl)
  refine law_goal (tb := 4) (hg := c4 x0 x1 hT1 hS1) hW' rfl laidOut (by kernel_rfl) rfl Tryd.underlying4 G0_good ?_ rfl ⟨_, Tryd.func4, by kernel_rfl, by kernel_rfl⟩ (glob hL)
  exact ⟨e0, e1, trivial⟩
theorem over : Rows.RepeatFirstSaid :=
  OpenClaim.holds_of_wide 4 Tryd.f4 rfl rfl rfl rfl rfl rfl rfl ⟨rfl, rfl, rfl, rfl, rfl⟩ rfl rfl rfl rfl rfl (by kernel_rfl) Tryd.func4 (by kernel_rfl)
    (of_decide_eq_true (by kernel_rfl)) (by unfold Func.isWrapper; first | (rw [if_pos (by decide +kernel)]; kernel_rfl) | (rw [if_neg (by decide +kernel)]; exact ⟨rfl, rfl⟩))
    (fun os started H enc _ => lifted os started H enc)
theorem proved : Rows.RepeatFirstCardSaid :=
  Claim7.holds_tied_plain_at .later [] [.data, .data, .data] true (true, "9ebe2f0bd66529b73b74ebf347accd58263aee867542155040d1e6175780842a") false
    over (fun _ h => by cases h) (by kernel_rfl) (fun _ h => by cases h) repeatFirst_row_tie rfl ⟨rfl, rfl⟩ (by kernel_rfl) rfl
    (fun f fn hf hfn => by
      obtain rfl : f = 4 := Option.some.inj ((show Tryd.prog.funcNamed "bitext/bitextlaw19.RepeatFirst" = some 4 by kernel_rfl).symm.trans hf) |>.symm
      obtain rfl : fn = Tryd.f4 := (Option.some.inj (Tryd.func4.symm.trans hfn)).symm
      refine ⟨by kernel_rfl, fun j t ht => ?_⟩
      rw [Tryd.params4] at ht
      match j, ht with
      | 0, ht =>
        obtain rfl : 23 = t := by simpa using ht
        exact (show Tryd.prog.wantsStandIn 23 = false by kernel_rfl)
      | 1, ht =>
        obtain rfl : 22 = t := by simpa using ht
        exact (show Tryd.prog.wantsStandIn 22 = false by kernel_rfl)
      | j + 2, ht => simp at ht)
    (by kernel_rfl)
end repeatFirst
end Go.Proofs.YthnablnojflbnaaDoor
