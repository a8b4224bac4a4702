/- The law 'RepeatSimilar': for every input the call returns true and leaves its arguments as they were. Conditions: those of the given card. -/
import Derived.Test.YtgbjlnijjonidaaGreatDoorG1W0
import Derived.Test.YtgbjlnijjonidaaGreatDoorG1XG
import Derived.Test.YtgbjlnijjonidaaGreatDoorG1PG
open List
set_option linter.unusedSimpArgs false
set_option linter.unusedVariables false
set_option linter.unusedSectionVars false
set_option maxRecDepth 100000
set_option maxHeartbeats 16000000
namespace Go.Proofs.YtgbjlnijjonidaaGreatDoor
open Go.ChangeShapes Go.WideShapes Go.ChangeAt Go.RowKit Go.Av
namespace repeatSimilar
theorem KV (os:Os) (started:os.Started) (H:Type) (enc:TypeId × Value->H) :
  ReturnsInHanded {} Tryz.checked os 3 .any (fun w args=>(Rows.repeatSimilarSpec.pre enc Tryz.prog Tryz.f3 [] false w args/\laidMetH Tryz.prog lst w)/\sizedMet enc Tryz.prog Tryz.f3 (OpenSpec.ofChange Rows.repeatSimilarSpec) false w args) (Rows.repeatSimilarSpec.post enc Tryz.prog Tryz.f3 false true false false):=by
 refine returnsInHanded_of_change_and (C:=Tryz.checked) (X:=fun w _=>laidMetH Tryz.prog lst w) (fun _ _ _ hh h=>h.of_heap hh) own started (by kernel_rfl) Tryz.func3
  (ChangeSpec.witness_shaped (enc:=enc) (C:=Tryz.checked) (os:=os) (X:=fun w _=>laidMetH Tryz.prog lst w) false (World.doorLaid Tryz.prog 400 os) #[.slice none 0 0,.int .i64 0,.slice none 0 0] 8 rfl (World.shaped_of_RefB (by kernel_rfl) (by kernel_rfl)) (by kernel_rfl) (by kernel_rfl) (by kernel_rfl) (DF os _)) ?_
 intro W base args ds gs before hval0 hW _ hsz0 hL _;have hsz:∀ (j:Nat) (t:TypeId) (d:DataW H),(Tryz.f3.params.toList++Rows.repeatSimilarSpec.plain.varTypes Tryz.prog)[j]?=some t->(ds++gs)[j]?=some d->∀ m∈d.weights Tryz.prog t,m<=reachBytes:=fun j t d h1 h2 m hm=>by simpa using all_eq_true.1 hsz0 m (DataW.weights_mem_each h1 h2 m hm)
 have hval:∀ (j:Nat) t v,Tryz.f3.params[j]?=some t->args[j]?=some v->Value.okWide Tryz.prog W .any base t v:=hval0;have hW':=hW;obtain⟨p,q,hA0,hV,rfl,hfz,hnd⟩:=hW;have hA:DataW.TrodAll enc Tryz.prog W 0 (fun _=>true) true Tryz.f3.params.toList args.toList ds p:=hA0;rw[Tryz.params3] at hA hval;obtain⟨v0,vs0,d0,ds0,p0,q0,hargs,rfl,rfl,h0,r0⟩:=trodAll_cons hA;obtain⟨v1,vs1,d1,ds1,p1,q1,rfl,rfl,rfl,h1,r1⟩:=trodAll_cons r0;obtain⟨v2,vs2,d2,ds2,p2,q2,rfl,rfl,rfl,h2,r2⟩:=trodAll_cons r1;obtain⟨rfl,rfl,rfl⟩:=trodAll_nil r2
 obtain rfl:args=#[v0,v1,v2]:=by cases args;simp_all
 obtain⟨x0,e0⟩:=B2 (n:=0) (ow:=aN) (k:=.i64) Tryz.underlying22 Tryz.underlying3 (by kernel_rfl) (hval 0 _ _ rfl rfl) h0;obtain⟨x1,w1,e1⟩:=FY (n:=0) (ow:=aN) (k:=.i64) Tryz.underlying3 (hval 1 _ _ rfl rfl) h1;obtain⟨x2,e2,hT2,hS2⟩:=B1 (nn:=0) (ow:=aN) Tryz.underlying23 Tryz.underlying37 (by kernel_rfl) (by kernel_rfl) (by kernel_rfl) Tryz.underlying3 Tryz.underlying9 Tryz.underlying3 (hval 2 _ _ rfl rfl) h2 (hsz 2 _ _ (by rw[Tryz.params3];rfl) rfl);refine CV (tb:=4) (hg:=k3 x0 x1 x2 hT2 hS2) hW' rfl GM (by kernel_rfl) rfl Tryz.underlying4 IB ?_ rfl ⟨_,Tryz.func3,by kernel_rfl,by kernel_rfl⟩ (UW hL);exact⟨e0,e1,e2,trivial⟩
theorem T1:Rows.RepeatSimilarSaid:=
 OpenClaim.holds_of_wide 3 Tryz.f3 rfl rfl rfl rfl rfl rfl rfl ⟨rfl,rfl,rfl,rfl,rfl⟩ rfl rfl rfl rfl rfl (by kernel_rfl) Tryz.func3 (by kernel_rfl)
  (of_decide_eq_true (by kernel_rfl)) (by unfold Func.isWrapper;first | (rw[if_pos (by decide +kernel)];kernel_rfl) | (rw[if_neg (by decide +kernel)];exact⟨rfl,rfl⟩))
  (fun os started H enc _=>KV os started H enc)
theorem proved:Rows.RepeatSimilarCardSaid:=
 Claim7.holds_tied_plain_at .later [] [.data,.data,.data] true (true, "d7d069e5bc829740ca4bff668e231e6ac96c4bcd076617d747db1d2d41d21ab9") false
  T1 (fun _ h=>by cases h) (by kernel_rfl) (fun _ h=>by cases h) repeatSimilar_row_tie rfl ⟨rfl,rfl⟩ (by kernel_rfl) rfl
  (fun f fn hf hfn=>by
   obtain rfl:f=3:=Option.some.inj ((show Tryz.prog.funcNamed "bitext/bitextlaw19.RepeatSimilar"=some 3 by kernel_rfl).symm.trans hf) |>.symm
   obtain rfl:fn=Tryz.f3:=(Option.some.inj (Tryz.func3.symm.trans hfn)).symm
   refine⟨by kernel_rfl,fun j t ht=>?_⟩;rw[Tryz.params3] at ht
   match j,ht with
   | 0,ht =>
    obtain rfl:22=t:=by simpa using ht
    exact (show Tryz.prog.wantsStandIn 22=false by kernel_rfl)
   | 1,ht =>
    obtain rfl:3=t:=by simpa using ht
    exact (show Tryz.prog.wantsStandIn 3=false by kernel_rfl)
   | 2,ht =>
    obtain rfl:23=t:=by simpa using ht
    exact (show Tryz.prog.wantsStandIn 23=false by kernel_rfl)
   | j+3,ht=>simp at ht)
  (by kernel_rfl)
end repeatSimilar
end Go.Proofs.YtgbjlnijjonidaaGreatDoor
