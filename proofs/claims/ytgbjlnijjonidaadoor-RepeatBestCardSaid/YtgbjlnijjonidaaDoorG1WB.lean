/- The law 'RepeatBest': for every input the call returns true and leaves its arguments as they were. Conditions: those of the given card. -/
import Derived.Test.YtgbjlnijjonidaaDoorG1W0
import Derived.Test.YtgbjlnijjonidaaDoorG1XH
import Derived.Test.YtgbjlnijjonidaaDoorG1PG
open List
set_option linter.unusedSimpArgs false
set_option linter.unusedVariables false
set_option linter.unusedSectionVars false
set_option maxRecDepth 100000
set_option maxHeartbeats 16000000
namespace Go.Proofs.YtgbjlnijjonidaaDoor
open Go.ChangeShapes Go.WideShapes Go.ChangeAt Go.RowKit Go.Av
namespace repeatBest
theorem xB (os:Os) (started:os.Started) (H:Type) (enc:TypeId × Value->H) :
  ReturnsInHanded {} Tryd.checked os 3 .any (fun w args=>(Rows.repeatBestSpec.pre enc Tryd.prog Tryd.f3 [] false w args/\laidMetH Tryd.prog lst w)/\sizedMet enc Tryd.prog Tryd.f3 (OpenSpec.ofChange Rows.repeatBestSpec) false w args) (Rows.repeatBestSpec.post enc Tryd.prog Tryd.f3 false true false false):=by
 refine returnsInHanded_of_change_and (C:=Tryd.checked) (X:=fun w _=>laidMetH Tryd.prog lst w) (fun _ _ _ hh h=>h.of_heap hh) own started (by kernel_rfl) Tryd.func3
  (ChangeSpec.witness_shaped (enc:=enc) (C:=Tryd.checked) (os:=os) (X:=fun w _=>laidMetH Tryd.prog lst w) false (World.doorLaid Tryd.prog 400 os) #[.slice none 0 0,.int .i64 0] 8 rfl (World.shaped_of_RefB (by kernel_rfl) (by kernel_rfl)) (by kernel_rfl) (by kernel_rfl) (by kernel_rfl) (vU os _)) ?_
 intro W base args ds gs before hval0 hW _ hsz0 hL _;have hval:∀ (j:Nat) t v,Tryd.f3.params[j]?=some t->args[j]?=some v->Value.okWide Tryd.prog W .any base t v:=hval0;have hW':=hW;obtain⟨p,q,hA0,hV,rfl,hfz,hnd⟩:=hW;have hA:DataW.TrodAll enc Tryd.prog W 0 (fun _=>true) true Tryd.f3.params.toList args.toList ds p:=hA0;rw[Tryd.params3] at hA hval;obtain⟨v0,vs0,d0,ds0,p0,q0,hargs,rfl,rfl,h0,r0⟩:=trodAll_cons hA;obtain⟨v1,vs1,d1,ds1,p1,q1,rfl,rfl,rfl,h1,r1⟩:=trodAll_cons r0;obtain⟨rfl,rfl,rfl⟩:=trodAll_nil r1
 obtain rfl:args=#[v0,v1]:=by cases args;simp_all
 obtain⟨x0,e0⟩:=DH (n:=0) (ow:=aN) (k:=.i64) Tryd.underlying22 Tryd.underlying3 (by kernel_rfl) (hval 0 _ _ rfl rfl) h0;obtain⟨x1,w1,e1⟩:=yS (n:=0) (ow:=aN) (k:=.i64) Tryd.underlying3 (hval 1 _ _ rfl rfl) h1;refine vC (tb:=4) (hg:=k3 x0 x1) hW' rfl zK (by kernel_rfl) rfl Tryd.underlying4 A0 ?_ rfl ⟨_,Tryd.func3,by kernel_rfl,by kernel_rfl⟩ (SJ hL);exact⟨e0,e1,trivial⟩
theorem MN:Rows.RepeatBestSaid:=
 OpenClaim.holds_of_wide 3 Tryd.f3 rfl rfl rfl rfl rfl rfl rfl ⟨rfl,rfl,rfl,rfl,rfl⟩ rfl rfl rfl rfl rfl (by kernel_rfl) Tryd.func3 (by kernel_rfl)
  (of_decide_eq_true (by kernel_rfl)) (by unfold Func.isWrapper;first | (rw[if_pos (by decide +kernel)];kernel_rfl) | (rw[if_neg (by decide +kernel)];exact⟨rfl,rfl⟩))
  (fun os started H enc _=>xB os started H enc)
theorem proved:Rows.RepeatBestCardSaid:=
 Claim7.holds_tied_plain_at .later [] [.data,.data,.data] true (true, "9e1552080e0bce5f81409c89f11980492f35c461cf6d20db2a8ced7c66cb4a15") false
  MN (fun _ h=>by cases h) (by kernel_rfl) (fun _ h=>by cases h) repeatBest_row_tie rfl ⟨rfl,rfl⟩ (by kernel_rfl) rfl
  (fun f fn hf hfn=>by
   obtain rfl:f=3:=Option.some.inj ((show Tryd.prog.funcNamed "bitext/bitextlaw19.RepeatBest"=some 3 by kernel_rfl).symm.trans hf) |>.symm
   obtain rfl:fn=Tryd.f3:=(Option.some.inj (Tryd.func3.symm.trans hfn)).symm
   refine⟨by kernel_rfl,fun j t ht=>?_⟩;rw[Tryd.params3] at ht
   match j,ht with
   | 0,ht =>
    obtain rfl:22=t:=by simpa using ht
    exact (show Tryd.prog.wantsStandIn 22=false by kernel_rfl)
   | 1,ht =>
    obtain rfl:3=t:=by simpa using ht
    exact (show Tryd.prog.wantsStandIn 3=false by kernel_rfl)
   | j+2,ht=>simp at ht)
  (by kernel_rfl)
end repeatBest
end Go.Proofs.YtgbjlnijjonidaaDoor
