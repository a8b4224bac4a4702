/- The law 'ExchangeUnions': for every input the call returns true and leaves its arguments as they were. Conditions: those of the given card. -/
import Derived.Test.YtmjfblcmbcfkcaaGreatDoorG2W0
import Derived.Test.YtmjfblcmbcfkcaaGreatDoorG2XO
import Derived.Test.YtmjfblcmbcfkcaaGreatDoorG2PG
open List
set_option linter.unusedSimpArgs false
set_option linter.unusedVariables false
set_option linter.unusedSectionVars false
set_option maxRecDepth 100000
set_option maxHeartbeats 16000000
namespace Go.Proofs.YtmjfblcmbcfkcaaGreatDoor
open Go.ChangeShapes Go.WideShapes Go.ChangeAt Go.RowKit Go.Av
namespace exchangeUnions
theorem EX (os:Os) (started:os.Started) (H:Type) (enc:TypeId × Value->H) :
  ReturnsInHanded {} Tryz.checked os 10 .any (fun w args=>(Rows.exchangeUnionsSpec.pre enc Tryz.prog Tryz.f10 [] false w args/\laidMetH Tryz.prog lst w)/\sizedMet enc Tryz.prog Tryz.f10 (OpenSpec.ofChange Rows.exchangeUnionsSpec) false w args) (Rows.exchangeUnionsSpec.post enc Tryz.prog Tryz.f10 false true false false):=by
 refine returnsInHanded_of_change_and (C:=Tryz.checked) (X:=fun w _=>laidMetH Tryz.prog lst w) (fun _ _ _ hh h=>h.of_heap hh) own started (by kernel_rfl) Tryz.func10
  (ChangeSpec.witness_shaped (enc:=enc) (C:=Tryz.checked) (os:=os) (X:=fun w _=>laidMetH Tryz.prog lst w) false (World.doorLaid Tryz.prog 400 os) #[.slice none 0 0,.slice none 0 0] 8 rfl (World.shaped_of_RefB (by kernel_rfl) (by kernel_rfl)) (by kernel_rfl) (by kernel_rfl) (by kernel_rfl) (DO os _)) ?_
 intro W base args ds gs before hval0 hW _ hsz0 hL _;have hval:∀ (j:Nat) t v,Tryz.f10.params[j]?=some t->args[j]?=some v->Value.okWide Tryz.prog W .any base t v:=hval0;have hW':=hW;obtain⟨p,q,hA0,hV,rfl,hfz,hnd⟩:=hW;have hA:DataW.TrodAll enc Tryz.prog W 0 (fun _=>true) true Tryz.f10.params.toList args.toList ds p:=hA0;rw[Tryz.params10] at hA hval;obtain⟨v0,vs0,d0,ds0,p0,q0,hargs,rfl,rfl,h0,r0⟩:=trodAll_cons hA;obtain⟨v1,vs1,d1,ds1,p1,q1,rfl,rfl,rfl,h1,r1⟩:=trodAll_cons r0;obtain⟨rfl,rfl,rfl⟩:=trodAll_nil r1
 obtain rfl:args=#[v0,v1]:=by cases args;simp_all
 obtain⟨x0,e0⟩:=rT (n:=0) (ow:=aS) (k:=.i64) Tryz.underlying22 Tryz.underlying3 (by kernel_rfl) (hval 0 _ _ rfl rfl) h0;obtain⟨x1,e1⟩:=rT (n:=0) (ow:=aS) (k:=.i64) Tryz.underlying22 Tryz.underlying3 (by kernel_rfl) (hval 1 _ _ rfl rfl) h1;refine C4 (tb:=4) (hg:=k10 x0 x1) hW' rfl HK (by kernel_rfl) rfl Tryz.underlying4 IW ?_ rfl ⟨_,Tryz.func10,by kernel_rfl,by kernel_rfl⟩ (glob hL);exact⟨e0,e1,trivial⟩
theorem WD:Rows.ExchangeUnionsSaid:=
 OpenClaim.holds_of_wide 10 Tryz.f10 rfl rfl rfl rfl rfl rfl rfl ⟨rfl,rfl,rfl,rfl,rfl⟩ rfl rfl rfl rfl rfl (by kernel_rfl) Tryz.func10 (by kernel_rfl)
  (of_decide_eq_true (by kernel_rfl)) (by unfold Func.isWrapper;first | (rw[if_pos (by decide +kernel)];kernel_rfl) | (rw[if_neg (by decide +kernel)];exact⟨rfl,rfl⟩))
  (fun os started H enc _=>EX os started H enc)
theorem proved:Rows.ExchangeUnionsCardSaid:=
 Claim7.holds_tied_plain_at .later [] [.data,.data,.data] true (true, "280d2b39df52c169afcf87e6a6e3296e7a9a448542fbcf0de22342622afee9fe") false
  WD (fun _ h=>by cases h) (by kernel_rfl) (fun _ h=>by cases h) exchangeUnions_row_tie rfl ⟨rfl,rfl⟩ (by kernel_rfl) rfl
  (fun f fn hf hfn=>by
   obtain rfl:f=10:=Option.some.inj ((show Tryz.prog.funcNamed "bitext/bitextlaw22.ExchangeUnions"=some 10 by kernel_rfl).symm.trans hf) |>.symm
   obtain rfl:fn=Tryz.f10:=(Option.some.inj (Tryz.func10.symm.trans hfn)).symm
   refine⟨by kernel_rfl,fun j t ht=>?_⟩;rw[Tryz.params10] at ht
   match j,ht with
   | 0,ht =>
    obtain rfl:22=t:=by simpa using ht
    exact (show Tryz.prog.wantsStandIn 22=false by kernel_rfl)
   | 1,ht =>
    obtain rfl:22=t:=by simpa using ht
    exact (show Tryz.prog.wantsStandIn 22=false by kernel_rfl)
   | j+2,ht=>simp at ht)
  (by kernel_rfl)
end exchangeUnions
end Go.Proofs.YtmjfblcmbcfkcaaGreatDoor
