/- The law 'ExchangeImports': for every input the call returns true and leaves its arguments as they were. Conditions: those of the given card. -/
import Derived.Test.YtmjfblcmbcfkcaaGreatDoorG2W0
import Derived.Test.YtmjfblcmbcfkcaaGreatDoorG2XO
import Derived.Test.YtmjfblcmbcfkcaaGreatDoorG2PG
open List
set_option linter.unusedSimpArgs false
set_option linter.unusedVariables false
set_option linter.unusedSectionVars false
set_option maxRecDepth 100000
set_option maxHeartbeats 16000000
namespace Go.Proofs.YtmjfblcmbcfkcaaGreatDoor
open Go.ChangeShapes Go.WideShapes Go.ChangeAt Go.RowKit Go.Av
namespace exchangeImports
theorem EX (os:Os) (started:os.Started) (H:Type) (enc:TypeId × Value->H) :
  ReturnsInHanded {} Tryz.checked os 9 .any (fun w args=>(Rows.exchangeImportsSpec.pre enc Tryz.prog Tryz.f9 [] false w args/\laidMetH Tryz.prog lst w)/\sizedMet enc Tryz.prog Tryz.f9 (OpenSpec.ofChange Rows.exchangeImportsSpec) false w args) (Rows.exchangeImportsSpec.post enc Tryz.prog Tryz.f9 false true false false):=by
 refine returnsInHanded_of_change_and (C:=Tryz.checked) (X:=fun w _=>laidMetH Tryz.prog lst w) (fun _ _ _ hh h=>h.of_heap hh) own started (by kernel_rfl) Tryz.func9
  (ChangeSpec.witness_shaped (enc:=enc) (C:=Tryz.checked) (os:=os) (X:=fun w _=>laidMetH Tryz.prog lst w) false (World.doorLaid Tryz.prog 400 os) #[.slice none 0 0,.slice none 0 0,.string ⟨#[]⟩] 8 rfl (World.shaped_of_RefB (by kernel_rfl) (by kernel_rfl)) (by kernel_rfl) (by kernel_rfl) (by kernel_rfl) (DO os _)) ?_
 intro W base args ds gs before hval0 hW _ hsz0 hL _;have hval:∀ (j:Nat) t v,Tryz.f9.params[j]?=some t->args[j]?=some v->Value.okWide Tryz.prog W .any base t v:=hval0;have hW':=hW;obtain⟨p,q,hA0,hV,rfl,hfz,hnd⟩:=hW;have hA:DataW.TrodAll enc Tryz.prog W 0 (fun _=>true) true Tryz.f9.params.toList args.toList ds p:=hA0;rw[Tryz.params9] at hA hval;obtain⟨v0,vs0,d0,ds0,p0,q0,hargs,rfl,rfl,h0,r0⟩:=trodAll_cons hA;obtain⟨v1,vs1,d1,ds1,p1,q1,rfl,rfl,rfl,h1,r1⟩:=trodAll_cons r0;obtain⟨v2,vs2,d2,ds2,p2,q2,rfl,rfl,rfl,h2,r2⟩:=trodAll_cons r1;obtain⟨rfl,rfl,rfl⟩:=trodAll_nil r2
 obtain rfl:args=#[v0,v1,v2]:=by cases args;simp_all
 obtain⟨x0,e0⟩:=rT (n:=0) (ow:=aS) (k:=.i64) Tryz.underlying22 Tryz.underlying3 (by kernel_rfl) (hval 0 _ _ rfl rfl) h0;obtain⟨x1,e1⟩:=rT (n:=0) (ow:=aS) (k:=.i64) Tryz.underlying22 Tryz.underlying3 (by kernel_rfl) (hval 1 _ _ rfl rfl) h1;obtain⟨x2,e2⟩:=QL (n:=0) (ow:=aS) Tryz.underlying9 (hval 2 _ _ rfl rfl);refine C4 (tb:=4) (hg:=k9 x0 x1 x2) hW' rfl HK (by kernel_rfl) rfl Tryz.underlying4 IW ?_ rfl ⟨_,Tryz.func9,by kernel_rfl,by kernel_rfl⟩ (glob hL);exact⟨e0,e1,e2,trivial⟩
theorem WD:Rows.ExchangeImportsSaid:=
 OpenClaim.holds_of_wide 9 Tryz.f9 rfl rfl rfl rfl rfl rfl rfl ⟨rfl,rfl,rfl,rfl,rfl⟩ rfl rfl rfl rfl rfl (by kernel_rfl) Tryz.func9 (by kernel_rfl)
  (of_decide_eq_true (by kernel_rfl)) (by unfold Func.isWrapper;first | (rw[if_pos (by decide +kernel)];kernel_rfl) | (rw[if_neg (by decide +kernel)];exact⟨rfl,rfl⟩))
  (fun os started H enc _=>EX os started H enc)
theorem proved:Rows.ExchangeImportsCardSaid:=
 Claim7.holds_tied_plain_at .later [] [.data,.data,.data] true (true, "280d2b39df52c169afcf87e6a6e3296e7a9a448542fbcf0de22342622afee9fe") false
  WD (fun _ h=>by cases h) (by kernel_rfl) (fun _ h=>by cases h) exchangeImports_row_tie rfl ⟨rfl,rfl⟩ (by kernel_rfl) rfl
  (fun f fn hf hfn=>by
   obtain rfl:f=9:=Option.some.inj ((show Tryz.prog.funcNamed "bitext/bitextlaw22.ExchangeImports"=some 9 by kernel_rfl).symm.trans hf) |>.symm
   obtain rfl:fn=Tryz.f9:=(Option.some.inj (Tryz.func9.symm.trans hfn)).symm
   refine⟨by kernel_rfl,fun j t ht=>?_⟩;rw[Tryz.params9] at ht
   match j,ht with
   | 0,ht =>
    obtain rfl:22=t:=by simpa using ht
    exact (show Tryz.prog.wantsStandIn 22=false by kernel_rfl)
   | 1,ht =>
    obtain rfl:22=t:=by simpa using ht
    exact (show Tryz.prog.wantsStandIn 22=false by kernel_rfl)
   | 2,ht =>
    obtain rfl:9=t:=by simpa using ht
    exact (show Tryz.prog.wantsStandIn 9=false by kernel_rfl)
   | j+3,ht=>simp at ht)
  (by kernel_rfl)
end exchangeImports
end Go.Proofs.YtmjfblcmbcfkcaaGreatDoor
