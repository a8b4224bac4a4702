/- The law 'ExchangeLines': for every input the call returns true and leaves its arguments as they were. Conditions: those of the given card. -/
import Derived.Test.YtmjfblcmbcfkcaaGreatDoorG1W0
import Derived.Test.YtmjfblcmbcfkcaaGreatDoorG1XK
import Derived.Test.YtmjfblcmbcfkcaaGreatDoorG1PG
open List
set_option linter.unusedSimpArgs false
set_option linter.unusedVariables false
set_option linter.unusedSectionVars false
set_option maxRecDepth 100000
set_option maxHeartbeats 16000000
namespace Go.Proofs.YtmjfblcmbcfkcaaGreatDoor
open Go.ChangeShapes Go.WideShapes Go.ChangeAt Go.RowKit Go.Av
namespace exchangeLines
theorem lifted (os:Os) (started:os.Started) (H:Type) (enc:TypeId × Value->H) :
  ReturnsInHanded {} Tryz.checked os 6 .any (fun w args=>(Rows.exchangeLinesSpec.pre enc Tryz.prog Tryz.f6 [] false w args/\laidMetH Tryz.prog lst w)/\sizedMet enc Tryz.prog Tryz.f6 (OpenSpec.ofChange Rows.exchangeLinesSpec) false w args) (Rows.exchangeLinesSpec.post enc Tryz.prog Tryz.f6 false true false false):=by
 refine returnsInHanded_of_change_and (C:=Tryz.checked) (X:=fun w _=>laidMetH Tryz.prog lst w) (fun _ _ _ hh h=>h.of_heap hh) own started (by kernel_rfl) Tryz.func6
  (ChangeSpec.witness_shaped (enc:=enc) (C:=Tryz.checked) (os:=os) (X:=fun w _=>laidMetH Tryz.prog lst w) false (World.doorLaid Tryz.prog 400 os) #[.slice none 0 0,.int .i64 0,.int .i64 0,.int .i64 0] 8 rfl (World.shaped_of_RefB (by kernel_rfl) (by kernel_rfl)) (by kernel_rfl) (by kernel_rfl) (by kernel_rfl) (door_met os _)) ?_
 intro W base args ds gs before hval0 hW _ hsz0 hL _;have hval:∀ (j:Nat) t v,Tryz.f6.params[j]?=some t->args[j]?=some v->Value.okWide Tryz.prog W .any base t v:=hval0;have hW':=hW;obtain⟨p,q,hA0,hV,rfl,hfz,hnd⟩:=hW;have hA:DataW.TrodAll enc Tryz.prog W 0 (fun _=>true) true Tryz.f6.params.toList args.toList ds p:=hA0;rw[Tryz.params6] at hA hval;obtain⟨v0,vs0,d0,ds0,p0,q0,hargs,rfl,rfl,h0,r0⟩:=trodAll_cons hA;obtain⟨v1,vs1,d1,ds1,p1,q1,rfl,rfl,rfl,h1,r1⟩:=trodAll_cons r0;obtain⟨v2,vs2,d2,ds2,p2,q2,rfl,rfl,rfl,h2,r2⟩:=trodAll_cons r1;obtain⟨v3,vs3,d3,ds3,p3,q3,rfl,rfl,rfl,h3,r3⟩:=trodAll_cons r2;obtain⟨rfl,rfl,rfl⟩:=trodAll_nil r3
 obtain rfl:args=#[v0,v1,v2,v3]:=by cases args;simp_all
 obtain⟨x0,e0⟩:=rep_ints (n:=0) (ow:=noOwn) (k:=.i64) Tryz.underlying22 Tryz.underlying3 (by kernel_rfl) (hval 0 _ _ rfl rfl) h0;obtain⟨x1,w1,e1⟩:=rep_int (n:=0) (ow:=noOwn) (k:=.i64) Tryz.underlying3 (hval 1 _ _ rfl rfl) h1;obtain⟨x2,w2,e2⟩:=rep_int (n:=0) (ow:=noOwn) (k:=.i64) Tryz.underlying3 (hval 2 _ _ rfl rfl) h2;obtain⟨x3,w3,e3⟩:=rep_int (n:=0) (ow:=noOwn) (k:=.i64) Tryz.underlying3 (hval 3 _ _ rfl rfl) h3;refine law_goal (tb:=4) (hg:=k6 x0 x1 x2 x3) hW' rfl laidOut (by kernel_rfl) rfl Tryz.underlying4 G9_good ?_ rfl ⟨_,Tryz.func6,by kernel_rfl,by kernel_rfl⟩ (glob hL);exact⟨e0,e1,e2,e3,trivial⟩
theorem over:Rows.ExchangeLinesSaid:=
 OpenClaim.holds_of_wide 6 Tryz.f6 rfl rfl rfl rfl rfl rfl rfl ⟨rfl,rfl,rfl,rfl,rfl⟩ rfl rfl rfl rfl rfl (by kernel_rfl) Tryz.func6 (by kernel_rfl)
  (of_decide_eq_true (by kernel_rfl)) (by unfold Func.isWrapper;first | (rw[if_pos (by decide +kernel)];kernel_rfl) | (rw[if_neg (by decide +kernel)];exact⟨rfl,rfl⟩))
  (fun os started H enc _=>lifted os started H enc)
theorem proved:Rows.ExchangeLinesCardSaid:=
 Claim7.holds_tied_plain_at .later [] [.data,.data,.data] true (true, "280d2b39df52c169afcf87e6a6e3296e7a9a448542fbcf0de22342622afee9fe") false
  over (fun _ h=>by cases h) (by kernel_rfl) (fun _ h=>by cases h) exchangeLines_row_tie rfl ⟨rfl,rfl⟩ (by kernel_rfl) rfl
  (fun f fn hf hfn=>by
   obtain rfl:f=6:=Option.some.inj ((show Tryz.prog.funcNamed "bitext/bitextlaw22.ExchangeLines"=some 6 by kernel_rfl).symm.trans hf) |>.symm
   obtain rfl:fn=Tryz.f6:=(Option.some.inj (Tryz.func6.symm.trans hfn)).symm
   refine⟨by kernel_rfl,fun j t ht=>?_⟩;rw[Tryz.params6] at ht
   match j,ht with
   | 0,ht =>
    obtain rfl:22=t:=by simpa using ht
    exact (show Tryz.prog.wantsStandIn 22=false by kernel_rfl)
   | 1,ht =>
    obtain rfl:3=t:=by simpa using ht
    exact (show Tryz.prog.wantsStandIn 3=false by kernel_rfl)
   | 2,ht =>
    obtain rfl:3=t:=by simpa using ht
    exact (show Tryz.prog.wantsStandIn 3=false by kernel_rfl)
   | 3,ht =>
    obtain rfl:3=t:=by simpa using ht
    exact (show Tryz.prog.wantsStandIn 3=false by kernel_rfl)
   | j+4,ht=>simp at ht)
  (by kernel_rfl)
end exchangeLines
end Go.Proofs.YtmjfblcmbcfkcaaGreatDoor
