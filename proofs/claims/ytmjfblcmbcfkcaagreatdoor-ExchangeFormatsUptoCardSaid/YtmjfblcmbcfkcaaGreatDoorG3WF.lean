/- The law 'ExchangeFormats', within the bound of a bulk: for every input the call returns true and leaves its arguments as they were. Conditions: those of the given card. -/
import Derived.Test.YtmjfblcmbcfkcaaGreatDoorG3W0
import Derived.Test.YtmjfblcmbcfkcaaGreatDoorG3XN
import Derived.Test.YtmjfblcmbcfkcaaGreatDoorG3PG
import Derived.Test.YtmjfblcmbcfkcaaGreatDoorG3XO
import Derived.Deep.DeepHandedRow
open List
set_option linter.unusedSimpArgs false
set_option linter.unusedVariables false
set_option linter.unusedSectionVars false
set_option maxRecDepth 100000
set_option maxHeartbeats 16000000
namespace Go.Proofs.YtmjfblcmbcfkcaaGreatDoor
open Go.ChangeShapes Go.WideShapes Go.ChangeAt Go.RowKit Go.Av
namespace exchangeFormats
theorem aA (H:Type) (enc:TypeId × Value->H) (W:World) (base:Nat) (args:Array Value) (ds gs:List (DataW H)) (before:List MemPlace)
  (hval0:∀ (j:Nat) t v,Tryz.f3.params[j]?=some t->args[j]?=some v->Value.okWide Tryz.prog W .any base t v)
  (hW:DataW.Whole enc Tryz.prog Tryz.f3.params.toList Rows.exchangeFormatsSpec.vars false W args.toList ds gs before) (hB:Rows.uptoBulkAll (ds++gs)<=1048576) (hL:laidMetH Tryz.prog lst W) :
  Calls Tryz.prog 3 args W fun e W'=>∃ v,e=.returned v/\Rows.exchangeFormatsSpec.post enc Tryz.prog Tryz.f3 false true false false W args v W':=by
 have hval:∀ (j:Nat) t v,Tryz.f3.params[j]?=some t->args[j]?=some v->Value.okWide Tryz.prog W .any base t v:=hval0;have hW':=hW;obtain⟨p,q,hA0,hV,rfl,hfz,hnd⟩:=hW;have hA:DataW.TrodAll enc Tryz.prog W 0 (fun _=>true) true Tryz.f3.params.toList args.toList ds p:=hA0;rw[Tryz.params3] at hA hval;obtain⟨v0,vs0,d0,ds0,p0,q0,hargs,rfl,rfl,h0,r0⟩:=trodAll_cons hA;obtain⟨v1,vs1,d1,ds1,p1,q1,rfl,rfl,rfl,h1,r1⟩:=trodAll_cons r0;obtain⟨v2,vs2,d2,ds2,p2,q2,rfl,rfl,rfl,h2,r2⟩:=trodAll_cons r1;obtain⟨rfl,rfl,rfl⟩:=trodAll_nil r2
 obtain rfl:args=#[v0,v1,v2]:=by cases args;simp_all
 obtain⟨x0,e0⟩:=JR (n:=0) (ow:=aR) (k:=.i64) Tryz.underlying22 Tryz.underlying3 (by kernel_rfl) (hval 0 _ _ rfl rfl) h0;obtain⟨x1,e1,u1⟩:=HS (nn:=0) (ow:=aR) Tryz.underlying25 (by kernel_rfl) (by kernel_rfl) Tryz.underlying23 Tryz.underlying23 Tryz.underlying60 (by kernel_rfl) (by kernel_rfl) Tryz.underlying3 Tryz.underlying9 Tryz.underlying3 Tryz.underlying9 Tryz.underlying9 Tryz.underlying9 Tryz.underlying9 Tryz.underlying3 Tryz.underlying3 (hval 1 _ _ rfl rfl) h1;have u1:=u1 (Nat.le_trans (yK (mem_append_left _ (by simp))) hB);obtain⟨x2,w2,e2⟩:=OL (n:=0) (ow:=aR) (k:=.i64) Tryz.underlying3 (hval 2 _ _ rfl rfl) h2;refine K2 (tb:=4) (hg:=k3 x0 x1 u1 x2) hW' rfl PH (by kernel_rfl) rfl Tryz.underlying4 Q5 ?_ rfl ⟨_,Tryz.func3,by kernel_rfl,by kernel_rfl⟩ (glob hL);exact⟨e0,e1,e2,trivial⟩
theorem Z2 (os:Os) {H:Type} (enc:TypeId × Value->H):∃ places,DataW.whole enc Tryz.prog ((World.doorLaid Tryz.prog 400 os).forCall (fun _ _=>0) ⟨#[],#[.slice none 0 0,.agg #[.slice none 0 0,.slice none 0 0,.string ⟨#[]⟩,.string ⟨#[]⟩,.string ⟨#[]⟩,.string ⟨#[]⟩,.int .i64 0,.int .i64 0],.int .i64 0],[]⟩).memory Tryz.f3.params.toList Rows.exchangeFormatsSpec.vars false #[.slice none 0 0,.agg #[.slice none 0 0,.slice none 0 0,.string ⟨#[]⟩,.string ⟨#[]⟩,.string ⟨#[]⟩,.string ⟨#[]⟩,.int .i64 0,.int .i64 0],.int .i64 0].toList 8=some ([.nil,.agg [.nil,.nil,.lit (.string []),.lit (.string []),.lit (.string []),.lit (.string []),.lit (.int .i64 0),.lit (.int .i64 0)],.lit (.int .i64 0)],[],places):=
 ⟨[],by kernel_rfl⟩
theorem UX (os:Os) (started:os.Started) (H:Type) (enc:TypeId × Value->H) (F:Stop.Interp) :
  ReturnsInHanded {} Tryz.checked os 3 .any ((Rows.OpenSpec.upto Rows.exchangeFormatsSpec).preRow enc Tryz.prog Tryz.f3 Rows.exchangeFormatsUptoRow.domain false Rows.exchangeFormatsUptoRow.laid) (((Rows.OpenSpec.upto Rows.exchangeFormatsSpec).at F).post enc Tryz.prog Tryz.f3 false true false false):=by
 obtain⟨places,hx⟩:=Z2 os enc;refine returnsInHanded_of_row (C:=Tryz.checked) (s:=Rows.OpenSpec.upto Rows.exchangeFormatsSpec) own started (by kernel_rfl) Tryz.func3
  ⟨World.doorLaid Tryz.prog 400 os,fun _ _=>0,⟨#[],#[.slice none 0 0,.agg #[.slice none 0 0,.slice none 0 0,.string ⟨#[]⟩,.string ⟨#[]⟩,.string ⟨#[]⟩,.string ⟨#[]⟩,.int .i64 0,.int .i64 0],.int .i64 0],[]⟩,rfl,World.shaped_of_RefB (by kernel_rfl) (by kernel_rfl),rfl,(Input.okWide_of_okWideB (by kernel_rfl)).2,OpenSpec.preRow_of_cond 8 hx (by kernel_rfl) (fun k hk=>by cases hk;kernel_rfl) (by kernel_rfl) (LU os _),by
   simp only[Assume.holds]
   exact⟨by simp,by simp,by simp,by simp,by simp⟩⟩ ?_
 intro W base args ds gs before hval hW _ hcond _ hL _ _;exact aA H enc W base args ds gs before hval hW (of_decide_eq_true (hcond _ rfl)) hL
theorem over:Rows.ExchangeFormatsUptoSaid:=
 OpenClaim.holds_of_cond 3 Tryz.f3 rfl rfl rfl rfl rfl rfl rfl ⟨rfl,rfl,rfl,rfl,rfl⟩ rfl rfl rfl rfl rfl (by kernel_rfl) Tryz.func3 (by kernel_rfl)
  (of_decide_eq_true (by kernel_rfl)) (by unfold Func.isWrapper;first | (rw[if_pos (by decide +kernel)];kernel_rfl) | (rw[if_neg (by decide +kernel)];exact⟨rfl,rfl⟩))
  (fun os started H enc _ F=>by rw[OpenClaim.pre_eq_preRow];exact UX os started H enc F)
theorem proved:Rows.ExchangeFormatsUptoCardSaid:=
 Claim7.holds_tied_plain_at .later [] [.data,.data,.data] true (true, "280d2b39df52c169afcf87e6a6e3296e7a9a448542fbcf0de22342622afee9fe") false
  over (fun _ h=>by cases h) (by kernel_rfl) (fun _ h=>by cases h) exchangeFormatsUpto_row_tie rfl ⟨rfl,rfl⟩ (by kernel_rfl) rfl
  (fun f fn hf hfn=>by
   obtain rfl:f=3:=Option.some.inj ((show Tryz.prog.funcNamed "bitext/bitextlaw22.ExchangeFormats"=some 3 by kernel_rfl).symm.trans hf) |>.symm
   obtain rfl:fn=Tryz.f3:=(Option.some.inj (Tryz.func3.symm.trans hfn)).symm
   refine⟨by kernel_rfl,fun j t ht=>?_⟩;rw[Tryz.params3] at ht
   match j,ht with
   | 0,ht =>
    obtain rfl:22=t:=by simpa using ht
    exact (show Tryz.prog.wantsStandIn 22=false by kernel_rfl)
   | 1,ht =>
    obtain rfl:25=t:=by simpa using ht
    exact (show Tryz.prog.wantsStandIn 25=false by kernel_rfl)
   | 2,ht =>
    obtain rfl:3=t:=by simpa using ht
    exact (show Tryz.prog.wantsStandIn 3=false by kernel_rfl)
   | j+3,ht=>simp at ht)
  (by kernel_rfl)
end exchangeFormats
end Go.Proofs.YtmjfblcmbcfkcaaGreatDoor
