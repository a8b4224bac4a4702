/- The law 'MemoryPuts', within the bound of a bulk: for every input the call returns true and leaves its arguments as they were. Conditions: those of the given card. -/
import Derived.Test.YtigalfbihapdnaaGreatDoorG7W0
import Derived.Test.YtigalfbihapdnaaGreatDoorG7XN
import Derived.Test.YtigalfbihapdnaaGreatDoorG7PG
import Derived.Test.YtigalfbihapdnaaGreatDoorG7XO
import Derived.Deep.DeepHandedRow
open List
set_option linter.unusedSimpArgs false
set_option linter.unusedVariables false
set_option linter.unusedSectionVars false
set_option maxRecDepth 100000
set_option maxHeartbeats 16000000
namespace Go.Proofs.YtigalfbihapdnaaGreatDoor
open Go.ChangeShapes Go.WideShapes Go.ChangeAt Go.RowKit Go.Av
namespace memoryPuts
theorem contract (H:Type) (enc:TypeId × Value->H) (W:World) (base:Nat) (args:Array Value) (ds gs:List (DataW H)) (before:List MemPlace)
  (hval0:∀ (j:Nat) t v,Tryz.f6.params[j]?=some t->args[j]?=some v->Value.okWide Tryz.prog W .any base t v)
  (hW:DataW.Whole enc Tryz.prog Tryz.f6.params.toList Rows.memoryPutsSpec.vars false W args.toList ds gs before) (hB:Rows.uptoBulkAll (ds++gs)<=1048576) (hL:laidMetH Tryz.prog lst W) :
  Calls Tryz.prog 6 args W fun e W'=>∃ v,e=.returned v/\Rows.memoryPutsSpec.post enc Tryz.prog Tryz.f6 false true false false W args v W':=by
 have hval:∀ (j:Nat) t v,Tryz.f6.params[j]?=some t->args[j]?=some v->Value.okWide Tryz.prog W .any base t v:=hval0;have hW':=hW;obtain⟨p,q,hA0,hV,rfl,hfz,hnd⟩:=hW;have hA:DataW.TrodAll enc Tryz.prog W 0 (fun _=>true) true Tryz.f6.params.toList args.toList ds p:=hA0;rw[Tryz.params6] at hA hval;obtain⟨v0,vs0,d0,ds0,p0,q0,hargs,rfl,rfl,h0,r0⟩:=trodAll_cons hA;obtain⟨v1,vs1,d1,ds1,p1,q1,rfl,rfl,rfl,h1,r1⟩:=trodAll_cons r0;obtain⟨v2,vs2,d2,ds2,p2,q2,rfl,rfl,rfl,h2,r2⟩:=trodAll_cons r1;obtain⟨v3,vs3,d3,ds3,p3,q3,rfl,rfl,rfl,h3,r3⟩:=trodAll_cons r2;obtain⟨v4,vs4,d4,ds4,p4,q4,rfl,rfl,rfl,h4,r4⟩:=trodAll_cons r3;obtain⟨v5,vs5,d5,ds5,p5,q5,rfl,rfl,rfl,h5,r5⟩:=trodAll_cons r4;obtain⟨rfl,rfl,rfl⟩:=trodAll_nil r5
 obtain rfl:args=#[v0,v1,v2,v3,v4,v5]:=by cases args;simp_all
 obtain⟨x0,e0⟩:=rep_ints (n:=0) (ow:=noOwn) (k:=.i64) Tryz.underlying22 Tryz.underlying3 (by kernel_rfl) (hval 0 _ _ rfl rfl) h0;obtain⟨x1,e1⟩:=rep_ints (n:=0) (ow:=noOwn) (k:=.i64) Tryz.underlying22 Tryz.underlying3 (by kernel_rfl) (hval 1 _ _ rfl rfl) h1;obtain⟨x2,w2,e2⟩:=rep_int (n:=0) (ow:=noOwn) (k:=.i64) Tryz.underlying3 (hval 2 _ _ rfl rfl) h2;obtain⟨x3,e3,u3⟩:=rep_entry (nn:=0) (ow:=noOwn) Tryz.underlying41 (by kernel_rfl) (by kernel_rfl) Tryz.underlying39 Tryz.underlying39 Tryz.underlying68 (by kernel_rfl) (by kernel_rfl) Tryz.underlying3 Tryz.underlying9 Tryz.underlying3 Tryz.underlying9 Tryz.underlying9 Tryz.underlying9 Tryz.underlying9 Tryz.underlying3 Tryz.underlying3 (hval 3 _ _ rfl rfl) h3;have u3:=u3 (Nat.le_trans (bulk_part (mem_append_left _ (by simp))) hB);obtain⟨x4,e4⟩:=rep_str (n:=0) (ow:=noOwn) Tryz.underlying9 (hval 4 _ _ rfl rfl);obtain⟨x5,e5⟩:=rep_bool (n:=0) (ow:=noOwn) Tryz.underlying4 (hval 5 _ _ rfl rfl) h5;refine law_goal (tb:=4) (hg:=k6 x0 x1 x2 x3 u3 x4 x5) hW' rfl laidOut (by kernel_rfl) rfl Tryz.underlying4 Gp_good ?_ rfl ⟨_,Tryz.func6,by kernel_rfl,by kernel_rfl⟩ (glob hL);exact⟨e0,e1,e2,e3,e4,e5,trivial⟩
theorem reads (os:Os) {H:Type} (enc:TypeId × Value->H):∃ places,DataW.whole enc Tryz.prog ((World.doorLaid Tryz.prog 400 os).forCall (fun _ _=>0) ⟨#[],#[.slice none 0 0,.slice none 0 0,.int .i64 0,.agg #[.slice none 0 0,.slice none 0 0,.string ⟨#[]⟩,.string ⟨#[]⟩,.string ⟨#[]⟩,.string ⟨#[]⟩,.int .i64 0,.int .i64 0],.string ⟨#[]⟩,.bool false],[]⟩).memory Tryz.f6.params.toList Rows.memoryPutsSpec.vars false #[.slice none 0 0,.slice none 0 0,.int .i64 0,.agg #[.slice none 0 0,.slice none 0 0,.string ⟨#[]⟩,.string ⟨#[]⟩,.string ⟨#[]⟩,.string ⟨#[]⟩,.int .i64 0,.int .i64 0],.string ⟨#[]⟩,.bool false].toList 8=some ([.nil,.nil,.lit (.int .i64 0),.agg [.nil,.nil,.lit (.string []),.lit (.string []),.lit (.string []),.lit (.string []),.lit (.int .i64 0),.lit (.int .i64 0)],.lit (.string []),.lit (.bool false)],[],places):=
 ⟨[],by kernel_rfl⟩
theorem lifted (os:Os) (started:os.Started) (H:Type) (enc:TypeId × Value->H) (F:Stop.Interp) :
  ReturnsInHanded {} Tryz.checked os 6 .any ((Rows.OpenSpec.upto Rows.memoryPutsSpec).preRow enc Tryz.prog Tryz.f6 Rows.memoryPutsUptoRow.domain false Rows.memoryPutsUptoRow.laid) (((Rows.OpenSpec.upto Rows.memoryPutsSpec).at F).post enc Tryz.prog Tryz.f6 false true false false):=by
 obtain⟨places,hx⟩:=reads os enc;refine returnsInHanded_of_row (C:=Tryz.checked) (s:=Rows.OpenSpec.upto Rows.memoryPutsSpec) own started (by kernel_rfl) Tryz.func6
  ⟨World.doorLaid Tryz.prog 400 os,fun _ _=>0,⟨#[],#[.slice none 0 0,.slice none 0 0,.int .i64 0,.agg #[.slice none 0 0,.slice none 0 0,.string ⟨#[]⟩,.string ⟨#[]⟩,.string ⟨#[]⟩,.string ⟨#[]⟩,.int .i64 0,.int .i64 0],.string ⟨#[]⟩,.bool false],[]⟩,rfl,World.shaped_of_RefB (by kernel_rfl) (by kernel_rfl),rfl,(Input.okWide_of_okWideB (by kernel_rfl)).2,OpenSpec.preRow_of_cond 8 hx (by kernel_rfl) (fun k hk=>by cases hk;kernel_rfl) (by kernel_rfl) (door_met os _),by
   simp only[Assume.holds]
   exact⟨by simp,by simp,by simp,by simp,by simp⟩⟩ ?_
 intro W base args ds gs before hval hW _ hcond _ hL _ _;exact contract H enc W base args ds gs before hval hW (of_decide_eq_true (hcond _ rfl)) hL
theorem over:Rows.MemoryPutsUptoSaid:=
 OpenClaim.holds_of_cond 6 Tryz.f6 rfl rfl rfl rfl rfl rfl rfl ⟨rfl,rfl,rfl,rfl,rfl⟩ rfl rfl rfl rfl rfl (by kernel_rfl) Tryz.func6 (by kernel_rfl)
  (of_decide_eq_true (by kernel_rfl)) (by unfold Func.isWrapper;first | (rw[if_pos (by decide +kernel)];kernel_rfl) | (rw[if_neg (by decide +kernel)];exact⟨rfl,rfl⟩))
  (fun os started H enc _ F=>by rw[OpenClaim.pre_eq_preRow];exact lifted os started H enc F)
theorem proved:Rows.MemoryPutsUptoCardSaid:=
 Claim7.holds_tied_plain_at .later [] [.data,.data,.data] true (true, "53ba57ac69404a10c2fb1e8bed01d0f0f4982a15a146c373249b332887811e3a") false
  over (fun _ h=>by cases h) (by kernel_rfl) (fun _ h=>by cases h) memoryPutsUpto_row_tie rfl ⟨rfl,rfl⟩ (by kernel_rfl) rfl
  (fun f fn hf hfn=>by
   obtain rfl:f=6:=Option.some.inj ((show Tryz.prog.funcNamed "bitext/bitextlaw16.MemoryPuts"=some 6 by kernel_rfl).symm.trans hf) |>.symm
   obtain rfl:fn=Tryz.f6:=(Option.some.inj (Tryz.func6.symm.trans hfn)).symm
   refine⟨by kernel_rfl,fun j t ht=>?_⟩;rw[Tryz.params6] at ht
   match j,ht with
   | 0,ht =>
    obtain rfl:22=t:=by simpa using ht
    exact (show Tryz.prog.wantsStandIn 22=false by kernel_rfl)
   | 1,ht =>
    obtain rfl:22=t:=by simpa using ht
    exact (show Tryz.prog.wantsStandIn 22=false by kernel_rfl)
   | 2,ht =>
    obtain rfl:3=t:=by simpa using ht
    exact (show Tryz.prog.wantsStandIn 3=false by kernel_rfl)
   | 3,ht =>
    obtain rfl:41=t:=by simpa using ht
    exact (show Tryz.prog.wantsStandIn 41=false by kernel_rfl)
   | 4,ht =>
    obtain rfl:9=t:=by simpa using ht
    exact (show Tryz.prog.wantsStandIn 9=false by kernel_rfl)
   | 5,ht =>
    obtain rfl:4=t:=by simpa using ht
    exact (show Tryz.prog.wantsStandIn 4=false by kernel_rfl)
   | j+6,ht=>simp at ht)
  (by kernel_rfl)
end memoryPuts
end Go.Proofs.YtigalfbihapdnaaGreatDoor
