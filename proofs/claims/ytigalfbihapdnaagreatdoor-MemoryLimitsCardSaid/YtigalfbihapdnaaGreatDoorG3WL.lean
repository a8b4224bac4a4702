/- The law 'MemoryLimits': for every input the call returns true and leaves its arguments as they were. Conditions: those of the given card. -/
import Derived.Test.YtigalfbihapdnaaGreatDoorG3W0
import Derived.Test.YtigalfbihapdnaaGreatDoorG3XK
import Derived.Test.YtigalfbihapdnaaGreatDoorG3PG
set_option linter.unusedSimpArgs false
set_option linter.unusedVariables false
set_option linter.unusedSectionVars false
set_option maxRecDepth 100000
set_option maxHeartbeats 16000000
namespace Go.Proofs.YtigalfbihapdnaaGreatDoor
open Go.ChangeShapes Go.WideShapes Go.ChangeAt Go.RowKit Go.Av
namespace memoryLimits
theorem lifted (os:Os) (started:os.Started) (H:Type) (enc:TypeId × Value→H) :
  ReturnsInHanded {} Tryz.checked os 12 .any (fun w args=>(Rows.memoryLimitsSpec.pre enc Tryz.prog Tryz.f12 [] false w args∧laidMetH Tryz.prog lst w)∧sizedMet enc Tryz.prog Tryz.f12 (OpenSpec.ofChange Rows.memoryLimitsSpec) false w args) (Rows.memoryLimitsSpec.post enc Tryz.prog Tryz.f12 false true false false):=by
 refine returnsInHanded_of_change_and (C:=Tryz.checked) (X:=fun w _=>laidMetH Tryz.prog lst w) (fun _ _ _ hh h=>h.of_heap hh) own started (by kernel_rfl) Tryz.func12
  (ChangeSpec.witness_shaped (enc:=enc) (C:=Tryz.checked) (os:=os) (X:=fun w _=>laidMetH Tryz.prog lst w) false (World.doorLaid Tryz.prog 400 os) #[.int .i64 0,.int .i64 0] 8 rfl (World.shaped_of_RefB (by kernel_rfl) (by kernel_rfl)) (by kernel_rfl) (by kernel_rfl) (by kernel_rfl) (door_met os _)) ?_
 intro W base args ds gs before hval0 hW _ hsz0 hL _
 have hval:∀ (j:Nat) t v,Tryz.f12.params[j]?=some t→args[j]?=some v→Value.okWide Tryz.prog W .any base t v:=hval0
 have hW':=hW
 obtain⟨p,q,hA0,hV,rfl,hfz,hnd⟩:=hW
 have hA:DataW.TrodAll enc Tryz.prog W 0 (fun _=>true) true Tryz.f12.params.toList args.toList ds p:=hA0
 rw[Tryz.params12] at hA hval
 obtain⟨v0,vs0,d0,ds0,p0,q0,hargs,rfl,rfl,h0,r0⟩:=trodAll_cons hA
 obtain⟨v1,vs1,d1,ds1,p1,q1,rfl,rfl,rfl,h1,r1⟩:=trodAll_cons r0
 obtain⟨rfl,rfl,rfl⟩:=trodAll_nil r1
 obtain rfl:args=#[v0,v1]:=by cases args;simp_all
 obtain⟨x0,w0,e0⟩:=rep_int (n:=0) (ow:=noOwn) (k:=.i64) Tryz.underlying3 (hval 0 _ _ rfl rfl) h0
 obtain⟨x1,w1,e1⟩:=rep_int (n:=0) (ow:=noOwn) (k:=.i64) Tryz.underlying3 (hval 1 _ _ rfl rfl) h1
 refine law_goal (tb:=4) (hg:=k12 x0 x1) hW' rfl laidOut (by kernel_rfl) rfl Tryz.underlying4 G0_good ?_ rfl ⟨_,Tryz.func12,by kernel_rfl,by kernel_rfl⟩ (glob hL)
 exact⟨e0,e1,trivial⟩
theorem over:Rows.MemoryLimitsSaid:=
 OpenClaim.holds_of_wide 12 Tryz.f12 rfl rfl rfl rfl rfl rfl rfl ⟨rfl,rfl,rfl,rfl,rfl⟩ rfl rfl rfl rfl rfl (by kernel_rfl) Tryz.func12 (by kernel_rfl)
  (of_decide_eq_true (by kernel_rfl)) (by unfold Func.isWrapper;first | (rw[if_pos (by decide +kernel)];kernel_rfl) | (rw[if_neg (by decide +kernel)];exact⟨rfl,rfl⟩))
  (fun os started H enc _=>lifted os started H enc)
theorem proved:Rows.MemoryLimitsCardSaid:=
 Claim7.holds_tied_plain_at .later [] [.data,.data,.data] true (true, "53ba57ac69404a10c2fb1e8bed01d0f0f4982a15a146c373249b332887811e3a") false
  over (fun _ h=>by cases h) (by kernel_rfl) (fun _ h=>by cases h) memoryLimits_row_tie rfl ⟨rfl,rfl⟩ (by kernel_rfl) rfl
  (fun f fn hf hfn=>by
   obtain rfl:f=12:=Option.some.inj ((show Tryz.prog.funcNamed "bitext/bitextlaw16.MemoryLimits"=some 12 by kernel_rfl).symm.trans hf) |>.symm
   obtain rfl:fn=Tryz.f12:=(Option.some.inj (Tryz.func12.symm.trans hfn)).symm
   refine⟨by kernel_rfl,fun j t ht=>?_⟩
   rw[Tryz.params12] at ht
   match j,ht with
   | 0,ht =>
    obtain rfl:3=t:=by simpa using ht
    exact (show Tryz.prog.wantsStandIn 3=false by kernel_rfl)
   | 1,ht =>
    obtain rfl:3=t:=by simpa using ht
    exact (show Tryz.prog.wantsStandIn 3=false by kernel_rfl)
   | j+2,ht=>simp at ht)
  (by kernel_rfl)
end memoryLimits
end Go.Proofs.YtigalfbihapdnaaGreatDoor
