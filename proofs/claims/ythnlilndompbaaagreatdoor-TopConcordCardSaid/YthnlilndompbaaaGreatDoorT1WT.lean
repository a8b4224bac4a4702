/- The law 'TopConcord': for every input the call returns true and leaves its arguments as they were. Conditions: those of the given card. -/
import Derived.Test.YthnlilndompbaaaGreatDoorT1W0
import Derived.Test.YthnlilndompbaaaGreatDoorT1XM
open List
set_option linter.all false
set_option maxRecDepth 100000
set_option maxHeartbeats 16000000
def ao6:=@Go.Proofs.Tryz.func3
namespace Go.Proofs.YthnlilndompbaaaGreatDoor
open Go.ChangeShapes Go.WideShapes Go.ChangeAt Go.RowKit Go.Av
namespace topConcord
variable{X:World->Array Value->Prop}{Y:FuncId}{a:Assume}{ce:Type}{conds:List PathCond}{fp:ChangeSpec}{gf:Checked}
def sE{enc:TypeId×Value->ce}{s:Os}{cn:Func}{d U bm again:Bool}
  (y:∀ (w w':World) (args:Array Value),w.heap=w'.heap->X w args->X w' args)
  (own:ownKnob gf.prog.godebug=none)(c:s.Started)(g:gf.prog.inits.idxOf? Y=none)(o:gf.prog.funcs[Y]?=some cn)
  (f:∃ (w:World) (tape:Tape) (i:Input),w.os=s/\(w.forCall tape i).Shaped gf.prog/\i.vars=[]/\Input.okWide gf.prog (w.forCall tape i) .any w.heap.size Y i /\
   ((fp.pre enc gf.prog cn conds d (w.forCall tape i).memory i.args/\X (w.forCall tape i).memory i.args)/\sizedMet enc gf.prog cn (OpenSpec.ofChange fp) d (w.forCall tape i).memory i.args)/\a.holds gf.prog (lone (Frame.enter gf.prog Y i.args .normal) [] (w.forCall tape i)))
  (aA:∀ (W:World) (base:Nat) (args:Array Value) (ds h:List (DataW ce)) (b:List MemPlace),
   (∀ (j:Nat) t v,cn.params[j]?=some t->args[j]?=some v->Value.okWide gf.prog W .any base t v) ->
   DataW.Whole enc gf.prog cn.params.toList fp.vars d W args.toList ds h b ->
   conds.all (PathCond.test gf.prog ⟨cn.params.toList,ds,fp.plain.varTypes gf.prog,h⟩)=true ->
   (DataW.weightsEach gf.prog (cn.params.toList++fp.plain.varTypes gf.prog) (ds++h)).all (·<=reachBytes)=true->X W args->W.ShapedOpen gf.prog ->
   Calls gf.prog Y args W λe u=>∃ v,e=.returned v/\fp.post enc gf.prog cn d U bm again W args v u):
  ReturnsInHanded a gf s Y .any (λw args=>(fp.pre enc gf.prog cn conds d w args/\X w args)/\sizedMet enc gf.prog cn (OpenSpec.ofChange fp) d w args) (fp.post enc gf.prog cn d U bm again):=by
 refine returnsInHanded_of_calls own c g f ?_;intro w tape i _ q _ p l _;obtain⟨_,_,_,n,k,_,_,_,_,m⟩:=p;have e:n=cn:=ai4 (k.symm.trans o);subst e;obtain⟨⟨⟨ds,h,b,x,A⟩,D⟩,E⟩:=l;have r:=DataW.Whole.of_heap (w':=w.forCall tape i) (by rfl) x;refine (aA (w.forCall tape i) w.heap.size i.args ds h b m r A (E.weights x) (y _ _ _ (by rfl) D) q).mono λe u ⟨v,B,C⟩=>?_
 subst B;exact ChangeSpec.post_blind C
def Bq(d:Os)(b:d.Started)(enc:TypeId×Value->ce):
  ReturnsInHanded {} Tryz.checked d 3 .any (λw args=>(Rows.topConcordSpec.pre enc Tryz.prog Tryz.f3 [] false w args/\laidMetH Tryz.prog lst w)/\sizedMet enc Tryz.prog Tryz.f3 (OpenSpec.ofChange Rows.topConcordSpec) false w args) (Rows.topConcordSpec.post enc Tryz.prog Tryz.f3 false true false false):=by
 refine sE (gf:=Tryz.checked) (X:=λw _=>laidMetH Tryz.prog lst w) (λ_ _ _ F h=>h.of_heap F) own b (by kernel_rfl) ao6
  (ChangeSpec.witness_shaped (enc:=enc) (C:=Tryz.checked) (os:=d) (X:=λw _=>laidMetH Tryz.prog lst w) false (lw d) #[.slice none 0 0,.int .i64 0] 8 rfl (World.shaped_of_RefB (by kernel_rfl) (by kernel_rfl)) (by kernel_rfl) (by kernel_rfl) (by kernel_rfl) (WX d)) ?_
 intro W base args ds S e c o _ r D l;obtain⟨H,k⟩:=Zu l
 letI:Mx:=⟨H⟩
 have a:∀ (j:Nat) t v,Tryz.f3.params[j]?=some t->args[j]?=some v->Value.okWide Tryz.prog W .any base t v:=c;have g:=o;obtain⟨p,q,f,T,rfl,E,G⟩:=o;have m:DataW.TrodAll enc Tryz.prog W 0 (λ_=>true) true Tryz.f3.params.toList args.toList ds p:=f;rw[Tryz.params3] at m a;obtain⟨L,N,R,s,U,Y,i,rfl,rfl,A,I⟩:=trodAll_cons m;obtain⟨M,P,d1,u,V,Z,rfl,rfl,rfl,B,K⟩:=trodAll_cons I;obtain⟨rfl,rfl,rfl⟩:=trodAll_nil K
 obtain rfl:args=#[L,M]:=by cases args;simp_all
 obtain⟨x0,x⟩:=TW (n:=0) (dq:=aX) (O:=.i64) Tryz.underlying22 an7 (by kernel_rfl) (a 0 _ _ rfl rfl) A;obtain⟨Q,w1,y⟩:=lr (n:=0) (dq:=aX) (O:=.i64) an7 (a 1 _ _ rfl rfl) B;refine VJ (J:=4) (hg:=c3 x0 Q) g rfl ny (by kernel_rfl) rfl Tryz.underlying4 YA ?_ rfl ⟨_,ao6,by kernel_rfl,by kernel_rfl⟩ (glob k D);exact⟨x,y,trivial⟩
def ov1:Tryz.prog.funcNamed Rows.topConcordRow.func=some 3:=by kernel_rfl
def ov2:joinedFacts Tryz.prog 3 Tryz.f3 Rows.topConcordSpec Rows.topConcordRow=true:=by kernel_rfl
def ov3:Tryz.f3.isInstance Tryz.prog Rows.topConcordRow.origin Rows.topConcordRow.targs:=ah3 (by kernel_rfl)
def ov4:Tryz.f3.isWrapper Tryz.prog Rows.topConcordRow.wrapper Rows.topConcordRow.mainSum:=by unfold Func.isWrapper;first | (rw[iw (by decide +kernel)];kernel_rfl) | (rw[ie (by decide +kernel)];exact⟨rfl,rfl⟩)
def Yq:Rows.TopConcordSaid:=
 OpenClaim.holds_of_wide 3 Tryz.f3 rfl rfl rfl rfl rfl rfl rfl ⟨rfl,rfl,rfl,rfl,rfl⟩ rfl rfl rfl rfl rfl ov1 ao6 ov2
  ov3 ov4
  (λos a H enc _=>Bq os a (ce:=H) enc)
theorem proved:Rows.TopConcordCardSaid:=
 Claim7.holds_tied_plain_at .later [] [.data,.data,.data,.data,.pinned] true (true, "072ca15fd01badecaf5575803b5a17478b4f477ec13ec82d1413c7f9b050e471") true
  Yq (λ_ h=>by cases h) (by kernel_rfl) (λ_ h=>by cases h) topConcord_row_tie rfl ⟨rfl,rfl⟩ (by kernel_rfl) rfl
  (λf fn c b=>by
   obtain rfl:f=3:=ai4 ((show Tryz.prog.funcNamed "bitext/bitexttop.TopConcord"=some 3 by kernel_rfl).symm.trans c) |>.symm
   obtain rfl:fn=Tryz.f3:=(ai4 (ao6.symm.trans b)).symm
   refine⟨by kernel_rfl,λj t a=>?_⟩;rw[Tryz.params3] at a
   match j,a with
   | 0,a =>
    obtain rfl:22=t:=by simpa using a
    exact (show Tryz.prog.wantsStandIn 22=false by kernel_rfl)
   | 1,a =>
    obtain rfl:3=t:=by simpa using a
    exact (show Tryz.prog.wantsStandIn 3=false by kernel_rfl)
   | j+2,a=>simp at a)
  (by kernel_rfl)
end topConcord
end Go.Proofs.YthnlilndompbaaaGreatDoor
