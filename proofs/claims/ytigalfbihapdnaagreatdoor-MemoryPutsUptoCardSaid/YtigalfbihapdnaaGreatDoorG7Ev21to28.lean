/- A part of the frame (Ev21 Ev22 Ev23 Ev24 Ev25 Ev26 Ev27 Ev28). No conditions. -/
import Derived.Test.YtigalfbihapdnaaGreatDoorG7Ev14to18
import Derived.WalkKit
import Derived.ProofKit
import Derived.OpenShut
import Derived.Below
import Derived.Carry
import Derived.Lib.SmallJoins
import Derived.Test.YtigalfbihapdnaaGreatDoorG7Ev19to20
import Derived.Lib.Overlaps
import Derived.Lib.AppendZerosOnto
import Derived.Lib.Bytealg
open List
set_option linter.unusedSimpArgs false
set_option linter.unusedVariables false
set_option linter.unusedSectionVars false
set_option maxRecDepth 100000
set_option maxHeartbeats 16000000
namespace Go.Av
variable [Gtab]
open Go.ChangeShapes Go.WideShapes Go.ChangeAt Go.RowKit
section
variable {H:Type} {enc:TypeId × Value->H} {P:Program}
theorem trodAll_below {W W':World} {sp:Nat->Bool} (hl:laidOutB P=true) (hb:Below W.heap.size W W') :
  ∀ {ts:List TypeId} {vs:List Value} {ds:List (DataW H)} {ps:List MemPlace},(ts.all fun t=>P.readableRec t && decide (t < P.types.size))=true ->
  DataW.TrodAll enc P W 0 (fun _=>true) true ts vs ds ps->(∀ p∈ps,p.block < W.heap.size)->(∀ p∈ps,sp p.block=true)->DataW.TrodAll enc P W' 0 sp true ts vs ds ps
 | [],_,_,_,_,h,_,_=>by
  obtain⟨rfl,rfl,rfl⟩:=trodAll_nil h;exact trodAll_mk0
 | t :: ts,_,_,_,ha,h,hlt,hs=>by
  obtain⟨v,vs,d,ds,p,q,rfl,rfl,rfl,h1,h2⟩:=trodAll_cons h;simp only[all_cons,Bool.and_eq_true,decide_eq_true_eq] at ha;refine⟨p,q,?_,?_,rfl⟩
  ·exact WideElems.Trod_stays hl ha.1.1 ha.1.2 h1 (fun x hx=>hb.same (hlt x (by simp [hx]))) (fun x hx=>hs x (by simp [hx]))
  ·exact trodAll_below hl hb ha.2 h2 (fun x hx=>hlt x (by simp [hx])) (fun x hx=>hs x (by simp [hx]))
theorem post_below {f:Func} {s:ChangeSpec} {apart fresh handsOn again:Bool} {W W':World} {args:Array Value} {v:Value} {ds gs:List (DataW H)} {before pa pv:List MemPlace}
  (hW:DataW.Whole enc P f.params.toList s.vars apart W args.toList ds gs before)
  (hres:∀ (b:Nat) (sp:Nat->Bool) (hd:Bool),DataW.TrodAll enc P W' b sp hd f.resultTypes.toList (v.resultList f.resultTypes.size) (s.fn H (ds++gs)).results [])
  (hargs:∀ sp:Nat->Bool,(∀ p∈before,sp p.block=true)->DataW.TrodAll enc P W' 0 sp true f.params.toList args.toList (s.fn H (ds++gs)).args pa)
  (hvars:∀ sp:Nat->Bool,(∀ p∈before,sp p.block=true)->DataW.TrodVars enc P W' sp s.vars (s.fn H (ds++gs)).vars pv)
  (hps:before=pa++pv) (hb:Below W.heap.size W W')
  (hok:∀ (j:Nat) (t:TypeId) (r:Value),f.resultTypes[j]?=some t->(v.resultList f.resultTypes.size)[j]?=some r->Value.okWide P W' .any 0 t r) :
  s.post enc P f apart fresh handsOn again W args v W':=by
 have hold:∀ p∈before,(fun b=>decide (b < W.heap.size)) p.block=true:=fun p hp=>by simpa using hW.lt p hp
 refine⟨ds,gs,before,[],pa,pv,hW,hres _ _ _,hargs _ hold,hvars _ hold,World.keptBut_mono (fun p hp=>⟨hp,?_⟩) (hb.frame (·∈before)),fun _=>?_⟩
 ·rw[hps,mem_append] at hp
  exact Or.inr hp
 ·have hW2:=hW
  obtain⟨_,_,_,_,_,hz,hn⟩:=hW;refine⟨hok,_,_,([]++pa)++pv,⟨[]++pa,pv,trodAll_append (hargs _ (fun _ _=>rfl)) (hres _ _ _),hvars _ (fun _ _=>rfl),rfl,?_,?_⟩,?_⟩
  ·intro b off hp
   have hp':MemPlace.cell b off∈before:=by rw[hps];simpa using hp
   rw[hb.frozen (p:=⟨b,off,none⟩) (hW2.lt _ hp')];exact hz b off hp'
  ·intro ha
   have:=hn ha
   rw[hps] at this;simpa using this
  ·intro p hp _
   rw[hps];simpa using hp
theorem law_goal {f:Func} {n:Nat} {s:ChangeSpec} {W:World} {args:Array Value} {ds gs:List (DataW H)} {before:List MemPlace} {apart fresh handsOn again:Bool} {tb:TypeId} {G:Calls'} {avs:List AV}
  (hW:DataW.Whole enc P f.params.toList s.vars apart W args.toList ds gs before) (hv:s.vars=[]) (hl:laidOutB P=true)
  (hpar:(f.params.toList.all fun t=>P.readableRec t && decide (t < P.types.size))=true) (hrt:f.resultTypes=#[tb]) (htb:P.underlying tb=some .bool)
  (hG:Good P G) (hrep:RepL (RepT (cx0 (fun _=>0) (fun _=>0) (fun b _=>b < W.heap.size) W 0) noOwn) avs args.toList)
  (hg:G n avs []=some (.bool true,[])) (hfn:s.fn H ds={ results:=[.lit (.bool true)],args:=ds }) (hreal:Real P n) (hgl:GlobOK (fun b _=>b < W.heap.size) W) :
  Calls P n args W fun e W'=>∃ v,e=.returned v/\s.post enc P f apart fresh handsOn again W args v W':=by
 have hsem:SemCall P n avs [] (.bool true) []:=by
  rcases hG _ _ _ _ _ hg with h | hx
  ·exact h.2
  ·intro kd β bs S0 O0 w vs he hr
   obtain⟨v,w',_,_,_,hrn,_⟩:=hx kd β bs S0 O0 w vs he hr;rw[callFunc_run hreal] at hrn;cases hrn
 have hS:=hsem (fun _=>.stab) (fun _=>0) (fun _=>0) (fun b _=>b < W.heap.size) (fun _=>none) W args (entP (fun b n hb=>hb) hgl) hrep;refine hS.mono ?_
 rintro e W' ⟨v,kd',β',bs',rfl,ha⟩
 have hr:=ha.rep;have hv':v=.bool true:=by simpa [RepT,RepE,RepF] using hr
 subst hv';have hb:Below W.heap.size W W':=⟨ha.os,ha.tape,ha.output,ha.size,fun k hk=>ha.frame k hk (fun i hi=>by simp at hi) rfl⟩
 refine⟨_,rfl,?_⟩;have hW2:=hW;obtain⟨p,q,hA,hV,hpq,_,_⟩:=hW2;rw[hv] at hV;obtain⟨rfl,rfl⟩:=trodVars_none hV;rw[append_nil] at hpq;subst hpq;have e1:(s.fn H (ds++[])).results=[.lit (.bool true)]:=by rw[append_nil,hfn]
 have e2:(s.fn H (ds++[])).args=ds:=by rw[append_nil,hfn]
 have e3:(s.fn H (ds++[])).vars=[]:=by rw[append_nil,hfn]
 have hsz:f.resultTypes.size=1:=by rw[hrt];rfl
 refine post_below (pa:=before) (pv:=[]) hW ?_ ?_ ?_ (by simp) hb ?_
 ·intro b sp hd
  rw[e1,hsz,hrt];exact trodAll_cons_mk (shut_bool htb true) trodAll_mk0
 ·intro sp hsp
  rw[e2];exact trodAll_below hl hb hpar hA (fun p hp=>hW.lt p hp) hsp
 ·intro sp _
  rw[hv,e3];exact rfl
 ·exact ok_one hrt rfl (okWide_bool_mk htb true)
variable {w:World} {base:Nat} {spare:Nat->Bool} {held:Bool}
theorem spot_of_cell {a:Addr} {u:Value} (h:w.cell? a=some u):a.spot=none:=by
 unfold World.cell? at h
 split at h
 ·split at h
  ·cases h
  ·rename_i hs;simpa using hs
 ·cases h
theorem rep_rows {S:Nat->Nat->Prop} {k:IntKind} (b:Nat):∀ (l:List Int) (o:Nat),(∀ i,i < l.length->S b (o+i)/\w.cell? ⟨b,o+i,none⟩=some (.int k (l.getD i 0)))->RepR S w 1 (l.map fun x=>[.int k x]) b o
 | [],o,_=>by simp [RepR]
 | x :: l,o,h=>by
  have h0:=h 0 (by simp);simp only[map_cons,RepR,RepC,length_cons,length_nil,Nat.zero_add,and_true,true_and];refine⟨⟨h0.1,_,h0.2,rfl⟩,?_⟩;exact rep_rows b l (o+1) fun i hi=>by
   have:=h (i+1) (by simp;omega)
   rw[show o+1+i=o+(i+1) by omega];simpa using this
theorem rep_ints {r:Reach} {b0 n:Nat} {t e:TypeId} {k:IntKind} {v:Value} {d:DataW H} {ps:List MemPlace} {ow:Value->Nat->Nat->Prop} (ht:P.underlying t=some (.slice e)) (he:P.underlying e=some (.int k)) (hc:P.cellsOf e=1)
  (hval:Value.okWide P w r b0 t v) (hd:DataW.Trod enc P w base spare held t v d ps) :
  ∃ l:List Int,RepT (cx0 (fun _=>0) (fun _=>0) (fun b _=>b < w.heap.size) w n) ow (.sl .no 1 (l.map fun x=>[.int k x])) v:=by
 obtain⟨a0,len,cap,rfl⟩:=okWide_slice ht hval;obtain⟨fuel,hf⟩:=hd;rcases open_ints ht he hc hf with ⟨hcs,hx⟩ | ⟨a,len',cap',zs,hcs,_,hl,hm,hz,hx,hcell,hwz⟩
 ·simp [Value.cells] at hcs
  obtain⟨rfl,rfl,rfl⟩:=hcs;refine⟨[],?_⟩;simp only[RepT,RepE,RepF];exact⟨none,0,rfl,Nat.le_refl _,by simp,by simp,.inl rfl⟩
 ·simp [Value.cells] at hcs
  obtain⟨rfl,rfl,rfl⟩:=hcs;have hlen:len<=zs.length:=by rw[hz];split<;>omega
  refine⟨zs.take len,?_⟩;simp only[RepT,RepE,RepF];have hl2:((zs.take len).map fun x=>([.int k x]:List AV)).length=len:=by simp;omega
  refine⟨some a,cap,by rw[hl2],by rw[hl2];omega,by simp,by simp,?_⟩;by_cases h0:len=0
  ·left;subst h0;simp
  ·right
   have c0:=hcell 0 (by omega);have hsp:a.spot=none:=spot_of_cell (by simpa [Addr.add] using c0);obtain⟨b,o,sp⟩:=a;simp only at hsp;subst hsp;refine⟨b,o,rfl,rep_rows b _ _ fun i hi=>?_⟩;have hi':i < len:=by simpa [Nat.lt_min] using (show i < (zs.take len).length from hi) |> fun h=>by simp at h;omega
   have ci:=hcell i (by omega);have e1:(⟨b,o,none⟩:Addr).add i=⟨b,o+i,none⟩:=by
    unfold Addr.add;split
    ·rename_i h;subst h;rfl
    ·rfl
   rw[e1] at ci;refine⟨World.block_lt_of_cell? w _ ci,?_⟩;show w.cell? _=_;rw[ci];simp [getD_eq_getElem?_getD,hi']
theorem rep_int {r:Reach} {b0 n:Nat} {t:TypeId} {k:IntKind} {v:Value} {d:DataW H} {ps:List MemPlace} {ow:Value->Nat->Nat->Prop} (ht:P.underlying t=some (.int k))
  (hval:Value.okWide P w r b0 t v) (hd:DataW.Trod enc P w base spare held t v d ps) :
  ∃ x:Int,(Lit.int k x).wf=true/\RepT (cx0 (fun _=>0) (fun _=>0) (fun b _=>b < w.heap.size) w n) ow (.int k x) v:=by
 obtain⟨x,rfl,_,_,hw⟩:=open_int ht hval hd;exact⟨x,hw,by simp [RepT,RepE,RepF]⟩
theorem rep_bool {r:Reach} {b0 n:Nat} {t:TypeId} {v:Value} {d:DataW H} {ps:List MemPlace} {ow:Value->Nat->Nat->Prop} (ht:P.underlying t=some .bool)
  (hval:Value.okWide P w r b0 t v) (hd:DataW.Trod enc P w base spare held t v d ps) :
  ∃ x:Bool,RepT (cx0 (fun _=>0) (fun _=>0) (fun b _=>b < w.heap.size) w n) ow (.bool x) v:=by
 obtain⟨x,rfl,_⟩:=open_bool ht hval hd;exact⟨x,by simp [RepT,RepE,RepF]⟩
end
end Go.Av
namespace Go.Av
variable [Gtab]
open Go.RowKit
section
variable {P:Program}
theorem fun_wp {f:FuncId} {fn:Func} {C:Code} {nargs:Nat} {keep:Bool} {res:List ARes} (hfn:P.funcs[f]?=some fn) (hC:fn.body=some C) (hnt:nargs<=fn.ntmps) (hres:okRes P fn.results.toList res=true)
  (hname:(fn.name == "runtime.NumGoroutine")=false) {args:List AV} {sh sh':LL} {r:AV} (hlen:args.length=nargs)
  (hwp:∀ (E:Env) (g:Gh) (a:Act) (w:World),E.nt=fn.ntmps->E.n0=sh.length->Sim E g (initA args sh) a w ->
   C.wp P (fun e a w=>(e=.ret\/e=.normal)/\∃ σ,Post E σ a w/\finA ⟨nargs,keep,.skip,res⟩ sh (some (.ret,σ))=some (r,sh')) a w) :
  Real P f/\SemCall P f args sh r sh':=by
 refine⟨⟨fn,hfn,by rw[hC];rfl,hname⟩,?_⟩;intro kd β bs S0 O0 w vs hent hargs;obtain⟨⟨e1,e2⟩,e3,e4,e5,e6⟩:=hent;have hsz:vs.size=nargs:=by have:=hargs.length;simp at this;omega
 let E:Env:={ w0:=w,S0:=S0,β0:=β,bs0:=bs,O0:=O0,D0:=fun j=>match sh[j]? with | some c=>isDead c | none=>false,n0:=sh.length,nt:=fn.ntmps }
 let g:Gh:={ β:=β,bs:=bs,lam:=fun _=>0,kd:=kd }
 have hSS:∀ b m,S0 b m->SS E g w b m:=fun b m hS=>.inl ⟨(e3 b m hS).1,hS⟩
 have hle0:Cx.le (cx0 β bs S0 w sh.length) (cx E g (initA args sh) w):=⟨fun b m hS=>⟨hSS b m hS,rfl⟩,Nat.le_refl _,fun _ _=>rfl,fun _ _=>rfl,fun s hs=>hs.elim⟩
 have hsim:Sim E g (initA args sh) { tmps:=vs++Array.replicate (fn.ntmps - vs.size) undef,defers:=[] } w:=by
  refine { size:=by show (vs++Array.replicate (fn.ntmps - vs.size) undef).size=fn.ntmps;simp;omega,defers:=rfl,slots:=?_,shr:=?_,shr0:=fun _ _=>⟨rfl,rfl⟩,shr1:=?_,dd:=?_,shrlt:=fun i hi=>(e2 i hi).1,shrk:=fun i hi=>(e2 i hi).2,loc:=fun s c hc=>by simp [initA] at hc,n0:=Nat.le_refl _,s0:=e3,o0:=e4,own0:=?_,os:=rfl,tape:=rfl,output:=rfl,hsize:=Nat.le_refl _,frame:=fun _ _ _ _=>rfl,sframe:=fun _ _ _=>rfl,gl:=e6 }
  ·intro t
   have h1:=args_get hargs (fn.ntmps - vs.size) t;exact RepT.mono hle0 _ _ (fun _ _ _ h=>h.elim) h1
  ·intro i cells hi hd
   obtain⟨f1,f2⟩:=e1 i cells hi hd;exact⟨f1,f2.mono hle0 rfl (fun _ _ _ _ _ h=>h)⟩
  ·intro i hi hn
   have hi':i < sh.length:=hi;have hn':sh.length<=i:=hn;omega
  ·intro i hi hd
   have hi':i < sh.length:=hi;have hd':(match sh[i]? with | some c=>isDead c | none=>false)=true:=hd;show sh[i]?=some dead;rw[getElem?_eq_getElem hi'] at hd' ⊢;rw[isDead_eq.1 hd']
  ·intro b t k hk
   rcases Nat.lt_or_ge b w.heap.size with hb | hb
   ·exact .inr (e5 b t k hk hb)
   ·exact .inl hb
 refine calls_of_wp hfn hC (Code.wp_mono ?_ (hwp E g _ w rfl rfl hsim))
 rintro e a1 w1 ⟨hen,σ,⟨g1,hs1⟩,h⟩
 unfold finA at h
 split at h
 ·cases h
 ·rename_i e' σ' hx hex
  simp only[Option.some.injEq,Prod.mk.injEq] at hex;obtain⟨_,rfl⟩:=hex
  split at h
  case h_2=>cases h
  rename_i xs hxs;unfold packA at h
  split at h
  case isFalse=>cases h
  rename_i hall;obtain⟨hall,hkeep⟩:=hall;simp only[Option.some.injEq,Prod.mk.injEq] at h;obtain⟨hr,hsh'⟩:=h;have hn0:sh.length<=σ.sh.length:=hs1.n0;have hlen':sh'.length=if keep then σ.sh.length else sh.length:=by
   rw[<- hsh'];split
   ·rfl
   ·simp;omega
  have hshl:sh'.length<=σ.sh.length/\sh.length<=sh'.length:=by
   rw[hlen'];split<;>omega
  have hshget:∀ (i:Nat),i < sh'.length->sh'[i]?=σ.sh[i]?:=by
   intro i hi;rw[<- hsh'] at hi ⊢;split
   ·rfl
   ·rename_i hk
    rw[if_neg hk] at hi;rw[getElem?_take_of_lt (by simp at hi;omega)]
  have hβ0:∀ i,i < E.n0->E.β0 i < E.w0.heap.size:=fun i hi=>(e2 i hi).1
  have hD:∀ (j:Nat) (x:List AV),sh[j]?=some x->isDead x=true->E.D0 j=true:=by
   intro j x hj hx;show (match sh[j]? with | some c=>isDead c | none=>false)=true;rw[hj];exact hx
  obtain⟨us,hu1,hu2,hu3⟩:=results_sound hs1 (sh0:=sh) (k:=keep) (n:=sh'.length) hlen' rfl hβ0 hD hres hxs hall;have hrun:=results_run (fn:=fn) hu1;have hm1:∀ b m,SS E g1 w1 b m->S1 S0 w w1 (kdF g1.kd g1.β sh'.length) b m:=SS.out hs1;have hfin:∃ v kd' β' bs',Ending.returned (packV us)=Ending.returned v/\After S0 O0 β bs w sh sh' r v kd' β' bs' w1:=by
   refine⟨_,kdF g1.kd g1.β sh'.length,g1.β,g1.bs,rfl,?_⟩
   refine { same:=fun i hi=>hs1.shr0 i hi,len:=hshl.2,shok:=⟨fun i cells hi hd=>?_,fun i hi=>?_⟩,rep:=?_,os:=hs1.os,tape:=hs1.tape,output:=hs1.output,size:=hs1.hsize,frame:=fun b hb hnb ho=>hs1.frame b hb hnb ho,sframe:=fun b o hS=>hs1.sframe b o hS,o0:=fun b k hk=>?_,own0:=fun b t k hk=>hs1.own0 b t k (kdF_own.1 hk),new:=fun i h1 h2=>?_,deads:=fun i hi=>?_ }
   ·have hil:=(List.getElem?_eq_some_iff.1 hi).1
    have hi':σ.sh[i]?=some cells:=by rw[<- hshget i hil];exact hi
    obtain⟨f1,f2,f3⟩:=hs1.shr i cells hi' hd;refine⟨by rw[kdF_shr hil];exact f1,?_⟩;have how:∀ j z v m,OwnAt g1.kd w1 (.cell i j) v z m->OwnAt (kdF g1.kd g1.β sh'.length) w1 (.cell i j) v z m:=by
     rintro j z v m ⟨A,c,q1,q2⟩
     refine⟨A,c,q1,?_⟩;rcases q2 with q2 | ⟨b,ar,tt,q3,q4,q5,q6⟩
     ·exact .inl q2
     ·exact .inr ⟨b,ar,tt,q3,q4,q5,kdF_own.2 q6⟩
    refine⟨fun hbk=>?_,?_⟩
    ·obtain⟨arr,ty,fz,q1,q2,q3,q4⟩:=f2 hbk
     refine⟨arr,ty,fz,q1,q2,q3,fun j x hx=>?_⟩;obtain⟨v,q5,q6⟩:=q4 j x hx;refine⟨v,q5,?_⟩;by_cases hk:keep=true
     ·have hln:sh'.length=σ.sh.length:=by rw[hlen',if_pos hk]
      have q7:=(RepC'_noloc (c:=cx E g1 σ w1)).2 q6;refine RepC'.mono (c:=(cx E g1 σ w1).noloc) (c':=cx0 g1.β g1.bs (S1 S0 w w1 (kdF g1.kd g1.β sh'.length)) w1 sh'.length) ⟨fun b m hS=>⟨hm1 b m hS,rfl⟩,by show σ.sh.length<=sh'.length;omega,fun _ _=>rfl,fun _ _=>rfl,fun s hs=>hs.elim⟩ _ _ (fun z l _=>how _ _ _ _) q7
     ·have hall2:((σ.sh.take sh.length).all fun c=>c.all (refLt sh.length))=true:=by
       rcases hkeep with hk' | hk'
       ·exact absurd hk' hk
       ·exact hk'
      have hln:sh'.length=sh.length:=by rw[hlen',if_neg hk]
      refine refLt_mono (c:=cx E g1 σ w1) (n:=sh.length) (fun b m hS=>⟨hm1 b m hS,rfl⟩) rfl rfl hln ?_ (fun z l _=>how _ _ _ _) q6;rw[all_eq_true] at hall2;have h8:=hall2 cells (mem_iff_getElem?.2 ⟨i,by rw[getElem?_take_of_lt (by omega)];exact hi'⟩);rw[all_eq_true] at h8;exact h8 x (mem_iff_getElem?.2 ⟨j,hx⟩)
    ·unfold ObjM at f3 ⊢
     split
     ·obtain⟨es,cl,q1,q2⟩:=f3
      exact⟨es,cl,q1,RepM_mono' (c:=cx E g1 σ w1) (c':=cx0 g1.β g1.bs (S1 S0 w w1 (kdF g1.kd g1.β sh'.length)) w1 sh'.length) (fun b m hS=>⟨hm1 b m hS,rfl⟩) q2⟩
     ·trivial
   ·obtain⟨j,hj⟩:=hs1.shrk i (by omega)
    exact⟨hs1.shrlt i (by omega),j,by rw[kdF_shr hi];exact hj⟩
   ·rw[<- hr]
    match xs,us,hu2,hu3 with
    | [x],[v],hu2,hu3=>exact RepE.topT (hu3 x (by simp)) hu2.1
    | [],[],hu2,_=>exact⟨#[],rfl,trivial⟩
    | x :: y :: xs,v :: u :: us,hu2,_=>exact⟨(v :: u :: us).toArray,rfl,hu2⟩
    | [],_ :: _,hu2,_=>simp [RepL] at hu2
    | _ :: _,[],hu2,_=>simp [RepL] at hu2
    | [_],_ :: _ :: _,hu2,_=>simp [RepL] at hu2
    | _ :: _ :: _,[_],hu2,_=>simp [RepL] at hu2
   ·obtain⟨_,_,t,k',q1,q2⟩:=hs1.o0 b k hk
    exact⟨t,k',kdF_own.2 q1,q2⟩
   ·rcases hs1.shr1 i (by omega) h1 with q | ⟨j,q1,q2,q3,q4⟩
    ·exact .inl q
    ·have hjl:j < sh.length:=q1
     refine .inr ⟨j,q1,q2,fun hjd=>?_,?_⟩
     ·have:=hD j _ hjd (isDead_eq.2 rfl)
      rw[q3] at this;cases this
     ·rw[hshget j (by omega)];exact q4
   ·have hil:=(List.getElem?_eq_some_iff.1 hi).1
    rw[hshget i (by omega)];exact hs1.dd i hil (hD i _ hi (isDead_eq.2 rfl))
  rcases hen with rfl | rfl
  ·exact⟨hs1.defers,_,hrun,hfin⟩
  ·exact⟨hs1.defers,_,hrun,hfin⟩
 ·cases h
noncomputable abbrev GN:Calls':=Gx (fun _ _ _=>none) (fun _=>none)
theorem execX_sound (hmix:P.follows .mixedOrders=true) {E:Env} {a:Act} {w:World} {σ σ':AS} {C:Code} {c:ACode} {e:AX} {Q:Exit->Act->World->Prop} (hok:okCode P E.nt C c=true) (hx:execX GN c σ=some (e,σ')) (hp:Post E σ a w)
  (hQ:∀ a w,Post E σ' a w->Q (xp e) a w):C.wp P Q a w:=by
 obtain⟨n,hn⟩:=exec_lim c σ _ hx;have hG:Good P (funA (fun _ _ _=>none) (fun _=>none) n):=funs_sound hmix (fun _ _ _ _ _ h=>by cases h) (fun _ _ h=>by cases h) n;exact exec_sound hmix hG n C c σ σ' e a w Q hok (hn n (Nat.le_refl _)) hp hQ
theorem wpl_step {E:Env} {G:Calls'} {ops:Array Oper} {a:Act} {w:World} {σ σ1:AS} {o:Oper} {ao:AOper} {os:List Oper} {Q:Exit->Act->World->Prop} (hG:Good P G) (hp:Post E σ a w) (hok:okO P E.nt ops o ao=true) (h1:stepA G ao σ=some σ1)
  (hk:∀ a w,Post E σ1 a w->wpList P ops Q os a w):wpList P ops Q (o :: os) a w:=by
 obtain⟨g,hs⟩:=hp;have hst:=step_sound (Q:=Q) hG hs hok h1;unfold wpList;split
 ·rename_i hw
  rw[if_pos hw] at hst;exact .inl (Oper.wp_mono (fun a w hp=>hk a w hp) hst)
 ·rename_i hw
  rw[if_neg hw] at hst;exact hk _ _ hst
def cloneA0 (z:Nat):ACode:=.reg false [] [⟨some 2,.mv,[.c (.sl .full z [])],.none,none,none⟩] []
def cloneA3 (z bytes:Nat) (zero:List AV):ACode:=.seq (.reg false [] [
 ⟨some 5,.mks z zero 0 [],[],.none,none,none⟩,
 ⟨some 6,.mv,[.t 0],.none,none,none⟩,
 ⟨some 7,.appS false z bytes,[.t 5,.t 6],.sh,none,none⟩,
 ⟨some 2,.mvo,[.t 7],.none,some 7,none⟩] []) .ret
def isNilEq (P:Program) (x:Operand):Op->Bool
 | .binOp .eql t y (.const (.slice none 0 0)) _=>(match x,y with | .tmp i,.tmp j=>i == j | _,_=>false) && (match P.underlying t with | some (.slice _)=>true | _=>false)
 | _=>false
def okClone (P:Program) (f:FuncId) (z bytes:Nat) (zero:List AV):Bool:=
 match P.funcs[f]? with
 | some fn=>(match fn.body with
  | some (.seq c0 (.seq (.seq (.region _ ops false) (.cond (.tmp 4) x .skip)) rest)) =>
   okCode P fn.ntmps c0 (cloneA0 z) && (match ops.toList with
     | [o3,o4]=>okO P fn.ntmps ops o3 ⟨some 3,.mv,[.t 0],.none,none,none⟩ && o4.dst == some 4 && o4.guard.isNone && isNilEq P (.tmp 3) o4.op
     | _=>false) && okCode P fn.ntmps x (.seq (cloneA0 z) .ret) && okCode P fn.ntmps rest (cloneA3 z bytes zero)
  | _=>false) && decide (8<=fn.ntmps) && okRes P fn.results.toList [.tmpD 2] && !(fn.name == "runtime.NumGoroutine")
 | none=>false
theorem nilEq_sound {E:Env} {g:Gh} {σ:AS} {a:Act} {w:World} {o:Oper} {Q:Exit->Act->World->Prop} {x:Nat} (hs:Sim E g σ a w) (hd:∀ d,o.dst=some d->d < E.nt) (hop:isNilEq P (.tmp x) o.op=true) {A:Option Addr} {n c:Nat}
  (hx:a.eval (.tmp x)=.slice A n c):o.wp P a w (Post E (put σ o.dst (.bool A.isNone))) Q:=by
 unfold isNilEq at hop
 split at hop
 ·rename_i t y t' hop'
  simp only[Bool.and_eq_true] at hop;obtain⟨h1,h2⟩:=hop
  cases y<;>simp at h1
  subst h1
  split at h2
  ·rename_i e he
   refine plain_fin hs hd (val:=.bool A.isNone) ?_ rfl rfl;have hq:∀ w,(Op.equal t (.slice A n c) (.slice none 0 0)).run P w=.ok A.isNone w:=by
    intro w;have h:∀ d:Nat,(Op.equalIn (d+1) t (.slice A n c) (.slice none 0 0)).run P w=.ok A.isNone w:=fun d=>by
     simp only[Op.equalIn]
     cases A<;>simp [run_underlying he]
    exact h _
   have hx':a.eval (.tmp x)=.slice A n c:=hx;have hc:a.eval (.const (.slice none 0 0))=.slice none 0 0:=rfl;have hg:(eqGuard .eql t (.tmp x) (.const (.slice none 0 0)) (.slice A n c) (.slice none 0 0)).run P w=.ok () w:=rfl;have hb:(binOp .eql t (.slice A n c) (.slice none 0 0)).run P w=.ok (.bool A.isNone) w:=by
    simp only[binOp];simp [hq]
   simp [execOp,hop',hx',hc,hg,hb]
  ·cases h2
 ·cases hop
def cloneR (z:Nat) (l:LL) (sh:LL):AV × List (List AV):=
 match l with
 | []=>(.sl .full z [],sh)
 | r :: l=>(.ss sh.length 0 (l.length+1) z,sh++[(r :: l).flatten])
theorem mks0 (z:Nat) (zero:List AV):mksA z zero 0 [] []=some (.sl .full z []):=rfl
theorem appSA_nn (z bytes z':Nat) (sh:LL):appSA z bytes sh (some []) (.sl .full z' [])=some (.sl .full z [],sh):=by simp [appSA]
end
def cloneB (z bytes:Nat):List AV->LL->Option (AV × LL)
 | [.sl _ z' l],sh=>if z'=z/\appOK bytes l.length=true then some (cloneR z l sh) else none
 | _,_=>none
end Go.Av
namespace Go.Av
variable [Gtab]
open Go.RowKit
section
variable {P:Program}
theorem After.refl {sh:LL} {kd:Nat->BK} {β bs:Nat->Nat} {S0:Nat->Nat->Prop} {O0:Nat->Option Nat} {w:World} (h:EntOK sh kd β bs S0 O0 w) {r:AV} {v:Value} (hr:RepT (cx0 β bs (S1 S0 w w kd) w sh.length) noOwn r v) :
  After S0 O0 β bs w sh sh r v kd β bs w:=by
 obtain⟨⟨e1,e2⟩,e3,e4,e5,_⟩:=h;have hle:Cx.le (cx0 β bs S0 w sh.length) (cx0 β bs (S1 S0 w w kd) w sh.length):=⟨fun b o hS=>⟨.inl hS,rfl⟩,Nat.le_refl _,fun _ _=>rfl,fun _ _=>rfl,fun s hs=>hs.elim⟩
 refine { same:=fun _ _=>⟨rfl,rfl⟩,len:=Nat.le_refl _,shok:=⟨fun i cells hi hd=>?_,e2⟩,rep:=hr,os:=rfl,tape:=rfl,output:=rfl,size:=Nat.le_refl _,frame:=fun _ _ _ _=>rfl,sframe:=fun _ _ _=>rfl,o0:=fun b k hk=>?_,own0:=fun b t k hk=>?_,new:=fun i h1 h2=>by omega,deads:=fun _ h=>h }
 ·obtain⟨f1,f2⟩:=e1 i cells hi hd
  exact⟨f1,f2.mono hle rfl (fun _ _ _ _ _ h=>h)⟩
 ·exact (e4 b k hk).2.2
 ·rcases Nat.lt_or_ge b w.heap.size with hb | hb
  ·exact .inr (e5 b t k hk hb)
  ·exact .inl hb
theorem run_overlaps_far (w:World) (tS tR e:TypeId) (ht:P.underlying tS=some (.slice e)) (size:Nat) (hz:∀ w,(Go.sizeOf e).run P w=.ok size w)
  (a b:Addr) (la ca lb cb:Nat) (hne:a.block≠b.block) (tA tB:TypeId) (kA kB:Nat)
  (hsa:w.shape? a.block=some (tA,kA)) (hkA:kA≠0) (hsb:w.shape? b.block=some (tB,kB)) (hfb:w.frozen? b=false) (hfe:w.frozen? { block:=b.block,off:=kB }=false) :
  (Extern.SlicesOverlaps.overlaps #[tS,tS] #[tR] #[.slice (some a) la ca,.slice (some b) lb cb]).run P w=.ok (.bool false) w:=by
 have hnb:(a.block != b.block)=true:=by simpa using hne
 have hnb':(a.block == b.block)=false:=by simpa using hne
 change Sem.run P (α:=Value) (do
  let some t:=(#[tS,tS]:Array TypeId)[0]? | stuck "slices.overlaps: no parameter types"
  let .slice elem <- underlying t | stuck "slices.overlaps: slice type expected"
  let size <- sizeOf elem
  match (some a:Option Addr),(some b:Option Addr) with
  | some a,some b =>
   if la=0\/lb=0\/size=0 then pure (Value.bool false)
   else if a.block != b.block && (<- frozen a) && (<- frozen b) then unsupported .addressObserved
   else do
    if a.block != b.block then do
     noView a;noView b
     if <- mayBeOne a b then return Value.bool ((<- choose (.extern "sameAddr.stringBytes" 2)) == 1)
    pure (Value.bool (a.block == b.block && a.off < b.off+lb*size && b.off < a.off+la*size))
  | _,_=>pure (Value.bool false)) w=_
 by_cases h0:la=0\/lb=0\/size=0
 ·simp [run_underlying ht,hz,h0]
 ·cases kA with
  | zero=>exact absurd rfl hkA
  | succ kA =>
   cases hfa:w.frozen? a with
   | true=>simp [run_underlying ht,hz,h0,hnb,hnb',frozen,noView,viewAt,mayBeOne,stringish,shape,Sem.run,hsa,hsb,hfa,hfb,hfe]
   | false =>
    cases hfa2:w.frozen? { block:=a.block,off:=kA+1 }<;>simp [run_underlying ht,hz,h0,hnb,hnb',frozen,noView,viewAt,mayBeOne,stringish,shape,Sem.run,hsa,hsb,hfa,hfa2,hfb,hfe]
theorem overlaps_sem {f:FuncId} {fn:Func} (hf:P.funcs[f]?=some fn) (hname:(fn.name == "runtime.NumGoroutine")=false) (hb:fn.body.isNone=true) (hn:Extern.findNext fn=none) {t tr e:TypeId}
  (he:Extern.find fn=some (Extern.SlicesOverlaps.overlaps #[t,t] #[tr])) (ht:P.underlying t=some (.slice e)) {z:Nat} (hz:sizeOf' P e=some z) (hz1:z≠1)
  {m:Own} {z':Nat} {c:AV} {r:List AV} {l:LL} {o off n:Nat} {sh:LL} {cells:List AV} (ho:sh[o]?=some cells) (hbk:blkB cells=true) :
  SemX P f [.sl m z' ((c :: r) :: l),.ss o off n z] sh (.bool false) sh:=by
 intro kd β bs S0 O0 w vs hent hargs;have hent':=hent;obtain⟨⟨e1,e2⟩,e3,e4,e5,_⟩:=hent;obtain⟨xs⟩:=vs;have hl2:=hargs.length;simp at hl2
 match xs,hl2 with
 | [u,v],_ =>
  obtain⟨h1,h2,_⟩:=hargs;obtain⟨ho1,cp,rfl,h3,h4,h5⟩:=h2;have hum:=(h5 hz1).2;have h1':∃ A cc,u=.slice A (l.length+1) cc/\∃ b k,A=some ⟨b,k,none⟩/\RepR S0 w z' ((c :: r) :: l) b k:=by
   cases m with
   | own=>exact h1.2.elim
   | no =>
    obtain⟨A,cc,q1,_,_,_,q5⟩:=h1;rcases q5 with q5 | ⟨b,k,q5,q6⟩
    ·cases q5
    ·exact⟨A,cc,q1,b,k,q5,q6⟩
   | full =>
    obtain⟨A,cc,q1,_,_,_,q5⟩:=h1;rcases q5 with q5 | ⟨b,k,q5,q6⟩
    ·cases q5
    ·exact⟨A,cc,q1,b,k,q5,q6⟩
  obtain⟨A,cc,rfl,b,k,rfl,hrep⟩:=h1';obtain⟨_,hrc⟩:=hrep.get (i:=0) rfl;obtain⟨hS,x,hx,_⟩:=hrc.get (j:=0) rfl;simp only[Nat.zero_mul,Nat.add_zero] at hS hx;obtain⟨hbl,hnb,_⟩:=e3 b k hS;have hne:b≠β o:=fun h=>hnb o (List.getElem?_eq_some_iff.1 ho).1 h.symm
  have hsa:∃ tA kA,w.shape? b=some (tA,kA)/\kA≠0:=by
   unfold World.cell? at hx
   split at hx
   ·rename_i arr ty fz hh
    have hx':arr[k]?=some x:=by simpa using hx
    have hlt:=(Array.getElem?_eq_some_iff.1 hx').1;exact⟨ty,arr.size,by unfold World.shape?;have hh':w.heap[b]?=some (.cells arr ty fz):=hh;rw[hh'],by omega⟩
   ·cases hx
  obtain⟨tA,kA,hsa,hkA⟩:=hsa;obtain⟨_,hob,_⟩:=e1 o cells ho (blk_dead hbk);obtain⟨arr,ty,fz,q1,q2,q3,q4⟩:=hob hbk;have hfz:=q3.2 hum;subst hfz;obtain⟨inf,hi,hin⟩:=size_info hz;have hrun:=run_overlaps_far (P:=P) w t tr e ht z (fun w=>by simp [sizeOf,typeInfo,hi,hin]) ⟨b,k,none⟩ ⟨β o,off,none⟩ (l.length+1) cc n cp hne tA ty kA arr.size hsa hkA (by unfold World.shape?;have q1':w.heap[β o]?=_:=q1;rw[q1']) (by unfold World.frozen?;have q1':w.heap[β o]?=_:=q1;simp [q1']) (by unfold World.frozen?;have q1':w.heap[β o]?=_:=q1;simp [q1']);refine⟨.bool false,w,kd,β,bs,?_,After.refl hent' rfl⟩;rw[run_callFunc_extern hf hname hb hn he]
  have:(#[.slice (some ⟨b,k,none⟩) (l.length+1) cc,.slice (some ⟨β o,off,none⟩) n cp]:Array Value)=⟨[.slice (some ⟨b,k,none⟩) (l.length+1) cc,.slice (some ⟨β o,off,none⟩) n cp]⟩:=rfl
  show ((Extern.SlicesOverlaps.overlaps #[t,t] #[tr] ⟨[.slice (some ⟨b,k,none⟩) (l.length+1) cc,.slice (some ⟨β o,off,none⟩) n cp]⟩).run P w).andThen _=_;rw[<- this,hrun];rfl
def ovB (f72 z:Nat):Calls':=fun f args sh=>if f=f72 then (match args with
 | [.sl _ _ ((_ :: _) :: _),.ss o _ _ z']=>(match sh[o]? with
  | some cells=>if blkB cells=true/\z'=z then some (.bool false,sh) else none
  | none=>none)
 | _=>none) else none
theorem ovB_sound {f72:FuncId} {fn:Func} (hf:P.funcs[f72]?=some fn) (hname:(fn.name == "runtime.NumGoroutine")=false) (hb:fn.body.isNone=true) (hn:Extern.findNext fn=none) {t tr e:TypeId}
  (he:Extern.find fn=some (Extern.SlicesOverlaps.overlaps #[t,t] #[tr])) (ht:P.underlying t=some (.slice e)) {z:Nat} (hz:sizeOf' P e=some z) (hz1:z≠1):Good P (ovB f72 z):=by
 intro f args sh r sh' h;unfold ovB at h
 split at h
 ·rename_i hff
  subst hff
  split at h
  ·split at h
   ·rename_i cells hc
    split at h
    ·rename_i hq
     obtain⟨hbk,rfl⟩:=hq;simp only[Option.some.injEq,Prod.mk.injEq] at h;obtain⟨rfl,rfl⟩:=h;exact .inr (overlaps_sem hf hname hb hn he ht hz hz1 hc hbk)
    ·cases h
   ·cases h
  ·cases h
 ·cases h
theorem execX_soundB (hmix:P.follows .mixedOrders=true) {B:Calls'} (hB:Good P B) {E:Env} {a:Act} {w:World} {σ σ':AS} {C:Code} {c:ACode} {e:AX} {Q:Exit->Act->World->Prop} (hok:okCode P E.nt C c=true) (hx:execX (Gx B (fun _=>none)) c σ=some (e,σ')) (hp:Post E σ a w)
  (hQ:∀ a w,Post E σ' a w->Q (xp e) a w):C.wp P Q a w:=by
 obtain⟨n,hn⟩:=exec_lim c σ _ hx;have hG:Good P (funA B (fun _=>none) n):=funs_sound hmix hB (fun _ _ h=>by cases h) n;exact exec_sound hmix hG n C c σ σ' e a w Q hok (hn n (Nat.le_refl _)) hp hQ
theorem list_pre {E:Env} {G:Calls'} {ops:Array Oper} {Q:Exit->Act->World->Prop} (hG:Good P G):∀ {os rest:List Oper} {aos:List AOper} {σ σ':AS} {a:Act} {w:World},okOs P E.nt ops os aos=true->Post E σ a w->runA G aos σ=some σ' ->
  (∀ a w,Post E σ' a w->wpList P ops Q rest a w)->wpList P ops Q (os++rest) a w
 | [],rest,[],σ,σ',a,w,_,hp,hr,hQ=>by
  simp only[runA,Option.some.injEq] at hr;subst hr;exact hQ a w hp
 | o :: os,rest,ao :: aos,σ,σ',a,w,hok,hp,hr,hQ=>by
  simp only[okOs,Bool.and_eq_true] at hok;simp only[runA] at hr;obtain⟨σ1,h1,h2⟩:=Option.bind_eq_some_iff.1 hr;exact wpl_step hG hp hok.1 h1 fun a w hp=>list_pre hG hok.2 hp h2 hQ
 | [],_,_ :: _,_,_,_,_,hok,_,_,_=>by simp [okOs] at hok
 | _ :: _,_,[],_,_,_,_,hok,_,_,_=>by simp [okOs] at hok
theorem forget_nil (σ:AS):forget [] σ=σ:=by
 unfold forget;cases σ;simp only[AS.mk.injEq,not_mem_nil,if_false,and_true]
 funext t
 rename_i fr lo sh;cases h:fr t<;>simp [scrubV]
theorem run_of_exec {aos:List AOper} {σ σ':AS} (h:execX GN (.reg false [] aos []) σ=some (.norm,σ')):∃ n,runA (funA (fun _ _ _=>none) (fun _=>none) n) aos σ=some σ':=by
 obtain⟨n,hn⟩:=exec_lim _ σ _ h;refine⟨n,?_⟩
 have:=hn n (Nat.le_refl _)
 simp only[execA,scrub_nil] at this;obtain⟨σ1,h1,h2⟩:=Option.map_eq_some_iff.1 this;simp only[Prod.mk.injEq,true_and,forget_nil] at h2;rw[h1,h2]
theorem pre_sound {E:Env} {ops:Array Oper} {Q:Exit->Act->World->Prop} (hmix:P.follows .mixedOrders=true) {os rest:List Oper} {aos:List AOper} {σ σ':AS} {a:Act} {w:World} (hok:okOs P E.nt ops os aos=true) (hp:Post E σ a w) (hx:execX GN (.reg false [] aos []) σ=some (.norm,σ'))
  (hQ:∀ a w,Post E σ' a w->wpList P ops Q rest a w):wpList P ops Q (os++rest) a w:=by
 obtain⟨n,hn⟩:=run_of_exec hx;have hG:Good P (funA (fun _ _ _=>none) (fun _=>none) n):=funs_sound hmix (fun _ _ _ _ _ h=>by cases h) (fun _ _ h=>by cases h) n;exact list_pre hG hok hp hn hQ
theorem Sim.extObj {E:Env} {g:Gh} {σ:AS} {a:Act} {w:World} (h:Sim E g σ a w) {i k:Nat} {cells:List AV} (hi:σ.sh[i]?=some cells) (hbk:blkB cells=true) (hne:cells≠[]) (hk:cells.length+k<=g.bs i / 2) :
  Sim E g { σ with sh:=σ.sh.set i (cells++List.replicate k .any) } a w:=by
 obtain⟨_,f2,_⟩:=h.shr i cells hi (blk_dead hbk);obtain⟨arr,ty,fz,q1,q2,q3,q4⟩:=f2 hbk;have q3':=q3.1;refine h.setObj hi (blk_dead hbk) rfl (fun _ _=>rfl) rfl rfl rfl (fun hle how _=>⟨fun _=>⟨arr,ty,fz,q1,q2,q3,fun j x hx=>?_⟩,?_⟩)
 ·rw[getElem?_append] at hx
  split at hx
  ·obtain⟨v,h1,h2⟩:=q4 j x hx
   exact⟨v,h1,RepC'.mono hle _ _ (fun _ _ _=>how _ _ _ _) h2⟩
  ·rename_i hj
   have hlt:=(List.getElem?_eq_some_iff.1 hx).1;simp only[length_replicate] at hlt;have hx':x=.any:=by
    have:=eq_of_mem_replicate (mem_iff_getElem?.2 ⟨_,hx⟩)
    exact this
   subst hx';have hj2:j < arr.size:=by omega
   refine⟨arr[j],Array.getElem?_eq_getElem hj2,?_⟩;show True
   trivial
 ·unfold ObjM
  split
  ·rename_i l hl
   exfalso
   cases cells with
   | nil=>exact hne rfl
   | cons c cs =>
    simp only[cons_append,List.cons.injEq,append_eq_nil_iff] at hl;obtain⟨rfl,rfl,_⟩:=hl;simp [blkB] at hbk
  ·trivial
theorem Sim.reslot {E:Env} {g:Gh} {σ:AS} {a:Act} {w:World} (h:Sim E g σ a w) {t:Nat} {x:AV} (hx:RepT (cx E g σ w) (OwnAt g.kd w (.slot t)) x (a.tmps.getD t undef)):Sim E g { σ with fr:=upd σ.fr t x } a w:=by
 refine { h with slots:=fun t'=>?_ }
 by_cases e:t'=t
 ·subst e
  show RepT _ _ (upd σ.fr t' x t') _;simp only[upd,if_true];exact hx
 ·show RepT _ _ (upd σ.fr t x t') _
  simp only[upd,e,if_false];exact h.slots t'
end
end Go.Av
namespace Go.Av
variable [Gtab]
open Go.RowKit
set_option maxHeartbeats 4000000
section
variable {P:Program} {E:Env} {g g':Gh} {σ σ1:AS} {a:Act} {w w':World} {o:Oper} {Q:Exit->Act->World->Prop}
theorem flat_dem {x:AV} (h:flatB x=true):demV x=x:=by
 cases x<;>try rfl
 rename_i m z l
 cases m<;>first | rfl | simp [flatB] at h
theorem flat_nown {x:AV} (h:flatB x=true):nownB x=true:=by
 cases x<;>try rfl
 rename_i m z l
 cases m<;>first | rfl | simp [flatB] at h
theorem flat_all_nown {l:List AV} (h:l.all flatB=true):l.all nownB=true:=by
 rw[all_eq_true] at h ⊢;exact fun x hx=>flat_nown (h x hx)
theorem flat_blk {l:List AV} (h:l.all flatB=true):blkB l=true:=by
 rw[all_eq_true] at h;unfold blkB;split
 ·have:=h _ (mem_singleton.2 rfl);simp [flatB] at this
 ·have:=h _ (mem_singleton.2 rfl);simp [flatB] at this
 ·rfl
theorem flat_map {l:List AV} (h:l.all flatB=true):l.map demV=l:=by
 rw[all_eq_true] at h
 conv=>rhs;rw[<- map_id l]
 exact map_congr_left fun x hx=>flat_dem (h x hx)
theorem flat_all_dem {l:List AV} (h:l.all flatB=true):l.all (fun x=>flatB (demV x))=true:=by
 rw[all_eq_true] at h ⊢;exact fun x hx=>by rw[flat_dem (h x hx)];exact h x hx
theorem snd_appZ (hs:Sim E g σ a w) (hd:∀ d,o.dst=some d->d < E.nt) {t tn e:TypeId} {x y:Operand} {rx ry:AR} {kn:IntKind} (hop:o.op=.call { callee:=.builtin .append,args:=#[x,y],argTypes:=#[t,tn] })
  (hx:okR x rx=true) (hy:okR y ry=true) (ht:P.underlying t=some (.slice e)) (htn:P.underlying tn=some (.int kn)) {z bytes:Nat} {zero:List AV} (hzi:zeroIs P e zero=true) (hzl:zero.length=z) {inf:TypeInfo} (hi:P.info? e=some inf) (hib:inf.bytes=bytes) (hz0:0 < z) (hz1:z≠1)
  {so i k:Nat} {cells:List AV} (he:ev σ.fr rx=.ss so 0 i z) (hk:ev σ.fr ry=.int .i64 (k:Int)) (hk0:0 < k) (hcl:σ.sh[so]?=some cells) (hfl:cells.all flatB=true) (hle:i*z<=cells.length)
  (hcap:∀ cp,0+cp*z=g.bs so / 2->cp < i+k) (hby:(i+k)*bytes<=140737488355328) (h62:i+k<=4611686018427387904) :
  o.wp P a w (Post E (put { σ with sh:=σ.sh++[cells.take (i*z)++zeroRow zero k] } o.dst (.ss σ.sh.length 0 (i+k) z))) Q:=by
 obtain⟨i',zv,q1,q2,q3,q4⟩:=zero_info hzi;rw[hi] at q1;cases q1;have hbk:=flat_blk hfl;have hiz:inf.size=z:=by omega
 obtain⟨e0,cp,e1,e2,e3,e3'⟩:=hs.rd hx he;have e1':a.eval x=.slice (some ⟨g.β so,0,none⟩) i cp:=e1;have hg:=hcap cp (e3' hz1).1;have ek:=hs.rdNat hy hk;have hzr:=okL_rep (S:=SS E g w) (w:=w) q3;have hzv:zv.cells.size=z:=by have:=hzr.length;simp at this;omega
 obtain⟨k1,k2,_⟩:=hs.shr so cells hcl (blk_dead hbk);obtain⟨arr,ty,fz,h6,hfz,h7,h8⟩:=k2 hbk;have hal:=obj_len h8;have hlt:(arr.toList.take (i*inf.size)).length=i*inf.size:=by rw[hiz];simp;omega
 have hold:(Builtin.firstCells inf.size i (.slice (some ⟨g.β so,0,none⟩) i cp)).run P w.drew=.ok (arr.toList.take (i*inf.size)).toArray w.drew:=by
  have hld:=run_loadCells_list (P:=P) w.drew ⟨g.β so,0,none⟩ (arr.toList.take (i*inf.size)) (fun j v hj=>by
   rw[add_none];rw[getElem?_take] at hj
   split at hj
   ·have h6':w.drew.heap[g.β so]?=some (.cells arr ty fz):=h6
    simp [World.cell?,h6'];simpa using hj
   ·cases hj)
  rw[hlt] at hld;simp only[Builtin.firstCells,hld]
 have hrun:=Lib.run_append_grow_zeros (P:=P) w t tn o.type e inf zv .i64 kn ht htn hi q2 (some ⟨g.β so,0,none⟩) i cp (arr.toList.take (i*inf.size)) hold k hk0 (by omega) hg (by omega) (by
  have:k*inf.bytes<=(i+k)*bytes:=by rw[hib];exact Nat.mul_le_mul_right _ (by omega)
  omega) (growslice_fits hg (by rw[hib];exact hby))
 have h1:=hs.drawn (w.drawn+1);have hge:=grownCap_ge w (i+k) cp e;have hze:∀ (n j:Nat) (y:AV),(zeroRow zero n)[j]?=some y->∃ v,(Builtin.zeroCells zv.cells n)[j]?=some v/\RepC' (cx E g σ { w with drawn:=w.drawn+1 }) noOwn y v:=by
  intro n j y hj;obtain⟨j1,j2⟩:=zeroRow_take zero j n y hj;obtain⟨v,j3,j4⟩:=hzr.get j2;rw[hzl] at j1;refine⟨v,?_,(repF_one (c:=cx E g σ { w with drawn:=w.drawn+1 }) (RepF.mono (S:=SS E g w) (S':=SS E g w) (w:=w) (w':={ w with drawn:=w.drawn+1 }) (fun b n h=>⟨h,rfl⟩) _ _ j4)).2⟩;have h9:zv.cells[j % zero.length]?=some v:=by simpa using j3
  rw[hzl] at h9;unfold Builtin.zeroCells;rw[hzv];rw[Array.getElem?_map,Array.getElem?_range,if_pos j1];simp only[Option.map_some,Option.some.injEq];rw[getElem!_def,h9]
 obtain⟨g2,p1,p2,p3,p4⟩:=h1.newShr (cells:=cells.take (i*z)++zeroRow zero k) (cs:=(arr.toList.take (i*inf.size)).toArray++Builtin.zeroCells zv.cells k++Builtin.zeroCells zv.cells (grownCap w (i+k) cp e - (i+k))) (e:=e) (fun j y hj=>by
  have hle1:Cx.le (cx E g σ w) (cx E g σ { w with drawn:=w.drawn+1 }):=⟨fun b n h=>⟨h,rfl⟩,Nat.le_refl _,fun _ _=>rfl,fun _ _=>rfl,fun s hs=>⟨hs,rfl⟩⟩
  have hs1:(arr.toList.take (i*inf.size)).toArray.size=i*z:=by rw[size_toArray,hlt,hiz]
  have hs2:(cells.take (i*z)).length=i*z:=by simp;omega
  have hs3:(Builtin.zeroCells zv.cells k).size=k*z:=by rw[zeroCells_list,hzv]
  rw[getElem?_append,hs2] at hj
  split at hj
  ·rename_i hjl
   rw[getElem?_take_of_lt hjl] at hj;obtain⟨v,h3,h4⟩:=h8 j y hj;refine⟨v,?_,RepC'.mono hle1 _ _ (fun z l e=>?_) h4⟩
   ·rw[Array.getElem?_append_left (by rw[Array.size_append];omega),Array.getElem?_append_left (by omega),getElem?_toArray,getElem?_take_of_lt (by rw[hiz];exact hjl)]
    simpa using h3
   ·subst e
    rw[all_eq_true] at hfl
    have:=hfl _ (mem_iff_getElem?.2 ⟨j,hj⟩)
    simp [flatB] at this
  ·rename_i hjl
   obtain⟨v,h3,h4⟩:=hze k _ y hj;refine⟨v,?_,h4⟩;have hjl2:=(Array.getElem?_eq_some_iff.1 h3).1;rw[Array.getElem?_append_left (by rw[Array.size_append];omega),Array.getElem?_append_right (by omega),hs1]
   exact h3)
 refine fin_val p1 (val:=.slice (some ⟨w.heap.size,0,none⟩) (i+k) (grownCap w (i+k) cp e)) ?_ fun d hdd=>⟨hd d hdd,?_⟩
 ·simp [execOp,hop,resolve,invoke,builtin,e1',ek,hrun]
 ·refine⟨by simp [cx],grownCap w (i+k) cp e,?_,hge,?_⟩
  ·show _=Value.slice (some ⟨g2.β σ.sh.length,0,none⟩) _ _
   have:g2.β σ.sh.length=w.heap.size:=p3
   rw[this]
  ·have hb:g2.bs σ.sh.length=2*_+1:=p4
   refine ssz_full ?_ (by show g2.bs σ.sh.length % 2=1;rw[hb];omega);show 0+_=g2.bs σ.sh.length / 2;rw[hb,show ∀ X:Nat,(2*X+1) / 2=X from fun X=>by omega];rw[Array.size_append,Array.size_append,size_toArray,hlt,zeroCells_list,zeroCells_list,hzv,hiz,<- Nat.add_mul,<- Nat.add_mul,Nat.zero_add]
   congr 1
   omega
end
def mvO (d s:Nat):AOper:=⟨some d,.mv,[.t s],.none,none,none⟩
def stuckC:ACode:=.reg false [] [⟨none,.mv,[],.none,none,none⟩] []
def insI0 (z:Nat):ACode:=.reg false [] [⟨some 6,.mv,[.c (.sl .full z [])],.none,none,none⟩] [6]
def insI1 (z:Nat):ACode:=.reg false [] [mvO 10 0,mvO 11 1,⟨some 12,.slc false z true false,[.t 10,.t 11],.none,none,none⟩] [10,11,12]
def insI2:ACode:=.reg false [] [mvO 13 2,⟨some 14,.len false,[.t 13],.none,none,none⟩,mvO 7 14] [13,14]
def insI3:ACode:=.seq (.reg false [] [mvO 15 7,⟨some 16,.bin .eql,[.t 15,.c (.int .i64 0)],.none,none,none⟩] [15]) (.cond (.t 16) (.seq stuckC .ret) .skip)
def insI5:ACode:=.reg false [] [mvO 18 0,⟨some 19,.len false,[.t 18],.none,none,none⟩,mvO 8 19] [18,19]
def insI6:ACode:=.seq (.reg false [] [mvO 20 1,mvO 21 8,⟨some 22,.bin .eql,[.t 20,.t 21],.none,none,none⟩] [20,21]) (.cond (.t 22) (.seq stuckC .ret) .skip)
def insP8:List AOper:=[mvO 26 8,mvO 27 7,⟨some 28,.bin .add,[.t 26,.t 27],.none,none,none⟩,mvO 29 0]
def insQ8:List AOper:=[⟨some 31,.bin .gtr,[.t 28,.t 30],.none,none,none⟩]
def insP9 (z:Nat):List AOper:=[mvO 32 0,mvO 33 1,⟨some 34,.slc false z false true,[.t 32,.t 33],.none,none,none⟩,mvO 35 8,mvO 36 7,⟨some 37,.bin .add,[.t 35,.t 36],.none,none,none⟩,mvO 38 1,⟨some 39,.bin .sub,[.t 37,.t 38],.none,none,none⟩]
def insQ9:List AOper:=[mvO 9 40]
def insG (z:Nat):ACode:=
 .seq (.reg false [] [mvO 41 9,mvO 42 1,⟨some 43,.slc false z true false,[.t 41,.t 42],.none,none,none⟩,mvO 44 2,⟨some 45,.cpy z,[.t 43,.t 44],.sh,none,none⟩] [41,42,43,44,45]) <|
 .seq (.reg true [] [mvO 46 9,mvO 47 1,mvO 48 7,⟨some 49,.bin .add,[.t 47,.t 48],.none,none,none⟩,⟨some 50,.slc false z true false,[.t 46,.t 49],.none,none,none⟩,mvO 51 0,mvO 52 1,⟨some 53,.slc false z true false,[.t 51,.t 52],.none,none,none⟩,⟨some 54,.cpy z,[.t 50,.t 53],.sh,none,none⟩] [46,47,48,49,50,51,52,53,54]) <|
 .seq (.reg false [] [mvO 55 9,mvO 6 55] [55]) .ret
def insR (z f72:Nat):ACode:=
 .seq (.reg false [] [mvO 56 0,mvO 57 8,mvO 58 7,⟨some 59,.bin .add,[.t 57,.t 58],.none,none,none⟩,⟨some 60,.slx z false,[.t 56,.t 59],.sh,none,none⟩,mvO 0 60] [56,57,58,59,60]) <|
 .seq (.seq (.reg false [] [mvO 61 2,mvO 62 0,mvO 63 1,mvO 64 7,⟨some 65,.bin .add,[.t 63,.t 64],.none,none,none⟩,⟨some 66,.slc false z true false,[.t 62,.t 65],.none,none,none⟩,⟨some 67,.call f72,[.t 61,.t 66],.sh,none,none⟩,⟨some 68,.un .not,[.t 67],.none,none,none⟩] [61,62,63,64,65,66,67])
  (.cond (.t 68) (.seq (.reg true [] [mvO 69 0,mvO 70 1,mvO 71 7,⟨some 72,.bin .add,[.t 70,.t 71],.none,none,none⟩,⟨some 73,.slc false z true false,[.t 69,.t 72],.none,none,none⟩,mvO 74 0,mvO 75 1,⟨some 76,.slc false z true false,[.t 74,.t 75],.none,none,none⟩,⟨some 77,.cpy z,[.t 73,.t 76],.sh,none,none⟩] [69,70,71,72,73,74,75,76,77]) <|
   .seq (.reg false [] [mvO 78 0,mvO 79 1,⟨some 80,.slc false z true false,[.t 78,.t 79],.none,none,none⟩,mvO 81 2,⟨some 82,.cpy z,[.t 80,.t 81],.sh,none,none⟩] [78,79,80,81,82]) <|
   .seq (.reg false [] [mvO 83 0,mvO 6 83] [83]) .ret) .skip)) <|
 .seq stuckC <| .seq stuckC <| .seq stuckC .ret
def isCapOf (P:Program) (i:Nat):Op->Bool
 | .call { callee:=.builtin .cap,args:=xs,argTypes:=ts }=>(match xs.toList,ts.toList with
  | [.tmp j],[t]=>i == j && (match P.underlying t with | some (.slice _)=>true | _=>false)
  | _,_=>false)
 | _=>false
def isAppZ (P:Program) (i k z bytes:Nat) (zero:List AV):Op->Bool
 | .call { callee:=.builtin .append,args:=xs,argTypes:=ts }=>(match xs.toList,ts.toList with
  | [.tmp j,.tmp l],[t,tn]=>i == j && k == l && (match P.underlying t,P.underlying tn with | some (.slice e),some (.int _)=>zeroIs P e zero && zero.length == z && (match P.info? e with | some inf=>inf.bytes == bytes | none=>false) | _,_=>false)
  | _,_=>false)
 | _=>false
def okInsert (P:Program) (f f72 z bytes:Nat) (zero:List AV):Bool:=
 match P.funcs[f]? with
 | some fn=>(match fn.body with
  | some (.seq c0 (.seq c1 (.seq c2 (.seq c3 (.seq c5 (.seq c6 (.seq (.seq (.region _ ops8 false) (.cond (.tmp 31) (.seq (.region _ ops9 false) gr) .skip)) rest))))))) =>
   okCode P fn.ntmps c0 (insI0 z) && okCode P fn.ntmps c1 (insI1 z) && okCode P fn.ntmps c2 insI2 && okCode P fn.ntmps c3 insI3 && okCode P fn.ntmps c5 insI5 && okCode P fn.ntmps c6 insI6 && okCode P fn.ntmps gr (insG z) && okCode P fn.ntmps rest (insR z f72) &&
   (match ops8.toList with
    | [p1,p2,p3,p4,q,r]=>okOs P fn.ntmps ops8 [p1,p2,p3,p4] insP8 && okOs P fn.ntmps ops8 [r] insQ8 && q.dst == some 30 && q.guard.isNone && isCapOf P 29 q.op
    | _=>false) &&
   (match ops9.toList with
    | [p1,p2,p3,p4,p5,p6,p7,p8,q,r]=>okOs P fn.ntmps ops9 [p1,p2,p3,p4,p5,p6,p7,p8] (insP9 z) && okOs P fn.ntmps ops9 [r] insQ9 && q.dst == some 40 && q.guard.isNone && isAppZ P 34 39 z bytes zero q.op
    | _=>false)
  | _=>false) && decide (84<=fn.ntmps) && okRes P fn.results.toList [.tmpD 6] && !(fn.name == "runtime.NumGoroutine")
 | none=>false
end Go.Av
namespace Go.Av
variable [Gtab]
open Go.RowKit
set_option maxHeartbeats 8000000
theorem flatten_len {z:Nat}:∀ {l:LL},(∀ e∈l,e.length=z)->l.flatten.length=l.length*z
 | [],_=>by simp
 | e :: l,h=>by
  rw[flatten_cons,length_append,flatten_len (fun x hx=>h x (by simp [hx])),h e (by simp),length_cons,Nat.add_mul];omega
theorem putC_app (A Z cs:List AV) (h:cs.length<=Z.length):putC A.length cs (A++Z)=some (A++cs++Z.drop cs.length):=by
 unfold putC;rw[if_pos (by rw[length_append];omega),take_left,drop_append]
 congr 3
 ·rw[drop_of_length_le (by omega),nil_append]
  congr 1;omega
theorem rowsC_seg {z:Nat} (hz:0 < z) (A D R:List AV) (k:Nat) (hD:D.length=k*z) (hf:D.all flatB=true):rowsC A.length k z (A++D++R)=some (rowsOf z k D):=by
 have e:((A++D++R).drop A.length).take (k*z)=D:=by
  rw[append_assoc,drop_left,<- hD,take_left]
 unfold rowsC;rw[e,if_pos ⟨hz,by rw[length_append,length_append];omega,flat_all_dem hf⟩,flat_map hf]
section
variable {P:Program}
def insX (z i:Nat) (cells:List AV) (V:LL):List AV:=cells.take (i*z)++V.flatten++cells.drop (i*z)
theorem cap_sound {E:Env} {g:Gh} {σ:AS} {a:Act} {w:World} {o:Oper} {Q:Exit->Act->World->Prop} {x:Nat} (hs:Sim E g σ a w) (hd:∀ d,o.dst=some d->d < E.nt) (hop:isCapOf P x o.op=true) {A:Option Addr} {n c:Nat}
  (hx:a.eval (.tmp x)=.slice A n c):o.wp P a w (Post E (put σ o.dst (.int .i64 (c:Int)))) Q:=by
 unfold isCapOf at hop
 split at hop
 ·rename_i xs ts hop'
  split at hop
  ·rename_i j t hxs hts
   simp only[Bool.and_eq_true] at hop;obtain⟨h1,h2⟩:=hop
   have:x=j:=by simpa using h1
   subst this;have hxs':xs=#[.tmp x]:=by apply Array.ext';simpa using hxs
   have hts':ts=#[t]:=by apply Array.ext';simpa using hts
   subst hxs';subst hts'
   split at h2
   ·rename_i e he
    have hx':a.eval (.tmp x)=.slice A n c:=hx;refine plain_fin hs hd (val:=.int .i64 (c:Int)) ?_ rfl rfl;simp [execOp,hop',resolve,invoke,builtin,hx',Builtin.cap_,run_underlying he,goInt]
   ·cases h2
  ·cases hop
 ·cases hop
theorem appZ_sound {E:Env} {g:Gh} {σ:AS} {a:Act} {w:World} {o:Oper} {Q:Exit->Act->World->Prop} {x y z bytes:Nat} {zero:List AV} (hs:Sim E g σ a w) (hd:∀ d,o.dst=some d->d < E.nt) (hop:isAppZ P x y z bytes zero o.op=true) {so i k:Nat} {cells:List AV} (hz0:0 < z) (hz1:1 < z)
  (he:ev σ.fr (.t x)=.ss so 0 i z) (hk:ev σ.fr (.t y)=.int .i64 (k:Int)) (hk0:0 < k) (hcl:σ.sh[so]?=some cells) (hfl:cells.all flatB=true) (hle:i*z<=cells.length)
  (hcap:∀ cp,0+cp*z=g.bs so / 2->cp < i+k) (hby:(i+k)*bytes<=140737488355328) (h62:i+k<=4611686018427387904) :
  o.wp P a w (Post E (put { σ with sh:=σ.sh++[cells.take (i*z)++zeroRow zero k] } o.dst (.ss σ.sh.length 0 (i+k) z))) Q:=by
 unfold isAppZ at hop
 split at hop
 ·rename_i xs ts hop'
  split at hop
  ·rename_i j l t tn hxs hts
   simp only[Bool.and_eq_true] at hop;obtain⟨⟨h1,h2⟩,h3⟩:=hop;have e1:x=j:=by simpa using h1
   have e2:y=l:=by simpa using h2
   subst e1;subst e2;have hxs':xs=#[.tmp x,.tmp y]:=by apply Array.ext';simpa using hxs
   have hts':ts=#[t,tn]:=by apply Array.ext';simpa using hts
   subst hxs';subst hts'
   split at h3
   ·rename_i e kn ht htn
    simp only[Bool.and_eq_true] at h3;obtain⟨⟨h4,h5⟩,h6⟩:=h3
    split at h6
    ·rename_i inf hi
     exact snd_appZ hs hd hop' (rx:=.t x) (ry:=.t y) (by simp [okR]) (by simp [okR]) ht htn h4 (by simpa using h5) hi (by simpa using h6) hz0 (by omega) he hk hk0 hcl hfl hle hcap hby h62
    ·cases h6
   ·cases h3
  ·cases hop
 ·cases hop
theorem Sim.moveTo {E:Env} {g:Gh} {σ:AS} {a:Act} {w:World} (h:Sim E g σ a w) {i t n z:Nat} {cells:List AV} (hi:σ.sh[i]?=some cells) (hbk:blkB cells=true) (hno:cells.all nownB=true) (ht:σ.fr t=.ss i 0 n z) :
  ∃ g',Sim E g' { σ with sh:=σ.sh.set i dead++[cells],fr:=upd σ.fr t (.ss σ.sh.length 0 n z) } a w:=by
 obtain⟨h1,_⟩:=h.moveObj hi hbk hno;have hlt:i < σ.sh.length:=(List.getElem?_eq_some_iff.1 hi).1;have hs:=h.slots t;rw[ht] at hs;obtain⟨_,cp,q2,q3,q4,q5⟩:=hs;refine⟨_,h1.reslot (t:=t) (x:=.ss σ.sh.length 0 n z) ?_⟩;refine⟨by simp [cx],cp,?_,q3,?_,?_⟩
 ·rw[q2];simp [cx,upd]
 ·have q4':0+cp*z<=g.bs i / 2:=q4
  simpa [cx,upd] using q4'
 ·have q5':z≠1->0+cp*z=g.bs i / 2/\g.bs i % 2=1:=q5
  simpa [cx,upd] using q5'
theorem insert_sound (hmix:P.follows .mixedOrders=true) {f f72:FuncId} {z bytes:Nat} {zero:List AV} (hok:okInsert P f f72 z bytes zero=true) (hB:Good P (ovB f72 z)) (hz0:0 < z) (hz1:1 < z) (hzl:zero.length=z) (hzf:zero.all flatB=true) {o n i:Nat} {V:LL} {c0:AV} {r0:List AV} {V0:LL} {sh:LL} {cells:List AV}
  (hV:V=(c0 :: r0) :: V0) (hc:sh[o]?=some cells) (hfl:cells.all flatB=true) (hn:n*z=cells.length) (hi:i < n) (hVz:∀ e∈V,e.length=z) (hVf:V.flatten.all flatB=true) (hby:(n+V.length)*bytes<=140737488355328) (h62:n+V.length<=4611686018427387904) :
  Real P f/\SemCall P f [.ss o 0 n z,.int .i64 (i:Int),.sl .full z V] sh (.ss sh.length 0 (n+V.length) z) (sh.set o dead++[insX z i cells V]):=by
 unfold okInsert at hok
 split at hok
 case h_2=>cases hok
 rename_i fn hfn;simp only[Bool.and_eq_true,decide_eq_true_eq] at hok;obtain⟨⟨⟨hbody,hnt⟩,hres⟩,hname⟩:=hok
 split at hbody
 case h_2=>cases hbody
 rename_i k0 k1 k2 k3 k5 k6 id8 ops8 id9 ops9 gr rest hC;simp only[Bool.and_eq_true] at hbody;obtain⟨⟨⟨⟨⟨⟨⟨⟨⟨b0,b1⟩,b2⟩,b3⟩,b5⟩,b6⟩,bg⟩,br⟩,b8⟩,b9⟩:=hbody
 split at b8
 case h_2=>cases b8
 rename_i p1 p2 p3 p4 q8 r8 hops8
 split at b9
 case h_2=>cases b9
 rename_i s1 s2 s3 s4 s5 s6 s7 s8 q9 r9 hops9;simp only[Bool.and_eq_true] at b8 b9;obtain⟨⟨⟨⟨u1,u2⟩,u3⟩,u4⟩,u5⟩:=b8;obtain⟨⟨⟨⟨v1,v2⟩,v3⟩,v4⟩,v5⟩:=b9;have u3':q8.dst=some 30:=by simpa using u3
 have u4':q8.guard=none:=by simpa using u4
 have v3':q9.dst=some 40:=by simpa using v3
 have v4':q9.guard=none:=by simpa using v4
 obtain⟨m,hm⟩:∃ m,m=V.length:=⟨_,rfl⟩
 have hm1:1<=m:=by rw[hm,hV];simp
 rw[<- hm] at hby h62 ⊢;have hol:o < sh.length:=(List.getElem?_eq_some_iff.1 hc).1;have hbk:=flat_blk hfl;have hnz:cells.length=n*z:=hn.symm;have hiz:i*z<=n*z:=Nat.mul_le_mul_right _ (by omega);have hVl:V.flatten.length=m*z:=by rw[hm];exact flatten_len hVz
 obtain⟨A,hA⟩:∃ A,A=cells.take (i*z):=⟨_,rfl⟩
 obtain⟨D,hD⟩:∃ D,D=cells.drop (i*z):=⟨_,rfl⟩
 have hAD:cells=A++D:=by rw[hA,hD,take_append_drop]
 have hAl:A.length=i*z:=by rw[hA,length_take];omega
 have hDl:D.length=(n - i)*z:=by rw[hD,length_drop,Nat.sub_mul];omega
 have hDf:D.all flatB=true:=by
  rw[all_eq_true] at hfl ⊢;exact fun x hx=>hfl x (by rw[hAD];exact mem_append_right _ hx)
 have hAf:A.all flatB=true:=by
  rw[all_eq_true] at hfl ⊢;exact fun x hx=>hfl x (by rw[hAD];exact mem_append_left _ hx)
 have hXi:insX z i cells V=A++V.flatten++D:=by rw[insX,<- hA,<- hD]
 have hXf:(insX z i cells V).all flatB=true:=by rw[hXi,all_append,all_append,hAf,hVf,hDf];rfl
 obtain⟨f1,f2,f3⟩:=rowsOf_flat z (n - i) D hDl
 have e1:(0:Int)<=(i:Int):=by omega
 have e2:(i:Int) < (n:Int):=by omega
 have e2':(i:Int)<=(n:Int):=by omega
 have e3:((m:Int)=0)=False:=eq_false (by omega);have e4:((i:Int)=(n:Int))=False:=eq_false (by omega);have e5:IntKind.i64.wrap ((n:Int)+(m:Int))=((n+m:Nat):Int):=by rw[w64 (by omega) (by omega)];rfl
 have e6:IntKind.i64.wrap (((n+m:Nat):Int) - (i:Int))=((n+m - i:Nat):Int):=by rw[w64 (by omega) (by omega)];omega
 have e7:IntKind.i64.wrap ((i:Int)+(m:Int))=((i+m:Nat):Int):=by rw[w64 (by omega) (by omega)];rfl
 have e8:(0:Int)<=((i+m:Nat):Int):=by omega
 have e9:((i+m:Nat):Int) < ((n+m:Nat):Int):=by omega
 have e9':((i+m:Nat):Int)<=((n+m:Nat):Int):=by omega
 have e10:(i:Int) < ((n+m:Nat):Int):=by omega
 have e10':(i:Int)<=((n+m:Nat):Int):=by omega
 refine fun_wp (nargs:=3) (keep:=true) (res:=[.tmpD 6]) hfn hC (by omega) hres (by simpa using hname) rfl ?_;intro E g a w hEt hn0 hs;rw[<- hEt] at b0 b1 b2 b3 b5 b6 bg br u1 u2 v1 v2;rw[initA_ST] at hs;have x0:execX GN (insI0 z) (ST (argl 0 [.ss o 0 n z,.int .i64 (i:Int),.sl .full z V]) [] sh)=some (.norm,ST [(0,.ss o 0 n z),(1,.int .i64 i),(2,.sl .full z V)] [] sh):=by
  simp only[insI0,argl,go_sem,set_cons_zero,set_cons_succ,take_succ_cons,and_false,false_and,and_true,true_and,Nat.reduceAdd,Nat.reduceEqDiff,Nat.reduceLT,↓reduceIte,decide_eq_true_eq,take_nil,beq_self_eq_true,bne_self_eq_false,take_zero,map_cons,map_nil,Int.reduceNeg,Bool.and_true,and_self,Bool.true_and,Bool.and_self,ne_eq,not_true_eq_false,decide_false,decide_true,Bool.false_eq_true,Nat.reduceAdd,Option.map_some,Option.map_none,Option.bind_some,Option.bind_none,length_nil,length_cons,append_nil,Bool.and_false,w64,demV_sl,Int.cast_ofNat_Int,Int.reduceLT,Int.reduceAdd,Int.reduceSub,Int.reduceLE,Int.reduceEq,Int.reduceToNat,Int.toNat_natCast,Nat.reduceSub,Nat.reduceMul,Nat.reduceLeDiff,Nat.zero_add,Int.zero_add,not_false_eq_true,Bool.not_true,Bool.not_false,Bool.false_and,cons_append,nil_append]
 have x1:execX GN (insI1 z) (ST [(0,.ss o 0 n z),(1,.int .i64 i),(2,.sl .full z V)] [] sh)=some (.norm,ST [(0,.ss o 0 n z),(1,.int .i64 i),(2,.sl .full z V)] [] sh):=by
  simp only[insI1,mvO,go_sem,set_cons_zero,set_cons_succ,take_succ_cons,and_false,false_and,and_true,true_and,Nat.reduceAdd,Nat.reduceEqDiff,Nat.reduceLT,↓reduceIte,decide_eq_true_eq,take_nil,beq_self_eq_true,bne_self_eq_false,take_zero,map_cons,map_nil,Int.reduceNeg,Bool.and_true,and_self,Bool.true_and,Bool.and_self,ne_eq,not_true_eq_false,decide_false,decide_true,Bool.false_eq_true,Nat.reduceAdd,Option.map_some,Option.map_none,Option.bind_some,Option.bind_none,length_nil,length_cons,append_nil,Bool.and_false,w64,demV_sl,Int.cast_ofNat_Int,Int.reduceLT,Int.reduceAdd,Int.reduceSub,Int.reduceLE,Int.reduceEq,Int.reduceToNat,Int.toNat_natCast,Nat.reduceSub,Nat.reduceMul,Nat.reduceLeDiff,Nat.zero_add,Int.zero_add,not_false_eq_true,Bool.not_true,Bool.not_false,Bool.false_and,cons_append,nil_append,e1,e2,e2',or_true]
 have x2:execX GN insI2 (ST [(0,.ss o 0 n z),(1,.int .i64 i),(2,.sl .full z V)] [] sh)=some (.norm,ST [(0,.ss o 0 n z),(1,.int .i64 i),(2,.sl .full z V),(7,.int .i64 m)] [] sh):=by
  rw[hm];simp only[insI2,mvO,go_sem,set_cons_zero,set_cons_succ,take_succ_cons,and_false,false_and,and_true,true_and,Nat.reduceAdd,Nat.reduceEqDiff,Nat.reduceLT,↓reduceIte,decide_eq_true_eq,take_nil,beq_self_eq_true,bne_self_eq_false,take_zero,map_cons,map_nil,Int.reduceNeg,Bool.and_true,and_self,Bool.true_and,Bool.and_self,ne_eq,not_true_eq_false,decide_false,decide_true,Bool.false_eq_true,Nat.reduceAdd,Option.map_some,Option.map_none,Option.bind_some,Option.bind_none,length_nil,length_cons,append_nil,Bool.and_false,w64,demV_sl,Int.cast_ofNat_Int,Int.reduceLT,Int.reduceAdd,Int.reduceSub,Int.reduceLE,Int.reduceEq,Int.reduceToNat,Int.toNat_natCast,Nat.reduceSub,Nat.reduceMul,Nat.reduceLeDiff,Nat.zero_add,Int.zero_add,not_false_eq_true,Bool.not_true,Bool.not_false,Bool.false_and,cons_append,nil_append]
 have x3:execX GN insI3 (ST [(0,.ss o 0 n z),(1,.int .i64 i),(2,.sl .full z V),(7,.int .i64 m)] [] sh)=some (.norm,ST [(0,.ss o 0 n z),(1,.int .i64 i),(2,.sl .full z V),(7,.int .i64 m),(16,.bool false)] [] sh):=by
  simp only[insI3,mvO,go_sem,set_cons_zero,set_cons_succ,take_succ_cons,and_false,false_and,and_true,true_and,Nat.reduceAdd,Nat.reduceEqDiff,Nat.reduceLT,↓reduceIte,decide_eq_true_eq,take_nil,beq_self_eq_true,bne_self_eq_false,take_zero,map_cons,map_nil,Int.reduceNeg,Bool.and_true,and_self,Bool.true_and,Bool.and_self,ne_eq,not_true_eq_false,decide_false,decide_true,Bool.false_eq_true,Nat.reduceAdd,Option.map_some,Option.map_none,Option.bind_some,Option.bind_none,length_nil,length_cons,append_nil,Bool.and_false,w64,demV_sl,Int.cast_ofNat_Int,Int.reduceLT,Int.reduceAdd,Int.reduceSub,Int.reduceLE,Int.reduceEq,Int.reduceToNat,Int.toNat_natCast,Nat.reduceSub,Nat.reduceMul,Nat.reduceLeDiff,Nat.zero_add,Int.zero_add,not_false_eq_true,Bool.not_true,Bool.not_false,Bool.false_and,cons_append,nil_append,e3]
 have x5:execX GN insI5 (ST [(0,.ss o 0 n z),(1,.int .i64 i),(2,.sl .full z V),(7,.int .i64 m),(16,.bool false)] [] sh)=some (.norm,ST [(0,.ss o 0 n z),(1,.int .i64 i),(2,.sl .full z V),(7,.int .i64 m),(8,.int .i64 n),(16,.bool false)] [] sh):=by
  simp only[insI5,mvO,go_sem,set_cons_zero,set_cons_succ,take_succ_cons,and_false,false_and,and_true,true_and,Nat.reduceAdd,Nat.reduceEqDiff,Nat.reduceLT,↓reduceIte,decide_eq_true_eq,take_nil,beq_self_eq_true,bne_self_eq_false,take_zero,map_cons,map_nil,Int.reduceNeg,Bool.and_true,and_self,Bool.true_and,Bool.and_self,ne_eq,not_true_eq_false,decide_false,decide_true,Bool.false_eq_true,Nat.reduceAdd,Option.map_some,Option.map_none,Option.bind_some,Option.bind_none,length_nil,length_cons,append_nil,Bool.and_false,w64,demV_sl,Int.cast_ofNat_Int,Int.reduceLT,Int.reduceAdd,Int.reduceSub,Int.reduceLE,Int.reduceEq,Int.reduceToNat,Int.toNat_natCast,Nat.reduceSub,Nat.reduceMul,Nat.reduceLeDiff,Nat.zero_add,Int.zero_add,not_false_eq_true,Bool.not_true,Bool.not_false,Bool.false_and,cons_append,nil_append]
 have x6:execX GN insI6 (ST [(0,.ss o 0 n z),(1,.int .i64 i),(2,.sl .full z V),(7,.int .i64 m),(8,.int .i64 n),(16,.bool false)] [] sh)=some (.norm,ST [(0,.ss o 0 n z),(1,.int .i64 i),(2,.sl .full z V),(7,.int .i64 m),(8,.int .i64 n),(16,.bool false),(22,.bool false)] [] sh):=by
  simp only[insI6,mvO,go_sem,set_cons_zero,set_cons_succ,take_succ_cons,and_false,false_and,and_true,true_and,Nat.reduceAdd,Nat.reduceEqDiff,Nat.reduceLT,↓reduceIte,decide_eq_true_eq,take_nil,beq_self_eq_true,bne_self_eq_false,take_zero,map_cons,map_nil,Int.reduceNeg,Bool.and_true,and_self,Bool.true_and,Bool.and_self,ne_eq,not_true_eq_false,decide_false,decide_true,Bool.false_eq_true,Nat.reduceAdd,Option.map_some,Option.map_none,Option.bind_some,Option.bind_none,length_nil,length_cons,append_nil,Bool.and_false,w64,demV_sl,Int.cast_ofNat_Int,Int.reduceLT,Int.reduceAdd,Int.reduceSub,Int.reduceLE,Int.reduceEq,Int.reduceToNat,Int.toNat_natCast,Nat.reduceSub,Nat.reduceMul,Nat.reduceLeDiff,Nat.zero_add,Int.zero_add,not_false_eq_true,Bool.not_true,Bool.not_false,Bool.false_and,cons_append,nil_append,e4]
 have x8:execX GN (.reg false [] insP8 []) (ST [(0,.ss o 0 n z),(1,.int .i64 i),(2,.sl .full z V),(7,.int .i64 m),(8,.int .i64 n),(16,.bool false),(22,.bool false)] [] sh)=some (.norm,ST [(0,.ss o 0 n z),(1,.int .i64 i),(2,.sl .full z V),(7,.int .i64 m),(8,.int .i64 n),(16,.bool false),(22,.bool false),(26,.int .i64 n),(27,.int .i64 m),(28,.int .i64 ((n+m:Nat):Int)),(29,.ss o 0 n z)] [] sh):=by
  simp only[insP8,mvO,go_sem,set_cons_zero,set_cons_succ,take_succ_cons,and_false,false_and,and_true,true_and,Nat.reduceAdd,Nat.reduceEqDiff,Nat.reduceLT,↓reduceIte,decide_eq_true_eq,take_nil,beq_self_eq_true,bne_self_eq_false,take_zero,map_cons,map_nil,Int.reduceNeg,Bool.and_true,and_self,Bool.true_and,Bool.and_self,ne_eq,not_true_eq_false,decide_false,decide_true,Bool.false_eq_true,Nat.reduceAdd,Option.map_some,Option.map_none,Option.bind_some,Option.bind_none,length_nil,length_cons,append_nil,Bool.and_false,w64,demV_sl,Int.cast_ofNat_Int,Int.reduceLT,Int.reduceAdd,Int.reduceSub,Int.reduceLE,Int.reduceEq,Int.reduceToNat,Int.toNat_natCast,Nat.reduceSub,Nat.reduceMul,Nat.reduceLeDiff,Nat.zero_add,Int.zero_add,not_false_eq_true,Bool.not_true,Bool.not_false,Bool.false_and,cons_append,nil_append,e5]
 refine wp_seq (execX_sound hmix b0 x0 ⟨g,hs⟩ fun a w hp=>?_);refine wp_seq (execX_sound hmix b1 x1 hp fun a w hp=>?_);refine wp_seq (execX_sound hmix b2 x2 hp fun a w hp=>?_);refine wp_seq (execX_sound hmix b3 x3 hp fun a w hp=>?_);refine wp_seq (execX_sound hmix b5 x5 hp fun a w hp=>?_);refine wp_seq (execX_sound hmix b6 x6 hp fun a w hp=>?_);refine wp_seq (wp_seq (wp_region_list ?_));rw[hops8];refine pre_sound (rest:=[q8,r8]) hmix u1 hp x8 fun a w hp=>?_
 obtain⟨g1,hs1⟩:=hp;obtain⟨_,cp,y1,y2,y3,y3q⟩:=hs1.rd (x:=.tmp 29) (r:=.t 29) (v:=.ss o 0 n z) (by simp [okR]) rfl;have hbs1:g1.bs o=E.bs0 o:=(hs1.shr0 o (by omega)).2;have y3':0+cp*z=E.bs0 o / 2:=by rw[<- hbs1];exact (y3q (by omega)).1
 refine wpList_plain u4' fun K hK=>?_
 refine Oper.wp_mono ?_ (cap_sound hs1 (fun d hd=>by rw[u3'] at hd;injection hd with hd;rw[<- hd,hEt];exact Nat.lt_of_lt_of_le (by decide) hnt) u5 y1);intro a w hp;rw[u3'] at hp;refine hK _ _ ?_;have hp1:Post E (ST [(0,.ss o 0 n z),(1,.int .i64 i),(2,.sl .full z V),(7,.int .i64 m),(8,.int .i64 n),(16,.bool false),(22,.bool false),(26,.int .i64 n),(27,.int .i64 m),(28,.int .i64 ((n+m:Nat):Int)),(29,.ss o 0 n z),(30,.int .i64 cp)] [] sh) a w:=by
  have e:put (ST [(0,.ss o 0 n z),(1,.int .i64 i),(2,.sl .full z V),(7,.int .i64 m),(8,.int .i64 n),(16,.bool false),(22,.bool false),(26,.int .i64 n),(27,.int .i64 m),(28,.int .i64 ((n+m:Nat):Int)),(29,.ss o 0 n z)] [] sh) (some 30) (.int .i64 (cp:Int))=ST [(0,.ss o 0 n z),(1,.int .i64 i),(2,.sl .full z V),(7,.int .i64 m),(8,.int .i64 n),(16,.bool false),(22,.bool false),(26,.int .i64 n),(27,.int .i64 m),(28,.int .i64 ((n+m:Nat):Int)),(29,.ss o 0 n z),(30,.int .i64 cp)] [] sh:=by
   simp only[put,ST,upd_look,setl];rfl
  rwa [e] at hp
 have x8q:execX GN (.reg false [] insQ8 []) (ST [(0,.ss o 0 n z),(1,.int .i64 i),(2,.sl .full z V),(7,.int .i64 m),(8,.int .i64 n),(16,.bool false),(22,.bool false),(26,.int .i64 n),(27,.int .i64 m),(28,.int .i64 ((n+m:Nat):Int)),(29,.ss o 0 n z),(30,.int .i64 cp)] [] sh)=some (.norm,ST [(0,.ss o 0 n z),(1,.int .i64 i),(2,.sl .full z V),(7,.int .i64 m),(8,.int .i64 n),(16,.bool false),(22,.bool false),(26,.int .i64 n),(27,.int .i64 m),(28,.int .i64 ((n+m:Nat):Int)),(29,.ss o 0 n z),(30,.int .i64 cp),(31,.bool (decide ((cp:Int) < ((n+m:Nat):Int))))] [] sh):=by
  simp only[insQ8,go_sem,set_cons_zero,set_cons_succ,take_succ_cons,and_false,false_and,and_true,true_and,Nat.reduceAdd,Nat.reduceEqDiff,Nat.reduceLT,↓reduceIte,decide_eq_true_eq,take_nil,beq_self_eq_true,bne_self_eq_false,take_zero,map_cons,map_nil,Int.reduceNeg,Bool.and_true,and_self,Bool.true_and,Bool.and_self,ne_eq,not_true_eq_false,decide_false,decide_true,Bool.false_eq_true,Nat.reduceAdd,Option.map_some,Option.map_none,Option.bind_some,Option.bind_none,length_nil,length_cons,append_nil,Bool.and_false,w64,demV_sl,Int.cast_ofNat_Int,Int.reduceLT,Int.reduceAdd,Int.reduceSub,Int.reduceLE,Int.reduceEq,Int.reduceToNat,Int.toNat_natCast,Nat.reduceSub,Nat.reduceMul,Nat.reduceLeDiff,Nat.zero_add,Int.zero_add,not_false_eq_true,Bool.not_true,Bool.not_false,Bool.false_and,cons_append,nil_append]
 refine pre_sound (os:=[r8]) (rest:=[]) hmix u2 hp1 x8q fun a w hp=>?_
 show ((Code.cond (.tmp 31) (.seq (.region id9 ops9 false) gr) .skip).wp P _ a w);have hb31:a.eval (.tmp 31)=.bool (decide ((cp:Int) < ((n+m:Nat):Int))):=by
  obtain⟨g3,hs3⟩:=hp;exact hs3.rdBool (r:=.t 31) (by simp [okR]) rfl
 refine wp_cond hb31 ?_;by_cases hroom:cp < n+m
 ·
  have hd:decide ((cp:Int) < ((n+m:Nat):Int))=true:=by simpa using (show (cp:Int) < ((n+m:Nat):Int) by omega)
  rw[hd] at hp ⊢;have x9:execX GN (.reg false [] (insP9 z) []) (ST [(0,.ss o 0 n z),(1,.int .i64 i),(2,.sl .full z V),(7,.int .i64 m),(8,.int .i64 n),(16,.bool false),(22,.bool false),(26,.int .i64 n),(27,.int .i64 m),(28,.int .i64 ((n+m:Nat):Int)),(29,.ss o 0 n z),(30,.int .i64 cp),(31,.bool true)] [] sh)=some (.norm,ST [(0,.ss o 0 n z),(1,.int .i64 i),(2,.sl .full z V),(7,.int .i64 m),(8,.int .i64 n),(16,.bool false),(22,.bool false),(26,.int .i64 n),(27,.int .i64 m),(28,.int .i64 ((n+m:Nat):Int)),(29,.ss o 0 n z),(30,.int .i64 cp),(31,.bool true),(32,.ss o 0 n z),(33,.int .i64 i),(34,.ss o 0 i z),(35,.int .i64 n),(36,.int .i64 m),(37,.int .i64 ((n+m:Nat):Int)),(38,.int .i64 i),(39,.int .i64 ((n+m - i:Nat):Int))] [] sh):=by
   simp only[insP9,mvO,go_sem,set_cons_zero,set_cons_succ,take_succ_cons,and_false,false_and,and_true,true_and,Nat.reduceAdd,Nat.reduceEqDiff,Nat.reduceLT,↓reduceIte,decide_eq_true_eq,take_nil,beq_self_eq_true,bne_self_eq_false,take_zero,map_cons,map_nil,Int.reduceNeg,Bool.and_true,and_self,Bool.true_and,Bool.and_self,ne_eq,not_true_eq_false,decide_false,decide_true,Bool.false_eq_true,Nat.reduceAdd,Option.map_some,Option.map_none,Option.bind_some,Option.bind_none,length_nil,length_cons,append_nil,Bool.and_false,w64,demV_sl,Int.cast_ofNat_Int,Int.reduceLT,Int.reduceAdd,Int.reduceSub,Int.reduceLE,Int.reduceEq,Int.reduceToNat,Int.toNat_natCast,Nat.reduceSub,Nat.reduceMul,Nat.reduceLeDiff,Nat.zero_add,Int.zero_add,not_false_eq_true,Bool.not_true,Bool.not_false,Bool.false_and,cons_append,nil_append,e1,e2',e5,e6]
  refine wp_seq (wp_region_list ?_);rw[hops9];refine pre_sound (rest:=[q9,r9]) hmix v1 hp x9 fun a w hp=>?_
  obtain⟨g2,hs2⟩:=hp;refine wpList_plain v4' fun K hK=>?_
  refine Oper.wp_mono ?_ (appZ_sound hs2 (fun d hd=>by rw[v3'] at hd;injection hd with hd;rw[<- hd,hEt];exact Nat.lt_of_lt_of_le (by decide) hnt) v5 (so:=o) (i:=i) (k:=n+m - i) hz0 hz1 (by rfl) (by rfl) (by omega) hc hfl (by omega) (fun cq hq=>by
   have hbs2:g2.bs o=E.bs0 o:=(hs2.shr0 o (by omega)).2;rw[hbs2,<- y3'] at hq;have h9:cq*z=cp*z:=by omega
   have:=Nat.eq_of_mul_eq_mul_right hz0 h9
   omega) (by rw[show i+(n+m - i)=n+m by omega];exact hby) (by omega))
  intro a w hp;rw[v3'] at hp;refine hK _ _ ?_;have hk9:i+(n+m - i)=n+m:=by omega
  rw[hk9] at hp;obtain⟨Z,hZ⟩:∃ Z,Z=zeroRow zero (n+m - i):=⟨_,rfl⟩
  have hZl:Z.length=m*z+(n - i)*z:=by rw[hZ,zeroRow_length,hzl,<- Nat.add_mul];congr 1;omega
  rw[<- hA,<- hZ] at hp;have hp1:Post E (ST [(0,.ss o 0 n z),(1,.int .i64 i),(2,.sl .full z V),(7,.int .i64 m),(8,.int .i64 n),(16,.bool false),(22,.bool false),(26,.int .i64 n),(27,.int .i64 m),(28,.int .i64 ((n+m:Nat):Int)),(29,.ss o 0 n z),(30,.int .i64 cp),(31,.bool true),(32,.ss o 0 n z),(33,.int .i64 i),(34,.ss o 0 i z),(35,.int .i64 n),(36,.int .i64 m),(37,.int .i64 ((n+m:Nat):Int)),(38,.int .i64 i),(39,.int .i64 ((n+m - i:Nat):Int)),(40,.ss sh.length 0 (n+m) z)] [] (sh++[A++Z])) a w:=by
   have e:put (ST [(0,.ss o 0 n z),(1,.int .i64 i),(2,.sl .full z V),(7,.int .i64 m),(8,.int .i64 n),(16,.bool false),(22,.bool false),(26,.int .i64 n),(27,.int .i64 m),(28,.int .i64 ((n+m:Nat):Int)),(29,.ss o 0 n z),(30,.int .i64 cp),(31,.bool true),(32,.ss o 0 n z),(33,.int .i64 i),(34,.ss o 0 i z),(35,.int .i64 n),(36,.int .i64 m),(37,.int .i64 ((n+m:Nat):Int)),(38,.int .i64 i),(39,.int .i64 ((n+m - i:Nat):Int))] [] (sh++[A++Z])) (some 40) (.ss sh.length 0 (n+m) z)=ST [(0,.ss o 0 n z),(1,.int .i64 i),(2,.sl .full z V),(7,.int .i64 m),(8,.int .i64 n),(16,.bool false),(22,.bool false),(26,.int .i64 n),(27,.int .i64 m),(28,.int .i64 ((n+m:Nat):Int)),(29,.ss o 0 n z),(30,.int .i64 cp),(31,.bool true),(32,.ss o 0 n z),(33,.int .i64 i),(34,.ss o 0 i z),(35,.int .i64 n),(36,.int .i64 m),(37,.int .i64 ((n+m:Nat):Int)),(38,.int .i64 i),(39,.int .i64 ((n+m - i:Nat):Int)),(40,.ss sh.length 0 (n+m) z)] [] (sh++[A++Z]):=by
    simp only[put,ST,upd_look,setl];rfl
   rw[<- e];exact hp
  have x9q:execX GN (.reg false [] insQ9 []) (ST [(0,.ss o 0 n z),(1,.int .i64 i),(2,.sl .full z V),(7,.int .i64 m),(8,.int .i64 n),(16,.bool false),(22,.bool false),(26,.int .i64 n),(27,.int .i64 m),(28,.int .i64 ((n+m:Nat):Int)),(29,.ss o 0 n z),(30,.int .i64 cp),(31,.bool true),(32,.ss o 0 n z),(33,.int .i64 i),(34,.ss o 0 i z),(35,.int .i64 n),(36,.int .i64 m),(37,.int .i64 ((n+m:Nat):Int)),(38,.int .i64 i),(39,.int .i64 ((n+m - i:Nat):Int)),(40,.ss sh.length 0 (n+m) z)] [] (sh++[A++Z]))=some (.norm,ST [(0,.ss o 0 n z),(1,.int .i64 i),(2,.sl .full z V),(7,.int .i64 m),(8,.int .i64 n),(9,.ss sh.length 0 (n+m) z),(16,.bool false),(22,.bool false),(26,.int .i64 n),(27,.int .i64 m),(28,.int .i64 ((n+m:Nat):Int)),(29,.ss o 0 n z),(30,.int .i64 cp),(31,.bool true),(32,.ss o 0 n z),(33,.int .i64 i),(34,.ss o 0 i z),(35,.int .i64 n),(36,.int .i64 m),(37,.int .i64 ((n+m:Nat):Int)),(38,.int .i64 i),(39,.int .i64 ((n+m - i:Nat):Int)),(40,.ss sh.length 0 (n+m) z)] [] (sh++[A++Z])):=by
   simp only[insQ9,mvO,go_sem,set_cons_zero,set_cons_succ,take_succ_cons,and_false,false_and,and_true,true_and,Nat.reduceAdd,Nat.reduceEqDiff,Nat.reduceLT,↓reduceIte,decide_eq_true_eq,take_nil,beq_self_eq_true,bne_self_eq_false,take_zero,map_cons,map_nil,Int.reduceNeg,Bool.and_true,and_self,Bool.true_and,Bool.and_self,ne_eq,not_true_eq_false,decide_false,decide_true,Bool.false_eq_true,Nat.reduceAdd,Option.map_some,Option.map_none,Option.bind_some,Option.bind_none,length_nil,length_cons,append_nil,Bool.and_false,w64,demV_sl,Int.cast_ofNat_Int,Int.reduceLT,Int.reduceAdd,Int.reduceSub,Int.reduceLE,Int.reduceEq,Int.reduceToNat,Int.toNat_natCast,Nat.reduceSub,Nat.reduceMul,Nat.reduceLeDiff,Nat.zero_add,Int.zero_add,not_false_eq_true,Bool.not_true,Bool.not_false,Bool.false_and,cons_append,nil_append]
  refine pre_sound (os:=[r9]) (rest:=[]) hmix v2 hp1 x9q fun a w hp=>?_
  show (gr.wp P _ a w);have hset:∀ X Y:List AV,(sh++[X]).set sh.length Y=sh++[Y]:=fun X Y=>by rw[set_append_right _ _ (Nat.le_refl _)];simp
  have hget:∀ X:List AV,(sh++[X])[sh.length]?=some X:=fun X=>by simp
  have hgeto:∀ X:List AV,(sh++[X])[o]?=some cells:=fun X=>by rw[getElem?_append_left hol];exact hc
  have hne:V.flatten≠[]:=by rw[hV];simp
  have hZf:Z.all flatB=true:=by
   rw[hZ,all_eq_true];intro y hy;obtain⟨j,hj⟩:=mem_iff_getElem?.1 hy;obtain⟨_,j2⟩:=zeroRow_take zero j _ y hj;rw[all_eq_true] at hzf;exact hzf _ (mem_iff_getElem?.2 ⟨_,j2⟩)
  have hb1:blkB (A++Z)=true:=flat_blk (by rw[all_append,hAf,hZf];rfl);have hZd:(Z.drop (m*z)).all flatB=true:=by
   rw[all_eq_true] at hZf ⊢;exact fun x hx=>hZf x (mem_of_mem_drop hx)
  have hb2:blkB (A++V.flatten++Z.drop (m*z))=true:=flat_blk (by rw[all_append,all_append,hAf,hVf,hZd];rfl);have hcp1:cpyA z (sh++[A++Z]) (.sl .full z V) (.ss sh.length (i*z) (n+m - i) z)=some (.int .i64 (V.length:Int),sh++[A++V.flatten++Z.drop (m*z)]):=by
   have hp:=putC_app A Z V.flatten (by omega);rw[hAl,hVl] at hp;rw[cpyA_some hz0 (l2:=V) (by simp [truncV,rowsS,rowsA]) (by omega) (hget _) hb1 hp,hset]
  have hcp2:cpyA z (sh++[A++V.flatten++Z.drop (m*z)]) (.ss o (i*z) (n - i) z) (.ss sh.length ((i+m)*z) (n+m - (i+m)) z)=some (.int .i64 ((rowsOf z (n - i) D).length:Int),sh++[A++V.flatten++D]):=by
   have hp:=putC_app (A++V.flatten) (Z.drop (m*z)) D (by rw[length_drop];omega);have hAV:(A++V.flatten).length=(i+m)*z:=by rw[length_append,hAl,hVl,Nat.add_mul]
   have hdd:(Z.drop (m*z)).drop D.length=[]:=drop_eq_nil_of_le (by rw[length_drop];omega);rw[hAV,hdd,append_nil,<- f1] at hp;have hrw:rowsS false z (sh++[A++V.flatten++Z.drop (m*z)]) (truncV (n+m - (i+m)) (.ss o (i*z) (n - i) z))=some (rowsOf z (n - i) D):=by
    have hmn:min (n - i) (n+m - (i+m))=n - i:=by omega
    have hseg:=rowsC_seg hz0 A D [] (n - i) hDl hDf;rw[append_nil,<- hAD,hAl] at hseg;simp only[truncV,hmn,rowsS,hgeto,Option.bind_some,hseg,true_and,if_true]
   rw[cpyA_some hz0 hrw (by rw[f3];omega) (hget _) hb2 hp,hset,f1]
  have x10:execX GN (insG z) (ST [(0,.ss o 0 n z),(1,.int .i64 i),(2,.sl .full z V),(7,.int .i64 m),(8,.int .i64 n),(9,.ss sh.length 0 (n+m) z),(16,.bool false),(22,.bool false),(26,.int .i64 n),(27,.int .i64 m),(28,.int .i64 ((n+m:Nat):Int)),(29,.ss o 0 n z),(30,.int .i64 cp),(31,.bool true),(32,.ss o 0 n z),(33,.int .i64 i),(34,.ss o 0 i z),(35,.int .i64 n),(36,.int .i64 m),(37,.int .i64 ((n+m:Nat):Int)),(38,.int .i64 i),(39,.int .i64 ((n+m - i:Nat):Int)),(40,.ss sh.length 0 (n+m) z)] [] (sh++[A++Z]))=some (.ret,ST [(0,.ss o 0 n z),(1,.int .i64 i),(2,.sl .full z V),(6,.ss sh.length 0 (n+m) z),(7,.int .i64 m),(8,.int .i64 n),(9,.ss sh.length 0 (n+m) z),(16,.bool false),(22,.bool false),(26,.int .i64 n),(27,.int .i64 m),(28,.int .i64 ((n+m:Nat):Int)),(29,.ss o 0 n z),(30,.int .i64 cp),(31,.bool true),(32,.ss o 0 n z),(33,.int .i64 i),(34,.ss o 0 i z),(35,.int .i64 n),(36,.int .i64 m),(37,.int .i64 ((n+m:Nat):Int)),(38,.int .i64 i),(39,.int .i64 ((n+m - i:Nat):Int)),(40,.ss sh.length 0 (n+m) z)] [] (sh++[A++V.flatten++D])):=by
   simp only[insG,mvO,go_sem,set_cons_zero,set_cons_succ,take_succ_cons,and_false,false_and,and_true,true_and,Nat.reduceAdd,Nat.reduceEqDiff,Nat.reduceLT,↓reduceIte,decide_eq_true_eq,take_nil,beq_self_eq_true,bne_self_eq_false,take_zero,map_cons,map_nil,Int.reduceNeg,Bool.and_true,and_self,Bool.true_and,Bool.and_self,ne_eq,not_true_eq_false,decide_false,decide_true,Bool.false_eq_true,Nat.reduceAdd,Option.map_some,Option.map_none,Option.bind_some,Option.bind_none,length_nil,length_cons,append_nil,Bool.and_false,w64,demV_sl,Int.cast_ofNat_Int,Int.reduceLT,Int.reduceAdd,Int.reduceSub,Int.reduceLE,Int.reduceEq,Int.reduceToNat,Int.toNat_natCast,Nat.reduceSub,Nat.reduceMul,Nat.reduceLeDiff,Nat.zero_add,Int.zero_add,not_false_eq_true,Bool.not_true,Bool.not_false,Bool.false_and,cons_append,nil_append,e1,e2,e2',e7,e8,e9,e9',e10,e10',or_true,hcp1,hcp2]
  refine execX_sound hmix bg x10 hp fun a w hp=>?_
  obtain⟨g4,hs4⟩:=hp;have h5:=hs4.killObj (i:=o) (cells:=cells) (hgeto _) hbk;refine⟨.inl rfl,_,⟨g4,h5⟩,?_⟩;rw[hXi];have hfin:(sh++[A++V.flatten++D]).set o dead=sh.set o dead++[A++V.flatten++D]:=set_append_left _ _ hol;simp only[ST] at hfin ⊢;rw[hfin];simp [finA,resultsA,resA,frzV,packA,outB,plainB,demV,look]
 ·
  have hd:decide ((cp:Int) < ((n+m:Nat):Int))=false:=by simpa using (show ((n+m:Nat):Int)<=(cp:Int) by omega)
  rw[hd] at hp ⊢;refine wp_skip ?_;show (rest.wp P _ a w);obtain⟨g3,hs3⟩:=hp;obtain⟨R,hR⟩:∃ R,R=List.replicate (m*z) AV.any:=⟨_,rfl⟩
  have hRl:R.length=m*z:=by rw[hR,length_replicate]
  have hcne:cells≠[]:=by
   intro h;rw[h] at hn
   have:0 < n*z:=Nat.mul_pos (by omega) hz0
   simp at hn;omega
  have hbs3:g3.bs o=E.bs0 o:=(hs3.shr0 o (by omega)).2;have hnm:(n+m)*z<=cp*z:=Nat.mul_le_mul_right _ (by omega);have hext:=hs3.extObj (i:=o) (k:=m*z) hc hbk hcne (by rw[hbs3,<- y3',hnz];rw[Nat.add_mul] at hnm;omega);rw[<- hR] at hext;have hX0:cells++R=A++D++R:=by rw[hAD]
  have hb0:blkB (cells++R)=true:=by
   cases hcc:cells with
   | nil=>exact absurd hcc hcne
   | cons c cs =>
    rw[hcc] at hbk;unfold blkB;split
    ·rename_i hl
     simp only[cons_append,List.cons.injEq,append_eq_nil_iff] at hl;obtain⟨rfl,rfl,_⟩:=hl;simp [blkB] at hbk
    ·rename_i hl
     simp only[cons_append,List.cons.injEq,append_eq_nil_iff] at hl;obtain⟨rfl,rfl,_⟩:=hl;simp [blkB] at hbk
    ·rfl
  have hp:Post E (ST [(0,.ss o 0 n z),(1,.int .i64 i),(2,.sl .full z V),(7,.int .i64 m),(8,.int .i64 n),(16,.bool false),(22,.bool false),(26,.int .i64 n),(27,.int .i64 m),(28,.int .i64 ((n+m:Nat):Int)),(29,.ss o 0 n z),(30,.int .i64 cp),(31,.bool false)] [] (sh.set o (cells++R))) a w:=⟨g3,hext⟩
  have hgs:∀ X:List AV,(sh.set o X)[o]?=some X:=fun X=>getElem?_set_self hol
  have hslx:slxA z (sh.set o (cells++R)) (.ss o 0 n z) none (.int .i64 ((n+m:Nat):Int))=some (.ss o 0 (n+m) z):=
   slxA_hi hz1 (hgs _) hb0 (by rw[length_append,hnz,hRl,Nat.add_mul];omega)
  have hov:Gx (ovB f72 z) (fun _=>none) f72 [.sl .full z V,.ss o ((i+m)*z) (n+m - (i+m)) z] (sh.set o (cells++R))=some (.bool false,sh.set o (cells++R)):=
   Gx_base (by rw[hV];simp [ovB,hgs,hb0])
  obtain⟨P2,hP2⟩:∃ P2,P2=(D++R).take (m*z):=⟨_,rfl⟩
  have hP2l:P2.length=m*z:=by rw[hP2,length_take,length_append,hRl];omega
  obtain⟨Q2,hQ2⟩:∃ Q2,Q2=(D++R).drop (m*z):=⟨_,rfl⟩
  have hQ2l:Q2.length=D.length:=by rw[hQ2,length_drop,length_append,hRl];omega
  have hPQ:cells++R=(A++P2)++Q2:=by rw[hX0,hP2,hQ2,append_assoc,append_assoc,take_append_drop]
  have hb1:blkB (A++P2++D)=true:=by
   have h2:0 < (n - i)*z:=Nat.mul_pos (by omega) hz0;have h3:0 < m*z:=Nat.mul_pos (by omega) hz0;unfold blkB;split
   ·rename_i hl
    have:=congrArg List.length hl
    simp at this;omega
   ·rename_i hl
    have:=congrArg List.length hl
    simp at this;omega
   ·rfl
  have hcp1:cpyA z (sh.set o (cells++R)) (.ss o (i*z) (n+m - i) z) (.ss o ((i+m)*z) (n+m - (i+m)) z)=some (.int .i64 ((rowsOf z (n - i) D).length:Int),sh.set o (A++P2++D)):=by
   have hp:=putC_app (A++P2) Q2 D (by omega);have hAP:(A++P2).length=(i+m)*z:=by rw[length_append,hAl,hP2l,Nat.add_mul]
   have hdd:Q2.drop D.length=[]:=drop_eq_nil_of_le (by omega);rw[hAP,hdd,append_nil,<- hPQ,<- f1] at hp;have hrw:rowsS false z (sh.set o (cells++R)) (truncV (n+m - (i+m)) (.ss o (i*z) (n+m - i) z))=some (rowsOf z (n - i) D):=by
    have hmn:min (n+m - i) (n+m - (i+m))=n - i:=by omega
    have hseg:=rowsC_seg hz0 A D R (n - i) hDl hDf;rw[<- hAD,hAl] at hseg;simp only[truncV,hmn,rowsS,hgs,Option.bind_some,hseg,true_and,if_true]
   rw[cpyA_some hz0 hrw (by rw[f3];omega) (hgs _) hb0 hp,set_set,f1]
  have hcp2:cpyA z (sh.set o (A++P2++D)) (.sl .full z V) (.ss o (i*z) (n+m - i) z)=some (.int .i64 (V.length:Int),sh.set o (A++V.flatten++D)):=by
   have hp:=putC_app A (P2++D) V.flatten (by rw[length_append];omega);have hdd:(P2++D).drop V.flatten.length=D:=by rw[hVl,<- hP2l,drop_left]
   rw[hAl,hdd,<- append_assoc] at hp;rw[cpyA_some hz0 (l2:=V) (by simp [truncV,rowsS,rowsA]) (by omega) (hgs _) hb1 hp,set_set]
  have x13:execX (Gx (ovB f72 z) (fun _=>none)) (insR z f72) (ST [(0,.ss o 0 n z),(1,.int .i64 i),(2,.sl .full z V),(7,.int .i64 m),(8,.int .i64 n),(16,.bool false),(22,.bool false),(26,.int .i64 n),(27,.int .i64 m),(28,.int .i64 ((n+m:Nat):Int)),(29,.ss o 0 n z),(30,.int .i64 cp),(31,.bool false)] [] (sh.set o (cells++R)))=some (.ret,ST [(0,.ss o 0 (n+m) z),(1,.int .i64 i),(2,.sl .full z V),(6,.ss o 0 (n+m) z),(7,.int .i64 m),(8,.int .i64 n),(16,.bool false),(22,.bool false),(26,.int .i64 n),(27,.int .i64 m),(28,.int .i64 ((n+m:Nat):Int)),(29,.ss o 0 n z),(30,.int .i64 cp),(31,.bool false),(68,.bool true)] [] (sh.set o (A++V.flatten++D))):=by
   simp only[insR,mvO,go_sem,set_cons_zero,set_cons_succ,take_succ_cons,and_false,false_and,and_true,true_and,Nat.reduceAdd,Nat.reduceEqDiff,Nat.reduceLT,↓reduceIte,decide_eq_true_eq,take_nil,beq_self_eq_true,bne_self_eq_false,take_zero,map_cons,map_nil,Int.reduceNeg,Bool.and_true,and_self,Bool.true_and,Bool.and_self,ne_eq,not_true_eq_false,decide_false,decide_true,Bool.false_eq_true,Nat.reduceAdd,Option.map_some,Option.map_none,Option.bind_some,Option.bind_none,length_nil,length_cons,append_nil,Bool.and_false,w64,demV_sl,Int.cast_ofNat_Int,Int.reduceLT,Int.reduceAdd,Int.reduceSub,Int.reduceLE,Int.reduceEq,Int.reduceToNat,Int.toNat_natCast,Nat.reduceSub,Nat.reduceMul,Nat.reduceLeDiff,Nat.zero_add,Int.zero_add,not_false_eq_true,Bool.not_true,Bool.not_false,Bool.false_and,cons_append,nil_append,e1,e2,e2',e5,e7,e8,e9,e9',e10,e10',or_true,hslx,hov,hcp1,hcp2]
  refine execX_soundB hmix hB br x13 hp fun a w hp=>?_
  obtain⟨g4,hs4⟩:=hp;rw[hXi] at hXf ⊢;obtain⟨g5,h5⟩:=hs4.moveTo (i:=o) (cells:=A++V.flatten++D) (t:=6) (n:=n+m) (z:=z) (hgs _) (flat_blk hXf) (flat_all_nown hXf) rfl;refine⟨.inl rfl,_,⟨g5,h5⟩,?_⟩;simp [finA,resultsA,resA,frzV,packA,outB,plainB,demV,look,ST,upd]
end
end Go.Av
namespace Go.Av
variable [Gtab]
open Go.RowKit
def insOK (z bytes n:Nat) (ii:Int) (cells:List AV) (V:LL):Bool:=
 decide (0<=ii/\ii < (n:Int)/\n*z=cells.length) && cells.all flatB && V.all (fun e=>e.length == z) && V.flatten.all flatB && decide ((n+V.length)*bytes<=140737488355328/\n+V.length<=4611686018427387904)
def insB (z bytes:Nat):List AV->LL->Option (AV × LL)
 | [.ss o 0 n z1,.int .i64 ii,.sl .full z2 ((c :: r) :: V)],sh=>(sh[o]?).bind fun cells=>if z1=z/\z2=z/\insOK z bytes n ii cells ((c :: r) :: V)=true then some (.ss sh.length 0 (n+(V.length+1)) z,sh.set o dead++[insX z ii.toNat cells ((c :: r) :: V)]) else none
 | _,_=>none
theorem insB_sound {P:Program} (hmix:P.follows .mixedOrders=true) {f f72:FuncId} {z bytes:Nat} {zero:List AV} (hok:okInsert P f f72 z bytes zero=true) (hB:Good P (ovB f72 z)) (hz1:1 < z) (hzl:zero.length=z) (hzf:zero.all flatB=true) {args:List AV} {sh sh':LL} {r:AV}
  (h:insB z bytes args sh=some (r,sh')):Real P f/\SemCall P f args sh r sh':=by
 unfold insB at h
 split at h
 ·rename_i o n z1 ii z2 c r0 V
  obtain⟨cells,hc,h1⟩:=Option.bind_eq_some_iff.1 h;obtain⟨hq,h2⟩:=ite_some h1;obtain⟨rfl,rfl,hin⟩:=hq;unfold insOK at hin;simp only[Bool.and_eq_true,decide_eq_true_eq,all_eq_true] at hin;obtain⟨⟨⟨⟨⟨a1,a2,a3⟩,a4⟩,a5⟩,a6⟩,a7,a8⟩:=hin;obtain⟨i,rfl⟩:=Int.eq_ofNat_of_zero_le a1;simp only[Option.some.injEq,Prod.mk.injEq] at h2;obtain⟨rfl,rfl⟩:=h2;exact insert_sound hmix hok hB (by omega) hz1 hzl hzf (V:=(c :: r0) :: V) rfl hc (all_eq_true.2 a4) a3 (by simpa using a2) (fun e he=>by simpa using a5 e he) (all_eq_true.2 a6) a7 a8
 ·cases h
end Go.Av
namespace Go.Av
variable [Gtab]
open Go.RowKit
section
variable {P:Program}
theorem After.same0 {sh:LL} {kd:Nat->BK} {β bs:Nat->Nat} {S0:Nat->Nat->Prop} {O0:Nat->Option Nat} {w:World} (h:EntOK sh kd β bs S0 O0 w) {r:AV} {v:Value} (hr:RepT (cx0 β bs (S1 S0 w w kd) w sh.length) noOwn r v) :
  After S0 O0 β bs w sh sh r v kd β bs w:=by
 obtain⟨⟨e1,e2⟩,e3,e4,e5,_⟩:=h;have hle:Cx.le (cx0 β bs S0 w sh.length) (cx0 β bs (S1 S0 w w kd) w sh.length):=⟨fun b o hS=>⟨.inl hS,rfl⟩,Nat.le_refl _,fun _ _=>rfl,fun _ _=>rfl,fun s hs=>hs.elim⟩
 refine { same:=fun _ _=>⟨rfl,rfl⟩,len:=Nat.le_refl _,shok:=⟨fun i cells hi hd=>?_,e2⟩,rep:=hr,os:=rfl,tape:=rfl,output:=rfl,size:=Nat.le_refl _,frame:=fun _ _ _ _=>rfl,sframe:=fun _ _ _=>rfl,o0:=fun b k hk=>?_,own0:=fun b t k hk=>?_,new:=fun i h1 h2=>by omega,deads:=fun _ h=>h }
 ·obtain⟨f1,f2⟩:=e1 i cells hi hd
  exact⟨f1,f2.mono hle rfl (fun _ _ _ _ _ h=>h)⟩
 ·exact (e4 b k hk).2.2
 ·rcases Nat.lt_or_ge b w.heap.size with hb | hb
  ·exact .inr (e5 b t k hk hb)
  ·exact .inl hb
def ibB (f0:Nat):Calls':=fun f args sh=>if f=f0 then (match args with
 | [.str s,.int .u8 c]=>some (.int .i64 (Lib.indexByte s c.toNat.toUInt8),sh)
 | _=>none) else none
theorem ibB_sound {f0:FuncId} {fn:Func} (hf:P.funcs[f0]?=some fn) (hname:(fn.name == "runtime.NumGoroutine")=false) (hb:fn.body.isNone=true) (hn:Extern.findNext fn=none)
  (he:Extern.find fn=some Extern.BytealgIndexByte.indexByte):Good P (ibB f0):=by
 intro f args sh r sh' h;unfold ibB at h
 split at h
 ·rename_i hff
  subst hff
  split at h
  ·rename_i s c
   simp only[Option.some.injEq,Prod.mk.injEq] at h;obtain⟨rfl,rfl⟩:=h
   refine .inr ?_
   intro kd β bs S0 O0 w vs hent hargs;obtain⟨xs⟩:=vs;have hl2:=hargs.length;simp at hl2
   match xs,hl2 with
   | [u,v],_ =>
    obtain⟨h1,h2,_⟩:=hargs;obtain⟨b,rfl,rfl⟩:∃ b,u=.string b/\b.data.toList=s:=h1;have h2':v=.int .u8 c:=h2;subst h2';refine⟨.int .i64 (Lib.indexByte b.data.toList c.toNat.toUInt8),w,kd,β,bs,?_,After.same0 hent rfl⟩;rw[run_callFunc_extern hf hname hb hn he]
    have:(#[.string b,.int .u8 c]:Array Value)=⟨[.string b,.int .u8 c]⟩:=rfl
    rw[<- this];show ((Extern.BytealgIndexByte.indexByte #[.string b,.int .u8 c]).run P w).andThen _=_;rw[Lib.run_indexByteString];rfl
  ·cases h
 ·cases h
end
end Go.Av
namespace Go.Av
@[go_sem] theorem e_set0 {α:Type} (a b:α) (l:List α):(a :: l).set 0 b=b :: l:=(rfl)
@[go_sem] theorem e_setS {α:Type} (a b:α) (l:List α) (n:Nat):(a :: l).set (n+1) b=a :: l.set n b:=(rfl)
@[go_sem] theorem e_takeN {α:Type} (n:Nat):([]:List α).take n=[]:=take_nil
@[go_sem] theorem e_andf (p:Prop):(p/\False)=False:=and_false p
@[go_sem] theorem e_andt (p:Prop):(p/\True)=p:=and_true p
@[go_sem] theorem e_tand (p:Prop):(True/\p)=p:=true_and p
@[go_sem] theorem e_dec (p:Prop) [Decidable p]:(decide p=true)=p:=decide_eq_true_eq
@[go_sem] theorem e_beq {α:Type} [BEq α] [ReflBEq α] (a:α):(a == a)=true:=beq_self_eq_true a
@[go_sem] theorem e_bne {α:Type} [BEq α] [LawfulBEq α] (a:α):(a != a)=false:=bne_self_eq_false a
@[go_sem] theorem e_mapC {α β:Type} (f:α->β) (a:α) (l:List α):(a :: l).map f=f a :: l.map f:=(rfl)
@[go_sem] theorem e_mapN {α β:Type} (f:α->β):([]:List α).map f=[]:=(rfl)
@[go_sem] theorem e_bt (b:Bool):(b && true)=b:=Bool.and_true b
@[go_sem] theorem e_tb (b:Bool):(true && b)=b:=Bool.true_and b
@[go_sem] theorem e_bf (b:Bool):(b && false)=false:=Bool.and_false b
@[go_sem] theorem e_fb (b:Bool):(false && b)=false:=Bool.false_and b
@[go_sem] theorem e_bb (b:Bool):(b && b)=b:=Bool.and_self b
@[go_sem] theorem e_ands (p:Prop):(p/\p)=p:=and_self p
@[go_sem] theorem e_ne {α:Type} (a b:α):(a≠b)=¬ (a=b):=(rfl)
@[go_sem] theorem e_nt:(¬ True)=False:=not_true_eq_false
@[go_sem] theorem e_nf:(¬ False)=True:=not_false_eq_true
@[go_sem] theorem e_df (h:Decidable False):@decide False h=false:=decide_false h
@[go_sem] theorem e_dt (h:Decidable True):@decide True h=true:=decide_true h
@[go_sem] theorem e_ft:(false=true)=False:=Bool.false_eq_true
@[go_sem] theorem e_mapS {α β:Type} (f:α->β) (a:α):(some a).map f=some (f a):=(rfl)
@[go_sem] theorem e_bindS {α β:Type} (f:α->Option β) (a:α):(some a).bind f=f a:=(rfl)
@[go_sem] theorem e_len0 {α:Type}:([]:List α).length=0:=(rfl)
@[go_sem] theorem e_lenC {α:Type} (a:α) (l:List α):(a :: l).length=l.length+1:=(rfl)
@[go_sem] theorem e_appN {α:Type} (l:List α):l++[]=l:=append_nil l
@[go_sem] theorem e_Napp {α:Type} (l:List α):[]++l=l:=(rfl)
@[go_sem] theorem e_Capp {α:Type} (a:α) (l m:List α):(a :: l)++m=a :: (l++m):=(rfl)
@[go_sem] theorem e_toNat (n:Nat):((n:Int)).toNat=n:=Int.toNat_natCast n
@[go_sem] theorem e_z (n:Nat):0+n=n:=Nat.zero_add n
@[go_sem] theorem e_zi (n:Int):0+n=n:=Int.zero_add n
@[go_sem] theorem e_nott:(!true)=false:=(rfl)
@[go_sem] theorem e_notf:(!false)=true:=(rfl)
@[go_sem] theorem e_w64 {n:Int} (h1:-9223372036854775808<=n) (h2:n<=9223372036854775807):IntKind.i64.wrap n=n:=w64 h1 h2
@[go_sem] theorem e_dem (o:Own) (z:Nat) (x:LL):demV (.sl o z x)=.sl (demO o) z x:=demV_sl o z x
end Go.Av
