/- A part of the frame. No conditions. -/
import Derived.Test.YthnlilndompbaaaGreatDoorT1Ev14to18
import Derived.WalkKit
import Derived.ProofKit
import Derived.OpenShut
import Derived.Below
import Derived.Carry
import Derived.Lib.SmallJoins
import Derived.Test.YthnlilndompbaaaGreatDoorT1Ev19to20
import Derived.Lib.Overlaps
import Derived.Lib.AppendZerosOnto
import Derived.Lib.Bytealg
open List
set_option linter.all false
set_option maxRecDepth 100000
set_option maxHeartbeats 16000000
def kn:=@Bool.false_and
def pk:=@beq_self_eq_true
def qa:=@decide_false
def rk:=@Bool.and_false
def sv:=@bne_self_eq_false
theorem xr:type_of% @Int.cast_ofNat_Int:=rfl
theorem Ec:type_of% @List.set_cons_succ:=rfl
theorem Tw:type_of% @List.set_cons_zero:=rfl
def Tx:=@eq_false
def aa2:=@Int.zero_add
def aa6:=@List.drop_eq_nil_of_le
def ab5:=@and_false
def ab9:=@false_and
def ad4:=@List.take_nil
def ae1:=@List.set_append_right
def af2:=@List.drop_of_length_le
def ah1:=@List.take_left
def ai8:=@Nat.zero_mul
def ak5:=@Go.World.block_lt_of_cell?
def al1:=@List.mem_append_left
def an3:=@List.length_replicate
namespace Go.Av
variable{C:Code}{I:Value}{J bj bx:TypeId}{O:IntKind}{O0:Nat->Option Nat}{R i j n q:Nat}{X fb:AS}{Y f72:FuncId}{again:Bool}{bd bw c:LL}{bh f iv zero:List AV}{bk:Array Value}{bp:TypeInfo}{bv:AV}{cn:Func}{ct:AOper}{cw:List AOper}{dc:ACode}{di:Nat->BK}{dq:Value->Nat->Nat->Prop}{dr:Act}{du:Nat->Nat->Prop}{dx fy:Nat->Nat}{e:AX}{eb:Program}{ei:Option Addr}{fc x:World}{ff:Env}{fg:List ARes}{fk:Exit->Act->World->Prop}{fp:ChangeSpec}{gu:Oper}{gy:Array Oper}{ig:List MemPlace}{os:List Oper}{r:Reach}
variable [Gtab]
open Go.ChangeShapes Go.WideShapes Go.ChangeAt Go.RowKit
section
variable{H:Type}{enc:TypeId×Value->H}{P:Program}
def rH{W e:World}{j:Nat->Bool}(g:laidOutB P=true)(f:Below W.heap.size W e):
  ∀ {ts:List TypeId} {vs:List Value} {ds:List (DataW H)} {ps:List MemPlace},(ts.all λt=>P.readableRec t&&decide (t<P.types.size))=true ->
  DataW.TrodAll enc P W 0 (λ_=>true) true ts vs ds ps->(∀ p∈ps,p.block<W.heap.size)->(∀ p∈ps,j p.block=true)->DataW.TrodAll enc P e 0 j true ts vs ds ps
 | [],_,_,_,_,h,_,_=>by
  obtain⟨rfl,rfl,rfl⟩:=trodAll_nil h;exact trodAll_mk0
 | t::ts,_,_,_,c,h,b,i=>by
  obtain⟨v,vs,d,ds,p,q,rfl,rfl,rfl,k,l⟩:=trodAll_cons h;simp only[ad0,ir,jo] at c;refine⟨p,q,?_,?_,rfl⟩
  ·exact WideElems.Trod_stays g c.1.1 c.1.2 k (λx a=>f.same (b x (by simp [a]))) (λx a=>i x (by simp [a]))
  ·exact rH g f c.2 l (λx a=>b x (by simp [a])) (λx a=>i x (by simp [a]))
def KQ{d U bm:Bool}{ds k:List (DataW H)}{pa pv:List MemPlace}
  (m:DataW.Whole enc P cn.params.toList fp.vars d x bk.toList ds k ig)
  (h:∀ (b:Nat) (i:Nat->Bool) (hd:Bool),DataW.TrodAll enc P fc b i hd cn.resultTypes.toList (I.resultList cn.resultTypes.size) (fp.fn H (ds++k)).results [])
  (a:∀ i:Nat->Bool,(∀ p∈ig,i p.block=true)->DataW.TrodAll enc P fc 0 i true cn.params.toList bk.toList (fp.fn H (ds++k)).args pa)
  (c:∀ i:Nat->Bool,(∀ p∈ig,i p.block=true)->DataW.TrodVars enc P fc i fp.vars (fp.fn H (ds++k)).vars pv)
  (f:ig=pa++pv)(q:Below x.heap.size x fc)
  (o:∀ (j:Nat) (t:TypeId) (r:Value),cn.resultTypes[j]?=some t->(I.resultList cn.resultTypes.size)[j]?=some r->Value.okWide P fc .any 0 t r):
  fp.post enc P cn d U bm again x bk I fc:=by
 have g:∀ p∈ig,(λb=>decide (b<x.heap.size)) p.block=true:=λp e=>by simpa using m.lt p e
 refine⟨ds,k,ig,[],pa,pv,m,h _ _ _,a _ g,c _ g,World.keptBut_mono (λp e=>⟨e,?_⟩) (q.frame (·∈ig)),λ_=>?_⟩
 ·rw[f,ng] at e
  exact Or.inr e
 ·have n:=m
  obtain⟨_,_,_,_,_,v,u⟩:=m;refine⟨o,_,_,([]++pa)++pv,⟨[]++pa,pv,trodAll_append (a _ (λ_ _=>rfl)) (h _ _ _),c _ (λ_ _=>rfl),rfl,?_,?_⟩,?_⟩
  ·intro b off e
   have l:MemPlace.cell b off∈ig:=by rw[f];simpa using e
   rw[q.frozen (p:=⟨b,off,none⟩) (n.lt _ l)];exact v b off l
  ·intro s
   have:=u s
   rw[f] at this;simpa using this
  ·intro p e _
   rw[f];simpa using e
def VJ{ds R:List (DataW H)}{d U bm:Bool}{G:aP}
  (A:DataW.Whole enc P cn.params.toList fp.vars d x bk.toList ds R ig)(L:fp.vars=[])(Z:laidOutB P=true)
  (j:(cn.params.toList.all λt=>P.readableRec t&&decide (t<P.types.size))=true)(f:cn.resultTypes=#[J])(s:P.underlying J=some .bool)
  (T:fK P G)(m:aM (aV (cx0 (λ_=>0) (λ_=>0) (λb _=>b<x.heap.size) x 0) aX) bh bk.toList)
  (hg:G n bh []=some (.bool true,[]))(a:fp.fn H ds={ results:=[.lit (.bool true)],args:=ds })(c:vO P n)(C:qF (λb _=>b<x.heap.size) x):
  Calls P n bk x λe y=>∃ v,e=.returned v/\fp.post enc P cn d U bm again x bk v y:=by
 have r:fB P n bh [] (.bool true) []:=by
  rcases T _ _ _ _ _ hg with h | hx
  ·exact h.2
  ·intro kd β bs S0 O0 w vs X D
   obtain⟨v,w',_,_,_,o,_⟩:=hx kd β bs S0 O0 w vs X D;rw[i7 c] at o;cases o
 have V:=r (λ_=>.stab) (λ_=>0) (λ_=>0) (λb _=>b<x.heap.size) (λ_=>none) x bk (Dl (λb n u=>u) C) m;refine V.mono ?_
 rintro e y ⟨v,kd',β',bs',rfl,g⟩
 have D:=g.rep;have I:v=.bool true:=by simpa [aV,aR,aG] using D
 subst I;have u:Below x.heap.size x y:=⟨g.os,g.tape,g.output,g.size,λk Y=>g.frame k Y (λi hi=>by simp at hi) rfl⟩
 refine⟨_,rfl,?_⟩;have B:=A;obtain⟨p,q,S,K,l,_,_⟩:=B;rw[L] at K;obtain⟨rfl,rfl⟩:=trodVars_none K;rw[ka] at l;subst l;have N:(fp.fn H (ds++[])).results=[.lit (.bool true)]:=by rw[ka,a]
 have O:(fp.fn H (ds++[])).args=ds:=by rw[ka,a]
 have Q:(fp.fn H (ds++[])).vars=[]:=by rw[ka,a]
 have F:cn.resultTypes.size=1:=by rw[f];rfl
 refine KQ (pa:=ig) (pv:=[]) A ?_ ?_ ?_ (by simp) u ?_
 ·intro b M hd
  rw[N,F,f];exact trodAll_cons_mk (shut_bool s true) trodAll_mk0
 ·intro M E
  rw[O];exact rH Z u j S (λp hp=>A.lt p hp) E
 ·intro M _
  rw[L,Q];exact rfl
 ·exact ok_one f rfl (okWide_bool_mk s true)
variable{w:World}{base:Nat}{spare:Nat->Bool}{held:Bool}
def D2{gc:Addr}(h:w.cell? gc=some I):gc.spot=none:=by
 unfold World.cell? at h
 split at h
 ·split at h
  ·cases h
  ·rename_i a;simpa using a
 ·cases h
def GQ{S:Nat->Nat->Prop}{k:IntKind}(b:Nat):∀ (l:List Int) (o:Nat),(∀ i,i<l.length->S b (o+i)/\w.cell? ⟨b,o+i,none⟩=some (.int k (l.getD i 0)))->fC S w 1 (l.map λx=>[.int k x]) b o
 | [],o,_=>by simp [fC]
 | x::l,o,h=>by
  have a:=h 0 (by simp);simp only[ju,fC,dR,jd,jz,km,aa9,tn];refine⟨⟨a.1,_,a.2,rfl⟩,?_⟩;exact GQ b l (o+1) λi hi=>by
   have:=h (i+1) (by simp;omega)
   rw[show o+1+i=o+(i+1) by omega];simpa using this
def TW{d:DataW H}(u:P.underlying J=some (.slice bj))(C:P.underlying bj=some (.int O))(B:P.cellsOf bj=1)
  (k:Value.okWide P w r j J I)(hd:DataW.Trod enc P w base spare held J I d ig):
  ∃ l:List Int,aV (cx0 (λ_=>0) (λ_=>0) (λb _=>b<w.heap.size) w n) dq (.sl .no 1 (l.map λx=>[.int O x])) I:=by
 obtain⟨K,len,cap,rfl⟩:=okWide_slice u k;obtain⟨fuel,D⟩:=hd;rcases open_ints u C B D with ⟨e,F⟩ | ⟨a,v,q,m,e,_,L,M,G,F,c,E⟩
 ·simp [Value.cells] at e
  obtain⟨rfl,rfl,rfl⟩:=e;refine⟨[],?_⟩;simp only[aV,aR,aG];exact⟨none,0,rfl,ji _,by simp,by simp,.inl rfl⟩
 ·simp [Value.cells] at e
  obtain⟨rfl,rfl,rfl⟩:=e;have s:len<=m.length:=by rw[G];split<;>omega
  refine⟨m.take len,?_⟩;simp only[aV,aR,aG];have f:((m.take len).map λx=>([.int O x]:List AV)).length=len:=by simp;omega
  refine⟨some a,cap,by rw[f],by rw[f];omega,by simp,by simp,?_⟩;by_cases A:len=0
  ·left;subst A;simp
  ·right
   have c0:=c 0 (by omega);have g:a.spot=none:=D2 (by simpa [Addr.add] using c0);obtain⟨b,o,N⟩:=a;simp only at g;subst g;refine⟨b,o,rfl,GQ b _ _ λi hi=>?_⟩;have hi':i<len:=by simpa [Nat.lt_min] using (show i<(m.take len).length from hi) |> λh=>by simp at h;omega
   have p:=c i (by omega);have y:(⟨b,o,none⟩:Addr).add i=⟨b,o+i,none⟩:=by
    unfold Addr.add;split
    ·rename_i h;subst h;rfl
    ·rfl
   rw[y] at p;refine⟨ak5 w _ p,?_⟩;show w.cell? _=_;rw[p];simp [ki,hi']
def lr{d:DataW H}(c:P.underlying J=some (.int O))
  (a:Value.okWide P w r j J I)(hd:DataW.Trod enc P w base spare held J I d ig):
  ∃ x:Int,(Lit.int O x).wf=true/\aV (cx0 (λ_=>0) (λ_=>0) (λb _=>b<w.heap.size) w n) dq (.int O x) I:=by
 obtain⟨x,rfl,_,_,e⟩:=open_int c a hd;exact⟨x,e,by simp [aV,aR,aG]⟩
end
open Go.RowKit
section
variable{P:Program}
def LE{d:Bool}(a2:P.funcs[Y]?=some cn)(hC:cn.body=some C)(cv:R<=cn.ntmps)(a5:iD P cn.results.toList fg=true)
  (av:(cn.name == "runtime.NumGoroutine")=false)(b6:bh.length=R)
  (b4:∀ (E:Env) (g:Gh) (a:Act) (w:World),E.nt=cn.ntmps->E.n0=bd.length->Sim E g (nK bh bd) a w ->
   C.wp P (λe a w=>(e=.ret\/e=.normal)/\∃ σ,aS E σ a w/\yA ⟨R,d,.skip,fg⟩ bd (some (.ret,σ))=some (bv,bw)) a w):
  vO P Y/\fB P Y bh bd bv bw:=by
 refine⟨⟨cn,a2,by rw[hC];rfl,av⟩,?_⟩;intro kd β bs S0 O0 w vs ab J;obtain⟨⟨e1,e2⟩,e3,e4,e5,e6⟩:=ab;have cq:vs.size=R:=by have:=J.length;simp at this;omega
 let E:Env:={ w0:=w,S0:=S0,β0:=β,bs0:=bs,O0:=O0,D0:=λj=>match bd[j]? with | some c=>gZ c | none=>false,n0:=bd.length,nt:=cn.ntmps }
 let g:Gh:={ β:=β,bs:=bs,lam:=λ_=>0,kd:=kd }
 have br:∀ b m,S0 b m->SS E g w b m:=λb m G=>.inl ⟨(e3 b m G).1,G⟩
 have Q:Cx.le (cx0 β bs S0 w bd.length) (cx E g (nK bh bd) w):=⟨λb m G=>⟨br b m G,rfl⟩,ji _,λ_ _=>rfl,λ_ _=>rfl,λs hs=>hs.elim⟩
 have a7:Sim E g (nK bh bd) { tmps:=vs++Array.replicate (cn.ntmps-vs.size) undef,defers:=[] } w:=by
  refine { size:=by show (vs++Array.replicate (cn.ntmps-vs.size) undef).size=cn.ntmps;simp;omega,defers:=rfl,slots:=?_,shr:=?_,shr0:=λ_ _=>⟨rfl,rfl⟩,shr1:=?_,dd:=?_,shrlt:=λi hi=>(e2 i hi).1,shrk:=λi hi=>(e2 i hi).2,loc:=λs c hc=>by simp [nK] at hc,n0:=ji _,s0:=e3,o0:=e4,own0:=?_,os:=rfl,tape:=rfl,output:=rfl,hsize:=ji _,frame:=λ_ _ _ _=>rfl,sframe:=λ_ _ _=>rfl,gl:=e6 }
  ·intro t
   have h1:=I5 J (n:=cn.ntmps-vs.size) t;exact aV.mono Q _ _ (λ_ _ _ h=>h.elim) h1
  ·intro i cells hi hd
   obtain⟨f1,f2⟩:=e1 i cells hi hd;exact⟨f1,f2.mono Q rfl (λ_ _ _ _ _ h=>h)⟩
  ·intro i hi hn
   have hi':i<bd.length:=hi;have b8:bd.length<=i:=hn;omega
  ·intro i hi hd
   have hi':i<bd.length:=hi;have ag:(match bd[i]? with | some c=>gZ c | none=>false)=true:=hd;show bd[i]?=some aO;rw[ii hi'] at ag ⊢;rw[lA.1 ag]
  ·intro b t k K
   rcases aa7 b w.heap.size with hb | hb
   ·exact .inr (e5 b t k K hb)
   ·exact .inl hb
 refine calls_of_wp a2 hC (Code.wp_mono ?_ (b4 E g _ w rfl rfl a7))
 rintro e a1 F ⟨bg,σ,⟨r,f⟩,h⟩
 unfold yA at h
 split at h
 ·cases h
 ·rename_i e' σ' hx a0
  simp only[jc,jg] at a0;obtain⟨_,rfl⟩:=a0
  split at h
  case h_2=>cases h
  rename_i xs b5;unfold pL at h
  split at h
  case isFalse=>cases h
  rename_i H;obtain⟨H,V⟩:=H;simp only[jc,jg] at h;obtain⟨hr,T⟩:=h;have b9:bd.length<=σ.sh.length:=f.n0;have B:bw.length=if d then σ.sh.length else bd.length:=by
   rw[<- T];split
   ·rfl
   ·simp;omega
  have a6:bw.length<=σ.sh.length/\bd.length<=bw.length:=by
   rw[B];split<;>omega
  have D:∀ (i:Nat),i<bw.length->bw[i]?=σ.sh[i]?:=by
   intro i hi;rw[<- T] at hi ⊢;split
   ·rfl
   ·rename_i K
    rw[ie K] at hi;rw[mx (by simp at hi;omega)]
  have a8:∀ i,i<E.n0->E.β0 i<E.w0.heap.size:=λi hi=>(e2 i hi).1
  have hD:∀ (j:Nat) (x:List AV),bd[j]?=some x->gZ x=true->E.D0 j=true:=by
   intro j x hj hx;show (match bd[j]? with | some c=>gZ c | none=>false)=true;rw[hj];exact hx
  obtain⟨us,b3,p,ap⟩:=mP f (sh0:=bd) (k:=d) (n:=bw.length) B rfl a8 hD a5 b5 H;have S:=xH (cn:=cn) b3;have X:∀ b m,SS E r F b m->S1 S0 w F (kdF r.kd r.β bw.length) b m:=SS.out f;have O:∃ v kd' β' bs',Ending.returned (UL us)=Ending.returned v/\After S0 O0 β bs w bd bw bv v kd' β' bs' F:=by
   refine⟨_,kdF r.kd r.β bw.length,r.β,r.bs,rfl,?_⟩
   refine { same:=λi hi=>f.shr0 i hi,len:=a6.2,shok:=⟨λi cells hi hd=>?_,λi hi=>?_⟩,rep:=?_,os:=f.os,tape:=f.tape,output:=f.output,size:=f.hsize,frame:=λb hb b0 ho=>f.frame b hb b0 ho,sframe:=λb o G=>f.sframe b o G,o0:=λb k K=>?_,own0:=λb t k K=>f.own0 b t k (n9.1 K),new:=λi h1 h2=>?_,deads:=λi hi=>?_ }
   ·have N:=(jh.1 hi).1
    have hi':σ.sh[i]?=some cells:=by rw[<- D i N];exact hi
    obtain⟨f1,f2,f3⟩:=f.shr i cells hi' hd;refine⟨by rw[yQ N];exact f1,?_⟩;have a4:∀ j z v m,d9 r.kd F (.cell i j) v z m->d9 (kdF r.kd r.β bw.length) F (.cell i j) v z m:=by
     rintro j z v m ⟨A,c,M,L⟩
     refine⟨A,c,M,?_⟩;rcases L with L | ⟨b,ar,tt,q3,q4,q5,q6⟩
     ·exact .inl L
     ·exact .inr ⟨b,ar,tt,q3,q4,q5,n9.2 q6⟩
    refine⟨λbo=>?_,?_⟩
    ·obtain⟨a9,ty,fz,M,L,q3,q4⟩:=f2 bo
     refine⟨a9,ty,fz,M,L,q3,λj x hx=>?_⟩;obtain⟨v,q5,q6⟩:=q4 j x hx;refine⟨v,q5,?_⟩;by_cases K:d=true
     ·have a3:bw.length=σ.sh.length:=by rw[B,iw K]
      have q7:=(pZ (Z:=cx E r σ F)).2 q6;refine bO.mono (c:=(cx E r σ F).noloc) (c':=cx0 r.β r.bs (S1 S0 w F (kdF r.kd r.β bw.length)) F bw.length) ⟨λb m G=>⟨X b m G,rfl⟩,by show σ.sh.length<=bw.length;omega,λ_ _=>rfl,λ_ _=>rfl,λs hs=>hs.elim⟩ _ _ (λz l _=>a4 _ _ _ _) q7
     ·have I:((σ.sh.take bd.length).all λc=>c.all (fP bd.length))=true:=by
       rcases V with U | U
       ·exact absurd U K
       ·exact U
      have a3:bw.length=bd.length:=by rw[B,ie K]
      refine n8 (Z:=cx E r σ F) (n:=bd.length) (λb m G=>⟨X b m G,rfl⟩) rfl rfl a3 ?_ (λz l _=>a4 _ _ _ _) q6;rw[kx] at I;have h8:=I cells (ns.2 ⟨i,by rw[mx (by omega)];exact hi'⟩);rw[kx] at h8;exact h8 x (ns.2 ⟨j,hx⟩)
    ·unfold p9 at f3 ⊢
     split
     ·obtain⟨es,cl,M,L⟩:=f3
      exact⟨es,cl,M,tC (c:=cx E r σ F) (c':=cx0 r.β r.bs (S1 S0 w F (kdF r.kd r.β bw.length)) F bw.length) (λb m G=>⟨X b m G,rfl⟩) L⟩
     ·trivial
   ·obtain⟨j,hj⟩:=f.shrk i (by omega)
    exact⟨f.shrlt i (by omega),j,by rw[yQ hi];exact hj⟩
   ·rw[<- hr]
    match xs,us,p,ap with
    | [x],[v],p,ap=>exact aR.topT (ap x (by simp)) p.1
    | [],[],p,_=>exact⟨#[],rfl,trivial⟩
    | x::y::xs,v::u::us,p,_=>exact⟨(v::u::us).toArray,rfl,p⟩
    | [],_::_,p,_=>simp [aM] at p
    | _::_,[],p,_=>simp [aM] at p
    | [_],_::_::_,p,_=>simp [aM] at p
    | _::_::_,[_],p,_=>simp [aM] at p
   ·obtain⟨_,_,t,k',M,L⟩:=f.o0 b k K
    exact⟨t,k',n9.2 M,L⟩
   ·rcases f.shr1 i (by omega) h1 with q | ⟨j,M,L,q3,q4⟩
    ·exact .inl q
    ·have b7:j<bd.length:=M
     refine .inr ⟨j,M,L,λbb=>?_,?_⟩
     ·have:=hD j _ bb (lA.2 rfl)
      rw[q3] at this;cases this
     ·rw[D j (by omega)];exact q4
   ·have N:=(jh.1 hi).1
    rw[D i (by omega)];exact f.dd i N (hD i _ hi (lA.2 rfl))
  rcases bg with rfl | rfl
  ·exact⟨f.defers,_,S,O⟩
  ·exact⟨f.defers,_,S,O⟩
 ·cases h
noncomputable abbrev GN:aP:=Gx (λ_ _ _=>none) (λ_=>none)
def dX(a:P.follows .mixedOrders=true)(b:cV P ff.nt C dc=true)(i:aC GN dc X=some (e,fb))(g:aS ff X dr x)
  (d:∀ dr x,aS ff fb dr x->fk (xp e) dr x):C.wp P fk dr x:=by
 obtain⟨n,f⟩:=gC dc X _ i;have c:fK P (oB (λ_ _ _=>none) (λ_=>none) n):=iM a (λ_ _ _ _ _ h=>by cases h) (λ_ _ h=>by cases h) n;exact eJ a c n C dc X fb e dr x fk b (f n (ji _)) g d
def F3{G:aP}(h:fK P G)(c:aS ff X dr x)(b:okO P ff.nt gy gu ct=true)(f:cM G ct X=some fb)
  (e:∀ dr x,aS ff fb dr x->wpList P gy fk os dr x):wpList P gy fk (gu::os) dr x:=by
 obtain⟨g,i⟩:=c;have a:=sA (Q:=fk) h i b f;unfold wpList;split
 ·rename_i d
  rw[iw d] at a;exact .inl (ah5 (λdr x c=>e dr x c) a)
 ·rename_i d
  rw[ie d] at a;exact e _ _ a
def mL(z:Nat):ACode:=.reg false [] [⟨some 2,.mv,[.c (.sl .full z [])],.none,none,none⟩] []
def yS(P:Program)(x:Operand):Op->Bool
 | .binOp .eql t y (.const (.slice none 0 0)) _=>(match x,y with | .tmp i,.tmp j=>i==j | _,_=>false)&&(match P.underlying t with | some (.slice _)=>true | _=>false)
 | _=>false
def HI{g:Gh}(p:Sim ff g X dr fc)(hd:∀ d,gu.dst=some d->d<ff.nt)(a:yS P (.tmp j) gu.op=true)
  (r:dr.eval (.tmp j)=.slice ei n q):gu.wp P dr fc (aS ff (put X gu.dst (.bool ei.isNone))) fk:=by
 unfold yS at a
 split at a
 ·rename_i t y t' b
  simp only[ir] at a;obtain⟨f,i⟩:=a
  cases y<;>simp at f
  subst f
  split at i
  ·rename_i e m
   refine aI p hd (I:=.bool ei.isNone) ?_ rfl rfl;have o:∀ fc,(Op.equal t (.slice ei n q) (.slice none 0 0)).run P fc=.ok ei.isNone fc:=by
    intro fc;have h:∀ d:Nat,(Op.equalIn (d+1) t (.slice ei n q) (.slice none 0 0)).run P fc=.ok ei.isNone fc:=λd=>by
     simp only[Op.equalIn]
     cases ei<;>simp [ke m]
    exact h _
   have c:dr.eval (.tmp j)=.slice ei n q:=r;have l:dr.eval (.const (.slice none 0 0))=.slice none 0 0:=rfl;have hg:(eqGuard .eql t (.tmp j) (.const (.slice none 0 0)) (.slice ei n q) (.slice none 0 0)).run P fc=.ok () fc:=rfl;have k:(binOp .eql t (.slice ei n q) (.slice none 0 0)).run P fc=.ok (.bool ei.isNone) fc:=by
    simp only[binOp];simp [o]
   simp [execOp,b,c,l,hg,k]
  ·cases i
 ·cases a
theorem Ng:gX n zero 0 [] []=some (.sl .full n []):=rfl
def XS(z n a:Nat):gV z n c (some []) (.sl .full a [])=some (.sl .full z [],c):=by simp [gV]
end
section
variable{P:Program}
def After.refl(h:BU c di dx fy du O0 x)(n:aV (cx0 dx fy (S1 du x x di) x c.length) aX bv I):
  After du O0 dx fy x c c bv I di dx fy x:=by
 obtain⟨⟨f,g⟩,q,j,l,_⟩:=h;have e:Cx.le (cx0 dx fy du x c.length) (cx0 dx fy (S1 du x x di) x c.length):=⟨λb o m=>⟨.inl m,rfl⟩,ji _,λ_ _=>rfl,λ_ _=>rfl,λs p=>p.elim⟩
 refine { same:=λ_ _=>⟨rfl,rfl⟩,len:=ji _,shok:=⟨λi cells hi hd=>?_,g⟩,rep:=n,os:=rfl,tape:=rfl,output:=rfl,size:=ji _,frame:=λ_ _ _ _=>rfl,sframe:=λ_ _ _=>rfl,o0:=λb k d=>?_,own0:=λb t k d=>?_,new:=λi r u=>by omega,deads:=λ_ h=>h }
 ·obtain⟨f1,f2⟩:=f i cells hi hd
  exact⟨f1,f2.mono e rfl (λ_ _ _ _ _ h=>h)⟩
 ·exact (j b k d).2.2
 ·rcases aa7 b x.heap.size with a | a
  ·exact .inr (l b t k d a)
  ·exact .inl a
def wE(w:World)(tS B e:TypeId)(r:P.underlying tS=some (.slice e))(size:Nat)(s:∀ w,(Go.sizeOf e).run P w=.ok size w)
  (a b:Addr)(n v o x:Nat)(j:a.block≠b.block)(y A:TypeId)(m u:Nat)
  (k:w.shape? a.block=some (y,m))(q:m≠0)(l:w.shape? b.block=some (A,u))(g:w.frozen? b=false)(h:w.frozen? { block:=b.block,off:=u }=false):
  (Extern.SlicesOverlaps.overlaps #[tS,tS] #[B] #[.slice (some a) n v,.slice (some b) o x]).run P w=.ok (.bool false) w:=by
 have i:(a.block != b.block)=true:=by simpa using j
 have c:(a.block==b.block)=false:=by simpa using j
 change Sem.run P (α:=Value) (do
  let some t:=(#[tS,tS]:Array TypeId)[0]? | stuck "slices.overlaps: no parameter types"
  let .slice elem <- underlying t | stuck "slices.overlaps: slice type expected"
  let size <- sizeOf elem
  match (some a:Option Addr),(some b:Option Addr) with
  | some a,some b =>
   if n=0\/o=0\/size=0 then pure (Value.bool false)
   else if a.block != b.block&&(<- frozen a)&&(<- frozen b) then unsupported .addressObserved
   else do
    if a.block != b.block then do
     noView a;noView b
     if <- mayBeOne a b then return Value.bool ((<- choose (.extern "sameAddr.stringBytes" 2))==1)
    pure (Value.bool (a.block==b.block&&a.off<b.off+o*size&&b.off<a.off+n*size))
  | _,_=>pure (Value.bool false)) w=_
 by_cases p:n=0\/o=0\/size=0
 ·simp [ke r,s,p]
 ·cases m with
  | zero=>exact absurd rfl q
  | succ m =>
   cases d:w.frozen? a with
   | true=>simp [ke r,s,p,i,c,frozen,noView,viewAt,mayBeOne,stringish,shape,Sem.run,k,l,d,g,h]
   | false =>
    cases f:w.frozen? { block:=a.block,off:=m+1 }<;>simp [ke r,s,p,i,c,frozen,noView,viewAt,mayBeOne,stringish,shape,Sem.run,k,l,d,f,g,h]
def EL(hf:P.funcs[Y]?=some cn)(l:(cn.name == "runtime.NumGoroutine")=false)(hb:cn.body.isNone=true)(hn:Extern.findNext cn=none)
  (he:Extern.find cn=some (Extern.SlicesOverlaps.overlaps #[J,J] #[bj]))(ht:P.underlying J=some (.slice bx))(hz:aY P bx=some q)(V:q≠1)
  {bf:Own}{o off:Nat}(ho:bw[o]?=some iv)(r:bX iv=true):
  Th P Y [.sl bf R ((bv::bh)::bd),.ss o off n q] bw (.bool false) bw:=by
 intro kd β bs S0 O0 w vs f c;have g:=f;obtain⟨⟨e1,e2⟩,e3,e4,e5,_⟩:=f;obtain⟨xs⟩:=vs;have s:=c.length;simp at s
 match xs,s with
 | [u,v],_ =>
  obtain⟨G,h2,_⟩:=c;obtain⟨ap,D,rfl,h3,h4,h5⟩:=h2;have T:=(h5 V).2;have H:∃ A cc,u=.slice A (bd.length+1) cc/\∃ b k,A=some ⟨b,k,none⟩/\fC S0 w R ((bv::bh)::bd) b k:=by
   cases bf with
   | own=>exact G.2.elim
   | no =>
    obtain⟨A,cc,p,_,_,_,e⟩:=G;rcases e with e | ⟨b,k,e,X⟩
    ·cases e
    ·exact⟨A,cc,p,b,k,e,X⟩
   | full =>
    obtain⟨A,cc,p,_,_,_,e⟩:=G;rcases e with e | ⟨b,k,e,X⟩
    ·cases e
    ·exact⟨A,cc,p,b,k,e,X⟩
  obtain⟨A,cc,rfl,b,k,rfl,y⟩:=H;obtain⟨_,S⟩:=y.get (i:=0) rfl;obtain⟨hS,x,C,_⟩:=S.get (j:=0) rfl;simp only[ai8,rh] at hS C;obtain⟨av,N,_⟩:=e3 b k hS;have O:b≠β o:=λh=>N o (jh.1 ho).1 h.symm
  have m:∃ Z E,w.shape? b=some (Z,E)/\E≠0:=by
   unfold World.cell? at C
   split at C
   ·rename_i a F fz hh
    have U:a[k]?=some x:=by simpa using C
    have ar:=(kw.1 U).1;exact⟨F,a.size,by unfold World.shape?;have K:w.heap[b]?=some (.cells a F fz):=hh;rw[K],by omega⟩
   ·cases C
  obtain⟨Z,E,m,M⟩:=m;obtain⟨_,Q,_⟩:=e1 o iv ho (cL r);obtain⟨a,F,fz,p,q2,q3,q4⟩:=Q r;have I:=q3.2 T;subst I;obtain⟨ag,hi,L⟩:=dZ hz;have B:=wE (P:=P) w J bj bx ht q (λw=>by simp [sizeOf,typeInfo,hi,L]) ⟨b,k,none⟩ ⟨β o,off,none⟩ (bd.length+1) cc n D O Z F E a.size m M (by unfold World.shape?;have d:w.heap[β o]?=_:=p;rw[d]) (by unfold World.frozen?;have d:w.heap[β o]?=_:=p;simp [d]) (by unfold World.frozen?;have d:w.heap[β o]?=_:=p;simp [d]);refine⟨.bool false,w,kd,β,bs,?_,After.refl g rfl⟩;rw[run_callFunc_extern hf l hb hn he]
  have:(#[.slice (some ⟨b,k,none⟩) (bd.length+1) cc,.slice (some ⟨β o,off,none⟩) n D]:Array Value)=⟨[.slice (some ⟨b,k,none⟩) (bd.length+1) cc,.slice (some ⟨β o,off,none⟩) n D]⟩:=rfl
  show ((Extern.SlicesOverlaps.overlaps #[J,J] #[bj] ⟨[.slice (some ⟨b,k,none⟩) (bd.length+1) cc,.slice (some ⟨β o,off,none⟩) n D]⟩).run P w).andThen _=_;rw[<- this,B];rfl
def ovB(f72 z:Nat):aP:=λf args sh=>if f=f72 then (match args with
 | [.sl _ _ ((_::_)::_),.ss o _ _ a]=>(match sh[o]? with
  | some cells=>if bX cells=true/\a=z then some (.bool false,sh) else none
  | none=>none)
 | _=>none) else none
def QN(j:P.funcs[Y]?=some cn)(a:(cn.name == "runtime.NumGoroutine")=false)(e:cn.body.isNone=true)(k:Extern.findNext cn=none)
  (i:Extern.find cn=some (Extern.SlicesOverlaps.overlaps #[J,J] #[bj]))(m:P.underlying J=some (.slice bx))(o:aY P bx=some n)(d:n≠1):fK P (ovB Y n):=by
 intro f args sh r sh' h;unfold ovB at h
 split at h
 ·rename_i c
  subst c
  split at h
  ·split at h
   ·rename_i cells g
    split at h
    ·rename_i l
     obtain⟨b,rfl⟩:=l;simp only[jc,jg] at h;obtain⟨rfl,rfl⟩:=h;exact .inr (EL j a e k i m o d g b)
    ·cases h
   ·cases h
  ·cases h
 ·cases h
def FB(a:P.follows .mixedOrders=true){B:aP}(c:fK P B)(b:cV P ff.nt C dc=true)(j:aC (Gx B (λ_=>none)) dc X=some (e,fb))(i:aS ff X dr x)
  (f:∀ dr x,aS ff fb dr x->fk (xp e) dr x):C.wp P fk dr x:=by
 obtain⟨n,g⟩:=gC dc X _ j;have d:fK P (oB B (λ_=>none) n):=iM a c (λ_ _ h=>by cases h) n;exact eJ a d n C dc X fb e dr x fk b (g n (ji _)) i f
def HZ{E:Env}{G:aP}{ops:Array Oper}{Q:Exit->Act->World->Prop}(g:fK P G):∀ {os rest:List Oper} {c:List AOper} {σ σ':AS} {a:Act} {w:World},mR P E.nt ops os c=true->aS E σ a w->dF G c σ=some σ' ->
  (∀ a w,aS E σ' a w->wpList P ops Q rest a w)->wpList P ops Q (os++rest) a w
 | [],rest,[],σ,σ',a,w,_,d,e,f=>by
  simp only[dF,jc] at e;subst e;exact f a w d
 | o::os,rest,ao::c,σ,σ',a,w,b,d,e,f=>by
  simp only[mR,ir] at b;simp only[dF] at e;obtain⟨σ1,h,i⟩:=jj.1 e;exact F3 g d b.1 h λa w d=>HZ g b.2 d i f
 | [],_,_::_,_,_,_,_,b,_,_,_=>by simp [mR] at b
 | _::_,_,[],_,_,_,_,b,_,_,_=>by simp [mR] at b
def LF:forget [] X=X:=by
 unfold forget;cases X;simp only[AS.mk.injEq,ad8,kz,aa9]
 funext t
 rename_i fr lo sh;cases h:fr t<;>simp [cA]
def GK(h:aC GN (.reg false [] cw []) X=some (.norm,fb)):∃ n,dF (oB (λ_ _ _=>none) (λ_=>none) n) cw X=some fb:=by
 obtain⟨n,c⟩:=gC _ X _ h;refine⟨n,?_⟩
 have:=c n (ji _)
 simp only[eY,CK] at this;obtain⟨σ1,b,a⟩:=jf.1 this;simp only[jg,tn,LF] at a;rw[b,a]
def qJ(a:P.follows .mixedOrders=true){rest:List Oper}(b:mR P ff.nt gy os cw=true)(f:aS ff X dr x)(g:aC GN (.reg false [] cw []) X=some (.norm,fb))
  (d:∀ dr x,aS ff fb dr x->wpList P gy fk rest dr x):wpList P gy fk (os++rest) dr x:=by
 obtain⟨n,e⟩:=GK g;have c:fK P (oB (λ_ _ _=>none) (λ_=>none) n):=iM a (λ_ _ _ _ _ h=>by cases h) (λ_ _ h=>by cases h) n;exact HZ c b f e d
def Sim.extObj{E:Env}{g:Gh}{σ:AS}{a:Act}{w:World}(h:Sim E g σ a w){i k:Nat}{cells:List AV}(hi:σ.sh[i]?=some cells)(b:bX cells=true)(o:cells≠[])(I:cells.length+k<=g.bs i / 2):
  Sim E g { σ with sh:=σ.sh.set i (cells++List.replicate k .any) } a w:=by
 obtain⟨_,f2,_⟩:=h.shr i cells hi (cL b);obtain⟨d,G,u,B,C,s,F⟩:=f2 b;have D:=s.1;refine h.setObj hi (cL b) rfl (λ_ _=>rfl) rfl rfl rfl (λm p _=>⟨λ_=>⟨d,G,u,B,C,s,λj x e=>?_⟩,?_⟩)
 ·rw[aa0] at e
  split at e
  ·obtain⟨v,y,A⟩:=F j x e
   exact⟨v,y,bO.mono m _ _ (λ_ _ _=>p _ _ _ _) A⟩
  ·rename_i H
   have n:=(jh.1 e).1;simp only[an3] at n;have q:x=.any:=by
    have:=eq_of_mem_replicate (ns.2 ⟨_,e⟩)
    exact this
   subst q;have f:j<d.size:=by omega
   refine⟨d[j],ac1 f,?_⟩;show True
   trivial
 ·unfold p9
  split
  ·rename_i l r
   exfalso
   cases cells with
   | nil=>exact o rfl
   | cons c cs =>
    simp only[ko,aa1,af3] at r;obtain⟨rfl,rfl,_⟩:=r;simp [bX] at b
  ·trivial
def Sim.reslot{E:Env}{g:Gh}{σ:AS}{a:Act}{w:World}(h:Sim E g σ a w){t:Nat}{x:AV}(b:aV (cx E g σ w) (d9 g.kd w (.slot t)) x (a.tmps.getD t undef)):Sim E g { σ with fr:=upd σ.fr t x } a w:=by
 refine { h with slots:=λt'=>?_ }
 by_cases e:t'=t
 ·subst e
  show aV _ _ (upd σ.fr t' x t') _;simp only[upd,kp];exact b
 ·show aV _ _ (upd σ.fr t x t') _
  simp only[upd,e,kz];exact h.slots t'
end
set_option maxHeartbeats 4000000
section
variable{P:Program}{E:Env}{g g':Gh}{σ σ1:AS}{a:Act}{w w':World}{o:Oper}{Q:Exit->Act->World->Prop}
def II(h:aQ bv=true):aJ bv=bv:=by
 cases bv<;>try rfl
 rename_i m z l
 cases m<;>first | rfl | simp [aQ] at h
def Q3(h:aQ bv=true):iE bv=true:=by
 cases bv<;>try rfl
 rename_i m z l
 cases m<;>first | rfl | simp [aQ] at h
def B2(h:f.all aQ=true):f.all iE=true:=by
 rw[kx] at h ⊢;exact λx a=>Q3 (h x a)
def pP(h:f.all aQ=true):bX f=true:=by
 rw[kx] at h;unfold bX;split
 ·have:=h _ (kj.2 rfl);simp [aQ] at this
 ·have:=h _ (kj.2 rfl);simp [aQ] at this
 ·rfl
def WL(h:f.all aQ=true):f.map aJ=f:=by
 rw[kx] at h
 conv=>rhs;rw[<- map_id f]
 exact ad5 λx a=>II (h x a)
def E8(h:f.all aQ=true):f.all (λx=>aQ (aJ x))=true:=by
 rw[kx] at h ⊢;exact λx a=>by rw[II (h x a)];exact h x a
def TC(D:Sim E g σ a w)(hd:∀ d,o.dst=some d->d<E.nt){M bi:Operand}{C ba:AR}(a3:o.op=.call { callee:=.builtin .append,args:=#[M,bi],argTypes:=#[J,bj] })
  (hx:okR M C=true)(hy:okR bi ba=true)(ht:P.underlying J=some (.slice bx))(a6:P.underlying bj=some (.int O))(a9:jH P bx zero=true)(V:zero.length=q)(hi:P.info? bx=some bp)(K:bp.bytes=R)(b4:0<q)(a7:q≠1)
  {so k:Nat}(he:ev σ.fr C=.ss so 0 i q)(hk:ev σ.fr ba=.int .i64 k)(a2:0<k)(ab:σ.sh[so]?=some f)(u:f.all aQ=true)(b0:i*q<=f.length)
  (H:∀ p,0+p*q=g.bs so / 2->p<i+k)(ag:(i+k)*R<=140737488355328)(bo:i+k<=4611686018427387904):
  o.wp P a w (aS E (put { σ with sh:=σ.sh++[f.take (i*q)++bB zero k] } o.dst (.ss σ.sh.length 0 (i+k) q))) Q:=by
 obtain⟨i',B,q1,q2,q3,q4⟩:=jG a9;rw[hi] at q1;cases q1;have G:=pP u;have r:bp.size=q:=by omega
 obtain⟨e0,p,e1,e2,e3,ar⟩:=D.rd hx he;have av:a.eval M=.slice (some ⟨g.β so,0,none⟩) i p:=e1;have hg:=H p (ar a7).1;have ek:=D.rdNat hy hk;have Y:=kS (S:=SS E g w) (w:=w) q3;have A:B.cells.size=q:=by have:=Y.length;simp at this;omega
 obtain⟨k1,k2,_⟩:=D.shr so f ab (cL G);obtain⟨c,ty,fz,h6,bb,h7,h8⟩:=k2 G;have bg:=qM h8;have y:(c.toList.take (i*bp.size)).length=i*bp.size:=by rw[r];simp;omega
 have T:(Builtin.firstCells bp.size i (.slice (some ⟨g.β so,0,none⟩) i p)).run P w.drew=.ok (c.toList.take (i*bp.size)).toArray w.drew:=by
  have L:=ac3 (P:=P) w.drew ⟨g.β so,0,none⟩ (c.toList.take (i*bp.size)) (λj v m=>by
   rw[dJ];rw[Vz] at m
   split at m
   ·have ap:w.drew.heap[g.β so]?=some (.cells c ty fz):=h6
    simp [World.cell?,ap];simpa using m
   ·cases m)
  rw[y] at L;simp only[Builtin.firstCells,L]
 have U:=Lib.run_append_grow_zeros (P:=P) w J bj o.type bx bp B .i64 O ht a6 hi q2 (some ⟨g.β so,0,none⟩) i p (c.toList.take (i*bp.size)) T k a2 (by omega) hg (by omega) (by
  have:k*bp.bytes<=(i+k)*R:=by rw[K];exact ab0 _ (by omega)
  omega) (growslice_fits hg (by rw[K];exact ag))
 have h1:=D.drawn (w.drawn+1);have a1:=ai0 w (i+k) p bx;have a8:∀ (n j:Nat) (bi:AV),(bB zero n)[j]?=some bi->∃ v,(Builtin.zeroCells B.cells n)[j]?=some v/\bO (cx E g σ { w with drawn:=w.drawn+1 }) aX bi v:=by
  intro n j bi m;obtain⟨j1,j2⟩:=kR zero j (n:=n) bi m;obtain⟨v,j3,j4⟩:=Y.get j2;rw[V] at j1;refine⟨v,?_,(d8 (Z:=cx E g σ { w with drawn:=w.drawn+1 }) (aG.mono (S:=SS E g w) (S':=SS E g w) (w:=w) (w':={ w with drawn:=w.drawn+1 }) (λb n h=>⟨h,rfl⟩) _ _ j4)).2⟩;have h9:B.cells[j % zero.length]?=some v:=by simpa using j3
  rw[V] at h9;unfold Builtin.zeroCells;rw[A];rw[am5,Array.getElem?_range,iw j1];simp only[jq,jc];rw[getElem!_def,h9]
 obtain⟨F,p1,p2,p3,p4⟩:=h1.newShr (cells:=f.take (i*q)++bB zero k) (cs:=(c.toList.take (i*bp.size)).toArray++Builtin.zeroCells B.cells k++Builtin.zeroCells B.cells (grownCap w (i+k) p bx-(i+k))) (e:=bx) (λj bi m=>by
  have N:Cx.le (cx E g σ w) (cx E g σ { w with drawn:=w.drawn+1 }):=⟨λb n h=>⟨h,rfl⟩,ji _,λ_ _=>rfl,λ_ _=>rfl,λs D=>⟨D,rfl⟩⟩
  have a4:(c.toList.take (i*bp.size)).toArray.size=i*q:=by rw[ag2,y,r]
  have a5:(f.take (i*q)).length=i*q:=by simp;omega
  have b3:(Builtin.zeroCells B.cells k).size=k*q:=by rw[fN,A]
  rw[aa0,a5] at m
  split at m
  ·rename_i x
   rw[mx x] at m;obtain⟨v,h3,h4⟩:=h8 j bi m;refine⟨v,?_,bO.mono N _ _ (λq l bx=>?_) h4⟩
   ·rw[yv (by rw[ac9];omega),yv (by omega),ad2,mx (by rw[r];exact x)]
    simpa using h3
   ·subst bx
    rw[kx] at u
    have:=u _ (ns.2 ⟨j,m⟩)
    simp [aQ] at this
  ·rename_i x
   obtain⟨v,h3,h4⟩:=a8 k _ bi m;refine⟨v,?_,h4⟩;have br:=(kw.1 h3).1;rw[yv (by rw[ac9];omega),ao2 (by omega),a4]
   exact h3)
 refine cO p1 (I:=.slice (some ⟨w.heap.size,0,none⟩) (i+k) (grownCap w (i+k) p bx)) ?_ λd a0=>⟨hd d a0,?_⟩
 ·simp [execOp,a3,resolve,invoke,builtin,av,ek,U]
 ·refine⟨by simp [cx],grownCap w (i+k) p bx,?_,a1,?_⟩
  ·show _=Value.slice (some ⟨F.β σ.sh.length,0,none⟩) _ _
   have:F.β σ.sh.length=w.heap.size:=p3
   rw[this]
  ·have hb:F.bs σ.sh.length=2*_+1:=p4
   refine tQ ?_ (by show F.bs σ.sh.length % 2=1;rw[hb];omega);show 0+_=F.bs σ.sh.length / 2;rw[hb,show ∀ X:Nat,(2*X+1) / 2=X from λX=>by omega];rw[ac9,ac9,ag2,y,fN,fN,A,r,<- sa,<- sa,km]
   congr 1
   omega
end
def mvO(d s:Nat):AOper:=⟨some d,.mv,[.t s],.none,none,none⟩
def zH:ACode:=.reg false [] [⟨none,.mv,[],.none,none,none⟩] []
def WA(z:Nat):ACode:=.reg false [] [⟨some 6,.mv,[.c (.sl .full z [])],.none,none,none⟩] [6]
def V9(z:Nat):ACode:=.reg false [] [mvO 10 0,mvO 11 1,⟨some 12,.slc false z true false,[.t 10,.t 11],.none,none,none⟩] [10,11,12]
def V8:ACode:=.reg false [] [mvO 13 2,⟨some 14,.len false,[.t 13],.none,none,none⟩,mvO 7 14] [13,14]
def V7:ACode:=.seq (.reg false [] [mvO 15 7,⟨some 16,.bin .eql,[.t 15,.c (.int .i64 0)],.none,none,none⟩] [15]) (.cond (.t 16) (.seq zH .ret) .skip)
def V6:ACode:=.reg false [] [mvO 18 0,⟨some 19,.len false,[.t 18],.none,none,none⟩,mvO 8 19] [18,19]
def V5:ACode:=.seq (.reg false [] [mvO 20 1,mvO 21 8,⟨some 22,.bin .eql,[.t 20,.t 21],.none,none,none⟩] [20,21]) (.cond (.t 22) (.seq zH .ret) .skip)
def V4:List AOper:=[mvO 26 8,mvO 27 7,⟨some 28,.bin .add,[.t 26,.t 27],.none,none,none⟩,mvO 29 0]
def V2:List AOper:=[⟨some 31,.bin .gtr,[.t 28,.t 30],.none,none,none⟩]
def V3(z:Nat):List AOper:=[mvO 32 0,mvO 33 1,⟨some 34,.slc false z false true,[.t 32,.t 33],.none,none,none⟩,mvO 35 8,mvO 36 7,⟨some 37,.bin .add,[.t 35,.t 36],.none,none,none⟩,mvO 38 1,⟨some 39,.bin .sub,[.t 37,.t 38],.none,none,none⟩]
def V1:List AOper:=[mvO 9 40]
def Cu(z:Nat):ACode:=
 .seq (.reg false [] [mvO 41 9,mvO 42 1,⟨some 43,.slc false z true false,[.t 41,.t 42],.none,none,none⟩,mvO 44 2,⟨some 45,.cpy z,[.t 43,.t 44],.sh,none,none⟩] [41,42,43,44,45]) <|
 .seq (.reg true [] [mvO 46 9,mvO 47 1,mvO 48 7,⟨some 49,.bin .add,[.t 47,.t 48],.none,none,none⟩,⟨some 50,.slc false z true false,[.t 46,.t 49],.none,none,none⟩,mvO 51 0,mvO 52 1,⟨some 53,.slc false z true false,[.t 51,.t 52],.none,none,none⟩,⟨some 54,.cpy z,[.t 50,.t 53],.sh,none,none⟩] [46,47,48,49,50,51,52,53,54]) <|
 .seq (.reg false [] [mvO 55 9,mvO 6 55] [55]) .ret
def Ct(z f72:Nat):ACode:=
 .seq (.reg false [] [mvO 56 0,mvO 57 8,mvO 58 7,⟨some 59,.bin .add,[.t 57,.t 58],.none,none,none⟩,⟨some 60,.slx z false,[.t 56,.t 59],.sh,none,none⟩,mvO 0 60] [56,57,58,59,60]) <|
 .seq (.seq (.reg false [] [mvO 61 2,mvO 62 0,mvO 63 1,mvO 64 7,⟨some 65,.bin .add,[.t 63,.t 64],.none,none,none⟩,⟨some 66,.slc false z true false,[.t 62,.t 65],.none,none,none⟩,⟨some 67,.call f72,[.t 61,.t 66],.sh,none,none⟩,⟨some 68,.un .not,[.t 67],.none,none,none⟩] [61,62,63,64,65,66,67])
  (.cond (.t 68) (.seq (.reg true [] [mvO 69 0,mvO 70 1,mvO 71 7,⟨some 72,.bin .add,[.t 70,.t 71],.none,none,none⟩,⟨some 73,.slc false z true false,[.t 69,.t 72],.none,none,none⟩,mvO 74 0,mvO 75 1,⟨some 76,.slc false z true false,[.t 74,.t 75],.none,none,none⟩,⟨some 77,.cpy z,[.t 73,.t 76],.sh,none,none⟩] [69,70,71,72,73,74,75,76,77]) <|
   .seq (.reg false [] [mvO 78 0,mvO 79 1,⟨some 80,.slc false z true false,[.t 78,.t 79],.none,none,none⟩,mvO 81 2,⟨some 82,.cpy z,[.t 80,.t 81],.sh,none,none⟩] [78,79,80,81,82]) <|
   .seq (.reg false [] [mvO 83 0,mvO 6 83] [83]) .ret) .skip)) <|
 .seq zH <| .seq zH <| .seq zH .ret
def EX(P:Program)(i:Nat):Op->Bool
 | .call { callee:=.builtin .cap,args:=xs,argTypes:=ts }=>(match xs.toList,ts.toList with
  | [.tmp j],[t]=>i==j&&(match P.underlying t with | some (.slice _)=>true | _=>false)
  | _,_=>false)
 | _=>false
def K5(P:Program)(i k z bytes:Nat)(zero:List AV):Op->Bool
 | .call { callee:=.builtin .append,args:=xs,argTypes:=ts }=>(match xs.toList,ts.toList with
  | [.tmp j,.tmp l],[t,b]=>i==j&&k==l&&(match P.underlying t,P.underlying b with | some (.slice e),some (.int _)=>jH P e zero&&zero.length==z&&(match P.info? e with | some a=>a.bytes==bytes | none=>false) | _,_=>false)
  | _,_=>false)
 | _=>false
def uL(P:Program)(f f72 z bytes:Nat)(zero:List AV):Bool:=
 match P.funcs[f]? with
 | some fn=>(match fn.body with
  | some (.seq c0 (.seq c1 (.seq c2 (.seq c3 (.seq c5 (.seq h (.seq (.seq (.region _ a false) (.cond (.tmp 31) (.seq (.region _ b false) i) .skip)) rest))))))) =>
   cV P fn.ntmps c0 (WA z)&&cV P fn.ntmps c1 (V9 z)&&cV P fn.ntmps c2 V8&&cV P fn.ntmps c3 V7&&cV P fn.ntmps c5 V6&&cV P fn.ntmps h V5&&cV P fn.ntmps i (Cu z)&&cV P fn.ntmps rest (Ct z f72) &&
   (match a.toList with
    | [c,d,e,g,q,r]=>mR P fn.ntmps a [c,d,e,g] V4&&mR P fn.ntmps a [r] V2&&q.dst==some 30&&q.guard.isNone&&EX P 29 q.op
    | _=>false) &&
   (match b.toList with
    | [c,d,e,g,j,k,l,m,q,r]=>mR P fn.ntmps b [c,d,e,g,j,k,l,m] (V3 z)&&mR P fn.ntmps b [r] V1&&q.dst==some 40&&q.guard.isNone&&K5 P 34 39 z bytes zero q.op
    | _=>false)
  | _=>false)&&decide (84<=fn.ntmps)&&iD P fn.results.toList [.tmpD 6]&&!(fn.name == "runtime.NumGoroutine")
 | none=>false
set_option maxHeartbeats 8000000
def xO{z:Nat}:∀ {l:LL},(∀ e∈l,e.length=z)->l.flatten.length=l.length*z
 | [],_=>by simp
 | e::l,h=>by
  rw[ag7,jb,xO (λx a=>h x (by simp [a])),h e (by simp),jd,sa];omega
def pK(A Z cs:List AV)(h:cs.length<=Z.length):gR A.length cs (A++Z)=some (A++cs++Z.drop cs.length):=by
 unfold gR;rw[iw (by rw[jb];omega),ah1,drop_append]
 congr 3
 ·rw[af2 (by omega),kg]
  congr 1;omega
def wF(c:0<n)(A D R:List AV)(k:Nat)(b:D.length=k*n)(a:D.all aQ=true):dE A.length k n (A++D++R)=some (cP n k D):=by
 have e:((A++D++R).drop A.length).take (k*n)=D:=by
  rw[kb,ae3,<- b,ah1]
 unfold dE;rw[e,iw ⟨c,by rw[jb,jb];omega,E8 a⟩,WL a]
section
variable{P:Program}
def H8(z i:Nat)(cells:List AV)(V:LL):List AV:=cells.take (i*z)++V.flatten++cells.drop (i*z)
def RC{g:Gh}(o:Sim ff g X dr fc)(hd:∀ d,gu.dst=some d->d<ff.nt)(a:EX P q gu.op=true){v:Nat}
  (p:dr.eval (.tmp q)=.slice ei n v):gu.wp P dr fc (aS ff (put X gu.dst (.int .i64 v))) fk:=by
 unfold EX at a
 split at a
 ·rename_i xs ts b
  split at a
  ·rename_i j t i hts
   simp only[ir] at a;obtain⟨l,k⟩:=a
   have:q=j:=by simpa using l
   subst this;have f:xs=#[.tmp q]:=by apply ag1;simpa using i
   have c:ts=#[t]:=by apply ag1;simpa using hts
   subst f;subst c
   split at k
   ·rename_i e m
    have h:dr.eval (.tmp q)=.slice ei n v:=p;refine aI o hd (I:=.int .i64 v) ?_ rfl rfl;simp [execOp,b,resolve,invoke,builtin,h,Builtin.cap_,ke m,goInt]
   ·cases k
  ·cases a
 ·cases a
def LV{g:Gh}{v:Nat}(N:Sim ff g X dr fc)(hd:∀ d,gu.dst=some d->d<ff.nt)(a:K5 P n q v R zero gu.op=true){so k:Nat}(D:0<v)(Q:1<v)
  (L:ev X.fr (.t n)=.ss so 0 i v)(M:ev X.fr (.t q)=.int .i64 k)(x:0<k)(u:X.sh[so]?=some f)(w:f.all aQ=true)(y:i*v<=f.length)
  (b:∀ E,0+E*v=g.bs so / 2->E<i+k)(s:(i+k)*R<=140737488355328)(r:i+k<=4611686018427387904):
  gu.wp P dr fc (aS ff (put { X with sh:=X.sh++[f.take (i*v)++bB zero k] } gu.dst (.ss X.sh.length 0 (i+k) v))) fk:=by
 unfold K5 at a
 split at a
 ·rename_i xs ts c
  split at a
  ·rename_i j l t T B hts
   simp only[ir] at a;obtain⟨⟨H,I⟩,o⟩:=a;have F:n=j:=by simpa using H
   have G:q=l:=by simpa using I
   subst F;subst G;have m:xs=#[.tmp n,.tmp q]:=by apply ag1;simpa using B
   have h:ts=#[t,T]:=by apply ag1;simpa using hts
   subst m;subst h
   split at o
   ·rename_i e U O A
    simp only[ir] at o;obtain⟨⟨J,K⟩,p⟩:=o
    split at p
    ·rename_i S hi
     exact TC N hd c (C:=.t n) (ba:=.t q) (by simp [okR]) (by simp [okR]) O A J (by simpa using K) hi (by simpa using p) D (by omega) L M x u w y b s r
    ·cases p
   ·cases o
  ·cases a
 ·cases a
def Sim.moveTo{E:Env}{g:Gh}{σ:AS}{a:Act}{w:World}(h:Sim E g σ a w){i t n z:Nat}{cells:List AV}(hi:σ.sh[i]?=some cells)(c:bX cells=true)(d:cells.all iE=true)(m:σ.fr t=.ss i 0 n z):
  ∃ g',Sim E g' { σ with sh:=σ.sh.set i aO++[cells],fr:=upd σ.fr t (.ss σ.sh.length 0 n z) } a w:=by
 obtain⟨k,_⟩:=h.moveObj hi c d;have l:i<σ.sh.length:=(jh.1 hi).1;have j:=h.slots t;rw[m] at j;obtain⟨_,b,o,p,q,r⟩:=j;refine⟨_,k.reslot (t:=t) (x:=.ss σ.sh.length 0 n z) ?_⟩;refine⟨by simp [cx],b,?_,p,?_,?_⟩
 ·rw[o];simp [cx,upd]
 ·have e:0+b*z<=g.bs i / 2:=q
  simpa [cx,upd] using e
 ·have f:z≠1->0+b*z=g.bs i / 2/\g.bs i % 2=1:=r
  simpa [cx,upd] using f
def EZ(l:P.follows .mixedOrders=true){f:FuncId}{bytes:Nat}(Q:uL P f f72 q bytes zero=true)(hB:fK P (ovB f72 q))(s:0<q)(er:1<q)(gg:zero.length=q)(ep:zero.all aQ=true){o:Nat}{sh:LL}
  (hV:bd=(bv::bh)::bw)(hc:sh[o]?=some iv)(F:iv.all aQ=true)(hn:n*q=iv.length)(hi:i<n)(fj:∀ e∈bd,e.length=q)(dn:bd.flatten.all aQ=true)(da:(n+bd.length)*bytes<=140737488355328)(ed:n+bd.length<=4611686018427387904):
  vO P f/\fB P f [.ss o 0 n q,.int .i64 i,.sl .full q bd] sh (.ss sh.length 0 (n+bd.length) q) (sh.set o aO++[H8 q i iv bd]):=by
 unfold uL at Q
 split at Q
 case h_2=>cases Q
 rename_i fn f6;simp only[ir,jo] at Q;obtain⟨⟨⟨u,d3⟩,ew⟩,b7⟩:=Q
 split at u
 case h_2=>cases u
 rename_i k0 k1 k2 k3 k5 k6 hg hu gb en gr rest hC;simp only[ir] at u;obtain⟨⟨⟨⟨⟨⟨⟨⟨⟨b0,b1⟩,b2⟩,b3⟩,b5⟩,b6⟩,bg⟩,br⟩,b8⟩,b9⟩:=u
 split at b8
 case h_2=>cases b8
 rename_i p1 p2 p3 p4 q8 r8 cm
 split at b9
 case h_2=>cases b9
 rename_i s1 s2 s3 s4 s5 s6 s7 s8 q9 r9 ci;simp only[ir] at b8 b9;obtain⟨⟨⟨⟨u1,u2⟩,u3⟩,u4⟩,u5⟩:=b8;obtain⟨⟨⟨⟨v1,v2⟩,v3⟩,v4⟩,v5⟩:=b9;have eg:q8.dst=some 30:=by simpa using u3
 have ga:q8.guard=none:=by simpa using u4
 have ef:q9.dst=some 40:=by simpa using v3
 have g0:q9.guard=none:=by simpa using v4
 obtain⟨m,hm⟩:∃ m,m=bd.length:=⟨_,rfl⟩
 have ho:1<=m:=by rw[hm,hV];simp
 rw[<- hm] at da ed ⊢;have cv:o<sh.length:=(jh.1 hc).1;have J:=pP F;have ey:iv.length=n*q:=hn.symm;have hr:i*q<=n*q:=ab0 _ (by omega);have a6:bd.flatten.length=m*q:=by rw[hm];exact xO fj
 obtain⟨A,hA⟩:∃ A,A=iv.take (i*q):=⟨_,rfl⟩
 obtain⟨D,hD⟩:∃ D,D=iv.drop (i*q):=⟨_,rfl⟩
 have I:iv=A++D:=by rw[hA,hD,ye]
 have C:A.length=i*q:=by rw[hA,tr];omega
 have a3:D.length=(n-i)*q:=by rw[hD,kl,Nat.sub_mul];omega
 have a2:D.all aQ=true:=by
  rw[kx] at F ⊢;exact λx hx=>F x (by rw[I];exact mem_append_right _ hx)
 have a1:A.all aQ=true:=by
  rw[kx] at F ⊢;exact λx hx=>F x (by rw[I];exact al1 _ hx)
 have a8:H8 q i iv bd=A++bd.flatten++D:=by rw[H8,<- hA,<- hD]
 have a7:(H8 q i iv bd).all aQ=true:=by rw[a8,af7,af7,a1,dn,a2];rfl
 obtain⟨f1,f2,f3⟩:=iQ q (n-i) D a3
 have e1:0<=(i:Int):=by omega
 have e2:(i:Int)<n:=by omega
 have S:(i:Int)<=n:=by omega
 have e3:((m:Int)=0)=False:=Tx (by omega);have e4:((i:Int)=n)=False:=Tx (by omega);have e5:IntKind.i64.wrap ((n:Int)+(m:Int))=(n+m:Nat):=by rw[w6 (by omega)];rfl
 have e6:IntKind.i64.wrap (((n+m:Nat):Int)-(i:Int))=(n+m-i:Nat):=by rw[w6 (by omega)];omega
 have e7:IntKind.i64.wrap ((i:Int)+(m:Int))=(i+m:Nat):=by rw[w6 (by omega)];rfl
 have e8:(0:Int)<=((i+m:Nat):Int):=by omega
 have e9:((i+m:Nat):Int)<((n+m:Nat):Int):=by omega
 have dv:((i+m:Nat):Int)<=((n+m:Nat):Int):=by omega
 have dw:(i:Int)<(n+m:Nat):=by omega
 have V:(i:Int)<=(n+m:Nat):=by omega
 refine LE (R:=3) (d:=true) (fg:=[.tmpD 6]) f6 hC (by omega) ew (by simpa using b7) rfl ?_;intro E g a w a4 hk hs;rw[<- a4] at b0 b1 b2 b3 b5 b6 bg br u1 u2 v1 v2;rw[uX] at hs;have x0:aC GN (WA q) (ST (sZ 0 [.ss o 0 n q,.int .i64 i,.sl .full q bd]) [] sh)=some (.norm,ST [(0,.ss o 0 n q),(1,.int .i64 i),(2,.sl .full q bd)] [] sh):=by
  simp only[WA,sZ,go_sem,Tw,Ec,qb,ab5,ab9,aa9,tn,Nat.reduceAdd,Nat.reduceEqDiff,Nat.reduceLT,↓reduceIte,jo,ad4,pk,sv,Tv,ju,kh,Int.reduceNeg,kv,ab3,jx,Lb,ad6,kt,qa,ms,jl,Nat.reduceAdd,jq,wn,jk,ve,jz,jd,ka,rk,w64,d4,xr,Int.reduceLT,Int.reduceAdd,Int.reduceSub,Int.reduceLE,Int.reduceEq,Int.reduceToNat,jp,Nat.reduceSub,Nat.reduceMul,Nat.reduceLeDiff,km,aa2,qs,jt,kr,kn,ko,kg]
 have x1:aC GN (V9 q) (ST [(0,.ss o 0 n q),(1,.int .i64 i),(2,.sl .full q bd)] [] sh)=some (.norm,ST [(0,.ss o 0 n q),(1,.int .i64 i),(2,.sl .full q bd)] [] sh):=by
  simp only[V9,mvO,go_sem,Tw,Ec,qb,ab5,ab9,aa9,tn,Nat.reduceAdd,Nat.reduceEqDiff,Nat.reduceLT,↓reduceIte,jo,ad4,pk,sv,Tv,ju,kh,Int.reduceNeg,kv,ab3,jx,Lb,ad6,kt,qa,ms,jl,Nat.reduceAdd,jq,wn,jk,ve,jz,jd,ka,rk,w64,d4,xr,Int.reduceLT,Int.reduceAdd,Int.reduceSub,Int.reduceLE,Int.reduceEq,Int.reduceToNat,jp,Nat.reduceSub,Nat.reduceMul,Nat.reduceLeDiff,km,aa2,qs,jt,kr,kn,ko,kg,e1,e2,S,ah9]
 have x2:aC GN V8 (ST [(0,.ss o 0 n q),(1,.int .i64 i),(2,.sl .full q bd)] [] sh)=some (.norm,ST [(0,.ss o 0 n q),(1,.int .i64 i),(2,.sl .full q bd),(7,.int .i64 m)] [] sh):=by
  rw[hm];simp only[V8,mvO,go_sem,Tw,Ec,qb,ab5,ab9,aa9,tn,Nat.reduceAdd,Nat.reduceEqDiff,Nat.reduceLT,↓reduceIte,jo,ad4,pk,sv,Tv,ju,kh,Int.reduceNeg,kv,ab3,jx,Lb,ad6,kt,qa,ms,jl,Nat.reduceAdd,jq,wn,jk,ve,jz,jd,ka,rk,w64,d4,xr,Int.reduceLT,Int.reduceAdd,Int.reduceSub,Int.reduceLE,Int.reduceEq,Int.reduceToNat,jp,Nat.reduceSub,Nat.reduceMul,Nat.reduceLeDiff,km,aa2,qs,jt,kr,kn,ko,kg]
 have x3:aC GN V7 (ST [(0,.ss o 0 n q),(1,.int .i64 i),(2,.sl .full q bd),(7,.int .i64 m)] [] sh)=some (.norm,ST [(0,.ss o 0 n q),(1,.int .i64 i),(2,.sl .full q bd),(7,.int .i64 m),(16,.bool false)] [] sh):=by
  simp only[V7,mvO,go_sem,Tw,Ec,qb,ab5,ab9,aa9,tn,Nat.reduceAdd,Nat.reduceEqDiff,Nat.reduceLT,↓reduceIte,jo,ad4,pk,sv,Tv,ju,kh,Int.reduceNeg,kv,ab3,jx,Lb,ad6,kt,qa,ms,jl,Nat.reduceAdd,jq,wn,jk,ve,jz,jd,ka,rk,w64,d4,xr,Int.reduceLT,Int.reduceAdd,Int.reduceSub,Int.reduceLE,Int.reduceEq,Int.reduceToNat,jp,Nat.reduceSub,Nat.reduceMul,Nat.reduceLeDiff,km,aa2,qs,jt,kr,kn,ko,kg,e3]
 have x5:aC GN V6 (ST [(0,.ss o 0 n q),(1,.int .i64 i),(2,.sl .full q bd),(7,.int .i64 m),(16,.bool false)] [] sh)=some (.norm,ST [(0,.ss o 0 n q),(1,.int .i64 i),(2,.sl .full q bd),(7,.int .i64 m),(8,.int .i64 n),(16,.bool false)] [] sh):=by
  simp only[V6,mvO,go_sem,Tw,Ec,qb,ab5,ab9,aa9,tn,Nat.reduceAdd,Nat.reduceEqDiff,Nat.reduceLT,↓reduceIte,jo,ad4,pk,sv,Tv,ju,kh,Int.reduceNeg,kv,ab3,jx,Lb,ad6,kt,qa,ms,jl,Nat.reduceAdd,jq,wn,jk,ve,jz,jd,ka,rk,w64,d4,xr,Int.reduceLT,Int.reduceAdd,Int.reduceSub,Int.reduceLE,Int.reduceEq,Int.reduceToNat,jp,Nat.reduceSub,Nat.reduceMul,Nat.reduceLeDiff,km,aa2,qs,jt,kr,kn,ko,kg]
 have x6:aC GN V5 (ST [(0,.ss o 0 n q),(1,.int .i64 i),(2,.sl .full q bd),(7,.int .i64 m),(8,.int .i64 n),(16,.bool false)] [] sh)=some (.norm,ST [(0,.ss o 0 n q),(1,.int .i64 i),(2,.sl .full q bd),(7,.int .i64 m),(8,.int .i64 n),(16,.bool false),(22,.bool false)] [] sh):=by
  simp only[V5,mvO,go_sem,Tw,Ec,qb,ab5,ab9,aa9,tn,Nat.reduceAdd,Nat.reduceEqDiff,Nat.reduceLT,↓reduceIte,jo,ad4,pk,sv,Tv,ju,kh,Int.reduceNeg,kv,ab3,jx,Lb,ad6,kt,qa,ms,jl,Nat.reduceAdd,jq,wn,jk,ve,jz,jd,ka,rk,w64,d4,xr,Int.reduceLT,Int.reduceAdd,Int.reduceSub,Int.reduceLE,Int.reduceEq,Int.reduceToNat,jp,Nat.reduceSub,Nat.reduceMul,Nat.reduceLeDiff,km,aa2,qs,jt,kr,kn,ko,kg,e4]
 have x8:aC GN (.reg false [] V4 []) (ST [(0,.ss o 0 n q),(1,.int .i64 i),(2,.sl .full q bd),(7,.int .i64 m),(8,.int .i64 n),(16,.bool false),(22,.bool false)] [] sh)=some (.norm,ST [(0,.ss o 0 n q),(1,.int .i64 i),(2,.sl .full q bd),(7,.int .i64 m),(8,.int .i64 n),(16,.bool false),(22,.bool false),(26,.int .i64 n),(27,.int .i64 m),(28,.int .i64 (n+m:Nat)),(29,.ss o 0 n q)] [] sh):=by
  simp only[V4,mvO,go_sem,Tw,Ec,qb,ab5,ab9,aa9,tn,Nat.reduceAdd,Nat.reduceEqDiff,Nat.reduceLT,↓reduceIte,jo,ad4,pk,sv,Tv,ju,kh,Int.reduceNeg,kv,ab3,jx,Lb,ad6,kt,qa,ms,jl,Nat.reduceAdd,jq,wn,jk,ve,jz,jd,ka,rk,w64,d4,xr,Int.reduceLT,Int.reduceAdd,Int.reduceSub,Int.reduceLE,Int.reduceEq,Int.reduceToNat,jp,Nat.reduceSub,Nat.reduceMul,Nat.reduceLeDiff,km,aa2,qs,jt,kr,kn,ko,kg,e5]
 refine ai2 (dX l b0 x0 ⟨g,hs⟩ λa w b=>?_);refine ai2 (dX l b1 x1 b λa w b=>?_);refine ai2 (dX l b2 x2 b λa w b=>?_);refine ai2 (dX l b3 x3 b λa w b=>?_);refine ai2 (dX l b5 x5 b λa w b=>?_);refine ai2 (dX l b6 x6 b λa w b=>?_);refine ai2 (ai2 (al6 ?_));rw[cm];refine qJ (rest:=[q8,r8]) l u1 b x8 λa w b=>?_
 obtain⟨g1,ca⟩:=b;obtain⟨_,p,y1,y2,y3,hw⟩:=ca.rd (x:=.tmp 29) (r:=.t 29) (v:=.ss o 0 n q) (by simp [okR]) rfl;have dl:g1.bs o=E.bs0 o:=(ca.shr0 o (by omega)).2;have ee:0+p*q=E.bs0 o / 2:=by rw[<- dl];exact (hw (by omega)).1
 refine wpList_plain ga λK hK=>?_
 refine ah5 ?_ (RC ca (λd hd=>by rw[eg] at hd;injection hd with hd;rw[<- hd,a4];exact sc (by decide) d3) u5 y1);intro a w b;rw[eg] at b;refine hK _ _ ?_;have cg:aS E (ST [(0,.ss o 0 n q),(1,.int .i64 i),(2,.sl .full q bd),(7,.int .i64 m),(8,.int .i64 n),(16,.bool false),(22,.bool false),(26,.int .i64 n),(27,.int .i64 m),(28,.int .i64 (n+m:Nat)),(29,.ss o 0 n q),(30,.int .i64 p)] [] sh) a w:=by
  have e:put (ST [(0,.ss o 0 n q),(1,.int .i64 i),(2,.sl .full q bd),(7,.int .i64 m),(8,.int .i64 n),(16,.bool false),(22,.bool false),(26,.int .i64 n),(27,.int .i64 m),(28,.int .i64 (n+m:Nat)),(29,.ss o 0 n q)] [] sh) (some 30) (.int .i64 p)=ST [(0,.ss o 0 n q),(1,.int .i64 i),(2,.sl .full q bd),(7,.int .i64 m),(8,.int .i64 n),(16,.bool false),(22,.bool false),(26,.int .i64 n),(27,.int .i64 m),(28,.int .i64 (n+m:Nat)),(29,.ss o 0 n q),(30,.int .i64 p)] [] sh:=by
   simp only[put,ST,jW,fL];rfl
  rwa [e] at b
 have g8:aC GN (.reg false [] V2 []) (ST [(0,.ss o 0 n q),(1,.int .i64 i),(2,.sl .full q bd),(7,.int .i64 m),(8,.int .i64 n),(16,.bool false),(22,.bool false),(26,.int .i64 n),(27,.int .i64 m),(28,.int .i64 (n+m:Nat)),(29,.ss o 0 n q),(30,.int .i64 p)] [] sh)=some (.norm,ST [(0,.ss o 0 n q),(1,.int .i64 i),(2,.sl .full q bd),(7,.int .i64 m),(8,.int .i64 n),(16,.bool false),(22,.bool false),(26,.int .i64 n),(27,.int .i64 m),(28,.int .i64 (n+m:Nat)),(29,.ss o 0 n q),(30,.int .i64 p),(31,.bool (decide ((p:Int)<(n+m:Nat))))] [] sh):=by
  simp only[V2,go_sem,Tw,Ec,qb,ab5,ab9,aa9,tn,Nat.reduceAdd,Nat.reduceEqDiff,Nat.reduceLT,↓reduceIte,jo,ad4,pk,sv,Tv,ju,kh,Int.reduceNeg,kv,ab3,jx,Lb,ad6,kt,qa,ms,jl,Nat.reduceAdd,jq,wn,jk,ve,jz,jd,ka,rk,w64,d4,xr,Int.reduceLT,Int.reduceAdd,Int.reduceSub,Int.reduceLE,Int.reduceEq,Int.reduceToNat,jp,Nat.reduceSub,Nat.reduceMul,Nat.reduceLeDiff,km,aa2,qs,jt,kr,kn,ko,kg]
 refine qJ (os:=[r8]) (rest:=[]) l u2 cg g8 λa w b=>?_
 show ((Code.cond (.tmp 31) (.seq (.region gb en false) gr) .skip).wp P _ a w);have dm:a.eval (.tmp 31)=.bool (decide ((p:Int)<(n+m:Nat))):=by
  obtain⟨g3,U⟩:=b;exact U.rdBool (r:=.t 31) (by simp [okR]) rfl
 refine wp_cond dm ?_;by_cases gk:p<n+m
 ·
  have hd:decide ((p:Int)<(n+m:Nat))=true:=by simpa using (show (p:Int)<(n+m:Nat) by omega)
  rw[hd] at b ⊢;have x9:aC GN (.reg false [] (V3 q) []) (ST [(0,.ss o 0 n q),(1,.int .i64 i),(2,.sl .full q bd),(7,.int .i64 m),(8,.int .i64 n),(16,.bool false),(22,.bool false),(26,.int .i64 n),(27,.int .i64 m),(28,.int .i64 (n+m:Nat)),(29,.ss o 0 n q),(30,.int .i64 p),(31,.bool true)] [] sh)=some (.norm,ST [(0,.ss o 0 n q),(1,.int .i64 i),(2,.sl .full q bd),(7,.int .i64 m),(8,.int .i64 n),(16,.bool false),(22,.bool false),(26,.int .i64 n),(27,.int .i64 m),(28,.int .i64 (n+m:Nat)),(29,.ss o 0 n q),(30,.int .i64 p),(31,.bool true),(32,.ss o 0 n q),(33,.int .i64 i),(34,.ss o 0 i q),(35,.int .i64 n),(36,.int .i64 m),(37,.int .i64 (n+m:Nat)),(38,.int .i64 i),(39,.int .i64 (n+m-i:Nat))] [] sh):=by
   simp only[V3,mvO,go_sem,Tw,Ec,qb,ab5,ab9,aa9,tn,Nat.reduceAdd,Nat.reduceEqDiff,Nat.reduceLT,↓reduceIte,jo,ad4,pk,sv,Tv,ju,kh,Int.reduceNeg,kv,ab3,jx,Lb,ad6,kt,qa,ms,jl,Nat.reduceAdd,jq,wn,jk,ve,jz,jd,ka,rk,w64,d4,xr,Int.reduceLT,Int.reduceAdd,Int.reduceSub,Int.reduceLE,Int.reduceEq,Int.reduceToNat,jp,Nat.reduceSub,Nat.reduceMul,Nat.reduceLeDiff,km,aa2,qs,jt,kr,kn,ko,kg,e1,S,e5,e6]
  refine ai2 (al6 ?_);rw[ci];refine qJ (rest:=[q9,r9]) l v1 b x9 λa w b=>?_
  obtain⟨g2,eu⟩:=b;refine wpList_plain g0 λK hK=>?_
  refine ah5 ?_ (LV eu (λd hd=>by rw[ef] at hd;injection hd with hd;rw[<- hd,a4];exact sc (by decide) d3) v5 (so:=o) (i:=i) (k:=n+m-i) s er (by rfl) (by rfl) (by omega) hc F (by omega) (λcq hq=>by
   have dk:g2.bs o=E.bs0 o:=(eu.shr0 o (by omega)).2;rw[dk,<- ee] at hq;have h9:cq*q=p*q:=by omega
   have:=Nat.eq_of_mul_eq_mul_right s h9
   omega) (by rw[show i+(n+m-i)=n+m by omega];exact da) (by omega))
  intro a w b;rw[ef] at b;refine hK _ _ ?_;have gx:i+(n+m-i)=n+m:=by omega
  rw[gx] at b;obtain⟨Z,hZ⟩:∃ Z,Z=bB zero (n+m-i):=⟨_,rfl⟩
  have ht:Z.length=m*q+(n-i)*q:=by rw[hZ,eG,gg,<- sa];congr 1;omega
  rw[<- hA,<- hZ] at b;have cg:aS E (ST [(0,.ss o 0 n q),(1,.int .i64 i),(2,.sl .full q bd),(7,.int .i64 m),(8,.int .i64 n),(16,.bool false),(22,.bool false),(26,.int .i64 n),(27,.int .i64 m),(28,.int .i64 (n+m:Nat)),(29,.ss o 0 n q),(30,.int .i64 p),(31,.bool true),(32,.ss o 0 n q),(33,.int .i64 i),(34,.ss o 0 i q),(35,.int .i64 n),(36,.int .i64 m),(37,.int .i64 (n+m:Nat)),(38,.int .i64 i),(39,.int .i64 (n+m-i:Nat)),(40,.ss sh.length 0 (n+m) q)] [] (sh++[A++Z])) a w:=by
   have e:put (ST [(0,.ss o 0 n q),(1,.int .i64 i),(2,.sl .full q bd),(7,.int .i64 m),(8,.int .i64 n),(16,.bool false),(22,.bool false),(26,.int .i64 n),(27,.int .i64 m),(28,.int .i64 (n+m:Nat)),(29,.ss o 0 n q),(30,.int .i64 p),(31,.bool true),(32,.ss o 0 n q),(33,.int .i64 i),(34,.ss o 0 i q),(35,.int .i64 n),(36,.int .i64 m),(37,.int .i64 (n+m:Nat)),(38,.int .i64 i),(39,.int .i64 (n+m-i:Nat))] [] (sh++[A++Z])) (some 40) (.ss sh.length 0 (n+m) q)=ST [(0,.ss o 0 n q),(1,.int .i64 i),(2,.sl .full q bd),(7,.int .i64 m),(8,.int .i64 n),(16,.bool false),(22,.bool false),(26,.int .i64 n),(27,.int .i64 m),(28,.int .i64 (n+m:Nat)),(29,.ss o 0 n q),(30,.int .i64 p),(31,.bool true),(32,.ss o 0 n q),(33,.int .i64 i),(34,.ss o 0 i q),(35,.int .i64 n),(36,.int .i64 m),(37,.int .i64 (n+m:Nat)),(38,.int .i64 i),(39,.int .i64 (n+m-i:Nat)),(40,.ss sh.length 0 (n+m) q)] [] (sh++[A++Z]):=by
    simp only[put,ST,jW,fL];rfl
   rw[<- e];exact b
  have hz:aC GN (.reg false [] V1 []) (ST [(0,.ss o 0 n q),(1,.int .i64 i),(2,.sl .full q bd),(7,.int .i64 m),(8,.int .i64 n),(16,.bool false),(22,.bool false),(26,.int .i64 n),(27,.int .i64 m),(28,.int .i64 (n+m:Nat)),(29,.ss o 0 n q),(30,.int .i64 p),(31,.bool true),(32,.ss o 0 n q),(33,.int .i64 i),(34,.ss o 0 i q),(35,.int .i64 n),(36,.int .i64 m),(37,.int .i64 (n+m:Nat)),(38,.int .i64 i),(39,.int .i64 (n+m-i:Nat)),(40,.ss sh.length 0 (n+m) q)] [] (sh++[A++Z]))=some (.norm,ST [(0,.ss o 0 n q),(1,.int .i64 i),(2,.sl .full q bd),(7,.int .i64 m),(8,.int .i64 n),(9,.ss sh.length 0 (n+m) q),(16,.bool false),(22,.bool false),(26,.int .i64 n),(27,.int .i64 m),(28,.int .i64 (n+m:Nat)),(29,.ss o 0 n q),(30,.int .i64 p),(31,.bool true),(32,.ss o 0 n q),(33,.int .i64 i),(34,.ss o 0 i q),(35,.int .i64 n),(36,.int .i64 m),(37,.int .i64 (n+m:Nat)),(38,.int .i64 i),(39,.int .i64 (n+m-i:Nat)),(40,.ss sh.length 0 (n+m) q)] [] (sh++[A++Z])):=by
   simp only[V1,mvO,go_sem,Tw,Ec,qb,ab5,ab9,aa9,tn,Nat.reduceAdd,Nat.reduceEqDiff,Nat.reduceLT,↓reduceIte,jo,ad4,pk,sv,Tv,ju,kh,Int.reduceNeg,kv,ab3,jx,Lb,ad6,kt,qa,ms,jl,Nat.reduceAdd,jq,wn,jk,ve,jz,jd,ka,rk,w64,d4,xr,Int.reduceLT,Int.reduceAdd,Int.reduceSub,Int.reduceLE,Int.reduceEq,Int.reduceToNat,jp,Nat.reduceSub,Nat.reduceMul,Nat.reduceLeDiff,km,aa2,qs,jt,kr,kn,ko,kg]
  refine qJ (os:=[r9]) (rest:=[]) l v2 cg hz λa w b=>?_
  show (gr.wp P _ a w);have a0:∀ X Y:List AV,(sh++[X]).set sh.length Y=sh++[Y]:=λX Y=>by rw[ae1 _ _ (ji _)];simp
  have ab:∀ X:List AV,(sh++[X])[sh.length]?=some X:=λX=>by simp
  have O:∀ X:List AV,(sh++[X])[o]?=some iv:=λX=>by rw[kq cv];exact hc
  have hh:bd.flatten≠[]:=by rw[hV];simp
  have a9:Z.all aQ=true:=by
   rw[hZ,kx];intro y hy;obtain⟨j,hj⟩:=ns.1 hy;obtain⟨_,j2⟩:=kR zero j y hj;rw[kx] at ep;exact ep _ (ns.2 ⟨_,j2⟩)
  have bb:bX (A++Z)=true:=pP (by rw[af7,a1,a9];rfl);have f4:(Z.drop (m*q)).all aQ=true:=by
   rw[kx] at a9 ⊢;exact λx hx=>a9 x (mem_of_mem_drop hx)
  have f5:bX (A++bd.flatten++Z.drop (m*q))=true:=pP (by rw[af7,af7,a1,dn,f4];rfl);have L:B3 q (sh++[A++Z]) (.sl .full q bd) (.ss sh.length (i*q) (n+m-i) q)=some (.int .i64 bd.length,sh++[A++bd.flatten++Z.drop (m*q)]):=by
   have b:=pK A Z bd.flatten (by omega);rw[C,a6] at b;rw[qV s (c:=bd) (by simp [mN,eM,jZ]) (by omega) (ab _) bb b,a0]
  have M:B3 q (sh++[A++bd.flatten++Z.drop (m*q)]) (.ss o (i*q) (n-i) q) (.ss sh.length ((i+m)*q) (n+m-(i+m)) q)=some (.int .i64 ((cP q (n-i) D).length:Int),sh++[A++bd.flatten++D]):=by
   have b:=pK (A++bd.flatten) (Z.drop (m*q)) D (by rw[kl];omega);have e0:(A++bd.flatten).length=(i+m)*q:=by rw[jb,C,a6,sa]
   have N:(Z.drop (m*q)).drop D.length=[]:=aa6 (by rw[kl];omega);rw[e0,N,ka,<- f1] at b;have cb:eM false q (sh++[A++bd.flatten++Z.drop (m*q)]) (mN (n+m-(i+m)) (.ss o (i*q) (n-i) q))=some (cP q (n-i) D):=by
    have b4:min (n-i) (n+m-(i+m))=n-i:=by omega
    have B:=wF s A D [] (n-i) a3 a2;rw[ka,<- I,C] at B;simp only[mN,b4,eM,O,jk,B,tn,kp]
   rw[qV s cb (by rw[f3];omega) (ab _) f5 b,a0,f1]
  have g6:aC GN (Cu q) (ST [(0,.ss o 0 n q),(1,.int .i64 i),(2,.sl .full q bd),(7,.int .i64 m),(8,.int .i64 n),(9,.ss sh.length 0 (n+m) q),(16,.bool false),(22,.bool false),(26,.int .i64 n),(27,.int .i64 m),(28,.int .i64 (n+m:Nat)),(29,.ss o 0 n q),(30,.int .i64 p),(31,.bool true),(32,.ss o 0 n q),(33,.int .i64 i),(34,.ss o 0 i q),(35,.int .i64 n),(36,.int .i64 m),(37,.int .i64 (n+m:Nat)),(38,.int .i64 i),(39,.int .i64 (n+m-i:Nat)),(40,.ss sh.length 0 (n+m) q)] [] (sh++[A++Z]))=some (.ret,ST [(0,.ss o 0 n q),(1,.int .i64 i),(2,.sl .full q bd),(6,.ss sh.length 0 (n+m) q),(7,.int .i64 m),(8,.int .i64 n),(9,.ss sh.length 0 (n+m) q),(16,.bool false),(22,.bool false),(26,.int .i64 n),(27,.int .i64 m),(28,.int .i64 (n+m:Nat)),(29,.ss o 0 n q),(30,.int .i64 p),(31,.bool true),(32,.ss o 0 n q),(33,.int .i64 i),(34,.ss o 0 i q),(35,.int .i64 n),(36,.int .i64 m),(37,.int .i64 (n+m:Nat)),(38,.int .i64 i),(39,.int .i64 (n+m-i:Nat)),(40,.ss sh.length 0 (n+m) q)] [] (sh++[A++bd.flatten++D])):=by
   simp only[Cu,mvO,go_sem,Tw,Ec,qb,ab5,ab9,aa9,tn,Nat.reduceAdd,Nat.reduceEqDiff,Nat.reduceLT,↓reduceIte,jo,ad4,pk,sv,Tv,ju,kh,Int.reduceNeg,kv,ab3,jx,Lb,ad6,kt,qa,ms,jl,Nat.reduceAdd,jq,wn,jk,ve,jz,jd,ka,rk,w64,d4,xr,Int.reduceLT,Int.reduceAdd,Int.reduceSub,Int.reduceLE,Int.reduceEq,Int.reduceToNat,jp,Nat.reduceSub,Nat.reduceMul,Nat.reduceLeDiff,km,aa2,qs,jt,kr,kn,ko,kg,e1,e2,S,e7,e8,e9,dv,dw,V,ah9,L,M]
  refine dX l bg g6 b λa w b=>?_
  obtain⟨g4,c6⟩:=b;have h5:=c6.killObj (i:=o) (cells:=iv) (O _) J;refine⟨.inl rfl,_,⟨g4,h5⟩,?_⟩;rw[a8];have ag:(sh++[A++bd.flatten++D]).set o aO=sh.set o aO++[A++bd.flatten++D]:=set_append_left _ _ cv;simp only[ST] at ag ⊢;rw[ag];simp [yA,eH,t6,iT,pL,lM,sH,aJ,aF]
 ·
  have hd:decide ((p:Int)<(n+m:Nat))=false:=by simpa using (show ((n+m:Nat):Int)<=(p:Int) by omega)
  rw[hd] at b ⊢;refine wp_skip ?_;show (rest.wp P _ a w);obtain⟨g3,U⟩:=b;obtain⟨R,hR⟩:∃ R,R=List.replicate (m*q) AV.any:=⟨_,rfl⟩
  have a5:R.length=m*q:=by rw[hR,an3]
  have ar:iv≠[]:=by
   intro h;rw[h] at hn
   have:0<n*q:=ai1 (by omega) s
   simp at hn;omega
  have db:g3.bs o=E.bs0 o:=(U.shr0 o (by omega)).2;have gs:(n+m)*q<=p*q:=ab0 _ (by omega);have ap:=U.extObj (i:=o) (k:=m*q) hc J ar (by rw[db,<- ee,ey];rw[sa] at gs;omega);rw[<- hR] at ap;have fi:iv++R=A++D++R:=by rw[I]
  have bo:bX (iv++R)=true:=by
   cases d0:iv with
   | nil=>exact absurd d0 ar
   | cons c cs =>
    rw[d0] at J;unfold bX;split
    ·rename_i T
     simp only[ko,aa1,af3] at T;obtain⟨rfl,rfl,_⟩:=T;simp [bX] at J
    ·rename_i T
     simp only[ko,aa1,af3] at T;obtain⟨rfl,rfl,_⟩:=T;simp [bX] at J
    ·rfl
  have b:aS E (ST [(0,.ss o 0 n q),(1,.int .i64 i),(2,.sl .full q bd),(7,.int .i64 m),(8,.int .i64 n),(16,.bool false),(22,.bool false),(26,.int .i64 n),(27,.int .i64 m),(28,.int .i64 (n+m:Nat)),(29,.ss o 0 n q),(30,.int .i64 p),(31,.bool false)] [] (sh.set o (iv++R))) a w:=⟨g3,ap⟩
  have G:∀ X:List AV,(sh.set o X)[o]?=some X:=λX=>sp cv
  have et:rB q (sh.set o (iv++R)) (.ss o 0 n q) none (.int .i64 (n+m:Nat))=some (.ss o 0 (n+m) q):=
   aq er (G _) bo (by rw[jb,ey,a5,sa];omega)
  have gp:Gx (ovB f72 q) (λ_=>none) f72 [.sl .full q bd,.ss o ((i+m)*q) (n+m-(i+m)) q] (sh.set o (iv++R))=some (.bool false,sh.set o (iv++R)):=
   f9 (by rw[hV];simp [ovB,G,bo])
  obtain⟨H,ds⟩:∃ H,H=(D++R).take (m*q):=⟨_,rfl⟩
  have av:H.length=m*q:=by rw[ds,tr,jb,a5];omega
  obtain⟨Q2,dp⟩:∃ Q2,Q2=(D++R).drop (m*q):=⟨_,rfl⟩
  have hv:Q2.length=D.length:=by rw[dp,kl,jb,a5];omega
  have fz:iv++R=(A++H)++Q2:=by rw[fi,ds,dp,kb,kb,ye]
  have bb:bX (A++H++D)=true:=by
   have h2:0<(n-i)*q:=ai1 (by omega) s;have h3:0<m*q:=ai1 (by omega) s;unfold bX;split
   ·rename_i T
    have:=pz List.length T
    simp at this;omega
   ·rename_i T
    have:=pz List.length T
    simp at this;omega
   ·rfl
  have L:B3 q (sh.set o (iv++R)) (.ss o (i*q) (n+m-i) q) (.ss o ((i+m)*q) (n+m-(i+m)) q)=some (.int .i64 ((cP q (n-i) D).length:Int),sh.set o (A++H++D)):=by
   have b:=pK (A++H) Q2 D (by omega);have ec:(A++H).length=(i+m)*q:=by rw[jb,C,av,sa]
   have N:Q2.drop D.length=[]:=aa6 (by omega);rw[ec,N,ka,<- fz,<- f1] at b;have cb:eM false q (sh.set o (iv++R)) (mN (n+m-(i+m)) (.ss o (i*q) (n+m-i) q))=some (cP q (n-i) D):=by
    have b4:min (n+m-i) (n+m-(i+m))=n-i:=by omega
    have B:=wF s A D R (n-i) a3 a2;rw[<- I,C] at B;simp only[mN,b4,eM,G,jk,B,tn,kp]
   rw[qV s cb (by rw[f3];omega) (G _) bo b,set_set,f1]
  have M:B3 q (sh.set o (A++H++D)) (.sl .full q bd) (.ss o (i*q) (n+m-i) q)=some (.int .i64 bd.length,sh.set o (A++bd.flatten++D)):=by
   have b:=pK A (H++D) bd.flatten (by rw[jb];omega);have N:(H++D).drop bd.flatten.length=D:=by rw[a6,<- av,ae3]
   rw[C,N,<- kb] at b;rw[qV s (c:=bd) (by simp [mN,eM,jZ]) (by omega) (G _) bb b,set_set]
  have g7:aC (Gx (ovB f72 q) (λ_=>none)) (Ct q f72) (ST [(0,.ss o 0 n q),(1,.int .i64 i),(2,.sl .full q bd),(7,.int .i64 m),(8,.int .i64 n),(16,.bool false),(22,.bool false),(26,.int .i64 n),(27,.int .i64 m),(28,.int .i64 (n+m:Nat)),(29,.ss o 0 n q),(30,.int .i64 p),(31,.bool false)] [] (sh.set o (iv++R)))=some (.ret,ST [(0,.ss o 0 (n+m) q),(1,.int .i64 i),(2,.sl .full q bd),(6,.ss o 0 (n+m) q),(7,.int .i64 m),(8,.int .i64 n),(16,.bool false),(22,.bool false),(26,.int .i64 n),(27,.int .i64 m),(28,.int .i64 (n+m:Nat)),(29,.ss o 0 n q),(30,.int .i64 p),(31,.bool false),(68,.bool true)] [] (sh.set o (A++bd.flatten++D))):=by
   simp only[Ct,mvO,go_sem,Tw,Ec,qb,ab5,ab9,aa9,tn,Nat.reduceAdd,Nat.reduceEqDiff,Nat.reduceLT,↓reduceIte,jo,ad4,pk,sv,Tv,ju,kh,Int.reduceNeg,kv,ab3,jx,Lb,ad6,kt,qa,ms,jl,Nat.reduceAdd,jq,wn,jk,ve,jz,jd,ka,rk,w64,d4,xr,Int.reduceLT,Int.reduceAdd,Int.reduceSub,Int.reduceLE,Int.reduceEq,Int.reduceToNat,jp,Nat.reduceSub,Nat.reduceMul,Nat.reduceLeDiff,km,aa2,qs,jt,kr,kn,ko,kg,e1,e2,S,e5,e7,e8,e9,dv,dw,V,ah9,et,gp,L,M]
  refine FB l hB br g7 b λa w b=>?_
  obtain⟨g4,c6⟩:=b;rw[a8] at a7 ⊢;obtain⟨g5,h5⟩:=c6.moveTo (i:=o) (cells:=A++bd.flatten++D) (t:=6) (n:=n+m) (z:=q) (G _) (pP a7) (B2 a7) rfl;refine⟨.inl rfl,_,⟨g5,h5⟩,?_⟩;simp [yA,eH,t6,iT,pL,lM,sH,aJ,aF,ST,upd]
end
def xM(z bytes n:Nat)(a:Int)(cells:List AV)(V:LL):Bool:=
 decide (0<=a/\a<(n:Int)/\n*z=cells.length)&&cells.all aQ&&V.all (λe=>e.length==z)&&V.flatten.all aQ&&decide ((n+V.length)*bytes<=140737488355328/\n+V.length<=4611686018427387904)
def Cv(z bytes:Nat):List AV->LL->Option (AV×LL)
 | [.ss o 0 n b,.int .i64 a,.sl .full d ((c::r)::V)],sh=>(sh[o]?).bind λcells=>if b=z/\d=z/\xM z bytes n a cells ((c::r)::V)=true then some (.ss sh.length 0 (n+(V.length+1)) z,sh.set o aO++[H8 z a.toNat cells ((c::r)::V)]) else none
 | _,_=>none
def K7(b:eb.follows .mixedOrders=true)(d:uL eb Y f72 j q zero=true)(y:fK eb (ovB f72 j))(f:1<j)(k:zero.length=j)(g:zero.all aQ=true)
  (h:Cv j q bh bd=some (bv,bw)):vO eb Y/\fB eb Y bh bd bv bw:=by
 unfold Cv at h
 split at h
 ·rename_i o n F E G c D V
  obtain⟨cells,A,x⟩:=jj.1 h;obtain⟨C,l⟩:=nI x;obtain⟨rfl,rfl,a⟩:=C;unfold xM at a;simp only[ir,jo,kx] at a;obtain⟨⟨⟨⟨⟨m,p,r⟩,s⟩,a5⟩,u⟩,v,w⟩:=a;obtain⟨i,rfl⟩:=ae4 m;simp only[jc,jg] at l;obtain⟨rfl,rfl⟩:=l;exact EZ b d y (by omega) f k g (bd:=(c::D)::V) rfl A (kx.2 s) r (by simpa using p) (λe B=>by simpa using a5 e B) (kx.2 u) v w
 ·cases h
section
variable{P:Program}
def After.same0(h:BU c di dx fy du O0 x)(n:aV (cx0 dx fy (S1 du x x di) x c.length) aX bv I):
  After du O0 dx fy x c c bv I di dx fy x:=by
 obtain⟨⟨f,g⟩,q,j,l,_⟩:=h;have e:Cx.le (cx0 dx fy du x c.length) (cx0 dx fy (S1 du x x di) x c.length):=⟨λb o m=>⟨.inl m,rfl⟩,ji _,λ_ _=>rfl,λ_ _=>rfl,λs p=>p.elim⟩
 refine { same:=λ_ _=>⟨rfl,rfl⟩,len:=ji _,shok:=⟨λi cells hi hd=>?_,g⟩,rep:=n,os:=rfl,tape:=rfl,output:=rfl,size:=ji _,frame:=λ_ _ _ _=>rfl,sframe:=λ_ _ _=>rfl,o0:=λb k d=>?_,own0:=λb t k d=>?_,new:=λi r u=>by omega,deads:=λ_ h=>h }
 ·obtain⟨f1,f2⟩:=f i cells hi hd
  exact⟨f1,f2.mono e rfl (λ_ _ _ _ _ h=>h)⟩
 ·exact (j b k d).2.2
 ·rcases aa7 b x.heap.size with a | a
  ·exact .inr (l b t k d a)
  ·exact .inl a
def ibB(f0:Nat):aP:=λf args sh=>if f=f0 then (match args with
 | [.str s,.int .u8 c]=>some (.int .i64 (Lib.indexByte s c.toNat.toUInt8),sh)
 | _=>none) else none
def Q0(o:P.funcs[Y]?=some cn)(d:(cn.name == "runtime.NumGoroutine")=false)(m:cn.body.isNone=true)(p:Extern.findNext cn=none)
  (n:Extern.find cn=some Extern.BytealgIndexByte.indexByte):fK P (ibB Y):=by
 intro f args sh r sh' h;unfold ibB at h
 split at h
 ·rename_i j
  subst j
  split at h
  ·rename_i s c
   simp only[jc,jg] at h;obtain⟨rfl,rfl⟩:=h
   refine .inr ?_
   intro kd β bs S0 O0 w vs e a;obtain⟨xs⟩:=vs;have g:=a.length;simp at g
   match xs,g with
   | [u,v],_ =>
    obtain⟨k,l,_⟩:=a;obtain⟨b,rfl,rfl⟩:∃ b,u=.string b/\b.data.toList=s:=k;have i:v=.int .u8 c:=l;subst i;refine⟨.int .i64 (Lib.indexByte b.data.toList c.toNat.toUInt8),w,kd,β,bs,?_,After.same0 e rfl⟩;rw[run_callFunc_extern o d m p n]
    have:(#[.string b,.int .u8 c]:Array Value)=⟨[.string b,.int .u8 c]⟩:=rfl
    rw[<- this];show ((Extern.BytealgIndexByte.indexByte #[.string b,.int .u8 c]).run P w).andThen _=_;rw[Lib.run_indexByteString];rfl
  ·cases h
 ·cases h
end
end Go.Av
namespace Go.Av
variable{ce β:Type}{cz:Prop}{d:Bool}{h:Decidable False}{k:Int}{n:Nat}
def zAH(a b:ce)(l:List ce):(a::l).set 0 b=b::l:=(rfl)
def zAG(a b:ce)(l:List ce):(a::l).set (n+1) b=a::l.set n b:=(rfl)
def Vt:([]:List ce).take n=[]:=ad4
def zAT:(cz/\False)=False:=ab5 cz
def zAP:(False/\cz)=False:=ab9 cz
def zAR:(cz/\True)=cz:=aa9 cz
def zAF:(True/\cz)=cz:=tn cz
def zBO[Decidable cz]:(decide cz=true)=cz:=jo
def zBQ[BEq ce][ReflBEq ce](a:ce):(a==a)=true:=pk a
def zBP[BEq ce][LawfulBEq ce](a:ce):(a != a)=false:=sv a
def zAM(f:ce->β)(a:ce)(l:List ce):(a::l).map f=f a::l.map f:=(rfl)
def zAL(f:ce->β):([]:List ce).map f=[]:=(rfl)
def e_bt:(d&&true)=d:=kv d
def e_tb:(true&&d)=d:=jx d
def e_bf:(d&&false)=false:=rk d
def e_fb:(false&&d)=false:=kn d
def e_bb:(d&&d)=d:=Lb d
def zAS:(cz/\cz)=cz:=ab3 cz
def e_ne(a b:ce):(a≠b)=¬ (a=b):=(rfl)
def e_nt:(¬ True)=False:=kt
def e_nf:(¬ False)=True:=qs
def e_df:@decide False h=false:=qa h
def e_dt(h:Decidable True):@decide True h=true:=ms h
def e_ft:(false=true)=False:=jl
def zAK(f:ce->β)(a:ce):(some a).map f=some (f a):=(rfl)
def Vu(f:ce->Option β)(a:ce):(some a).bind f=f a:=(rfl)
def zAO:([]:List ce).length=0:=(rfl)
def zAN(a:ce)(l:List ce):(a::l).length=l.length+1:=(rfl)
def zAQ(l:List ce):l++[]=l:=ka l
def zAU(l:List ce):[]++l=l:=(rfl)
def zAV(a:ce)(l m:List ce):(a::l)++m=a::(l++m):=(rfl)
def Vs:((n:Int)).toNat=n:=jp n
def e_z:0+n=n:=km n
def e_zi:0+k=k:=aa2 k
def zAI:(!true)=false:=(rfl)
def zAJ:(!false)=true:=(rfl)
def zBM(a:-9223372036854775808<=k)(b:k<=9223372036854775807):IntKind.i64.wrap k=k:=w64 a b
def zBN(bf:Own)(c:LL):aJ (.sl bf n c)=.sl (Q9 bf) n c:=d4 (bf:=bf) (n:=n) (c:=c)
attribute[go_sem]zAH zAG Vt zAT zAP zAR zAF zBO zBQ zBP zAM zAL e_bt e_tb e_bf e_fb e_bb zAS e_ne e_nt e_nf e_df e_dt e_ft zAK Vu zAO zAN zAQ zAU zAV Vs e_z e_zi zAI zAJ zBM zBN
end Go.Av
