/- A part of the frame. No conditions. -/
import Derived.Test.YthnlilndompbaaaGreatDoorT1Ev12to13
import Derived.LoopN
open List
set_option linter.all false
set_option maxRecDepth 100000
set_option maxHeartbeats 16000000
def jt:=@Bool.not_true
theorem jy:type_of% @List.length_singleton:=rfl
def ki:=@List.getD_eq_getElem?_getD
def kr:=@Bool.not_false
def ls:=@List.getElem?_eq_none
def Ut:=@List.take_length
def aa3:=@Bool.true_or
def aa9:=@and_true
def af1:=@List.take_succ_eq_append_getElem
def ah3:=@of_decide_eq_true
def ah4:=@List.filter_eq_nil_iff
def ai2:=@Go.wp_seq
def aj3:=@List.mk_mem_zipIdx_iff_getElem?
def ak2:=@Bool.or_false
def ak4:=@List.length_filter_le
def al6:=@Go.wp_region_list
def am9:=@Bool.or_true
def an0:=@Array.all_eq_true_iff_forall_mem
namespace Go.Av
variable{D:Nat->Bool}{I:Value}{J:TypeId}{X fb:AS}{Y:FuncId}{Z eo:Cx}{bh f:List AV}{bk:Array Value}{bv h:AV}{c:LL}{cd:List Value}{ct:AOper}{cw:List AOper}{d:Bool}{di:Nat->BK}{dq ow':Value->Nat->Nat->Prop}{dx:Nat->Nat}{eb:Program}{eq:AFun}{fk:Exit->Act->World->Prop}{fw:Nat->Value->Nat->Nat->Prop}{gi:AV×LL}{gy:Array Oper}{j n q:Nat}{r:List Nat}{rv:ResultVar}
variable [Gtab]
open Go.RowKit
def sel(D:Nat->Bool):Nat->List AOper->List AOper
 | _,[]=>[]
 | k,o::os=>if D k then o::sel D (k+1) os else sel D (k+1) os
section
variable{G:aP}
def pG(D:Nat->Bool)(o:AOper):∀ (l:List AOper) (k:Nat),sel D k (l++[o])=sel D k l++(if D (k+l.length) then [o] else [])
 | [],k=>by simp [sel]
 | p::l,k=>by
  simp only[ko,sel,jd];have e:k+(l.length+1)=k+1+l.length:=by omega
  rw[pG D o l (k+1)];simp only[e];by_cases h:D k=true<;>simp [h]
def NT{D:Nat->Bool}{p:AOper}:∀ {l:List AOper} {k:Nat},p∈sel D k l->∃ j,l[j]?=some p/\D (k+j)=true
 | [],_,h=>by simp [sel] at h
 | o::l,k,h=>by
  simp only[sel] at h;have a:p∈sel D (k+1) l->∃ j,(o::l)[j]?=some p/\D (k+j)=true:=λh=>by
   obtain⟨j,b,d⟩:=NT h;exact⟨j+1,by simpa using b,by rwa [show k+(j+1)=k+1+j from by omega]⟩
  split at h
  ·rename_i c
   rcases la.1 h with rfl | h
   ·exact⟨0,rfl,c⟩
   ·exact a h
  ·exact a h
def iP(m:List AOper):∀ σ,dF G (cw++m) σ=(dF G cw σ).bind (dF G m):=by
 induction cw with
 | nil=>intro σ;rfl
 | cons o cw a =>
  intro σ;simp only[ko,dF]
  cases cM G o σ with
  | none=>rfl
  | some σ1=>exact a σ1
def pH:dF G [ct] X=cM G ct X:=by
 simp only[dF]
 cases cM G ct X<;>rfl
def IU{o:AOper}:∀ {l:List AOper},(∀ p∈l,xN p o=true)->∀ σ,(dF G l σ).bind (cM G o)=(cM G o σ).bind (dF G l)
 | [],_,σ=>by
  show cM G o σ=_
  cases cM G o σ<;>rfl
 | p::l,h,σ=>by
  simp only[dF];have a:((cM G p σ).bind (dF G l)).bind (cM G o)=((cM G p σ).bind (cM G o)).bind (dF G l):=by
   cases cM G p σ with
   | none=>rfl
   | some τ=>exact IU (λq b=>h q (by simp [b])) τ
  rw[a,CF (h p (by simp)) σ]
  cases cM G o σ with
  | none=>rfl
  | some τ=>rfl
def CH(D:Nat->Bool)(l:List AOper)(h:∀ (j i:Nat) (g f:AOper),j<i->l[j]?=some g->l[i]?=some f->D j=false->D i=true->xN g f=true):
  ∀ n,n<=l.length->∀ σ,dF G (l.take n) σ=(dF G (sel D 0 (l.take n)) σ).bind (dF G (sel (λi=>!D i) 0 (l.take n)))
 | 0,_,σ=>by simp [sel,dF]
 | n+1,s,σ=>by
  have c:n<l.length:=by omega
  have b:l.take (n+1)=l.take n++[l[n]]:=af1 c;rw[b,iP,CH D l h n (by omega),pG,pG];have o:0+(l.take n).length=n:=by simp;omega
  rw[o];by_cases hd:D n=true
  ·have a:∀ p∈sel (λi=>!D i) 0 (l.take n),xN p l[n]=true:=by
    intro p q;obtain⟨j,d,k⟩:=NT q;rw[Vz] at d
    split at d
    ·rename_i m
     refine h j n p l[n] m d (ii c) ?_ hd;simpa using k
    ·cases d
   simp only[hd,kp,jt,jl,kz,ka];rw[iP];cases r:dF G (sel D 0 (l.take n)) σ with
   | none=>rfl
   | some τ =>
    have:=IU (G:=G) a τ
    show (dF G _ τ).bind (dF G [l[n]])=(dF G [l[n]] τ).bind _;rw[pH,<- this]
    cases dF G (sel (λi=>!D i) 0 (l.take n)) τ with
    | none=>rfl
    | some υ=>exact pH
  ·have e:D n=false:=by simpa using hd
   simp only[e,jl,kz,ka,kr,kp];cases r:dF G (sel D 0 (l.take n)) σ with
   | none=>rfl
   | some τ =>
    show (dF G _ τ).bind (dF G [l[n]])=dF G _ τ;rw[iP]
def PG(D:Nat->Bool)(l:List AOper)(i:Nat)(hi:D i=false)(b:AOper)(e:l[i]?=some b)
  (h:∀ (j:Nat) (u:AOper),i<j->l[j]?=some u->D j=true->xN b u=true):
  ∀ n,i<n->n<=l.length->∀ σ,dF G (sel (λk=>D k||k==i) 0 (l.take n)) σ=(dF G (sel D 0 (l.take n)) σ).bind (cM G b)
 | 0,v,_,_=>by omega
 | n+1,v,A,σ=>by
  have c:n<l.length:=by omega
  have g:l.take (n+1)=l.take n++[l[n]]:=af1 c;rw[g,pG,pG];have x:0+(l.take n).length=n:=by simp;omega
  rw[x];by_cases r:n=i
  ·subst r
   have p:l[n]=b:=by
    rw[ii c] at e
    injection e
   have f:∀ (m:List AOper) (k:Nat),k+m.length<=n->sel (λk=>D k||k==n) k m=sel D k m:=by
    intro m
    induction m with
    | nil=>intro k _;rfl
    | cons o m y =>
     intro k s;simp only[sel];have d:(k==n)=false:=by simp at s ⊢;omega
     simp only[d,ak2];rw[y (k+1) (by simp at s;omega)]
   rw[f _ 0 (by simp;omega)];simp only[hi,BEq.rfl,am9,kp,jl,kz,ka];rw[iP,p]
   cases dF G (sel D 0 (l.take n)) σ with
   | none=>rfl
   | some τ=>exact pH
  ·have d:(n==i)=false:=by simpa using r
   have a:=PG D l i hi b e h n (by omega) (by omega) σ;by_cases hd:D n=true
   ·simp only[hd,aa3,kp]
    rw[iP,iP,a];have w:=h n l[n] (by omega) (ii c) hd
    cases dF G (sel D 0 (l.take n)) σ with
    | none=>rfl
    | some τ =>
     show (cM G b τ).bind (dF G [l[n]])=(dF G [l[n]] τ).bind (cM G b);rw[pH];rw[<- CF w τ]
     cases cM G b τ with
     | none=>rfl
     | some υ=>exact pH
   ·have q:D n=false:=by simpa using hd
    simp only[q,d,Bool.or_self,jl,kz,ka];exact a
end
def jN(o:Oper):List Nat:=(o.after.toList.filter (Region.binds .any)).map (·.on)
def U3(acc:List Nat)(d:List Nat):Nat:=d.foldl (λm e=>m ||| (2 ^ e) ||| acc.getD e 0) 0
def I7(acc:List Nat):List (List Nat)->List Nat
 | []=>acc
 | d::ds=>I7 (acc++[U3 acc d]) ds
def HM{acc:List Nat}:∀ {d:List Nat} {m j:Nat},(d.foldl (λm e=>m ||| (2 ^ e) ||| acc.getD e 0) m).testBit j=true->m.testBit j=true\/∃ e∈d,j=e\/(acc.getD e 0).testBit j=true
 | [],m,j,h=>.inl h
 | e::d,m,j,h=>by
  simp only[ac6] at h;rcases HM h with h | ⟨a,b,c⟩
  ·rw[Nat.testBit_or,Nat.testBit_or,yb,yb] at h
   rcases h with (h | h) | h
   ·exact .inl h
   ·rw[Nat.testBit_two_pow] at h
    exact .inr ⟨e,by simp,.inl (by simpa using (ah3 h).symm)⟩
   ·exact .inr ⟨e,by simp,.inr h⟩
  ·exact .inr ⟨a,by simp [b],c⟩
def BG{D:Nat->Bool}:∀ {ds:List (List Nat)} {acc:List Nat} (all:Nat->List Nat),(∀ i,(hi:i<ds.length)->all (acc.length+i)=ds[i]) ->
  (∀ i,D i=true->∀ e∈all i,D e=true)->(∀ i j,D i=true->(acc.getD i 0).testBit j=true->D j=true) ->
  ∀ i j,D i=true->((I7 acc ds).getD i 0).testBit j=true->D j=true
 | [],acc,all,_,_,a=>a
 | d::ds,acc,all,c,g,a=>by
  intro i j hi b;simp only[I7] at b;refine BG (ds:=ds) (acc:=acc++[U3 acc d]) all ?_ g ?_ i j hi b
  ·intro k p
   have:=c (k+1) (by simp;omega)
   simp only[jb,jy];rw[show acc.length+1+k=acc.length+(k+1) from by omega];simpa using this
  ·intro i j hi b
   by_cases m:i<acc.length
   ·rw[ki,kq m,<- ki] at b
    exact a i j hi b
   ·by_cases o:i=acc.length
    ·subst o
     rw[ki,ky (ji _)] at b;simp at b;have hd:all acc.length=d:=by
      have:=c 0 (by simp)
      simpa only [rh,getElem_cons_zero] using this
     rcases HM b with h | ⟨e,n,l⟩
     ·simp at h
     ·have f:=g _ hi e (by rw[hd];exact n)
      rcases l with rfl | l
      ·exact f
      ·exact a e j f l
    ·rw[ki,ls (by simp;omega)] at b
     simp at b
def EK(b:List Nat)(a:List AOper):Bool:=
 a.zipIdx.all λx=>(a.take x.2).zipIdx.all λy=>(b.getD x.2 0).testBit y.2||xN y.1 x.1
def wT(ops:Array Oper)(a:List AOper):Bool:=
 let ds:=ops.toList.map jN
 ds.zipIdx.all (λx=>x.1.all (· < x.2))&&EK (I7 [] ds) a&&a.length==ops.size
def uG(h:EK r cw=true){cu:AOper}(b:j<n)(d:cw[j]?=some ct)(hi:cw[n]?=some cu):(r.getD n 0).testBit j=true\/xN ct cu=true:=by
 unfold EK at h;rw[kx] at h;have a:=h (cu,n) (by rw[aj3];exact hi);simp only at a;rw[kx] at a;have c:=a (ct,j) (by rw[aj3,mx b];exact d);simpa using c
section
variable{P:Program}{E:Env}{σ σ':AS}{a:Act}{w:World}{Q:Exit->Act->World->Prop}{ops:Array Oper}{G:aP}
def G5:∀ {os:List Oper} {a:List AOper},mR P E.nt ops os a=true->∀ {i:Nat} {o:Oper} {ao:AOper},os[i]?=some o->a[i]?=some ao->okO P E.nt ops o ao=true
 | o::os,ao::a,h,0,_,_,b,c=>by
  simp at b c;subst b;subst c;simp only[mR,ir] at h;exact h.1
 | o::os,ao::a,h,i+1,_,_,b,c=>by
  simp only[mR,ir] at h;exact G5 h.2 (i:=i) (by simpa using b) (by simpa using c)
 | [],_,_,_,_,_,b,_=>by simp at b
 | _::_,[],h,_,_,_,_,_=>by simp [mR] at h
def unl(n:Nat)(D:Nat->Bool):Nat:=((List.range n).filter λi=>!D i).length
def ym(hi:j<n)(b:D j=false):unl n (λk=>D k||k==j)<unl n D:=by
 unfold unl;have a:(List.range n).filter (λk=>!(D k||k==j))=((List.range n).filter λk=>!D k).filter (λk=>!(k==j)):=by
  rw[filter_filter]
  congr 1
  funext k
  cases D k<;>simp
 rw[a];refine length_filter_lt_length_iff_exists.2 ⟨j,?_,by simp⟩;simp [hi,b]
def LK(hG:fK P G)(a5:mR P E.nt ops ops.toList cw=true)(T:wT ops cw=true)(q:dF G cw σ=some σ')(hQ:∀ a w,aS E σ' a w->Q .normal a w):
  ∀ (fuel:Nat) (b:Array Bool) (a:Act) (w:World),b.size=ops.size->unl ops.size (λi=>b.getD i false)<=fuel ->
   (∀ i,b.getD i false=true->∀ e∈jN (ops.getD i default),b.getD e false=true) ->
   (∀ τ,dF G (sel (λi=>b.getD i false) 0 cw) σ=some τ->aS E τ a w)->wpAny P .any ops Q fuel b a w:=by
 unfold wT at T;simp only[ir] at T;obtain⟨⟨ap,p⟩,M⟩:=T;have M:cw.length=ops.size:=by simpa using M
 have Z:∀ i,i<ops.size->∀ e∈jN (ops.getD i default),e<i:=by
  intro i hi e F;rw[kx] at ap;have f:=ap (jN (ops.getD i default),i) (by rw[aj3];simp [hi,mo]);rw[kx] at f;simpa using f e F
 have K:∀ D:Nat->Bool,(∀ i,D i=true->∀ e∈jN (ops.getD i default),D e=true)->∀ i j,D i=true->((I7 [] (ops.toList.map jN)).getD i 0).testBit j=true->D j=true:=by
  intro D hD;refine BG (acc:=[]) (λi=>jN (ops.getD i default)) (λi hi=>?_) hD (λi j _ h=>by simp at h);simp at hi;simp [hi,mo]
 have r:∀ D:Nat->Bool,(∀ i,D i=true->∀ e∈jN (ops.getD i default),D e=true)->dF G cw σ=(dF G (sel D 0 cw) σ).bind (dF G (sel (λi=>!D i) 0 cw)):=by
  intro D hD
  have:=CH (G:=G) D cw (λj i oj oi a4 hj hi O x=>by
   rcases uG p a4 hj hi with h | h
   ·have:=K D hD i j x h
    rw[O] at this;cases this
   ·exact h) cw.length (ji _) σ
  simpa using this
 have d:∀ (D:Nat->Bool) (l:List AOper) (k:Nat),(∀ i,i<k+l.length->D i=true)->sel D k l=l:=by
  intro D l
  induction l with
  | nil=>intro k _;rfl
  | cons o l ih =>
   intro k h;simp only[sel];rw[iw (h k (by simp)),ih (k+1) (λi hi=>h i (by simp at hi ⊢;omega))]
 intro fuel
 induction fuel with
 | zero =>
  intro b a w Y a7 H c;have n:∀ i,i<ops.size->b.getD i false=true:=by
   intro i hi;have h0:unl ops.size (λi=>b.getD i false)=0:=by omega
   unfold unl at h0
   have:=js h0
   rw[ah4] at this;simpa using this i (by simp [hi])
  refine⟨?_,hQ _ _ (c _ ?_)⟩
  ·unfold Region.ready
   rw[ah4];intro i hi;have hi':i<ops.size:=by simpa using hi
   have f:=n i hi';have v:b.getD i true=true:=by
    simp only[mo] at f ⊢;rw[ac1 (by omega)] at f ⊢;exact f
   simp [v]
  ·rw[d _ cw 0 (λi hi=>n i (by omega))];exact q
 | succ fuel ih =>
  intro b a w Y a7 H c;have av:∀ i,i<ops.size->b.getD i true=b.getD i false:=by
   intro i hi;simp only[mo];rw[ac1 (by omega)];rfl
  have J:∃ τ,dF G (sel (λi=>b.getD i false) 0 cw) σ=some τ:=by
   have f:=r _ H;rw[q] at f;obtain⟨τ,v,_⟩:=jj.1 f.symm;exact⟨τ,v⟩
  obtain⟨τ,J⟩:=J;have a6:=c τ J;refine⟨λhr=>?_,λi hi=>?_⟩
  ·
   have n:∀ i,i<ops.size->b.getD i false=true:=by
    intro i
    induction i using Nat.strongRecOn with
    | _ i a8 =>
     intro hi;unfold Region.ready at hr;rw[ah4] at hr;have f:=hr i (by simp [hi]);have v:(((ops[i]?).map (·.after.all λe=>!Region.binds .any e||b.getD e.on false)).getD false)=true:=by
      rw[ac1 hi];simp only[jq,aj5,an0];intro e F;by_cases hb:Region.binds .any e=true
      ·have ab:e.on∈jN (ops.getD i default):=by
        unfold jN;rw[yd];refine⟨e,?_,rfl⟩;rw[ag9];refine⟨?_,hb⟩;simpa [mo,hi] using F
       have ag:=Z i hi _ ab;rw[a8 _ ag (by omega)];simp
      ·simp only[Bool.not_eq_true] at hb
       simp [hb]
     rw[v,av i hi] at f;simpa using f
   refine hQ _ _ (c _ ?_);rw[d _ cw 0 (λi hi=>n i (by omega))];exact q
  ·unfold Region.ready at hi
   rw[ag9] at hi;obtain⟨hi1,ar⟩:=hi;have A:i<ops.size:=by simpa using hi1
   rw[ir] at ar;obtain⟨a2,V⟩:=ar;have x:b.getD i false=false:=by rw[<- av i A];simpa using a2
   have X:ops[i]?=some ops[i]:=ac1 A;have R:cw[i]?=some (cw[i]'(by omega)):=ii (by omega);have S:∀ e∈jN (ops.getD i default),b.getD e false=true:=by
    intro e F;unfold jN at F;rw[yd] at F;obtain⟨ed,U,rfl⟩:=F;rw[ag9] at U;rw[X] at V;simp only[jq,aj5,an0] at V
    have:=V ed (by simpa [mo,A] using U.1)
    rw[U.2] at this;simpa using this
   have N:∀ k,(b.setIfInBounds i true).getD k false=(b.getD k false||k==i):=by
    intro k;simp only[mo,ai7];by_cases B:i=k
    ·subst B;simp [Y,A]
    ·have:(k==i)=false:=by simp;exact λe=>B e.symm
     simp [B,this]
   have y:(λk=>(b.setIfInBounds i true).getD k false)=λk=>b.getD k false||k==i:=funext N
   have L:∀ k,(b.setIfInBounds i true).getD k false=true->∀ e∈jN (ops.getD k default),(b.setIfInBounds i true).getD e false=true:=by
    intro k B e F;rw[N] at B ⊢;rw[yb] at B ⊢;rcases B with B | B
    ·exact .inl (H k B e F)
    ·have:k=i:=by simpa using B
     subst this;exact .inl (S e F)
   have m:=PG (G:=G) (λk=>b.getD k false) cw i x _ R (λj oj a3 hj O=>by
    rcases uG p a3 R hj with h | h
    ·have this:b.getD i false=true:=K _ H j i O h
     rw[x] at this;cases this
    ·exact h) cw.length (by omega) (ji _) σ
   simp only[Ut] at m;rw[J] at m;have s:∃ u,cM G (cw[i]'(by omega)) τ=some u:=by
    have f:=r _ L;rw[q,y,m] at f;obtain⟨u,v,_⟩:=jj.1 f.symm;exact⟨u,v⟩
   obtain⟨u,s⟩:=s;have a0:=G5 a5 (i:=i) (by rw[Array.getElem?_toList];exact X) R;obtain⟨g,a1⟩:=a6;have I:=sA (Q:=Q) hG a1 a0 s;have C:∀ a w,aS E u a w->wpAny P .any ops Q fuel (b.setIfInBounds i true) a w:=by
    intro a w hp;refine ih _ a w (by simpa using Y) ?_ L ?_
    ·rw[y]
     have:=ym (D:=λk=>b.getD k false) A x
     omega
    ·intro υ hυ
     rw[y,m] at hυ
     have:υ=u:=by
      have v:cM G (cw[i]'(by omega)) τ=some υ:=hυ;rw[s] at v
      injection v with v
      exact v.symm
     rw[this];exact hp
   unfold wpOp;rw[X];simp only;split
   ·rename_i hw
    rw[iw hw] at I;exact .inl (ah5 C I)
   ·rename_i hw
    rw[ie hw] at I;exact C _ _ I
end
def yR:List AOper->Bool
 | ⟨_,.mv,[],.none,none,none⟩::_=>true
 | _=>false
def J4{G:aP}(h:yR cw=true):dF G cw X=none:=by
 unfold yR at h
 split at h
 ·rfl
 ·cases h
def cV(P:Program)(nt:Nat):Code->ACode->Bool
 | .skip,.skip=>true
 | .label _,.skip=>true
 | .region _ ops draw,.reg e _ d _=>yR d||draw==e&&mR P nt ops ops.toList d&&(!draw||wT ops d)
 | .seq a b,.seq g h=>cV P nt a g&&cV P nt b h
 | .cond c x y,.cond r x' i=>okR c r&&cV P nt x x'&&cV P nt y i
 | .block id a,.block f g=>id==f&&cV P nt a g
 | .loop a,.loop _ g=>cV P nt a g
 | .exit id,.exit f=>id==f
 | .ret,.ret=>true
 | _,_=>false
def xp:AX->Exit
 | .norm=>.normal
 | .ex i=>.exit i
 | .ret=>.ret
section
variable{P:Program}{E:Env}{a:Act}{w:World}{G:aP}
def aS.scrub(h:aS E X a w)(al:List Nat):aS E (Av.scrub al X) a w:=by
 obtain⟨g,h⟩:=h;exact⟨g,h.scrub_ al⟩
def aS.forget(h:aS E X a w)(b:List Nat):aS E (Av.forget b X) a w:=by
 obtain⟨g,h⟩:=h;exact⟨g,h.forget_ b⟩
def QI(e:P.follows .mixedOrders=true)(m:fK P G)(h:mR P E.nt gy gy.toList cw=true)(j:(!d||wT gy cw)=true)(q:aS E X a w)(r:dF G cw X=some fb)(p:∀ a w,aS E fb a w->fk .normal a w):(Code.region n gy d).wp P fk a w:=by
 cases d with
 | false=>exact al6 (sK m h q r p)
 | true =>
  have hd:wT gy cw=true:=by simpa using j
  obtain⟨g,s⟩:=q;have b:∀ i,(Array.replicate gy.size false).getD i false=false:=by
   intro i;simp only[mo,Array.getElem?_replicate]
   split<;>rfl
  refine wp_region_any e (LK m h hd r p gy.size _ _ _ (by simp) ?_ ?_ ?_)
  ·unfold unl
   exact ab1 (ak4 _ _) (by simp)
  ·intro i hi
   rw[b] at hi;cases hi
  ·intro τ c
   have f:∀ (l:List AOper) (k:Nat),sel (λi=>(Array.replicate gy.size false).getD i false) k l=[]:=by
    intro l
    induction l with
    | nil=>intro k;rfl
    | cons o l u =>
     intro k;simp only[sel];rw[ie (by rw[b];simp)];exact u (k+1)
   rw[f] at c;simp only[dF,jc] at c;subst c;exact⟨_,s.drawn _⟩
def eJ(k:P.follows .mixedOrders=true)(q:fK P G)(n:Nat):∀ (C:Code) (c:ACode) (σ σ':AS) (e:AX) (a:Act) (w:World) (Q:Exit->Act->World->Prop),cV P E.nt C c=true->eY n G c σ=some (e,σ')->aS E σ a w ->
  (∀ a w,aS E σ' a w->Q (xp e) a w)->C.wp P Q a w
 | .skip,.skip,σ,σ',e,a,w,Q,_,b,l,j=>by
  simp only[eY,jc,jg] at b;obtain⟨rfl,rfl⟩:=b;exact wp_skip (j a w l)
 | .label _,.skip,σ,σ',e,a,w,Q,_,b,l,j=>by
  simp only[eY,jc,jg] at b;obtain⟨rfl,rfl⟩:=b;exact wp_label (j a w l)
 | .region id ops draw,.reg D al A kill,σ,σ',e,a,w,Q,d,b,l,j=>by
  simp only[cV,ir,yb] at d;simp only[eY] at b;obtain⟨σ1,H,M⟩:=jf.1 b;have J:¬ yR A=true:=λh=>by rw[J4 h] at H;cases H
  obtain⟨⟨_,F⟩,B⟩:=d.resolve_left J;have B:(!draw||wT ops A)=true:=by simpa using B
  simp only[jg] at M;obtain⟨rfl,rfl⟩:=M;exact QI k q F B (l.scrub al) H (λa w h=>j a w (h.forget kill))
 | .seq x y,.seq x' L,σ,σ',e,a,w,Q,d,b,l,j=>by
  simp only[cV,ir] at d;simp only[eY] at b;refine ai2 ?_;cases o:eY n G x' σ with
  | none=>rw[o] at b;cases b
  | some r =>
   obtain⟨p,σ1⟩:=r;rw[o] at b;refine eJ k q n x x' σ σ1 p a w _ d.1 o l λu v f=>?_
   cases p with
   | norm=>exact eJ k q n y L σ1 σ' e u v Q d.2 b f j
   | ex i =>
    simp only[jc,jg] at b;obtain⟨rfl,rfl⟩:=b;exact j _ _ f
   | ret =>
    simp only[jc,jg] at b;obtain⟨rfl,rfl⟩:=b;exact j _ _ f
 | .cond c x y,.cond r x' L,σ,σ',e,a,w,Q,d,b,l,j=>by
  simp only[cV,ir] at d;obtain⟨⟨o,F⟩,B⟩:=d;simp only[eY] at b;obtain⟨g,K⟩:=l
  split at b
  ·rename_i t O
   have N:=K.rdBool o O;refine wp_cond N ?_
   cases t with
   | true=>exact eJ k q n x x' σ σ' e a w Q F b ⟨g,K⟩ j
   | false=>exact eJ k q n y L σ σ' e a w Q B b ⟨g,K⟩ j
  ·cases b
 | .block id x,.block s x',σ,σ',e,a,w,Q,d,b,l,j=>by
  simp only[cV,ir] at d;have hid:id=s:=by simpa using d.1
  subst hid;simp only[eY] at b;refine wp_block ?_;cases o:eY n G x' σ with
  | none=>rw[o] at b;cases b
  | some r =>
   obtain⟨p,σ1⟩:=r;rw[o] at b;refine eJ k q n x x' σ σ1 p a w _ d.2 o l λu v f=>?_
   cases p with
   | norm =>
    simp only[jc,jg] at b;obtain⟨rfl,rfl⟩:=b;exact j _ _ f
   | ex i =>
    show if i=id then Q .normal u v else Q (.exit i) u v
    simp only at b
    split at b
    ·rename_i I
     rw[iw I];simp only[jc,jg] at b;obtain⟨rfl,rfl⟩:=b;exact j _ _ f
    ·rename_i I
     rw[ie I];simp only[jc,jg] at b;obtain⟨rfl,rfl⟩:=b;exact j _ _ f
   | ret =>
    simp only[jc,jg] at b;obtain⟨rfl,rfl⟩:=b;exact j _ _ f
 | .loop x,.loop kill x',σ,σ',e,a,w,Q,d,b,l,j=>by
  simp only[cV] at d;simp only[eY] at b;refine wp_loop_rounds n ?_;have key:∀ m σ a w,gM (λσ=>eY n G x' (forget kill σ)) m σ=some (e,σ')->aS E σ a w->Code.rounds P x Q m a w:=by
   intro m
   induction m with
   | zero=>intro σ a w h;simp [gM] at h
   | succ m R =>
    intro σ a w h l;rw[rounds_succ];simp only[gM] at h;cases o:eY n G x' (forget kill σ) with
    | none=>rw[o] at h;cases h
    | some r =>
     obtain⟨p,σ1⟩:=r;rw[o] at h;refine eJ k q n x x' (forget kill σ) σ1 p a w _ d o (l.forget kill) λu v f=>?_
     cases p with
     | norm=>exact R σ1 u v h f
     | ex i =>
      simp only[jc,jg] at h;obtain⟨rfl,rfl⟩:=h;exact j _ _ f
     | ret =>
      simp only[jc,jg] at h;obtain⟨rfl,rfl⟩:=h;exact j _ _ f
  exact key n σ a w b l
 | .exit id,.exit s,σ,σ',e,a,w,Q,d,b,l,j=>by
  simp only[cV] at d;have hid:id=s:=by simpa using d
  subst hid;simp only[eY,jc,jg] at b;obtain⟨rfl,rfl⟩:=b;exact wp_exit (j a w l)
 | .ret,.ret,σ,σ',e,a,w,Q,d,b,l,j=>by
  simp only[eY,jc,jg] at b;obtain⟨rfl,rfl⟩:=b;exact wp_ret (j a w l)
end
def iD(P:Program):List ResultVar->List ARes->Bool
 | [],[]=>true
 | .tmp t::rs,.tmp t'::as=>t==t'&&iD P rs as
 | .tmp t::rs,.tmpD t'::as=>t==t'&&iD P rs as
 | .cell s t::rs,.cell a agg n::as=>s==a&&gL P t agg n&&iD P rs as
 | _,_=>false
def jF(P:Program)(f:FuncId)(F:AFun):Bool:=
 match P.funcs[f]? with
 | some fn=>(match fn.body with | some C=>cV P fn.ntmps C F.body | none=>false)&&decide (F.nargs<=fn.ntmps)&&iD P fn.results.toList F.res&&!(fn.name == "runtime.NumGoroutine")
 | none=>false
def I5(h:aM (aV Z dq) f bk.toList)(t:Nat):
  aV Z dq ((f[t]?).getD .any) ((bk++Array.replicate n undef).getD t undef):=by
 cases e:f[t]? with
 | none=>exact trivial
 | some x =>
  obtain⟨v,c,d⟩:=h.get e;have b:bk[t]?=some v:=by simpa using c
  have a:=(kw.1 b).1
  have:(bk++Array.replicate n undef).getD t undef=v:=by
   rw[mo,yv a,b];rfl
  rw[this];exact d
section
variable{P:Program}{E:Env}{a:Act}{w:World}{G:aP}{g:Gh}{σ:AS}
noncomputable def kdF(kd:Nat->BK)(β:Nat->Nat)(n:Nat)(b:Nat):BK:=
 open Classical in if ∃ i,i<n/\β i=b then kd b else match kd b with | .shr _=>.stab | .loc _=>.stab | x=>x
def yQ(hi:j<n):kdF di dx n (dx j)=di (dx j):=by
 unfold kdF;rw[iw ⟨j,hi,rfl⟩]
def VO(h:di j=.stab):kdF di dx n j=.stab:=by
 unfold kdF;split<;>simp [h]
def n9{im:Ow}:kdF di dx n j=.own im q↔di j=.own im q:=by
 unfold kdF;split
 ·exact ai9
 ·cases h:di j<;>simp
def VP{v:Nat}(h:di q=.shr v)(c:∀ j,j<n->dx j≠q):kdF di dx n q=.stab:=by
 unfold kdF;rw[ie (by rintro ⟨j,a,b⟩;exact c j a b),h]
def SS.out(f:Sim E g σ a w):∀ b m,SS E g w b m->S1 E.S0 E.w0 w (kdF g.kd g.β n) b m:=by
 rintro b m (⟨_,h⟩ | ⟨c,d,e⟩ | ⟨c,t,k,d,e⟩)
 ·exact .inl h
 ·exact .inr (.inl ⟨c,d,VO e⟩)
 ·exact .inr (.inr ⟨c,t,k,n9.2 d,e⟩)
def EM(q:Sim E g σ a w)(j:d=true->n=σ.sh.length)(i:lM d bv=true)(r:aV (cx E g σ w) aX bv I):
  aR (cx0 g.β g.bs (S1 E.S0 E.w0 w (kdF g.kd g.β n)) w n) bv I:=by
 have f:∀ b m,SS E g w b m->S1 E.S0 E.w0 w (kdF g.kd g.β n) b m/\w.cell? ⟨b,m,none⟩=w.cell? ⟨b,m,none⟩:=λb m h=>⟨SS.out q b m h,rfl⟩
 cases bv with
 | int=>exact r
 | bool=>exact r
 | nilp=>exact r
 | str s =>
  have c:aG (SS E g w) w (.str s) I:=r;exact aG.mono f _ _ c
 | sl m z l =>
  cases m with
  | own=>exact r.2.elim
  | no =>
   have c:aG (SS E g w) w (.sl .no z l) I:=r;exact aG.mono f _ _ c
  | full =>
   have c:aG (SS E g w) w (.sl .full z l) I:=r;exact aG.mono f _ _ c
 | agg l =>
  obtain⟨cs,k,p⟩:=r;exact⟨cs,k,p.mono (aG.mono f)⟩
 | ptr o off =>
  have e:d=true:=by simpa [lM] using i
  have c:o<σ.sh.length/\I=_:=r;exact⟨by rw[show (cx0 g.β g.bs (S1 E.S0 E.w0 w (kdF g.kd g.β n)) w n).shn=n from rfl,j e];exact c.1,c.2⟩
 | ss o off m z =>
  have e:d=true:=by simpa [lM] using i
  have c:o<σ.sh.length/\_:=r;exact⟨by rw[show (cx0 g.β g.bs (S1 E.S0 E.w0 w (kdF g.kd g.β n)) w n).shn=n from rfl,j e];exact c.1,c.2⟩
 | mp o =>
  have e:d=true:=by simpa [lM] using i
  have c:o<σ.sh.length/\_:=r;exact⟨by rw[show (cx0 g.β g.bs (S1 E.S0 E.w0 w (kdF g.kd g.β n)) w n).shn=n from rfl,j e];exact c.1,c.2⟩
 | _=>simp [lM,sH] at i
def Q8:aJ (aJ h)=aJ h:=by
 cases h with
 | sl m z l=>cases m<;>rfl
 | _=>rfl
def Q7:aJ (fV h)=fV h:=by cases h<;>rfl
def aR.topT(hd:aJ bv=bv)(h:aR Z bv I):aV Z dq bv I:=by
 cases bv with
 | sl m z l =>
  cases m with
  | own=>simp [aJ] at hd
  | no=>exact h
  | full=>exact h
 | any=>simp [aR,aG] at h
 | undef=>simp [aR,aG] at h
 | loc=>simp [aR,aG] at h
 | ip=>simp [aR,aG] at h
 | fn=>simp [aR,aG] at h
 | tup=>simp [aR,aG] at h
 | mapv=>simp [aR,aG] at h
 | aggR=>simp [aR,aG] at h
 | _=>exact h
def lA:gZ f=true↔f=aO:=by
 unfold gZ aO;split
 ·simp
 ·rename_i h
  constructor
  ·intro h;cases h
  ·intro e;exact absurd e h
def tX:∀ {xs c:LL},dW xs c=true->∀ {j:Nat} {x:List AV},xs[j]?=some x->c[j]?=some aO->gZ x=true
 | x::xs,y::c,h,0,u,a,b=>by
  simp only[dW,ir,yb] at h;simp at a b;subst a;subst b;rcases h.1 with h | h
  ·exact h
  ·simp [gZ,aO] at h
 | x::xs,y::c,h,j+1,u,a,b=>by
  simp only[dW,ir] at h;exact tX h.2 (j:=j) (by simpa using a) (by simpa using b)
 | [],_,_,_,_,a,_=>by simp at a
 | _::_,[],h,_,_,_,_=>by simp [dW] at h
def pg(q:Sim E g σ a w)(P:n=if d then σ.sh.length else c.length)(ar:E.n0=c.length)(T:∀ i,i<E.n0->E.β0 i<E.w0.heap.size)
  (hD:∀ (j:Nat) (bv:List AV),c[j]?=some bv->gZ bv=true->E.D0 j=true){fx:AV}(K:aJ bv=bv)(b:iT d c σ.sh bv=some fx)(Q:lM d fx=true)(r:aV (cx E g σ w) aX bv I):
  aR (cx0 g.β g.bs (S1 E.S0 E.w0 w (kdF g.kd g.β n)) w n) fx I/\aJ fx=fx:=by
 by_cases A:∃ o off m z,bv=.ss o off m z
 ·obtain⟨o,off,m,z,rfl⟩:=A
  simp only[iT] at b
  split at b
  ·rename_i u
   cases b;exact⟨EM q (λ_=>by rw[P,iw u]) Q r,rfl⟩
  ·rename_i u
   split at b
   ·rename_i H
    obtain⟨av,J⟩:=H;simp only[nA] at b;obtain⟨cells,B,h2⟩:=jj.1 b;obtain⟨l,f,h4⟩:=jf.1 h2;subst h4;refine⟨?_,rfl⟩;obtain⟨U,s,rfl,e2,e3⟩:o<σ.sh.length/\∃ s,I=.slice (some ⟨g.β o,off,none⟩) m s/\m<=s/\ssz off s z (g.bs o):=r;show aG _ w (.sl .no z l) _;simp only[aG];by_cases p:m=0
    ·have X:l.length=0:=by
      unfold dE at f
      split at f
      ·cases f;subst p;simp [cP]
      ·cases f
     have N:=js X;exact⟨_,s,by rw[X,p],by omega,by simp,by simp,.inl N⟩
    ·have hd:cells≠aO/\bX cells=true:=by
      have H:0<z/\off+m*z<=cells.length/\((cells.drop off).take (m*z)).all (λbv=>aQ (aJ bv))=true:=by
       unfold dE at f
       split at f
       ·assumption
       ·cases f
      obtain⟨hz,x,k⟩:=H;have Y:0<m*z:=ai1 (by omega) hz;have key:∀ fx,cells=[fx]->aQ (aJ fx)=true:=by
       rintro fx rfl
       have:off=0/\m*z=1:=by simp at x;omega
       obtain⟨rfl,B⟩:=this;rw[B] at k;simpa using k
      refine⟨λe=>?_,?_⟩
      ·have:=key _ e;simp [aJ,aQ] at this
      ·unfold bX
       split
       ·have:=key _ rfl;simp [aJ,aQ] at this
       ·have:=key _ rfl;simp [aJ,aQ] at this
       ·rfl
     obtain⟨f1,R,_⟩:=q.shr o cells B hd.1;have y:E.w0.heap.size<=g.β o:=by
      rcases q.shr1 o U (by omega) with G | ⟨j,G,C,D,F⟩
      ·exact G
      ·exfalso
       have v:j<c.length:=by omega
       have:=tX J (ii v) F
       have:=hD j _ (ii v) this
       rw[D] at this;cases this
     have L:kdF g.kd g.β n (g.β o)=.stab:=by
      refine VP f1 (λj V e=>?_);have M:d=false:=by simpa using u
      rw[P,M] at V;simp at V;have G:=(q.shr0 j (by omega)).1;have C:=T j (by omega);omega
     have O:=q.shrlt o U;obtain⟨_,Z,r2,r3,_⟩:=qI (du:=S1 E.S0 E.w0 w (kdF g.kd g.β n)) f (R hd.2) (λb' n h=>⟨SS.out q b' n h,rfl⟩) (λ_=>.inr (.inl ⟨y,O,L⟩));exact⟨_,s,by rw[Z],by rw[Z];exact e2,by simp,by simp,.inr ⟨_,_,rfl,r3⟩⟩
   ·cases b
 ·have S:fx=bv:=by
   unfold iT at b
   split at b
   ·rename_i o off m z
    exact absurd ⟨o,off,m,z,rfl⟩ A
   ·cases b;rfl
  subst S;refine⟨?_,K⟩;by_cases u:d=true
  ·exact EM q (λ_=>by rw[P,iw u]) Q r
  ·exact EM q (d:=d) (λh=>absurd h u) Q r
def sF(tmps:Array Value):ResultVar->Sem Value
 | .tmp t=>pure (tmps.getD t undef)
 | .cell s t=>do loadVar t (<- asAddr (tmps.getD s undef))
def N6{R:Nat}(c:gL P J d n=true)(B:ldC d q n f=some bv){m:Nat}(A:o6 Z fw w R m f):
  ∃ val,(loadVar J ⟨R,q,none⟩).run P w=.ok val w/\aV Z aX bv val/\aJ bv=bv:=by
 obtain⟨e,E,C,p,_,D,r⟩:=A;obtain⟨o,s⟩:=N7 B r;have a:∀ j u,e[q+j]?=some u->w.cell? ⟨R,q+j,none⟩=some u:=λj u l=>by
  simp [World.cell?,p];simpa using l
 rcases s with ⟨rfl,vs,g,i,v⟩ | ⟨rfl,u,g,i⟩
 ·obtain⟨val,x,b⟩:=uU (P:=P) (q:=q) c g (λj u l=>a j u (i j u l)) (λh=>by cases h)
  rcases b with ⟨_,rfl⟩ | ⟨b,_⟩
  ·exact⟨_,by simpa [Instr.loadAt,Instr.sureAddr] using x,v,o⟩
  ·cases b
 ·obtain⟨y,_⟩:=lB c
  have k:w.cell? ⟨R,q,none⟩=some u:=by simpa using a 0 u (by simpa using g)
  exact⟨u,by simp [loadVar,y,k],i,o⟩
def lq(n:Sim E g σ a w){r:ARes}(b:iD P [rv] [r]=true)(i:t6 σ r=some h):
  ∃ v,(sF a.tmps rv).run P w=.ok v w/\aV (cx E g σ w) aX h v/\aJ h=h:=by
 cases rv with
 | tmp t=>cases r with
  | tmp t' =>
   simp only[iD,ir] at b;have p:t=t':=by simpa using b.1
   subst p;simp only[t6,jc] at i;subst i;exact⟨_,rfl,(n.slots t).str,Q7⟩
  | tmpD t' =>
   simp only[iD,ir] at b;have p:t=t':=by simpa using b.1
   subst p;simp only[t6,jc] at i;subst i;exact⟨_,rfl,(n.slots t).dem,Q8⟩
  | cell=>simp [iD] at b
 | cell s t=>cases r with
  | tmp=>simp [iD] at b
  | tmpD=>simp [iD] at b
  | cell C agg m =>
   simp only[iD,ir] at b;obtain⟨⟨B,o⟩,_⟩:=b;have p:s=C:=by simpa using B
   subst p;have c:=n.slots s;simp only[t6] at i
   split at i
   ·rename_i q off j
    obtain⟨cells,A,e⟩:=jj.1 i;rw[j] at c;obtain⟨k,f⟩:=c;have d:(a.tmps[s]?).getD undef=.pointer (some ⟨g.lam q,off,none⟩):=by rw[<- mo];exact f
    obtain⟨val,u,x,y⟩:=N6 (P:=P) o e (n.loc q cells A).2.2;exact⟨val,by simp [sF,d,asAddr,u],x,y⟩
   ·rename_i q off j
    obtain⟨cells,A,e⟩:=jj.1 i
    split at e
    ·rename_i l
     rw[j] at c;obtain⟨k,f⟩:=c;have d:(a.tmps[s]?).getD undef=.pointer (some ⟨g.β q,off,none⟩):=by rw[<- mo];exact f
     obtain⟨val,u,x,y⟩:=N6 (P:=P) o e ((n.shr q cells A (cL l)).2.1 l);exact⟨val,by simp [sF,d,asAddr,u],x,y⟩
    ·cases e
   ·cases i
def mP(o:Sim E g σ a w){sh0:LL}{k:Bool}{n:Nat}(s:n=if k then σ.sh.length else sh0.length)(f:E.n0=sh0.length)(l:∀ i,i<E.n0->E.β0 i<E.w0.heap.size)
  (r:∀ (j:Nat) (x:List AV),sh0[j]?=some x->gZ x=true->E.D0 j=true):
  ∀ {rs:List ResultVar} {as:List ARes} {xs:List AV},iD P rs as=true->eH k sh0 σ as=some xs->xs.all (lM k)=true ->
   ∃ vs:List Value,(rs.mapM (sF a.tmps)).run P w=.ok vs w/\aM (aR (cx0 g.β g.bs (S1 E.S0 E.w0 w (kdF g.kd g.β n)) w n)) xs vs/\(∀ x∈xs,aJ x=x)
 | [],[],xs,_,e,_=>by
  simp only[eH,jc] at e;subst e;exact⟨[],rfl,trivial,by simp⟩
 | rv::rs,q::as,xs,b,e,c=>by
  have d:iD P [rv] [q]=true/\iD P rs as=true:=by
   cases rv<;>cases q<;>simp only[iD,ir,jl] at b ⊢
   ·exact⟨⟨b.1,trivial⟩,b.2⟩
   ·exact⟨⟨b.1,trivial⟩,b.2⟩
   ·exact⟨⟨b.1,trivial⟩,b.2⟩
  simp only[eH] at e
  split at e
  ·rename_i y K I p
   simp only[jc] at e;subst e;simp only[ad0,ir] at c;obtain⟨x,h,m⟩:=jj.1 I;obtain⟨v,u,A,B⟩:=lq o d.1 h;obtain⟨J,C,D,F⟩:=mP o s f l r d.2 p c.2;obtain⟨G,H⟩:=pg o s f l r B m c.1 A;refine⟨v::J,by simp only[mapM_cons,ak9,u,C,al3,Sem.run_pure],⟨G,D⟩,?_⟩;intro x h;rcases la.1 h with rfl | h
   ·exact H
   ·exact F x h
  ·cases e
 | [],_::_,_,b,_,_=>by simp [iD] at b
 | rv::_,[],_,b,_,_=>by cases rv<;>simp [iD] at b
def UL:List Value->Value
 | [v]=>v
 | vs=>.tuple vs.toArray
def xH{cn:Func}(h:(cn.results.toList.mapM (sF bk)).run P w=.ok cd w):
  (results cn bk).run P w=.ok (UL cd) w:=by
 have a:(cn.results.mapM (sF bk)).run P w=.ok cd.toArray w:=by
  rw[Array.mapM_eq_mapM_toList];simp [h]
 have b:results cn bk=(do let cd <- cn.results.mapM (sF bk);pure (if h:cd.size=1 then cd[0] else .tuple cd)):=rfl;rw[b];simp only[ak9,a,al3,Sem.run_pure]
 match cd with
 | []=>rfl
 | [v]=>rfl
 | v::u::cd=>rfl
def n8(g:∀ b o,Z.S b o->eo.S b o/\eo.w.cell? ⟨b,o,none⟩=Z.w.cell? ⟨b,o,none⟩)(e:eo.β=Z.β)(i:eo.bs=Z.bs)(j:eo.shn=n)(d:fP n h=true)
  (q:∀ z l,h=.sl .own z l->dq I z l.length->ow' I z l.length)(r:bO Z dq h I):bO eo ow' h I:=by
 cases h with
 | any=>trivial
 | sl m z l =>
  cases m with
  | own=>exact⟨aG.mono g _ _ r.1,q z l rfl r.2⟩
  | no =>
   have a:aG Z.S Z.w (.sl .no z l) I:=r;exact aG.mono g _ _ a
  | full =>
   have a:aG Z.S Z.w (.sl .full z l) I:=r;exact aG.mono g _ _ a
 | ptr o off =>
  have a:o<Z.shn/\I=.pointer (some ⟨Z.β o,off,none⟩):=r;have f:o<n:=by simpa [fP] using d
  show o<eo.shn/\I=.pointer (some ⟨eo.β o,off,none⟩);rw[j,e];exact⟨f,a.2⟩
 | ss o off m z =>
  have a:o<Z.shn/\∃ c,I=.slice (some ⟨Z.β o,off,none⟩) m c/\m<=c/\ssz off c z (Z.bs o):=r;have f:o<n:=by simpa [fP] using d
  show o<eo.shn/\∃ c,I=.slice (some ⟨eo.β o,off,none⟩) m c/\m<=c/\ssz off c z (eo.bs o);rw[j,e,i];exact⟨f,a.2⟩
 | mp o =>
  have a:o<Z.shn/\I=.map (some (Z.β o)):=r;have f:o<n:=by simpa [fP] using d
  show o<eo.shn/\I=.map (some (eo.β o));rw[j,e];exact⟨f,a.2⟩
 | agg l =>
  obtain⟨cs,k,p⟩:∃ cs,I=.agg cs/\aM (aG Z.S Z.w) l cs.toList:=r;exact⟨cs,k,p.mono (aG.mono g)⟩
 | str s =>
  have a:aG Z.S Z.w (.str s) I:=r;exact aG.mono g _ _ a
 | int=>exact r
 | bool=>exact r
 | nilp=>exact r
 | undef=>simp [bO,aR,aG] at r
 | loc=>simp [bO,aR,aG] at r
 | ip=>simp [bO,aR,aG] at r
 | fn=>simp [bO,aR,aG] at r
 | tup=>simp [bO,aR,aG] at r
 | aggR=>simp [bO,aR,aG] at r
 | mapv=>simp [bO,aR,aG] at r
def vM(a:∀ b o,Z.S b o->eo.S b o/\eo.w.cell? ⟨b,o,none⟩=Z.w.cell? ⟨b,o,none⟩)(h:bD bv=true)(r:aR Z bv I):aR eo bv I:=by
 cases bv with
 | int=>exact r
 | bool=>exact r
 | nilp=>exact r
 | str s =>
  have e:aG Z.S Z.w (.str s) I:=r;exact aG.mono a _ _ e
 | agg l =>
  obtain⟨cs,c,d⟩:∃ cs,I=.agg cs/\aM (aG Z.S Z.w) l cs.toList:=r;exact⟨cs,c,d.mono (aG.mono a)⟩
 | _=>simp [bD,bY] at h
def tC{c c':Cx}(a:∀ b o,c.S b o->c'.S b o/\c'.w.cell? ⟨b,o,none⟩=c.w.cell? ⟨b,o,none⟩):∀ {l:LL} {es:List MapEntry},eF c l es->eF c' l es
 | [],[],_=>trivial
 | [k,v]::l,e::es,r=>by
  simp only[eF] at r ⊢;exact⟨r.1,r.2.1,vM a r.1 r.2.2.1,vM a r.2.1 r.2.2.2.1,tC a r.2.2.2.2⟩
 | [],_::_,r=>by simp [eF] at r
 | []::_,_,r=>by simp [eF] at r
 | [_]::_,_,r=>by simp [eF] at r
 | (_::_::_::_)::_,_,r=>by simp [eF] at r
 | [_,_]::_,[],r=>by simp [eF] at r
def Q1(a3:P.follows .mixedOrders=true)(hG:fK P G)(L:jF P Y eq=true){bd bw:LL}(h:O9 n G eq bh bd=some (bv,bw)):
  vO P Y/\fB P Y bh bd bv bw:=by
 unfold jF at L
 split at L
 case h_2=>cases L
 rename_i fn a0;simp only[ir,jo] at L;obtain⟨⟨⟨B,b9⟩,a5⟩,av⟩:=L
 split at B
 case h_2=>cases B
 rename_i C hC;refine⟨⟨fn,a0,by rw[hC];rfl,by simpa using av⟩,?_⟩;intro kd β bs S0 O0 w vs ab J;obtain⟨⟨e1,e2⟩,e3,e4,e5,e6⟩:=ab;unfold O9 at h
 split at h
 case isFalse=>cases h
 rename_i b5;have cv:vs.size=eq.nargs:=by have:=J.length;simp at this;omega
 let E:Env:={ w0:=w,S0:=S0,β0:=β,bs0:=bs,O0:=O0,D0:=λj=>match bd[j]? with | some c=>gZ c | none=>false,n0:=bd.length,nt:=fn.ntmps }
 let g:Gh:={ β:=β,bs:=bs,lam:=λ_=>0,kd:=kd }
 have br:∀ b m,S0 b m->SS E g w b m:=λb m F=>.inl ⟨(e3 b m F).1,F⟩
 have R:Cx.le (cx0 β bs S0 w bd.length) (cx E g (nK bh bd) w):=⟨λb m F=>⟨br b m F,rfl⟩,ji _,λ_ _=>rfl,λ_ _=>rfl,λs hs=>hs.elim⟩
 have a7:Sim E g (nK bh bd) { tmps:=vs++Array.replicate (fn.ntmps-vs.size) undef,defers:=[] } w:=by
  refine { size:=by show (vs++Array.replicate (fn.ntmps-vs.size) undef).size=fn.ntmps;simp;omega,defers:=rfl,slots:=?_,shr:=?_,shr0:=λ_ _=>⟨rfl,rfl⟩,shr1:=?_,dd:=?_,shrlt:=λi hi=>(e2 i hi).1,shrk:=λi hi=>(e2 i hi).2,loc:=λs c hc=>by simp [nK] at hc,n0:=ji _,s0:=e3,o0:=e4,own0:=?_,os:=rfl,tape:=rfl,output:=rfl,hsize:=ji _,frame:=λ_ _ _ _=>rfl,sframe:=λ_ _ _=>rfl,gl:=e6 }
  ·intro t
   have h1:=I5 J (n:=fn.ntmps-vs.size) t;exact aV.mono R _ _ (λ_ _ _ h=>h.elim) h1
  ·intro i cells hi hd
   obtain⟨f1,f2⟩:=e1 i cells hi hd;exact⟨f1,f2.mono R rfl (λ_ _ _ _ _ h=>h)⟩
  ·intro i hi hn
   have hi':i<bd.length:=hi;have b7:bd.length<=i:=hn;omega
  ·intro i hi hd
   have hi':i<bd.length:=hi;have ag:(match bd[i]? with | some c=>gZ c | none=>false)=true:=hd;show bd[i]?=some aO;rw[ii hi'] at ag ⊢;rw[lA.1 ag]
  ·intro b t k K
   rcases aa7 b w.heap.size with hb | hb
   ·exact .inr (e5 b t k K hb)
   ·exact .inl hb
 unfold yA at h
 split at h
 ·cases h
 ·rename_i e σ hx bg
  split at h
  case h_2=>cases h
  rename_i xs b4;unfold pL at h
  split at h
  case isFalse=>cases h
  rename_i H;obtain⟨H,V⟩:=H;simp only[jc,jg] at h;obtain⟨hr,T⟩:=h;refine calls_of_wp a0 hC (eJ a3 hG n C eq.body _ σ e _ w _ B bg ⟨g,a7⟩ ?_)
  rintro a1 D ⟨f,a⟩
  have b8:bd.length<=σ.sh.length:=a.n0;have p:bw.length=if eq.keep then σ.sh.length else bd.length:=by
   rw[<- T];split
   ·rfl
   ·simp;omega
  have a6:bw.length<=σ.sh.length/\bd.length<=bw.length:=by
   rw[p];split<;>omega
  have r:∀ (i:Nat),i<bw.length->bw[i]?=σ.sh[i]?:=by
   intro i hi;rw[<- T] at hi ⊢;split
   ·rfl
   ·rename_i K
    rw[ie K] at hi;rw[mx (by simp at hi;omega)]
  have a8:∀ i,i<E.n0->E.β0 i<E.w0.heap.size:=λi hi=>(e2 i hi).1
  have hD:∀ (j:Nat) (x:List AV),bd[j]?=some x->gZ x=true->E.D0 j=true:=by
   intro j x hj hx;show (match bd[j]? with | some c=>gZ c | none=>false)=true;rw[hj];exact hx
  obtain⟨us,b3,d,ap⟩:=mP a (sh0:=bd) (k:=eq.keep) (n:=bw.length) p rfl a8 hD a5 b4 H;have S:=xH (cn:=fn) b3;have X:∀ b m,SS E f D b m->S1 S0 w D (kdF f.kd f.β bw.length) b m:=SS.out a;have Q:∃ v kd' β' bs',Ending.returned (UL us)=Ending.returned v/\After S0 O0 β bs w bd bw bv v kd' β' bs' D:=by
   refine⟨_,kdF f.kd f.β bw.length,f.β,f.bs,rfl,?_⟩
   refine { same:=λi hi=>a.shr0 i hi,len:=a6.2,shok:=⟨λi cells hi hd=>?_,λi hi=>?_⟩,rep:=?_,os:=a.os,tape:=a.tape,output:=a.output,size:=a.hsize,frame:=λb hb b0 ho=>a.frame b hb b0 ho,sframe:=λb o F=>a.sframe b o F,o0:=λb k K=>?_,own0:=λb t k K=>a.own0 b t k (n9.1 K),new:=λi h1 h2=>?_,deads:=λi hi=>?_ }
   ·have O:=(jh.1 hi).1
    have hi':σ.sh[i]?=some cells:=by rw[<- r i O];exact hi
    obtain⟨f1,f2,f3⟩:=a.shr i cells hi' hd;refine⟨by rw[yQ O];exact f1,?_⟩;have a4:∀ j z v m,d9 f.kd D (.cell i j) v z m->d9 (kdF f.kd f.β bw.length) D (.cell i j) v z m:=by
     rintro j z v m ⟨A,c,N,M⟩
     refine⟨A,c,N,?_⟩;rcases M with M | ⟨b,ar,tt,q3,q4,q5,q6⟩
     ·exact .inl M
     ·exact .inr ⟨b,ar,tt,q3,q4,q5,n9.2 q6⟩
    refine⟨λbo=>?_,?_⟩
    ·obtain⟨a9,ty,fz,N,M,q3,q4⟩:=f2 bo
     refine⟨a9,ty,fz,N,M,q3,λj x hx=>?_⟩;obtain⟨v,q5,q6⟩:=q4 j x hx;refine⟨v,q5,?_⟩;by_cases K:eq.keep=true
     ·have a2:bw.length=σ.sh.length:=by rw[p,iw K]
      have q7:=(pZ (Z:=cx E f σ D)).2 q6;refine bO.mono (c:=(cx E f σ D).noloc) (c':=cx0 f.β f.bs (S1 S0 w D (kdF f.kd f.β bw.length)) D bw.length) ⟨λb m F=>⟨X b m F,rfl⟩,by show σ.sh.length<=bw.length;omega,λ_ _=>rfl,λ_ _=>rfl,λs hs=>hs.elim⟩ _ _ (λz l _=>a4 _ _ _ _) q7
     ·have I:((σ.sh.take bd.length).all λc=>c.all (fP bd.length))=true:=by
       rcases V with U | U
       ·exact absurd U K
       ·exact U
      have a2:bw.length=bd.length:=by rw[p,ie K]
      refine n8 (Z:=cx E f σ D) (n:=bd.length) (λb m F=>⟨X b m F,rfl⟩) rfl rfl a2 ?_ (λz l _=>a4 _ _ _ _) q6;rw[kx] at I;have h8:=I cells (ns.2 ⟨i,by rw[mx (by omega)];exact hi'⟩);rw[kx] at h8;exact h8 x (ns.2 ⟨j,hx⟩)
    ·unfold p9 at f3 ⊢
     split
     ·obtain⟨es,cl,N,M⟩:=f3
      exact⟨es,cl,N,tC (c:=cx E f σ D) (c':=cx0 f.β f.bs (S1 S0 w D (kdF f.kd f.β bw.length)) D bw.length) (λb m F=>⟨X b m F,rfl⟩) M⟩
     ·trivial
   ·obtain⟨j,hj⟩:=a.shrk i (by omega)
    exact⟨a.shrlt i (by omega),j,by rw[yQ hi];exact hj⟩
   ·rw[<- hr]
    match xs,us,d,ap with
    | [x],[v],d,ap=>exact aR.topT (ap x (by simp)) d.1
    | [],[],d,_=>exact⟨#[],rfl,trivial⟩
    | x::y::xs,v::u::us,d,_=>exact⟨(v::u::us).toArray,rfl,d⟩
    | [],_::_,d,_=>simp [aM] at d
    | _::_,[],d,_=>simp [aM] at d
    | [_],_::_::_,d,_=>simp [aM] at d
    | _::_::_,[_],d,_=>simp [aM] at d
   ·obtain⟨_,_,t,k',N,M⟩:=a.o0 b k K
    exact⟨t,k',n9.2 N,M⟩
   ·rcases a.shr1 i (by omega) h1 with q | ⟨j,N,M,q3,q4⟩
    ·exact .inl q
    ·have b6:j<bd.length:=N
     refine .inr ⟨j,N,M,λbb=>?_,?_⟩
     ·have:=hD j _ bb (lA.2 rfl)
      rw[q3] at this;cases this
     ·rw[r j (by omega)];exact q4
   ·have O:=(jh.1 hi).1
    rw[r i (by omega)];exact a.dd i O (hD i _ hi (lA.2 rfl))
  cases e with
  | norm=>exact⟨a.defers,_,S,Q⟩
  | ret=>exact⟨a.defers,_,S,Q⟩
  | ex i=>exact (hx i rfl).elim
 ·cases h
def iM(a:P.follows .mixedOrders=true){B:aP}(b:fK P B){T:FuncId->Option AFun}(c:∀ f F,T f=some F->jF P f F=true):∀ n,fK P (oB B T n)
 | 0=>b
 | n+1=>by
  intro f args sh r sh' h;simp only[oB] at h
  split at h
  ·rename_i x e
   simp only[jc] at h;subst h;exact b f args sh r sh' e
  ·split at h
   ·rename_i F d
    exact .inl (Q1 a (iM a b c n) (c f F d) h)
   ·cases h
end
open Classical in
noncomputable def lim{α:Type}(u:Nat->Option α):Option α:=if h:∃ x n,∀ m,n<=m->u m=some x then some h.choose else none
def eW{ce:Type}{u:Nat->Option ce}{x:ce}:lim u=some x↔∃ n,∀ m,n<=m->u m=some x:=by
 unfold lim;constructor
 ·intro h
  split at h
  ·rename_i a
   injection h with h
   rw[<- h];exact a.choose_spec
  ·cases h
 ·rintro ⟨n,d⟩
  have a:∃ x n,∀ m,n<=m->u m=some x:=⟨x,n,d⟩
  rw[dif_pos a];obtain⟨n',b⟩:=a.choose_spec;have c:=b (max n n') (by omega);rw[d (max n n') (by omega)] at c;exact c.symm
noncomputable def AN(f:AS->Option (AX×AS))(σ:AS):Option (AX×AS):=lim λn=>gM f n σ
theorem AM(f:AS->Option (AX×AS))(σ:AS):AN f σ=match f σ with
  | some (.norm,σ')=>AN f σ'
  | r=>r:=by
 unfold AN;cases h:f σ with
 | none =>
  show lim _=none;cases b:lim λn=>gM f n σ with
  | none=>rfl
  | some x =>
   obtain⟨n,a⟩:=eW.1 b
   have:=a (n+1) (by omega)
   simp only[gM,h] at this;cases this
 | some r =>
  obtain⟨e,σ'⟩:=r
  cases e with
  | norm =>
   show lim _=lim _;cases b:lim λn=>gM f n σ' with
   | some x =>
    obtain⟨n,a⟩:=eW.1 b;refine eW.2 ⟨n+1,λm d=>?_⟩;obtain⟨m',rfl⟩:∃ m',m=m'+1:=⟨m-1,by omega⟩
    simp only[gM,h];exact a m' (by omega)
   | none =>
    cases c:lim λn=>gM f n σ with
    | none=>rfl
    | some x =>
     obtain⟨n,a⟩:=eW.1 c
     have:lim (λn=>gM f n σ')=some x:=eW.2 ⟨n,λm d=>by
      have:=a (m+1) (by omega)
      simp only[gM,h] at this
      exact this⟩
     rw[b] at this;cases this
  | ex i =>
   refine eW.2 ⟨1,λm d=>?_⟩;obtain⟨m',rfl⟩:∃ m',m=m'+1:=⟨m-1,by omega⟩
   simp only[gM,h]
  | ret =>
   refine eW.2 ⟨1,λm d=>?_⟩;obtain⟨m',rfl⟩:∃ m',m=m'+1:=⟨m-1,by omega⟩
   simp only[gM,h]
noncomputable def aC(G:aP):ACode->AS->Option (AX×AS)
 | .skip,σ=>some (.norm,σ)
 | .reg _ al ops kill,σ=>(dF G ops (scrub al σ)).map λσ'=>(.norm,forget kill σ')
 | .seq a b,σ=>match aC G a σ with
  | some (.norm,σ')=>aC G b σ'
  | r=>r
 | .cond c a b,σ=>match ev σ.fr c with
  | .bool t=>if t then aC G a σ else aC G b σ
  | _=>none
 | .block id a,σ=>match aC G a σ with
  | some (.ex i,σ')=>if i=id then some (.norm,σ') else some (.ex i,σ')
  | r=>r
 | .loop kill a,σ=>AN (λσ=>aC G a (forget kill σ)) σ
 | .exit id,σ=>some (.ex id,σ)
 | .ret,σ=>some (.ret,σ)
noncomputable def O8(G:aP)(F:AFun)(args:List AV)(sh:LL):Option (AV×LL):=
 if args.length=F.nargs then yA F sh (aC G F.body (nK args sh)) else none
section
variable{B:aP}{T:FuncId->Option AFun}
noncomputable def Gx(B:aP)(T:FuncId->Option AFun):aP:=λf args sh=>lim λn=>oB B T n f args sh
def Cm{cf:ML}{ez:AK}{dy:MV}{r:AV×MV}(h:kf (Gx B T) j cf ez bh dy=some r):∃ n,∀ i,n<=i->kf (oB B T i) j cf ez bh dy=some r:=by
 have a:∀ {f:FuncId} {c:List AV},nS (Gx B T) cf f c dy=some r->∃ n,∀ i,n<=i->nS (oB B T i) cf f c dy=some r:=by
  intro f c h;unfold nS at h ⊢
  cases cf with
  | lo s=>cases h
  | sh =>
   simp only at h ⊢
   split at h
   ·rename_i g
    obtain⟨y,d,e⟩:=jf.1 h;obtain⟨n,k⟩:=eW.1 d;refine⟨n,λi hi=>?_⟩;rw[iw g,k i hi];exact pz some e
   ·cases h
  | none =>
   simp only at h ⊢
   split at h
   ·rename_i g
    obtain⟨y,d,e⟩:=jj.1 h;obtain⟨n,k⟩:=eW.1 d;refine⟨n,λi hi=>?_⟩;rw[iw g,k i hi];exact e
   ·cases h
 have b:∀ {f:FuncId} {c:List AV},jO (Gx B T) cf f c dy=some r->∃ n,∀ i,n<=i->jO (oB B T i) cf f c dy=some r:=by
  intro f c h;unfold jO at h ⊢
  cases cf with
  | lo s=>cases h
  | none=>cases h
  | sh =>
   simp only at h ⊢;obtain⟨m,l,h⟩:=jj.1 h;rw[l];simp only[jk]
   split at h
   ·rename_i g
    obtain⟨y,d,e⟩:=jj.1 h;obtain⟨n,k⟩:=eW.1 d;refine⟨n,λi hi=>?_⟩;rw[iw g,k i hi];exact e
   ·cases h
 cases ez
 case call f=>exact a h
 case callR f=>exact b h
 case callv =>
  simp only[kf,A4] at h ⊢
  split at h
  ·exact a h
  ·cases h
 all_goals exact⟨0,λi _=>h⟩
def SW(h:cM (Gx B T) ct X=some fb):∃ n,∀ i,n<=i->cM (oB B T i) ct X=some fb:=by
 unfold cM at h ⊢;cases hg:fY X.fr ct.guard with
 | none=>rw[hg] at h;cases h
 | some b =>
  rw[hg] at h
  cases b with
  | false=>exact⟨0,λi _=>h⟩
  | true =>
   simp only at h ⊢;cases a:kf (Gx B T) (ct.dst.getD 0) ct.ml ct.k (ct.args.map (ev X.fr)) (rdm X ct.ml) with
   | none=>rw[a] at h;cases h
   | some r =>
    rw[a] at h;obtain⟨n,c⟩:=Cm a;refine⟨n,λi hi=>?_⟩;rw[c i hi];exact h
def MX:∀ {os:List AOper} {σ σ':AS},dF (Gx B T) os σ=some σ'->∃ n,∀ i,n<=i->dF (oB B T i) os σ=some σ'
 | [],σ,σ',h=>⟨0,λi _=>h⟩
 | o::os,σ,σ',h=>by
  simp only[dF] at h ⊢;obtain⟨σ1,c,d⟩:=jj.1 h;obtain⟨e,a⟩:=SW c;obtain⟨f,b⟩:=MX d;refine⟨max e f,λi hi=>?_⟩;rw[a i (by omega)];exact b i (by omega)
def gC:∀ (c:ACode) (σ:AS) (r:AX×AS),aC (Gx B T) c σ=some r->∃ n,∀ i,n<=i->eY i (oB B T i) c σ=some r
 | .skip,σ,r,h=>⟨0,λi _=>h⟩
 | .exit _,σ,r,h=>⟨0,λi _=>h⟩
 | .ret,σ,r,h=>⟨0,λi _=>h⟩
 | .reg _ al ops kill,σ,r,h=>by
  simp only[aC,eY] at h ⊢;obtain⟨σ1,g,v⟩:=jf.1 h;obtain⟨n,s⟩:=MX g;refine⟨n,λi hi=>?_⟩;rw[s i hi];exact pz some v
 | .cond c a b,σ,r,h=>by
  simp only[aC,eY] at h ⊢
  split at h
  ·rename_i t w
   rw[w]
   cases t with
   | true=>exact gC a σ r h
   | false=>exact gC b σ r h
  ·cases h
 | .seq a b,σ,r,h=>by
  simp only[aC,eY] at h ⊢;cases g:aC (Gx B T) a σ with
  | none=>rw[g] at h;cases h
  | some q =>
   obtain⟨o,d⟩:=gC a σ q g;rw[g] at h;obtain⟨e,σ1⟩:=q
   cases e with
   | norm =>
    obtain⟨p,l⟩:=gC b σ1 r h;refine⟨max o p,λi hi=>?_⟩;rw[d i (by omega)];exact l i (by omega)
   | ex j=>exact⟨o,λi hi=>by rw[d i hi];exact h⟩
   | ret=>exact⟨o,λi hi=>by rw[d i hi];exact h⟩
 | .block id a,σ,r,h=>by
  simp only[aC,eY] at h ⊢;cases g:aC (Gx B T) a σ with
  | none=>rw[g] at h;cases h
  | some q =>
   obtain⟨o,d⟩:=gC a σ q g;rw[g] at h;exact⟨o,λi hi=>by rw[d i hi];exact h⟩
 | .loop kill a,σ,r,h=>by
  simp only[aC,eY] at h ⊢;obtain⟨n,s⟩:=eW.1 h;have key:∀ m σ r,gM (λσ=>aC (Gx B T) a (forget kill σ)) m σ=some r->∃ n,∀ i,n<=i->gM (λσ=>eY i (oB B T i) a (forget kill σ)) m σ=some r:=by
   intro m
   induction m with
   | zero=>intro σ r h;simp [gM] at h
   | succ m u =>
    intro σ r h;simp only[gM] at h ⊢;cases g:aC (Gx B T) a (forget kill σ) with
    | none=>rw[g] at h;cases h
    | some q =>
     obtain⟨o,d⟩:=gC a _ q g;rw[g] at h;obtain⟨e,σ1⟩:=q
     cases e with
     | norm =>
      obtain⟨p,l⟩:=u σ1 r h;refine⟨max o p,λi hi=>?_⟩;rw[d i (by omega)];exact l i (by omega)
     | ex j=>exact⟨o,λi hi=>by rw[d i hi];exact h⟩
     | ret=>exact⟨o,λi hi=>by rw[d i hi];exact h⟩
  have mono:∀ (f:AS->Option (AX×AS)) m σ r,gM f m σ=some r->∀ m',m<=m'->gM f m' σ=some r:=by
   intro f m
   induction m with
   | zero=>intro σ r h;simp [gM] at h
   | succ m u =>
    intro σ r h m' x;obtain⟨m',rfl⟩:∃ k,m'=k+1:=⟨m'-1,by omega⟩
    simp only[gM] at h ⊢;cases g:f σ with
    | none=>rw[g] at h;cases h
    | some q =>
     rw[g] at h;obtain⟨e,σ1⟩:=q
     cases e with
     | norm=>exact u σ1 r h m' (by omega)
     | ex j=>exact h
     | ret=>exact h
  obtain⟨p,l⟩:=key n σ r (s n (ji _));exact⟨max n p,λi hi=>mono _ n σ r (l i (by omega)) i (by omega)⟩
def Tn(e:B Y bh c=none)(f:T Y=some eq)(h:O8 (Gx B T) eq bh c=some gi):Gx B T Y bh c=some gi:=by
 unfold O8 at h
 split at h
 ·rename_i a
  have d:∃ q,aC (Gx B T) eq.body (nK bh c)=some q:=by
   cases b:aC (Gx B T) eq.body (nK bh c) with
   | none=>rw[b] at h;cases h
   | some q=>exact⟨q,rfl⟩
  obtain⟨q,b⟩:=d;obtain⟨n,g⟩:=gC _ _ _ b;refine eW.2 ⟨n+1,λm i=>?_⟩;obtain⟨m',rfl⟩:∃ k,m=k+1:=⟨m-1,by omega⟩
  simp only[oB,e,f];unfold O9;rw[iw a,g m' (by omega),<- b];exact h
 ·cases h
def f9(a:B Y bh c=some gi):Gx B T Y bh c=some gi:=
 eW.2 ⟨0,λm _=>by
  cases m with
  | zero=>exact a
  | succ m=>simp only[oB,a]⟩
def vV(a:eb.follows .mixedOrders=true)(b:fK eb B)(c:∀ f F,T f=some F->jF eb f F=true):fK eb (Gx B T):=by
 intro f args sh r sh' h;obtain⟨n,d⟩:=eW.1 h;exact iM a b c n f args sh r sh' (d n (ji _))
end
end Go.Av
namespace Go.Av
variable{X:AS}{dy:MV}{f:List AV}{h:AV}{n:Nat}{r:List Nat}
def aF{α:Type}(d:α):List (Nat×α)->Nat->α
 | [],_=>d
 | (k,v)::r,t=>if t=k then v else aF d r t
def fL{α:Type}:List (Nat×α)->Nat->α->List (Nat×α)
 | [],k,v=>[(k,v)]
 | (k',a)::r,k,v=>if k=k' then (k,v)::r else if k<k' then (k,v)::(k',a)::r else (k',a)::fL r k v
def jM{α:Type}(d:α)(k:Nat)(v:α)(t:Nat):∀ l,aF d (fL l k v) t=if t=k then v else aF d l t
 | []=>rfl
 | (k',b)::r=>by
  simp only[fL];split
  ·rename_i h
   subst h;simp only[aF]
   split<;>rfl
  ·rename_i h
   split
   ·simp only[aF]
   ·simp only[aF]
    rw[jM d k v t r];by_cases a:t=k'
    ·subst a
     rw[iw rfl,iw rfl,ie (λe=>h e.symm)]
    ·rw[ie a,ie a]
def jW{ce:Type}(d:ce)(l:List (Nat×ce))(v:ce):upd (aF d l) n v=aF d (fL l n v):=by
 funext t
 rw[jM];rfl
def lO(kill:List Nat):List (Nat×AV)->List (Nat×AV)
 | []=>[]
 | (k,v)::r=>if k∈kill then lO kill r else (k,cA kill v)::lO kill r
def kD{α:Type}(kill:List Nat):List (Nat×α)->List (Nat×α)
 | []=>[]
 | (k,v)::r=>if k∈kill then kD kill r else (k,v)::kD kill r
def D8(al:List Nat):List (Nat×AV)->List (Nat×AV)
 | []=>[]
 | (k,v)::r=>(k,cA al v)::D8 al r
def iR(kill:List Nat)(t:Nat):∀ l,aF .any (lO kill l) t=if t∈kill then .any else cA kill (aF .any l t)
 | []=>by simp [lO,aF,cA]
 | (k,v)::r=>by
  simp only[lO];by_cases a:k∈kill
  ·rw[iw a,iR kill t r]
   by_cases b:t∈kill
   ·simp [b]
   ·have:t≠k:=by rintro rfl;exact b a
    simp [b,aF,this]
  ·rw[ie a]
   simp only[aF];rw[iR kill t r];by_cases h:t=k
   ·subst h;simp [a]
   ·simp [h]
def HW(al:List Nat)(t:Nat):∀ l,aF .any (D8 al l) t=cA al (aF .any l t)
 | []=>by simp [D8,aF,cA]
 | (k,v)::r=>by
  simp only[D8,aF];split
  ·rfl
  ·exact HW al t r
def qO{α:Type}(kill:List Nat)(t:Nat):∀ l:List (Nat×Option α),aF none (kD kill l) t=if t∈kill then none else aF none l t
 | []=>by simp [kD,aF]
 | (k,v)::r=>by
  simp only[kD];by_cases a:k∈kill
  ·rw[iw a,qO kill t r]
   by_cases b:t∈kill
   ·simp [b]
   ·have:t≠k:=by rintro rfl;exact b a
    simp [b,aF,this]
  ·rw[ie a]
   simp only[aF];rw[qO kill t r];by_cases h:t=k
   ·subst h;simp [a]
   ·simp [h]
def ST(l:List (Nat×AV))(m:List (Nat×Option (List AV)))(sh:LL):AS:={ fr:=aF .any l,lo:=aF none m,sh:=sh }
variable{l:List (Nat×AV)}{m:List (Nat×Option (List AV))}{sh:LL}
theorem yh:(ST l m sh).fr n=aF .any l n:=rfl
theorem mU:(ST l m sh).fr=aF .any l:=rfl
def wQ:forget r (ST l m sh)=ST (lO r l) (kD r m) sh:=by
 unfold forget ST;simp only[AS.mk.injEq,aa9];exact⟨by funext t;rw[iR],by funext t;rw[qO]⟩
def TL:scrub r (ST l m sh)=ST (D8 r l) (kD r m) sh:=by
 unfold scrub ST;simp only[AS.mk.injEq,aa9];exact⟨by funext t;rw[HW],by funext t;rw[qO]⟩
def CK:scrub [] X=X:=by
 unfold scrub;have a:(λt=>cA [] (X.fr t))=X.fr:=by
  funext t
  cases X.fr t<;>simp [cA]
 have b:(λs=>if s∈([]:List Nat) then none else X.lo s)=X.lo:=by funext s;simp
 rw[a,b]
def iK:put (ST l m sh) (some n) h=ST (fL l n h) m sh:=by
 unfold put ST;simp only[jW]
theorem T6:put X none h=X:=rfl
def FG:dT (ST l m sh) (some n)=ST (fL l n (aJ (aF .any l n))) m sh:=by
 unfold dT ST;simp only[jW]
theorem nP:dT X none=X:=rfl
def JY:wrm (ST l m sh) dy (.lo n)=ST l (fL m n dy.1) sh:=by
 unfold wrm ST;simp only[jW]
theorem RW:wrm (ST l m sh) dy .sh=ST l m dy.2:=rfl
theorem KN:rdm (ST l m sh) (.lo n)=(aF none m n,[]):=rfl
theorem lH:rdm (ST l m sh) .sh=(none,sh):=rfl
def sZ:Nat->List AV->List (Nat×AV)
 | _,[]=>[]
 | k,a::as=>(k,a)::sZ (k+1) as
def QU:∀ k,aF .any (sZ k f) n=if n<k then .any else (f[n-k]?).getD .any:=by
 induction f with
 | nil=>intro k;simp [sZ,aF]
 | cons a as c =>
  intro k;simp only[sZ,aF];rw[c];by_cases h:n=k
  ·subst h;simp
  ·rw[ie h]
   by_cases b:n<k
   ·rw[iw (by omega),iw b]
   ·rw[ie (by omega),ie b]
    have:n-k=(n-(k+1))+1:=by omega
    rw[this];simp
def uX(c:LL):nK f c=ST (sZ 0 f) [] c:=by
 unfold nK ST;simp only[AS.mk.injEq,aa9];refine⟨?_,by funext s;rfl⟩
 funext t
 rw[QU];simp
end Go.Av
