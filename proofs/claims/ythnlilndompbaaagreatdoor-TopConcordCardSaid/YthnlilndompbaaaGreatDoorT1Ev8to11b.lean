/- A part of the frame. No conditions. -/
import Derived.Test.YthnlilndompbaaaGreatDoorT1Ev4to7
import Derived.Laws.CopyRow
open List
set_option linter.all false
set_option maxRecDepth 100000
set_option maxHeartbeats 16000000
def jj:=@Option.bind_eq_some_iff
def ky:=@List.getElem?_append_right
def lv:=@Nat.zero_le
def pz:=@congrArg
def yv:=@Array.getElem?_append_left
def ac9:=@Array.size_append
def af6:=@List.drop_left'
def af7:=@List.all_append
def ag1:=@Array.ext'
def ag2:=@List.size_toArray
def ag6:=@Array.toList_map
theorem ag7:type_of% @List.flatten_cons:=rfl
def ai0:=@Go.grownCap_ge
def ai1:=@Nat.mul_pos
def ai9:=@Iff.rfl
def aj0:=@List.drop_take
def aj1:=@List.take_left'
def aj6:=@Nat.eq_zero_or_pos
def al7:=@Go.size_zeroCells
def al9:=@List.getElem?_range
def am5:=@Array.getElem?_map
namespace Go.Av
variable{C:AR}{D:Int}{I:Value}{J bj bx ib:TypeId}{M:Operand}{O:IntKind}{R j n q:Nat}{U d:Bool}{Y:FuncId}{Z:Cx}{bd:LL}{bh f zero:List AV}{bk:Array Value}{bp:TypeInfo}{bq:List AR}{bv h:AV}{cd gz:List Value}{cf:ML}{ck:List (Nat×Nat)}{code:BoundsCode}{di:Nat->BK}{dj:Option Nat}{dq:Value->Nat->Nat->Prop}{du:Nat->Nat->Prop}{dx fy:Nat->Nat}{dy:MV}{ea:TypeDesc}{eh io:Option AV}{ei:Option Addr}{first gn:Array Operand}{fw:Nat->Value->Nat->Nat->Prop}{gh:Array (Nat×Operand)}{gj:AV->Value->Prop}{gw:Array TypeId}{hi lo:Option Operand}{hi' lo':Option Value}
variable [Gtab]
open Go.RowKit
section
variable{P:Program}{E:Env}{g g':Gh}{σ σ1:AS}{a:Act}{w w':World}{o:Oper}{Q:Exit->Act->World->Prop}
def aM.of_get{R:AV->Value->Prop}:∀ {l:List AV} {vs:List Value},l.length=vs.length->(∀ (j:Nat) (x:AV) (v:Value),l[j]?=some x->vs[j]?=some v->R x v)->aM R l vs
 | [],[],_,_=>trivial
 | x::l,v::vs,h,a=>⟨a 0 x v rfl rfl,aM.of_get (by simpa using h) λj y u c b=>a (j+1) y u (by simpa using c) (by simpa using b)⟩
 | [],_::_,h,_=>by simp at h
 | _::_,[],h,_=>by simp at h
def wR(off:Nat):∀ (l:List Value) (j:Nat) (a:Array Value),off+j+l.length<=a.size ->
  ((l.zipIdx j).foldl (λ(cs:Array Value) (p:Value×Nat)=>cs.setIfInBounds (off+p.2) p.1) a).toList=a.toList.take (off+j)++l++a.toList.drop (off+j+l.length)
 | [],j,a,_=>by simp
 | v::l,j,a,h=>by
  simp only[zipIdx_cons,ac6];rw[wR off l (j+1) (a.setIfInBounds (off+j) v) (by simp at h ⊢;omega)];have e:=list_seg_step a.toList (off+j) v l (by simp at h ⊢;omega);simpa [aj8,La] using e
def sO{c:Cx}{pl:Nat->Option (Nat×Nat)}:∀ {b:List (Nat×Operand)} {F:List (Nat×Nat)} {rs:List AR} {xs:List AV} {cells cs:List AV} {a:Array Value} {ρ:Operand->Value},
  sI pl b F=true->xs.length=rs.length->cR (b.map (·.2)) rs=true->(∀ (x:Operand) (r:AR) (i:Nat),okR x r=true->rs[i]?=some r->∃ ow v,xs[i]?=some v/\aV c ow v (ρ x)) ->
  gN cells F xs=some cs->aM (aG c.S c.w) cells a.toList ->
  ∃ arr',Instr.fill pl a (b.map λp=>(p.1,ρ p.2))=some arr'/\aM (aG c.S c.w) cs arr'.toList
 | [],[],rs,xs,cells,cs,a,ρ,_,j,D,_,e,d=>by
  have:=uI D
  subst this
  have:xs=[]:=js (by simpa using j)
  subst this;simp only[gN,jc] at e;subst e;exact⟨a,rfl,d⟩
 | (i,x)::b,q::F,rs,xs,cells,cs,a,ρ,g,j,D,H,e,d=>by
  obtain⟨r,P,rfl,I,J⟩:=uH D;simp only[sI,ir] at g;obtain⟨ow,v,m,E⟩:=H x r 0 I rfl
  match xs,j,m with
  | u::Q,j,m =>
   simp at m;subst m;obtain⟨off,n⟩:=q;simp only[gN] at e
   split at e
   ·rename_i c1 o
    split at e
    ·rename_i c2 A
     obtain⟨G,R⟩:=oJ o E;obtain⟨T,rfl⟩:=mD A;have l:(ρ x).cells.size=n:=by have:=G.length;simp at this;omega
     have M:a.size=cells.length:=by have:=d.length;simpa using this
     have C:pl i=some (off,n):=by simpa using g.1
     have B:=wR off (ρ x).cells.toList 0 a (by simp [l];omega);have h:aM (aG c.S c.w) (cells.take off++c1++cells.drop (off+c1.length)) ((ρ x).cells.zipIdx.foldl (λ(cs:Array Value) (p:Value×Nat)=>cs.setIfInBounds (off+p.2) p.1) a).toList:=by
      have:(ρ x).cells.zipIdx.foldl (λ(cs:Array Value) (p:Value×Nat)=>cs.setIfInBounds (off+p.2) p.1) a=((ρ x).cells.toList.zipIdx 0).foldl (λ(cs:Array Value) (p:Value×Nat)=>cs.setIfInBounds (off+p.2) p.1) a:=by
       rw[<- Array.foldl_toList];simp
      rw[this,B]
      have:=zn (n:=off) d G
      simpa using this
     obtain⟨arr',K,L⟩:=sO (ρ:=ρ) g.2 (by simpa using j) J (λy s k O N=>H y s (k+1) O (by simpa using N)) e h;refine⟨arr',?_,L⟩;have f:((ρ x).cells.size≠n||decide (off+(ρ x).cells.size > a.size))=false:=by
      simp [l];omega
     simp only[ju,Instr.fill,C];rw[ie (by simpa using f)];exact K
    ·cases e
   ·cases e
 | [],_::_,_,_,_,_,_,_,g,_,_,_,_,_=>by simp [sI] at g
 | _::_,[],_,_,_,_,_,_,g,_,_,_,_,_=>by simp [sI] at g
def Sim.argsT(h:Sim E g σ a w)(x:Operand)(r:AR)(i:Nat)(c:okR x r=true)(d:bq[i]?=some r):
  ∃ ow v,(bq.map (ev σ.fr))[i]?=some v/\aV (cx E g σ w) ow v (a.eval x):=by
 obtain⟨ow,b,_⟩:=h.rdT c;exact⟨ow,_,by simp [d],b⟩
def P7(A:Sim E g σ a w)(hd:∀ d,o.dst=some d->d<E.nt)(q:o.op=.build J gh)
  (u:cR (gh.toList.map (·.2)) bq=true)(H:jH P J zero=true)(s:sI (qL P J) gh.toList ck=true)
  (j:(match P.underlying J with
    | some (.array _ e)=>(P.info? e).isSome
    | some (.struct b)=>(b.toList.mapM (λf=>(P.info? f.type).map λi=>(f.offset,i.size))).isSome
    | _=>false)=true)
  (F:gN zero ck (bq.map (ev σ.fr))=some bh):
  o.wp P a w (aS E (put σ o.dst (.agg bh))) Q:=by
 obtain⟨i,M,v,y,B,_⟩:=jG H;obtain⟨h,l,C⟩:=sO (c:=cx E g σ w) (ρ:=a.eval) s (by simp) u (λx r i G u=>A.argsT x r i G u) F (kS B);refine aI A hd (I:=.agg h) ?_ rfl ⟨h,rfl,C⟩;have D:P.built J ((gh.map λp=>(p.1,a.eval p.2)).toList)=some h:=by
  unfold Program.built;rw[ag6];unfold qL at l
  split at j
  ·rename_i e n
   obtain⟨L,m⟩:=we.1 j;simp only[n,m] at l;simp only[v,n,y,m];exact l
  ·rename_i b n
   obtain⟨K,k⟩:=we.1 j;simp only[n,k] at l;simp only[v,n,y,k];exact l
  ·cases j
 have:=run_build w J (gh.map λp=>(p.1,a.eval p.2)) h D
 simp [execOp,q,this]
def ZL{Z:Cx}(a:aM gj f cd)(b:aM gj bh gz):aM gj (f.take n++bh++f.drop (n+bh.length)) (cd.take n++gz++cd.drop (n+gz.length)):=by
 rw[b.length];exact ((a.take n).append b).append (a.drop _)
def xQ{c:Cx}{pl:Nat->Option (Nat×Nat)}:∀ {b:List (Nat×Operand)} {I:List (Nat×Nat)} {rs:List AR} {xs:List AV} {cells cs:List AV} {a:Array Value} {ρ:Operand->Value},
  sI pl b I=true->xs.length=rs.length->cR (b.map (·.2)) rs=true->(∀ (x:Operand) (r:AR) (i:Nat),okR x r=true->rs[i]?=some r->∃ ow v,xs[i]?=some v/\aV c ow v (ρ x)) ->
  oW cells I xs=some cs->aM (bO c aX) cells a.toList ->
  ∃ arr',Instr.fill pl a (b.map λp=>(p.1,ρ p.2))=some arr'/\aM (bO c aX) cs arr'.toList
 | [],[],rs,xs,cells,cs,a,ρ,_,m,F,_,e,d=>by
  have:=uI F
  subst this
  have:xs=[]:=js (by simpa using m)
  subst this;simp only[oW,jc] at e;subst e;exact⟨a,rfl,d⟩
 | (i,x)::b,q::I,rs,xs,cells,cs,a,ρ,g,m,F,J,e,d=>by
  obtain⟨r,V,rfl,K,L⟩:=uH F;simp only[sI,ir] at g;obtain⟨ow,v,w,G⟩:=J x r 0 K rfl
  match xs,m,w with
  | u::X,m,w =>
   simp at w;subst w;obtain⟨off,n⟩:=q;simp only[oW] at e
   split at e
   ·rename_i c1 B
    split at e
    ·rename_i c2 C
     obtain⟨A,l,_,M⟩:=oK B G;obtain⟨Y,rfl⟩:=mD C;have N:aM (bO c aX) c1 (ρ x).cells.toList:=aM.of_get (by simp [A,l]) λj y u H S=>by
      obtain⟨u',T,U⟩:=M j y H
      have:(ρ x).cells[j]?=some u:=by simpa using S
      rw[T] at this;cases this;exact U
     have o:(ρ x).cells.size=n:=l;have Q:a.size=cells.length:=by have:=d.length;simpa using this
     have E:pl i=some (off,n):=by simpa using g.1
     have D:=wR off (ρ x).cells.toList 0 a (by simp [o];omega);have h:aM (bO c aX) (cells.take off++c1++cells.drop (off+c1.length)) ((ρ x).cells.zipIdx.foldl (λ(cs:Array Value) (p:Value×Nat)=>cs.setIfInBounds (off+p.2) p.1) a).toList:=by
      have:(ρ x).cells.zipIdx.foldl (λ(cs:Array Value) (p:Value×Nat)=>cs.setIfInBounds (off+p.2) p.1) a=((ρ x).cells.toList.zipIdx 0).foldl (λ(cs:Array Value) (p:Value×Nat)=>cs.setIfInBounds (off+p.2) p.1) a:=by
       rw[<- Array.foldl_toList];simp
      rw[this,D]
      have:=ZL (Z:=c) (n:=off) d N
      simpa using this
     obtain⟨arr',O,P⟩:=xQ (ρ:=ρ) g.2 (by simpa using m) L (λy s k H R=>J y s (k+1) H (by simpa using R)) e h;refine⟨arr',?_,P⟩;have f:((ρ x).cells.size≠n||decide (off+(ρ x).cells.size > a.size))=false:=by
      simp [o];omega
     simp only[ju,Instr.fill,E];rw[ie (by simpa using f)];exact O
    ·cases e
   ·cases e
 | [],_::_,_,_,_,_,_,_,g,_,_,_,_,_=>by simp [sI] at g
 | _::_,[],_,_,_,_,_,_,g,_,_,_,_,_=>by simp [sI] at g
def J9(A:Sim E g σ a w)(hd:∀ d,o.dst=some d->d<E.nt)(q:o.op=.build J gh)
  (u:cR (gh.toList.map (·.2)) bq=true)(H:qG P J zero=true)(s:sI (qL P J) gh.toList ck=true)
  (j:(match P.underlying J with
    | some (.array _ e)=>(P.info? e).isSome
    | some (.struct b)=>(b.toList.mapM (λf=>(P.info? f.type).map λi=>(f.offset,i.size))).isSome
    | _=>false)=true)
  (F:oW zero ck (bq.map (ev σ.fr))=some bh):
  o.wp P a w (aS E (put σ o.dst (.aggR bh))) Q:=by
 obtain⟨i,M,v,y,B,_⟩:=y8 H;obtain⟨h,l,C⟩:=xQ (c:=cx E g σ w) (ρ:=a.eval) s (by simp) u (λx r i G u=>A.argsT x r i G u) F (uK B);refine aI A hd (I:=.agg h) ?_ rfl ⟨h,rfl,C⟩;have D:P.built J ((gh.map λp=>(p.1,a.eval p.2)).toList)=some h:=by
  unfold Program.built;rw[ag6];unfold qL at l
  split at j
  ·rename_i e n
   obtain⟨L,m⟩:=we.1 j;simp only[n,m] at l;simp only[v,n,y,m];exact l
  ·rename_i b n
   obtain⟨K,k⟩:=we.1 j;simp only[n,k] at l;simp only[v,n,y,k];exact l
  ·cases j
 have:=run_build w J (gh.map λp=>(p.1,a.eval p.2)) h D
 simp [execOp,q,this]
def eG(zero:List AV):∀ n,(bB zero n).length=n*zero.length
 | 0=>by simp [bB]
 | n+1=>by simp [bB,eG zero n,sa,Nat.add_comm]
def o8(zero:List AV):∀ n k,k<n*zero.length->(bB zero n)[k]?=zero[k % zero.length]?
 | 0,k,h=>by simp at h
 | n+1,k,h=>by
  simp only[bB];rw[aa0];split
  ·rename_i a;rw[Nat.mod_eq_of_lt a]
  ·rename_i a
   rw[sa] at h;rw[o8 zero n (k-zero.length) (by omega)]
   congr 1
   rw[Nat.mod_eq_sub_mod (by omega:k ≥ zero.length)]
def iQ(z:Nat):∀ (n:Nat) (cs:List AV),cs.length=n*z->(cP z n cs).flatten=cs/\(∀ e∈cP z n cs,e.length=z)/\(cP z n cs).length=n
 | 0,cs,h=>by
  have:cs=[]:=js (by simpa using h)
  subst this;simp [cP]
 | n+1,cs,h=>by
  have f:(cs.drop z).length=n*z:=by rw[kl,h,sa];omega
  obtain⟨b,c,d⟩:=iQ z n (cs.drop z) f;simp only[cP,ag7,jd];refine⟨by rw[b,ye],?_,by rw[d]⟩;intro e a;rcases la.1 a with rfl | a
  ·rw[tr,h,sa];omega
  ·exact c e a
def PJ{S:Nat->Nat->Prop}{b:Nat}:∀ {l:List AV} {vs:List Value} {o:Nat},aM (aG S w) l vs->(∀ j,j<l.length->S b (o+j))->(∀ j v,vs[j]?=some v->w.cell? ⟨b,o+j,none⟩=some v)->dR S w l b o
 | [],_,_,_,_,_=>by simp [dR]
 | x::l,v::vs,o,h,a,c=>by
  simp only[dR];refine⟨⟨by simpa using a 0 (by simp),v,by simpa using c 0 v rfl,h.1⟩,PJ h.2 (λj d=>?_) (λj u e=>?_)⟩
  ·have:=a (j+1) (by simpa using d)
   rwa [show o+1+j=o+(j+1) from by omega]
  ·have:=c (j+1) u (by simpa using e)
   rwa [show o+1+j=o+(j+1) from by omega]
 | _::_,[],_,h,_,_=>by simp [aM] at h
def nV{S:Nat->Nat->Prop}{b z:Nat}:∀ {l:LL} {vs:List Value} {o:Nat},(∀ e∈l,e.length=z)->aM (aG S w) l.flatten vs->(∀ j,j<l.length*z->S b (o+j))->(∀ j v,vs[j]?=some v->w.cell? ⟨b,o+j,none⟩=some v)->fC S w z l b o
 | [],_,_,_,_,_,_=>by simp [fC]
 | e::l,vs,o,m,h,i,k=>by
  simp only[fC];have a:e.length=z:=m e (by simp);simp only[ag7] at h;have f:=h.take z;have g:=h.drop z;rw[aj1 a] at f;rw[af6 a] at g;refine⟨a,PJ f (λj p=>i j (by simp [sa];omega)) (λj v c=>k j v ?_),nV (vs:=vs.drop z) (λn d=>m n (by simp [d])) g (λj p=>?_) (λj v c=>?_)⟩
  ·rw[Vz] at c
   split at c
   ·exact c
   ·cases c
  ·rw[La];exact i _ (by simp [sa];omega)
  ·rw[tb] at c
   rw[La];exact k _ v c
def qZ{S:Nat->Nat->Prop}{b z:Nat}:∀ {l:LL} {o:Nat},fC S w z l b o->∃ vs:List Value,vs.length=l.length*z/\aM (aG S w) l.flatten vs/\(∀ j v,vs[j]?=some v->w.cell? ⟨b,o+j,none⟩=some v)/\(∀ e∈l,e.length=z)
 | [],_,_=>⟨[],by simp,by simp [aM],by simp,by simp⟩
 | e::l,o,h=>by
  simp only[fC] at h;obtain⟨i,m,n⟩:=h;obtain⟨vs,p,q,r,s⟩:=qZ n;obtain⟨d,f,u⟩:=tD m z;rw[Ty (by omega)] at f;have g:d.length=z:=by rw[f.length];exact i
  refine⟨d++vs,by simp [g,p,sa];omega,by simpa using f.append q,λj v c=>?_,?_⟩
  ·rw[aa0] at c
   split at c
   ·exact u j v c
   ·rename_i x
    have:=r (j-d.length) v c
    rwa [show o+z+(j-d.length)=o+j from by omega] at this
  ·intro k a
   rcases la.1 a with rfl | a
   ·exact i
   ·exact s k a
end
section
variable{P:Program}{E:Env}{g g':Gh}{σ σ1:AS}{a:Act}{w w':World}{o:Oper}{Q:Exit->Act->World->Prop}
def Z1(hs:Sim E g σ a w)(hd:∀ d,o.dst=some d->d<E.nt)(H:o.op=.buildSlice J n gh)
  (Z:cR (gh.toList.map (·.2)) bq=true)(hu:P.underlying J=some (.slice bj))(hz:jH P bj zero=true)(av:aY P bj=some q)(a0:0<q)(F:n*q<=16777216)
  (hf:gN (bB zero n) ((gh.toList.map (·.1)).map λi=>(i*q,q)) (bq.map (ev σ.fr))=some f)(V:f.length=n*q):
  o.wp P a w (aS E (put σ o.dst (.sl .full q (cP q n f)))) Q:=by
 obtain⟨i,m,R,h2,h3,h4⟩:=jG hz;obtain⟨i',B,h5⟩:=dZ av;rw[R] at B;cases B;have e:zero.length=q:=by omega
 have K:=kS (S:=SS E g w) (w:=w) h3;have a1:m.cells.size=q:=by have:=K.length;simp at this;omega
 have y:aM (aG (SS E g w) w) (bB zero n) ((Array.range (n*q)).map (λk=>m.cells[k % m.cells.size]!)).toList:=by
  apply aM.of_get
  ·simp [eG,e]
  ·intro j x v L M
   have D:j<n*q:=by
    have:=(jh.1 L).1
    rw[eG,e] at this;exact this
   rw[o8 _ _ _ (by rw[e];exact D),e] at L;have a2:j % q<q:=Nat.mod_lt _ a0;obtain⟨u,ar,ap⟩:=K.get L;have ab:v=m.cells[j % m.cells.size]!:=by
    simp only[ag6,Array.toList_range,aa5,al9 D,jq,jc] at M;exact M.symm
   have ag:m.cells[j % q]?=some u:=by simpa using ar
   rw[ab,a1]
   have:m.cells[j % q]! = u:=by
    rw[getElem!_def,ag]
   rw[this];exact ap
 have Y:sI (λi=>some (i*q,q)) gh.toList ((gh.toList.map (·.1)).map λi=>(i*q,q))=true:=by
  generalize gh.toList=l
  induction l with
  | nil=>rfl
  | cons p l ih=>simp [sI];simpa using ih
 obtain⟨b,h6,h7⟩:=sO (c:=cx E g σ w) (ρ:=a.eval) Y (by simp) Z (λx r i ho Z=>hs.argsT x r i ho Z) hf y;obtain⟨U,F⟩:=hs.alloc (.cells b bj) .stab;have hm:=F.cell;obtain⟨f1,f2,N⟩:=iQ q n f V;refine cO U (I:=.slice (some ⟨w.heap.size,0,none⟩) n n) ?_ λd X=>⟨hd d X,?_⟩
 ·have hn:¬ (16777216<n*q):=by omega
  have s:Instr.fill (λi=>some (i*q,q)) ((Array.range (n*q)).map (λk=>m.cells[k % m.cells.size]!)) (gh.toList.map λp=>(p.1,a.eval p.2))=some b:=h6;by_cases O:n*q=0
  ·have C:Instr.fill (λi=>some (i*q,q)) #[] (gh.toList.map λp=>(p.1,a.eval p.2))=some b:=by
    have A:Array.range 0=#[]:=rfl;rw[O,A] at s;simpa using s
   have G:n=0:=by
    rcases Nat.mul_eq_zero.1 O with h | h
    ·exact h
    ·omega
   subst G;have A:Array.range 0=#[]:=rfl;simp [execOp,H,Instr.buildSlice,ke hu,sizeOf,typeInfo,R,h5,A,C,newRow]
  ·simp [execOp,H,Instr.buildSlice,ke hu,sizeOf,typeInfo,zeroValue,R,h2,h5,hn,s,newRow]
   intro h;exact absurd h O
 ·show aG _ _ (.sl .full q (cP q n f)) _
  simp only[aG];refine⟨some ⟨w.heap.size,0,none⟩,n,by rw[N],by rw[N];exact ji _,λ_=>N.symm,by simp,.inr ⟨w.heap.size,0,rfl,?_⟩⟩;have T:=h7.mono (aG.mono hm);refine nV (vs:=b.toList) f2 (by rw[f1];exact T) (λj L=>.inr (.inl ⟨hs.hsize,by simp,by simp [upd]⟩)) (λj v M=>?_);simp only[km];show (w.alloc (.cells b bj)).cell? _=_;rw[World.cell?_alloc_new];simpa using M
def uZ:∀ {pl:List (Nat×Nat)} {xs:List AV} {cells cs:List AV},gN cells pl xs=some cs->cs.length=cells.length
 | [],[],_,_,h=>by simp only[gN,jc] at h;rw[h]
 | (off,n)::pl,x::xs,cells,cs,h=>by
  simp only[gN] at h
  split at h
  ·split at h
   ·rename_i c1 b _ c2 a
    obtain⟨c,rfl⟩:=mD a;rw[uZ h]
    simp;omega
   ·cases h
  ·cases h
 | [],_::_,_,_,h=>by simp [gN] at h
 | _::_,[],_,_,h=>by simp [gN] at h
def Z4(j:Sim E g σ a w)(hd:∀ d,o.dst=some d->d<E.nt)(c:o.op=.makeFunc (.func Y) first gn)(k:first.isEmpty=true)
  (h:cR gn.toList bq=true)(f:((bq.map (ev σ.fr)).all (B6 true))=true):
  o.wp P a w (aS E (put σ o.dst (.fn Y (bq.map (ev σ.fr))))) Q:=by
 have e:first=#[]:=by simpa using k
 subst e;refine aI j hd (I:=.func (.func Y) #[] (gn.map a.eval)) ?_ rfl ⟨_,rfl,?_⟩
 ·simp [execOp,c,Instr.makeFunc]
 ·rw[ag6]
  generalize gn.toList=l at h
  clear c
  induction l generalizing bq with
  | nil=>have:=uI h;subst this;exact trivial
  | cons x l q =>
   obtain⟨r,s,rfl,n,p⟩:=uH h;simp only[ju,ad0,ir] at f;refine⟨?_,q f.2 p⟩;have i:=j.ev_ (ow:=aX) n;have b:=f.1;generalize ev σ.fr r=v at i b
   cases v<;>simp [B6,aQ] at b<;>first | exact i | skip
   rename_i m z u
   cases m<;>first | exact i | simp at b
def uP(h:uQ D=some j):0<=D/\D=(j:Int):=by
 unfold uQ at h
 split at h
 ·cases h;omega
 ·cases h
def dH(h:n<=j)(w:World):(Instr.sliceBound (.int O (n:Int)) j code).run P w=.ok n w:=by
 have a:(n:Int)<=j:=by omega
 simp [Instr.sliceBound,asIntOf,a]
def vJ:Option AV->Option Value->Prop
 | none,none=>True
 | some (.int k n),some v=>v=.int k n
 | _,_=>False
def sV(e:vJ eh lo')(c:vJ io hi')(f:cZ eh 0=some R)(g:cZ io n=some j)(h:R<=j)(i:j<=n)(k:n<=q)(w:World):
  (Instr.sliceBounds d n q lo' hi' none).run P w=.ok (R,j,q) w:=by
 have b:∀ code,(match lo' with | some v=>Instr.sliceBound v j code | none=>pure 0).run P w=.ok R w:=by
  intro code;unfold vJ at e
  split at e
  ·simp only[cZ,jc] at f;subst f;rfl
  ·subst e
   obtain⟨_,rfl⟩:=uP f;exact dH h w
  ·exact e.elim
 have a:∀ code,(match hi' with | some v=>Instr.sliceBound v q code | none=>pure n).run P w=.ok j w:=by
  intro code;unfold vJ at c
  split at c
  ·simp only[cZ,jc] at g;subst g;rfl
  ·subst c
   obtain⟨_,rfl⟩:=uP g;exact dH (by omega) w
  ·exact c.elim
 unfold Instr.sliceBounds
 cases lo'<;>cases hi'<;>simp at b a ⊢<;>simp [b,a]
def FP(c:Sim E g σ a w)(d:okR M C=true)(b:ev σ.fr C=.int O D):vJ (some (ev σ.fr C)) (some (a.eval M)):=by
 rw[b,c.rdNat d b];rfl
def pC(B:Sim E g σ a w)(hd:∀ d,o.dst=some d->d<E.nt)(y:o.op=.slice J M lo hi none)(hx:okR M C=true)(D:(∃ e,P.underlying J=some (.slice e)/\U=false/\aY P e=some R)\/(P.underlying J=some .string/\U=true))
  (hl:vJ eh (lo.map a.eval))(hh:vJ io (hi.map a.eval))(f:aZ U R (ev σ.fr C) eh io=some bv):
  o.wp P a w (aS E (put σ o.dst bv)) Q:=by
 unfold aZ at f
 split at f
 ·rename_i m V l O
  rcases D with ⟨e,S,_,hz⟩ | ⟨_,h⟩
  ·split at f
   ·rename_i i j hi1 u
    split at f
    ·rename_i L
     cases f;obtain⟨r,p,F⟩:=L;obtain⟨ag,Z,h2⟩:=dZ hz;obtain⟨A,c,H,G,_,e4⟩:=B.rdSl hx O;have K:=sV (P:=P) (d:=true) hl hh hi1 u r p G w;have v:((l.take j).drop i).length=j-i:=by rw[kl,tr];omega
     refine aI B hd (I:=.slice (if c=i then A else A.map (·.add (i*R))) (j-i) (c-i)) ?_ rfl ?_
     ·simp [execOp,y,H,Instr.sliceAt,Instr.slice,ke S,K,sizeOf,typeInfo,Z,h2]
     ·show aG _ _ (.sl .no R ((l.take j).drop i)) _
      simp only[aG,cx];refine⟨_,_,by rw[v],by rw[v];omega,by simp,by simp,?_⟩;rcases aj6 (j-i) with h0 | h0
      ·exact .inl (js (by omega))
      ·rcases e4 with rfl | ⟨b,k,rfl,e6⟩
       ·simp at p;omega
       ·have T:V=R:=by
         rcases F with h | h
         ·exact h
         ·subst h;simp at p;omega
        subst T
        refine .inr ⟨b,k+i*V,?_,fC.mk λq e Y=>?_⟩
        ·rw[ie (by omega)];simp [dJ]
        ·rw[tb,Vz] at Y
         split at Y
         ·have:=e6.get Y
          rw[sa] at this;rw[La];exact this
         ·cases Y
    ·cases f
   ·cases f
  ·cases h
 ·rename_i so off n V O
  rcases D with ⟨e,S,_,hz⟩ | ⟨_,h⟩
  ·split at f
   ·rename_i i j hi1 u
    split at f
    ·rename_i L
     obtain⟨r,p,F⟩:=L;subst F;obtain⟨ag,Z,h2⟩:=dZ hz;obtain⟨e0,X,H,G,e3⟩:=B.rd hx O;have K:=sV (P:=P) (d:=true) hl hh hi1 u r p G w;have x:(execOp a.eval o).run P w=.ok (.value (.slice (if X=i then some ⟨(cx E g σ w).β so,off,none⟩ else some ⟨(cx E g σ w).β so,off+i*V,none⟩) (j-i) (X-i))) w:=by
      simp [execOp,y,H,Instr.sliceAt,Instr.slice,ke S,K,sizeOf,typeInfo,Z,h2,dJ]
     split at f
     ·rename_i av
      cases f;refine aI B hd x rfl ?_;refine⟨e0,X-i,?_,by omega,MK e3 (by omega)⟩;by_cases N:X=i
      ·have ar:i=0:=by omega
       subst ar;simp [N]
      ·rw[ie N]
     ·rename_i av
      cases f;refine aI B hd x rfl ?_;show aG _ _ (.sl .no V []) _;simp only[aG,jz];refine⟨_,_,by rw[show j-i=0 by omega],by omega,by simp,by simp,.inl trivial⟩
    ·cases f
   ·cases f
  ·cases h
 ·rename_i s O
  rcases D with ⟨_,_,h,_⟩ | ⟨S,_⟩
  ·cases h
  ·split at f
   ·rename_i i j hi1 u
    split at f
    ·rename_i L
     cases f;obtain⟨r,p⟩:=L;obtain⟨b,H,G⟩:=B.rdStr hx O;have ap:b.size=s.length:=by rw[<- G];simp
     have K:=sV (P:=P) (d:=false) hl hh hi1 u r p (ji _) w;refine aI B hd (I:=.string (b.extract i j)) ?_ rfl ⟨_,rfl,?_⟩
     ·simp [execOp,y,H,Instr.sliceAt,Instr.slice,ke S,ap,K]
     ·rw[<- G]
      simp [ByteArray.data_extract,aj0]
    ·cases f
   ·cases f
 ·cases f
end
section
variable{P:Program}{E:Env}{g g':Gh}{σ σ1:AS}{a:Act}{w w':World}{o:Oper}{Q:Exit->Act->World->Prop}
def zN(G:Sim E g σ a w)(r:okR M C=true)(h:jZ d n (ev σ.fr C)=some bd):
  ∃ vs:List Value,vs.length=bd.length*n/\aM (aG (SS E g w) w) bd.flatten vs/\(∀ e∈bd,e.length=n) /\
   (∀ w',(Builtin.lenOf (a.eval M)).run P w'=.ok bd.length w')/\(∀ k,(Builtin.firstCells n bd.length (a.eval M)).run P { w with drawn:=k }=.ok vs.toArray { w with drawn:=k }):=by
 unfold jZ at h
 split at h
 ·rename_i m S l o
  split at h
  ·rename_i D
   cases h;obtain⟨A,c,f,_,_,x⟩:=G.rdSl r o;by_cases F:bd=[]
   ·subst F
    refine⟨[],by simp,by simp [aM],by simp,λw'=>by simp [f,Builtin.lenOf],λk=>?_⟩;rw[f]
    cases A<;>simp [Builtin.firstCells,loadCells,loadCellsFrom]
   ·have L:S=n:=by
     rcases D.2 with h | h
     ·exact h
     ·exact absurd h F
    subst L;rcases x with x | ⟨b,N,rfl,J⟩
    ·exact absurd x F
    ·obtain⟨vs,I,O,Q,R⟩:=qZ J
     refine⟨vs,I,O,R,λw'=>by simp [f,Builtin.lenOf],λk=>?_⟩;have p:=ac3 (P:=P) { w with drawn:=k } ⟨b,N,none⟩ vs (λj v K=>by rw[dJ];exact Q j v K);rw[I] at p;simp [f,Builtin.firstCells,p]
  ·cases h
 ·rename_i s o
  split at h
  ·rename_i D
   cases h;obtain⟨H,rfl⟩:=D;obtain⟨b,f,q⟩:=G.rdStr r o;have i:b.size=s.length:=by rw[<- q];simp
   refine⟨s.map λc=>.int .u8 (c.toNat:Int),by simp [aE],?_,by simp [aE],λw'=>by simp [f,Builtin.lenOf,aE,i],λk=>?_⟩
   ·have:(aE s).flatten=s.map λc=>AV.int .u8 (c.toNat:Int):=by
     unfold aE
     clear q o r i
     induction s with
     | nil=>rfl
     | cons c s u=>simp at u ⊢;exact u
    rw[this]
    clear q o r i this
    induction s with
    | nil=>trivial
    | cons c s u=>exact⟨rfl,u⟩
   ·have B:(aE s).length=s.length:=by simp [aE]
    have y:b.data=s.toArray:=by rw[<- q]
    simp [f,Builtin.firstCells,B,y]
  ·cases h
 ·cases h
def AW(i:n=bd.length)(h:bd=[]\/∃ b k,ei=some ⟨b,k,none⟩/\fC du w R bd b k):
  ∃ vs:List Value,vs.length=n*R/\aM (aG du w) bd.flatten vs/\(∀ e∈bd,e.length=R)/\∀ k,(Builtin.firstCells R n (.slice ei n q)).run P { w with drawn:=k }=.ok vs.toArray { w with drawn:=k }:=by
 subst i;by_cases c:bd=[]
 ·subst c
  refine⟨[],by simp,by simp [aM],by simp,λk=>?_⟩
  cases ei<;>simp [Builtin.firstCells,loadCells,loadCellsFrom]
 ·rcases h with h | ⟨b,l,rfl,f⟩
  ·exact absurd h c
  ·obtain⟨vs,d,m,o,p⟩:=qZ f
   refine⟨vs,d,m,p,λk=>?_⟩;have a:=ac3 (P:=P) { w with drawn:=k } ⟨b,l,none⟩ vs (λj v g=>by rw[dJ];exact o j v g);rw[d] at a;simp [Builtin.firstCells,a]
def n6{h:Value}(r:P.underlying J=some (.slice ib))(s:P.underlying bj=some ea)(u:∀ k,ea≠.int k)
  (hi:P.info? ib=some bp)(v:bp.zero=some I)(e:∀ w',(Builtin.lenOf h).run P w'=.ok q w')
  (g:∀ k,(Builtin.firstCells bp.size n (.slice ei n j)).run P { w with drawn:=k }=.ok cd.toArray { w with drawn:=k })
  (f:∀ k,(Builtin.firstCells bp.size q h).run P { w with drawn:=k }=.ok gz.toArray { w with drawn:=k })
  (hg:j<n+q)(o:((n+q:Nat):Int)<=9223372036854775807)(d:(n+q)*bp.bytes<=140737488355328):
  (Builtin.append_ #[J,bj] bx #[.slice ei n j,h]).run P w =
   .ok (.slice (some ⟨w.heap.size,0,none⟩) (n+q) (grownCap w (n+q) j ib))
    (w.drew.alloc (.cells (cd.toArray++gz.toArray++Builtin.zeroCells I.cells (grownCap w (n+q) j ib-(n+q))) ib)):=by
 have p:¬ (n+q<=j):=by omega
 have c:¬ (9223372036854775807<((n:Int)+(q:Int))):=by omega
 have a:¬ (281474976710656<Builtin.nextslicecap (n+q) j*bp.bytes):=by have:=growslice_fits hg d;omega
 have i:=g w.drew.drawn;have l:=f w.drew.drawn;have m:({ w with drawn:=w.drew.drawn }:World)=w.drew:=rfl;rw[m] at i l;have b:∀ (bytes:Nat) (w':World),(askRoom bytes).run P w'=.ok () w':=by
  intro bytes w';unfold askRoom;split<;>rfl
 simp [Builtin.append_,ke r,ke s,sizeOf,typeInfo,zeroValue,hi,v,e,p,c,a,b,i,l,Question.forced,newRow,grownCap];refine pz (λx=>w.drew.alloc (Obj.cells x ib)) ?_;apply ag1;simp
def D9{f:TypeId}(h:P.underlying J=some (.slice ib))(i:P.underlying bj=some ea)(l:∀ k,ea≠.int k)
  (hi:P.info? ib=some bp)(c:∀ w',(Builtin.lenOf I).run P w'=.ok R w')
  (d:∀ k,(Builtin.firstCells bp.size R I).run P { w with drawn:=k }=.ok cd.toArray { w with drawn:=k })
  (hg:w.heap[j]?=some (.cells bk f (0,0)))(a:n+R<=q)(b:n*bp.size+cd.length<=bk.size)(g:∀ v∈cd,v.oneCell'=true):
  (Builtin.append_ #[J,bj] bx #[.slice (some ⟨j,0,none⟩) n q,I]).run P w =
   .ok (.slice (some ⟨j,0,none⟩) (n+R) q) (w.setRow j (bk.toList.take (n*bp.size)++cd++bk.toList.drop (n*bp.size+cd.length)).toArray):=by
 have m:=d w.drawn;have e:=run_storeCells_at P j (n*bp.size) f cd 0 bk w hg (by simpa using b) g;simp only[rh] at e;simp [Builtin.append_,ke h,ke i,sizeOf,typeInfo,hi,c,a,m,dJ,e]
def nZ(d:P.underlying J=some (.slice ib))(e:P.underlying bj=some ea)(f:∀ k,ea≠.int k)
  (hi:P.info? ib=some bp)(b:∀ w',(Builtin.lenOf I).run P w'=.ok 0 w')
  (c:∀ k,(Builtin.firstCells bp.size 0 I).run P { w with drawn:=k }=.ok #[] { w with drawn:=k })(a:n<=j):
  (Builtin.append_ #[J,bj] bx #[.slice ei n j,I]).run P w=.ok (.slice ei n j) w:=by
 have g:=c w.drawn
 cases ei<;>simp [Builtin.append_,ke d,ke e,sizeOf,typeInfo,hi,b,a,g,storeCells]
def NJ(l:Sim E g σ a w)(d:okR M C=true)(e:(∃ s,C=.t s/\dj=some s)\/(∃ v,C=.c v/\dj=none))(i:ev σ.fr C=.sl .own n bd):
  ∃ s,dj=some s/\d9 g.kd w (.slot s) (a.eval M) n bd.length:=by
 rcases e with ⟨s,rfl,h⟩ | ⟨v,rfl,h⟩
 ·refine⟨s,h,?_⟩
  obtain⟨ow,f,k⟩:=l.rdT d;rw[i] at f;rw[k s rfl] at f;exact f.2
 ·exfalso
  simp only[ev] at i;subst i;unfold okR at d
  split at d
  ·rename_i b;cases b
  ·rename_i b;cases b
  ·rename_i o m b
   cases b;unfold okV at d
   split at d
   ·rename_i j;cases j
   ·have:=(CT d).1
    simp [aJ] at this
  ·rename_i b;cases b
  ·cases d
def an(hs:Sim E g σ a w)(hd:∀ d,o.dst=some d->d<E.nt){bi:Operand}{ba:AR}(bb:o.op=.call { callee:=.builtin .append,args:=#[M,bi],argTypes:=#[J,bj] })
  (hx:okR M C=true)(hy:okR bi ba=true)(av:(∃ s,C=.t s/\dj=some s)\/(∃ v,C=.c v/\dj=none))
  (ht:P.underlying J=some (.slice bx))(hu:P.underlying bj=some ea)(L:∀ k,ea≠.int k){bytes:Nat}(hi:P.info? bx=some bp)(a9:bp.size=R)(a8:bp.bytes=bytes)(hz:bp.zero=some I)(b4:I.cells.size=R)
  {bf:Own}{z':Nat}{bw:LL}(he:ev σ.fr C=.sl bf z' bd)(hr:jZ U R (ev σ.fr ba)=some bw)(a1:z'=R\/(bd=[]/\bf=.full))(bg:bf≠.no)(b9:0<R)
  (a4:(bd.length+bw.length)*bytes<=140737488355328)(b6:bd.length+bw.length<=4611686018427387904):
  o.wp P a w (aS E (put (dT σ dj) o.dst (.sl .own R (bd++bw)))) Q:=by
 subst a9;subst a8;obtain⟨e,n1,n2,n3,n4,n5⟩:=zN (P:=P) hs hy hr;obtain⟨A,c,e1,e2,e3,e4⟩:=hs.rdSl hx he;have F:bd=[]\/∃ b k,A=some ⟨b,k,none⟩/\fC (SS E g w) w bp.size bd b k:=by
  rcases a1 with h | h
  ·rw[<- h];exact e4
  ·exact .inl h.1
 obtain⟨lN,o1,o2,o3,o4⟩:=AW (P:=P) (ei:=A) (q:=c) (w:=w) rfl F;have l:∀ v w',(Builtin.append_ #[J,bj] o.type #[.slice A bd.length c,a.eval bi]).run P w=.ok v w'->(execOp a.eval o).run P w=.ok (.value v) w':=by
  intro v w' h;simp [execOp,bb,resolve,invoke,builtin,e1,h]
 have K:=hs.dem_ dj;have T:aM (aG (SS E g w) w) (bd++bw).flatten (lN++e):=by
  rw[flatten_append];exact o2.append n2
 have a6:∀ bx∈bd++bw,bx.length=bp.size:=λbx he=>by
  rcases ng.1 he with h | h
  ·exact o3 bx h
  ·exact n3 bx h
 have b5:(lN++e).length=(bd++bw).length*bp.size:=by simp [o1,n1,sa]
 have ab:c=bd.length\/∃ s b f N,dj=some s/\A=some ⟨b,0,none⟩/\w.heap[b]?=some (.cells f N (0,0))/\f.size=c*bp.size/\g.kd b=.own (.slot s) (bd.length*bp.size):=by
  cases bf with
  | no=>exact absurd rfl bg
  | full=>exact .inl (e3 rfl)
  | own =>
   obtain⟨s,X,A',c',D,Y⟩:=NJ hs hx av he;rw[e1] at D
   injection D with hA _ hc
   subst hA;subst hc;have a2:z'=bp.size:=by
    rcases a1 with h | h
    ·exact h
    ·cases h.2
   subst a2;rcases Y with Y | ⟨b,f,N,h3,B,Z,h6⟩
   ·exact .inl Y
   ·exact .inr ⟨s,b,f,N,X,h3,B,Z,h6⟩
 by_cases hg:c<bd.length+bw.length
 ·
  have i:=n6 (P:=P) (w:=w) (bx:=o.type) ht hu L hi hz n4 o4 n5 hg (by omega) a4;have h1:=K.drawn (w.drawn+1);obtain⟨Y,ap⟩:=h1.alloc (.cells (lN.toArray++e.toArray++Builtin.zeroCells I.cells (grownCap w (bd.length+bw.length) c bx-(bd.length+bw.length))) bx) (.own (.slot (o.dst.getD 0)) ((bd.length+bw.length)*bp.size));have hm:=ap.cell;have G:aM (aG (SS E g w) { w with drawn:=w.drawn+1 }) (bd++bw).flatten (lN++e):=T.mono (aG.mono (S:=SS E g w) (S':=SS E g w) (w:=w) (w':={ w with drawn:=w.drawn+1 }) λb n h=>⟨h,rfl⟩);refine cO Y (l _ _ i) λd m=>⟨hd d m,?_,?_⟩
  ·simp only[aG]
   refine⟨_,_,by rw[jb],by rw[jb];exact ai0 w _ _ _,by simp,by simp,.inr ⟨w.heap.size,0,rfl,?_⟩⟩;refine nV (vs:=lN++e) a6 (G.mono (aG.mono hm)) (λj hj=>.inr (.inr ⟨by simp,.slot (o.dst.getD 0),(bd.length+bw.length)*bp.size,by simp [upd],?_⟩)) (λj v D=>?_)
   ·simpa using hj
   ·simp only[km]
    show (World.alloc _ (.cells _ bx)).cell? _=_;rw[show w.heap.size=({ w with drawn:=w.drawn+1 }:World).heap.size from rfl,World.cell?_alloc_new];rw[yv]
    ·simpa using D
    ·have:=(jh.1 D).1
     simpa using this
  ·refine⟨_,_,by rw[jb],.inr ⟨w.heap.size,_,bx,rfl,ae2 _ _,?_,?_⟩⟩
   ·have a7:=ai0 w (bd.length+bw.length) c bx
    simp only[ac9,ag2,al7,b4,o1,n1,<- sa]
    congr 1
    omega
   ·simp [upd,m]
 ·rcases ab with a5 | ⟨s,b,f,N,X,rfl,B,Z,h6⟩
  ·
   have H:bw.length=0:=by omega
   have br:bw=[]:=js H;subst br;have r:e=[]:=js (by simpa using n1);subst r;have i:=nZ (P:=P) (w:=w) (bx:=o.type) (ei:=A) (j:=c) ht hu L hi (by simpa using n4) (by simpa using n5) e2;refine cO K (l _ _ i) λd m=>⟨hd d m,?_,?_⟩
   ·rw[ka]
    simp only[aG];exact⟨A,c,rfl,e2,by simp,by simp,F⟩
   ·rw[ka]
    exact⟨A,c,rfl,.inl a5⟩
  ·subst X
   by_cases H:bw=[]
   ·subst H
    have r:e=[]:=js (by simpa using n1);subst r;have i:=nZ (P:=P) (w:=w) (bx:=o.type) (ei:=some ⟨b,0,none⟩) (j:=c) ht hu L hi (by simpa using n4) (by simpa using n5) e2;have p:wP (dT σ (some s)) (.slot s):=by
     intro z' l' bx;simp only[dT,upd,kp] at bx
     have:=pz aJ bx
     rw[nO,bx] at this;simp [aJ] at this
    obtain⟨h8,x⟩:=K.turn (t':=.slot (o.dst.getD 0)) (arr':=f) B h6 p (ji _) (λ_ _=>rfl);rw[setRow_self B] at h8 x;have h9:=x.cell;refine cO h8 (l _ _ i) λd m=>⟨hd d m,?_,?_⟩
    ·rw[ka]
     have:aG (SS E g w) w (.sl .no bp.size bd) (.slice (some ⟨b,0,none⟩) bd.length c):=by
      simp only[aG];exact⟨_,c,rfl,e2,by simp,by simp,F⟩
     exact aG.mono h9 _ _ this
    ·rw[ka]
     exact⟨_,c,rfl,.inr ⟨b,f,N,rfl,B,Z,by simp [upd,m]⟩⟩
   ·have b8:0<bw.length:=by
     rcases aj6 bw.length with h | h
     ·exact absurd (js h) H
     ·exact h
    have u:bd.length+bw.length<=c:=by omega
    have ar:bd.length*bp.size+e.length<=f.size:=by rw[n1,Z,<- sa];exact ab0 _ u
    have bo:b<w.heap.size:=iL B;have i:=D9 (P:=P) (w:=w) (bx:=o.type) (q:=c) ht hu L hi n4 n5 B u ar (eT (S:=λ_ _=>True) (c:=cx E g σ w) n2);generalize y:(f.toList.take (bd.length*bp.size)++e++f.toList.drop (bd.length*bp.size+e.length)).toArray=arr' at i;have a0:arr'.size=f.size:=by rw[<- y];simp;omega
    have ag:∀ j,j<bd.length*bp.size->arr'[j]?=f[j]?:=by
     intro j hj;rw[<- y];have b7:bd.length*bp.size<=f.size:=by omega
     rw[ad2,kb,kq (by simp;omega),mx hj];simp
    have V:∀ j v,e[j]?=some v->arr'[bd.length*bp.size+j]?=some v:=by
     intro j v D;have hj:=(jh.1 D).1;rw[<- y,ad2,kq (by simp;omega),ky (by simp;omega)];rw[<- D];congr 1;simp;omega
    have p:wP (dT σ (some s)) (.slot s):=by
     intro z' l' bx;simp only[dT,upd,kp] at bx
     have:=pz aJ bx
     rw[nO,bx] at this;simp [aJ] at this
    obtain⟨h8,x⟩:=K.turn (t':=.slot (o.dst.getD 0)) (k':=(bd.length+bw.length)*bp.size) (arr':=arr') B h6 p (ab0 _ (by omega)) ag;have h9:=x.cell;have b3:(w.setRow b arr').heap.size=w.heap.size:=by simp [World.setRow]
    have O:∀ j,(w.setRow b arr').cell? ⟨b,j,none⟩=arr'[j]?:=λj=>cell_setRow_same w b j f arr' N (0,0) B
    refine cO h8 (l _ _ i) λd m=>⟨hd d m,?_,?_⟩
    ·simp only[aG]
     refine⟨_,c,by rw[jb],by rw[jb];exact u,by simp,by simp,.inr ⟨b,0,rfl,fC.mk λq bx hq=>?_⟩⟩;rw[aa0] at hq
     split at hq
     ·rcases F with rfl | ⟨b',k',hA,e6⟩
      ·simp at hq
      ·injection hA with hA
       injection hA with hb hk
       subst hb;subst hk
       have:=e6.get hq
       exact⟨this.1,dR.mono h9 _ _ _ this.2⟩
     ·rename_i a7
      have hS:∀ j,j<bw.length*bp.size->SS E { g with kd:=upd g.kd b (.own (.slot (o.dst.getD 0)) ((bd.length+bw.length)*bp.size)) } (w.setRow b arr') b (bd.length*bp.size+j):=λj hj =>
       .inr (.inr ⟨by rw[b3];exact bo,.slot (o.dst.getD 0),(bd.length+bw.length)*bp.size,by simp [upd],by rw[sa];omega⟩)
      have a3:=nV (S:=SS E { g with kd:=upd g.kd b (.own (.slot (o.dst.getD 0)) ((bd.length+bw.length)*bp.size)) } (w.setRow b arr')) (w:=w.setRow b arr') (b:=b) (o:=bd.length*bp.size) n3 (n2.mono (aG.mono h9)) hS (λj v D=>by rw[O];exact V j v D)
      have:=a3.get hq
      have b0:bd.length*bp.size+(q-bd.length)*bp.size=0+q*bp.size:=by
       rw[<- sa,km];congr 1;omega
      rw[b0] at this;exact this
    ·refine⟨_,c,by rw[jb],.inr ⟨b,arr',N,rfl,af4 w b f arr' N (0,0) B,by rw[a0,Z],by simp [upd,m]⟩⟩
end
section
variable{P:Program}{E:Env}{g g':Gh}{σ σ1:AS}{a:Act}{w w':World}{o:Oper}{Q:Exit->Act->World->Prop}
def Cx.noloc(c:Cx):Cx:={ c with lam:=λ_=>0,live:=λ_=>False }
def L0:aR Z.noloc h I↔aR Z h I:=by cases h<;>exact ai9
def pZ:bO Z.noloc dq h I↔bO Z dq h I:=by
 cases h with
 | sl m z l=>cases m<;>exact ai9
 | _=>exact ai9
def BI{c:Cx}:∀ {l:LL} {es:List MapEntry},eF c.noloc l es↔eF c l es
 | [],[]=>ai9
 | [k,v]::l,e::es=>by simp only[eF,L0,BI]
 | [],_::_=>ai9
 | []::_,_=>ai9
 | [_]::_,_=>ai9
 | (_::_::_::_)::_,_=>ai9
 | [_,_]::_,[]=>ai9
def L2:o6 Z.noloc fw w j n f↔o6 Z fw w j n f:=by simp only[o6,pZ]
def L1:p9 Z.noloc w n f↔p9 Z w n f:=by
 unfold p9;split
 ·simp only[BI]
 ·exact ai9
def L3:yB Z.noloc fw w j n f↔yB Z fw w j n f:=by simp only[yB,L2,L1]
theorem W5:(cx E g σ w).noloc=cx0 g.β g.bs (SS E g w) w σ.sh.length:=rfl
def kdC(kd:Nat->BK)(w:World)(b:Nat):BK:=if b<w.heap.size then (match kd b with | .own (.slot _) _=>.stab | x=>x) else .stab
def oC(kd:Nat->BK)(w:World)(b:Nat):Option Nat:=if b<w.heap.size then (match kd b with | .own (.cell _ _) k=>some k | _=>none) else none
def OD(a:n<w.heap.size)(h:di n=.shr j):kdC di w n=.shr j:=by simp [kdC,a,h]
def yO(h:oC di w n=some q):n<w.heap.size/\∃ i j,di n=.own (.cell i j) q:=by
 unfold oC at h
 split at h
 ·rename_i a
  split at h
  ·rename_i i j k' b;cases h;exact⟨a,i,j,b⟩
  ·cases h
 ·cases h
def og{im:Ow}(h:kdC di w n=.own im q):n<w.heap.size/\∃ i j,im=.cell i j/\di n=.own (.cell i j) q:=by
 unfold kdC at h
 split at h
 ·rename_i b
  split at h
  ·cases h
  ·rename_i a
   cases im with
   | slot s=>exact absurd h (a s q)
   | cell i j=>exact⟨b,i,j,rfl,h⟩
 ·cases h
def Sim.globOK(h:Sim E g σ a w):qF (SS E g w) w:=λi k l d=>dR.mono (λb o c=>⟨.inl ⟨(h.s0 b o c).1,c⟩,h.sframe b o c⟩) _ _ _ (h.gl i k l d)
def Sim.globOK'(h:Sim E g σ a w):qF (λb _=>b<w.heap.size) w:=λi k l d=>dR.mono (λb o c=>⟨SS.lt h c,rfl⟩) _ _ _ (h.globOK i k l d)
def Sim.ent(h:Sim E g σ a w):BU σ.sh (kdC g.kd w) g.β g.bs (SS E g w) (oC g.kd w) w:=by
 refine⟨⟨λi cells hi hd=>?_,λi hi=>?_⟩,λb n q=>⟨SS.lt h q,λi hi=>SS.nshr h q hi,λk o=>?_⟩,λb k o=>?_,λb t k o f=>?_,h.globOK⟩
 ·obtain⟨C,D⟩:=h.shr i cells hi hd
  have f:=h.shrlt i (jh.1 hi).1;refine⟨OD f C,?_⟩;rw[<- W5,L3];refine D.mono (Cx.le.refl _) rfl (λj z l v _ H=>?_);obtain⟨A,c,u,p⟩:=H;refine⟨A,c,u,?_⟩;rcases p with p | ⟨b,s,J,x,r,y,B⟩
  ·exact .inl p
  ·exact .inr ⟨b,s,J,x,r,y,by simp [kdC,iL r,B]⟩
 ·obtain⟨j,G⟩:=h.shrk i hi
  exact⟨h.shrlt i hi,j,OD (h.shrlt i hi) G⟩
 ·obtain⟨_,i,j,d⟩:=yO o
  exact SS.own h q d
 ·obtain⟨f,i,j,d⟩:=yO o
  refine⟨f,λI hi' e=>?_,.cell i j,k,by simp [kdC,f,d],ji _⟩;obtain⟨K,m⟩:=h.shrk I hi';rw[e,d] at m;cases m
 ·obtain⟨F,i,j,_,d⟩:=og o
  simp [oC,F,d]
open Classical in
def Sim.after(h:Sim E g σ a w)(f:After (SS E g w) (oC g.kd w) g.β g.bs w σ.sh bd bv I di dx fy w'):
  ∃ g',Sim E g' { σ with sh:=bd } a w'/\aV (cx E g' { σ with sh:=bd } w') aX bv I/\Cx.le (cx E g σ w) (cx E g' { σ with sh:=bd } w'):=by
 let d:Nat->BK:=λb=>if b<w.heap.size/\oC g.kd w b=none/\(∀ i,i<σ.sh.length->g.β i≠b) then g.kd b else di b
 let g':Gh:={ β:=dx,bs:=fy,lam:=g.lam,kd:=d }
 have q:∀ b,b<w.heap.size->oC g.kd w b=none->(∀ i,i<σ.sh.length->g.β i≠b)->d b=g.kd b:=λb v u C=>by simp only[d];rw[iw ⟨v,u,C⟩]
 have p:∀ b,¬ (b<w.heap.size/\oC g.kd w b=none/\(∀ i,i<σ.sh.length->g.β i≠b))->d b=di b:=λb v=>by simp only[d];rw[ie v]
 have o:∀ b,(∀ i,g.kd b≠.shr i)->∀ i,i<σ.sh.length->g.β i≠b:=by
  intro b K i hi e;obtain⟨j,L⟩:=h.shrk i hi;rw[e] at L;exact K j L
 have hm:∀ b n,SS E g w b n->SS E g' w' b n/\w'.cell? ⟨b,n,none⟩=w.cell? ⟨b,n,none⟩:=by
  intro b n B;refine⟨?_,f.sframe b n B⟩;have U:=SS.lt h B;rcases B with B | ⟨v,u,C⟩ | ⟨v,t,k,u,C⟩
  ·exact .inl B
  ·refine .inr (.inl ⟨v,sc u f.size,?_⟩)
   show d b=_;rw[q b U (by simp [oC,C]) (o b (λi e=>by rw[C] at e;cases e))];exact C
  ·cases t with
   | slot s =>
    refine .inr (.inr ⟨sc v f.size,.slot s,k,?_,C⟩)
    show d b=_;rw[q b U (by simp [oC,u]) (o b (λi e=>by rw[u] at e;cases e))];exact u
   | cell i j =>
    have P:oC g.kd w b=some k:=by simp [oC,U,u]
    obtain⟨t',k',Z,e2⟩:=f.o0 b k P
    refine .inr (.inr ⟨sc v f.size,t',k',?_,by omega⟩)
    show d b=_;rw[p b (λy=>by rw[P] at y;cases y.2.1)];exact Z
 have T:Cx.le (cx E g σ w) (cx E g' { σ with sh:=bd } w'):=⟨hm,f.len,λi hi=>(f.same i hi).1,λi hi=>(f.same i hi).2,λs B=>⟨B,rfl⟩⟩
 have a5:∀ b n,S1 (SS E g w) w w' di b n->SS E g' w' b n:=by
  rintro b n (B | ⟨v,u,C⟩ | ⟨v,t,k,u,C⟩)
  ·exact (hm b n B).1
  ·refine .inr (.inl ⟨ab1 h.hsize v,u,?_⟩)
   show d b=_;rw[p b (λy=>by omega)];exact C
  ·refine .inr (.inr ⟨v,t,k,?_,C⟩)
   show d b=_;rw[p b (λy=>?_)];exact u;rcases f.own0 b t k u with F | F
   ·omega
   ·rw[y.2.1] at F;cases F
 have O:Cx.le (cx0 dx fy (S1 (SS E g w) w w' di) w' bd.length) (cx E g' { σ with sh:=bd } w'):=⟨λb n B=>⟨a5 b n B,rfl⟩,ji _,λ_ _=>rfl,λ_ _=>rfl,λs B=>B.elim⟩
 have G:∀ b t k,di b=.own t k->d b=.own t k:=by
  intro b t k S;rw[p b (λy=>?_)];exact S;rcases f.own0 b t k S with F | F
  ·omega
  ·rw[y.2.1] at F;cases F
 have N:∀ i,i<bd.length->d (dx i)=di (dx i):=by
  intro i hi;refine p _ (λy=>?_);rcases aa7 i σ.sh.length with m | m
  ·exact y.2.2 i m (f.same i m).1.symm
  ·rcases f.new i m hi with x | ⟨D,x,r,_⟩
   ·omega
   ·exact y.2.2 D x r
 have X:∀ t I z n,d9 g.kd w (.slot t) I z n->d9 d w' (.slot t) I z n:=by
  rintro t I z n ⟨A,c,f1,f2⟩
  refine⟨A,c,f1,?_⟩;rcases f2 with f2 | ⟨b,ar,tt,M,f4,f5,f6⟩
  ·exact .inl f2
  ·have K:=iL f4
   have H:=o b (λi e=>by rw[f6] at e;cases e);have J:oC g.kd w b=none:=by simp [oC,f6]
   exact .inr ⟨b,ar,tt,M,(f.frame b K H J).trans f4,f5,by rw[q b K J H];exact f6⟩
 refine⟨g',{ h with os:=f.os.trans h.os,tape:=f.tape.trans h.tape,output:=f.output.trans h.output,hsize:=ab1 h.hsize f.size,n0:=ab1 h.n0 f.len,slots:=?_,shr:=?_,shr0:=?_,shr1:=?_,shrlt:=?_,shrk:=?_,loc:=?_,o0:=?_,own0:=?_,frame:=?_,sframe:=?_,dd:=λi hi hd=>f.deads i (h.dd i hi hd) },?_,T⟩
 ·intro t
  exact aV.mono T _ _ (λ_ _ _=>X _ _ _ _) (h.slots t)
 ·intro i cells hi hd
  obtain⟨f1,f2⟩:=f.shok.1 i cells hi hd;have m:=(jh.1 hi).1;refine⟨by show d (dx i)=_;rw[N i m];exact f1,?_⟩;refine f2.mono O rfl (λj z l I _ P=>?_);obtain⟨A,c,Z,e2⟩:=P;refine⟨A,c,Z,?_⟩;rcases e2 with e2 | ⟨b,ar,tt,e3,e4,e5,e6⟩
  ·exact .inl e2
  ·exact .inr ⟨b,ar,tt,e3,e4,e5,G _ _ _ e6⟩
 ·intro i hi
  have a6:=h.n0;show dx i=_/\fy i=_;rw[(f.same i (by omega)).1,(f.same i (by omega)).2];exact h.shr0 i hi
 ·intro i hi Y
  show _<=dx i\/∃ j,j<E.n0/\E.β0 j=dx i/\E.D0 j=false/\bd[j]?=some aO;rcases aa7 i σ.sh.length with m | m
  ·rw[(f.same i m).1]
   rcases h.shr1 i m Y with x | ⟨D,x,r,Q,R⟩
   ·exact .inl x
   ·exact .inr ⟨D,x,r,Q,f.deads D R⟩
  ·rcases f.new i m hi with x | ⟨D,x,r,Q,R⟩
   ·exact .inl (ab1 h.hsize x)
   ·rcases aa7 D E.n0 with L | L
    ·refine .inr ⟨D,L,by rw[<- (h.shr0 D L).1];exact r,?_,R⟩
     cases a0:E.D0 D with
     | false=>rfl
     | true=>exact absurd (h.dd D L a0) Q
    ·rw[<- r]
     rcases h.shr1 D x L with x | ⟨j1,av,ap,ag,ab⟩
     ·exact .inl x
     ·exact .inr ⟨j1,av,ap,ag,f.deads j1 ab⟩
 ·intro i hi;exact (f.shok.2 i hi).1
 ·intro i hi
  obtain⟨j,L⟩:=(f.shok.2 i hi).2;exact⟨j,by show d (dx i)=_;rw[N i hi];exact L⟩
 ·intro s cells B
  obtain⟨f1,f2,M⟩:=h.loc s cells B;have K:=M.lt;have H:=o (g.lam s) (λi e=>by rw[f1] at e;cases e);have J:oC g.kd w (g.lam s)=none:=by simp [oC,f1]
  exact⟨by show d (g.lam s)=_;rw[q _ K J H];exact f1,f2,M.mono T (f.frame _ K H J) (λ_ _ _ _ _ h=>h)⟩
 ·intro b k S
  obtain⟨f1,f2,t,k',M,f4⟩:=h.o0 b k S;refine⟨f1,f2,?_⟩;have K:=sc f1 h.hsize
  cases t with
  | slot s =>
   refine⟨.slot s,k',?_,f4⟩;show d b=_;rw[q b K (by simp [oC,M]) (o b (λi e=>by rw[M] at e;cases e))];exact M
  | cell i j =>
   have P:oC g.kd w b=some k':=by simp [oC,K,M]
   obtain⟨t2,k2,Z,e2⟩:=f.o0 b k' P;exact⟨t2,k2,G _ _ _ Z,by omega⟩
 ·intro b t k S
  by_cases y:b<w.heap.size/\oC g.kd w b=none/\(∀ i,i<σ.sh.length->g.β i≠b)
  ·have:g.kd b=.own t k:=by rw[<- q b y.1 y.2.1 y.2.2];exact S
   exact h.own0 b t k this
  ·have a3:di b=.own t k:=by rw[<- p b y];exact S
   rcases f.own0 b t k a3 with F | F
   ·exact .inl (ab1 h.hsize F)
   ·obtain⟨k2,a4⟩:=we.1 F
    obtain⟨_,i,j,h5⟩:=yO a4;exact h.own0 b _ _ h5
 ·intro b v u C
  have a1:∀ i,i<σ.sh.length->g.β i≠b:=by
   intro i hi e;rcases aa7 i E.n0 with Y | Y
   ·exact u i Y (by rw[<- (h.shr0 i Y).1];exact e)
   ·rcases h.shr1 i hi Y with x | ⟨D,x,r,_⟩
    ·omega
    ·exact u D x (by rw[r];exact e)
  have a2:oC g.kd w b=none:=by
   cases P:oC g.kd w b with
   | none=>rfl
   | some k =>
    obtain⟨_,i,j,h5⟩:=yO P;rcases h.own0 b _ _ h5 with h6 | h6
    ·omega
    ·rw[C] at h6;cases h6
  rw[f.frame b (sc v h.hsize) a1 a2];exact h.frame b v u C
 ·intro b n V
  rw[<- h.sframe b n V];exact f.sframe b n (.inl ⟨(h.s0 b n V).1,V⟩)
 ·exact aV.mono O _ _ (λ_ _ _ h=>h) f.rep
def Sim.afterP(h:Sim E g σ a w){β' bs':Nat->Nat}(c:After du (λ_=>none) dx fy w [] [] bv I di β' bs' w'):
  ∃ g',Sim E g' σ a w'/\Cx.le (cx E g σ w) (cx E g' σ w')/\∀ b n,S1 du w w' di b n->du b n\/SS E g' w' b n:=by
 have e:∀ b,b<w.heap.size->w'.heap[b]?=w.heap[b]?:=λb e=>c.frame b e (λi hi=>by simp at hi) rfl
 let g':Gh:={ g with kd:=λb=>if b<w.heap.size then g.kd b else (match di b with | .own t k=>.own t k | _=>.stab) }
 obtain⟨p,m⟩:=h.world (g':=g') (w':=w') c.os c.tape c.output c.size e (λb e=>by simp [g',e]) rfl rfl rfl;refine⟨g',p,m,?_⟩
 rintro b n (d | ⟨d,f,j⟩ | ⟨d,t,k,f,j⟩)
 ·exact .inl d
 ·refine .inr (.inr (.inl ⟨ab1 h.hsize d,f,?_⟩))
  simp only[g'];rw[ie (by omega),j]
 ·have o:w.heap.size<=b:=by
   rcases c.own0 b t k f with l | l
   ·exact l
   ·cases l
  refine .inr (.inr (.inr ⟨d,t,k,?_,j⟩))
  simp only[g'];rw[ie (by omega),f]
end
section
variable{P:Program}{E:Env}{g g':Gh}{σ σ1:AS}{a:Act}{w w':World}{o:Oper}{Q:Exit->Act->World->Prop}
def BF(i:d=true->n=σ.sh.length)(a:hH d h=true)(r:aV (cx E g σ w) dq h I):
  aV (cx0 g.β g.bs (SS E g w) w n) aX (pv U h) I:=by
 have b:aV (cx E g σ w) aX (pv U h) I:=by
  cases U
  ·exact r.str
  ·exact r.dem
 have q:∀ (y:AV) (u:Value),B6 d y=true->aR (cx E g σ w) y u->aR (cx0 g.β g.bs (SS E g w) w n) y u:=by
  intro y u j p
  cases y<;>simp [B6,aQ] at j<;>first | exact p | skip
  all_goals (rw[i j];exact p)
 cases U<;>cases h with
 | loc=>simp [hH] at a
 | tup=>simp [hH] at a
 | mapv=>simp [hH] at a
 | ptr s off =>
  have:d=true:=by simpa [hH] using a
  rw[i this];exact b
 | ss =>
  have:d=true:=by simpa [hH] using a
  rw[i this];exact b
 | mp =>
  have:d=true:=by simpa [hH] using a
  rw[i this];exact b
 | fn f caps =>
  obtain⟨k,o,e⟩:=b;refine⟨k,o,?_⟩;simp only[hH,kx] at a;generalize k.toList=vs at e
  clear o r
  induction caps generalizing vs with
  | nil=>cases vs with
   | nil=>trivial
   | cons=>simp [aM] at e
  | cons c caps v=>cases vs with
   | nil=>simp [aM] at e
   | cons u vs=>exact⟨q _ _ (a c (by simp)) e.1,v (λy j=>a y (by simp [j])) vs e.2⟩
 | sl m z l=>cases m<;>exact b
 | aggR=>simp [hH] at a
 | _=>exact b
def CU(r:aV Z aX h I):aJ h=h:=by
 cases h with
 | sl m z l =>
  cases m<;>first | rfl | exact r.2.elim
 | _=>rfl
def Dl(h:∀ b n,du b n->b<w.heap.size)(hg:qF du w):BU [] (λ_=>.stab) dx fy du (λ_=>none) w:=by
 refine⟨⟨λi c hi=>?_,λi hi=>?_⟩,λb n d=>⟨h b n d,λi hi=>?_,λk a=>?_⟩,λb k a=>?_,λb t k a=>?_,hg⟩
 ·simp at hi
 ·simp at hi
 ·simp at hi
 ·cases a
 ·cases a
 ·cases a
def DC(x:Sim E g σ a w)(hd:∀ d,o.dst=some d->d<E.nt){G:aP}(O:fK P G)(C:vO P Y->(execOp a.eval o).run P w=.ok (.enter Y bk) w)(q:∀ bv w',(callFunc Y bk).run P w=.ok (.value bv) w'->(execOp a.eval o).run P w=.ok (.value bv) w')(y:nS G cf Y bh (rdm σ cf)=some (bv,dy))
  (j:∀ p n,(p=true->n=σ.sh.length)->bh.all (hH p)=true->aM (aV (cx0 g.β g.bs (SS E g w) w n) aX) (bh.map (pv p)) bk.toList):
  o.wp P a w (aS E (put (wrm σ dy cf) o.dst bv)) Q:=by
 unfold nS at y
 split at y
 ·split at y
  ·rename_i k
   obtain⟨⟨r,sh'⟩,M,I⟩:=jf.1 y;cases I;have l:∀ (u:Value) (w':World) kd' β' bs',After (SS E g w) (oC g.kd w) g.β g.bs w σ.sh sh' r u kd' β' bs' w'->aS E (put (wrm σ ((rdm σ .sh).1,sh') .sh) o.dst r) (a.put o.dst u) w':=by
    intro u w' kd' β' bs' f;obtain⟨g',H,K,_⟩:=x.after f;show aS E _ (a.put o.dst u) w';cases D:o.dst with
    | none=>exact⟨g',H⟩
    | some d=>exact⟨g',H.put_ (hd d D) (K.noown (CU K))⟩
   unfold Oper.wp;rcases O _ _ _ _ _ M with ⟨m,v⟩ | N
   ·rw[C m]
    refine Calls.mono (v _ g.β g.bs (SS E g w) _ w bk x.ent (j true _ (λ_=>rfl) k)) ?_
    rintro e w' ⟨u,kd',β',bs',rfl,f⟩
    exact l _ _ _ _ _ f
   ·obtain⟨u,w',kd',β',bs',F,f⟩:=N _ g.β g.bs (SS E g w) _ w bk x.ent (j true _ (λ_=>rfl) k)
    rw[q _ _ F];exact l _ _ _ _ _ f
  ·cases y
 ·split at y
  ·rename_i k
   obtain⟨⟨r,sh'⟩,M,I⟩:=jj.1 y
   split at I
   ·rename_i J
    cases I
    have:sh'=[]:=by simpa using J
    subst this;have A:=Dl (w:=w) (dx:=g.β) (fy:=g.bs) (du:=SS E g w) (λb n S=>SS.lt x S) x.globOK;have l:∀ (u:Value) (w':World) kd' β' bs',After (SS E g w) (λ_=>none) g.β g.bs w [] [] r u kd' β' bs' w'->aS E (put (wrm σ (rdm σ .none) .none) o.dst r) (a.put o.dst u) w':=by
     intro u w' kd' β' bs' f;obtain⟨g',H,K,R⟩:=x.afterP f;have B:aV (cx E g' σ w') aX r u:=by
      refine aV.mono (c:=cx0 β' bs' (S1 (SS E g w) w w' kd') w' 0) (c':=cx E g' σ w') ⟨λb n x=>⟨?_,rfl⟩,lv _,λi hi=>by simp [cx0] at hi,λi hi=>by simp [cx0] at hi,λs x=>x.elim⟩ _ _ (λ_ _ _ h=>h) f.rep;rcases R b n x with L | L
      ·exact (K.cell b n L).1
      ·exact L
     show aS E _ (a.put o.dst u) w';cases D:o.dst with
     | none=>exact⟨g',H⟩
     | some d=>exact⟨g',H.put_ (hd d D) (B.noown (CU B))⟩
    unfold Oper.wp;rcases O _ _ _ _ _ M with ⟨m,v⟩ | N
    ·rw[C m]
     refine Calls.mono (v _ g.β g.bs (SS E g w) _ w bk A (j false _ (λh=>by cases h) k)) ?_
     rintro e w' ⟨u,kd',β',bs',rfl,f⟩
     exact l _ _ _ _ _ f
    ·obtain⟨u,w',kd',β',bs',F,f⟩:=N _ g.β g.bs (SS E g w) _ w bk A (j false _ (λh=>by cases h) k)
     rw[q _ _ F];exact l _ _ _ _ _ f
   ·cases I
  ·cases y
 ·cases y
def BD(d:Sim E g σ a w){p q:Bool}{n:Nat}(c:p=true->n=σ.sh.length):∀ {xs:List Operand} {rs:List AR},cR xs rs=true->(rs.map (ev σ.fr)).all (hH p)=true ->
  aM (aV (cx0 g.β g.bs (SS E g w) w n) aX) ((rs.map (ev σ.fr)).map (pv q)) (xs.map a.eval)
 | [],rs,h,_=>by have:=uI h;subst this;trivial
 | x::xs,rs,h,b=>by
  obtain⟨r,j,rfl,e,f⟩:=uH h;simp only[ju,ad0,ir] at b;obtain⟨ow,i,_⟩:=d.rdT e;exact⟨BF c b.1 i,BD d c f b.2⟩
def i7(h:vO P Y)(vs:Array Value):(callFunc Y vs).run P w=.ok (.enter Y vs) w:=by
 obtain⟨fn,c,b,d⟩:=h;have a:¬ fn.name="runtime.NumGoroutine":=by simpa using d
 simp [callFunc,program,Sem.run,c,a];intro e;rw[e] at b;cases b
def XD(a:aR Z h I):aV Z aX h I:=by
 cases h with
 | sl m z l =>
  have:=aG.top (c:=Z) (ow:=aX) (x:=.sl m z l) (v:=I) (by cases m<;>exact a)
  exact this.1
 | any=>simp [aR,aG] at a
 | undef=>simp [aR,aG] at a
 | loc=>simp [aR,aG] at a
 | ip=>simp [aR,aG] at a
 | fn=>simp [aR,aG] at a
 | tup=>simp [aR,aG] at a
 | mapv=>simp [aR,aG] at a
 | aggR=>simp [aR,aG] at a
 | _=>exact a
def IX{p q:Bool}{n:Nat}(b:p=true->n=σ.sh.length):∀ {caps:List AV} {vs:List Value},aM (aR (cx E g σ w)) caps vs->caps.all (hH p)=true->aM (aV (cx0 g.β g.bs (SS E g w) w n) aX) (caps.map (pv q)) vs
 | [],[],_,_=>trivial
 | c::caps,u::vs,h,a=>by
  simp only[ad0,ir] at a;exact⟨BF b a.1 (XD h.1),IX b h.2 a.2⟩
 | [],_::_,h,_=>by simp [aM] at h
 | _::_,[],h,_=>by simp [aM] at h
def S9(f:Sim E g σ a w)(hd:∀ d,o.dst=some d->d<E.nt){G:aP}(i:fK P G)(e:o.op=.call { callee:=.value (.func Y),args:=gn,argTypes:=gw })
  (l:cR gn.toList bq=true)(j:nS G cf Y (bq.map (ev σ.fr)) (rdm σ cf)=some (bv,dy)):
  o.wp P a w (aS E (put (wrm σ dy cf) o.dst bv)) Q:=by
 refine DC f hd i (bk:=gn.map a.eval) ?_ (λbv w' h=>by simp [execOp,e,resolve,Deferred.ofValue,Act.eval,invoke,h]) j (λp n k c=>?_)
 ·intro b
  have:=i7 (P:=P) (w:=w) b (gn.map a.eval)
  simp [execOp,e,resolve,Deferred.ofValue,Act.eval,invoke,this]
 ·rw[ag6];exact BD f k l c
def P5(f:Sim E g σ a w)(hd:∀ d,o.dst=some d->d<E.nt){G:aP}(m:fK P G){t:Tmp}(e:o.op=.call { callee:=.value (.tmp t),args:=gn,argTypes:=gw })
  (s:okR (.tmp t) C=true)(u:cR gn.toList bq=true)(r:ev σ.fr C=.fn Y bh)(q:nS G cf Y (bq.map (ev σ.fr)++bh) (rdm σ cf)=some (bv,dy)):
  o.wp P a w (aS E (put (wrm σ dy cf) o.dst bv)) Q:=by
 obtain⟨i,j,l⟩:=f.rd s r;refine DC f hd m (bk:=gn.map a.eval++i) ?_ (λbv w' h=>by simp [execOp,e,resolve,Deferred.ofValue,j,invoke,h]) q (λp n k b=>?_)
 ·intro c
  have:=i7 (P:=P) (w:=w) c (gn.map a.eval++i)
  simp [execOp,e,resolve,Deferred.ofValue,j,invoke,this]
 ·rw[af7,ir] at b
  rw[af5,Array.toList_append,ag6];exact (BD f k u b.1).append (IX k l b.2)
def lU(off m:Nat)(f:AV->AV)(g:off+m<=bh.length)
  (h:∀ j x,j<m->bh[off+j]?=some x->∃ u,bk[off+j]?=some u/\gj (f x) u):aM gj (((bh.drop off).take m).map f) ((bk.toList.drop off).take m):=by
 have k:off+m<=bk.size\/m=0:=by
  rcases aj6 m with e | e
  ·exact .inr e
  ·obtain⟨u,a,_⟩:=h (m-1) _ (by omega) (ii (by omega))
   have:=(kw.1 a).1
   exact .inl (by omega)
 refine aM.of_get (by simp;omega) λj x u d c=>?_
 have b:j<m:=by
  have:=(jh.1 d).1
  simp at this;omega
 rw[aa5,mx b,tb] at d;rw[mx b,tb] at c;obtain⟨y,l,rfl⟩:=jf.1 d;obtain⟨n,a,i⟩:=h j y b l;rw[Array.getElem?_toList,a] at c;cases c;exact i
def qI{off z:Nat}(h:dE off n z f=some bd)(G:o6 Z fw w q R f)
  (C:∀ i n,Z.S i n->du i n/\w.cell? ⟨i,n,none⟩=Z.w.cell? ⟨i,n,none⟩)(D:∀ n,du q n):0<z/\bd.length=n/\(∀ e∈bd,e.length=z)/\fC du w z bd q off /\
  ∃ vs:List Value,vs.length=n*z/\aM (aG du w) bd.flatten vs/\(∀ j v,vs[j]?=some v->w.cell? ⟨q,off+j,none⟩=some v):=by
 unfold dE at h
 split at h
 ·rename_i E
  obtain⟨s,y,l⟩:=E;cases h;obtain⟨d,J,I,o,_,H,p⟩:=G;rw[kx] at l;have b:aM (aG du w) (((f.drop off).take (n*z)).map aJ) ((d.toList.drop off).take (n*z)):=by
   refine lU off (n*z) aJ y λj x F m=>?_
   obtain⟨u,A,B⟩:=p _ x m;refine⟨u,A,aG.mono C _ _ (u9 (l x (ns.2 ⟨j,?_⟩)) B)⟩;rw[mx F,tb];exact m
  have c:(((f.drop off).take (n*z)).map aJ).length=n*z:=by simp;omega
  obtain⟨f1,f2,r⟩:=iQ z n _ c;have a:∀ j v,((d.toList.drop off).take (n*z))[j]?=some v->w.cell? ⟨q,off+j,none⟩=some v:=by
   intro j v g;rw[Vz] at g
   split at g
   ·rw[tb] at g
    simp [World.cell?,o];simpa using g
   ·cases g
  have k:((d.toList.drop off).take (n*z)).length=n*z:=by rw[b.length];exact c
  refine⟨s,r,f2,nV f2 (by rw[f1];exact b) (λj _=>D _) a,_,k,by rw[f1];exact b,a⟩
 ·cases h
def P9(k:Sim E g σ a w){fx:AV}(h:nA σ.sh bv=some fx)(v:hH false fx=true)(r:aV (cx E g σ w) dq bv I):
  aV (cx0 g.β g.bs (λb _=>b<w.heap.size) w 0) aX (fV fx) I:=by
 have m:∀ {dq:Value->Nat->Nat->Prop} {bv:AV} {I:Value},hH false bv=true->aV (cx E g σ w) dq bv I->aV (cx0 g.β g.bs (λb _=>b<w.heap.size) w 0) aX (fV bv) I:=by
  intro dq bv I v r
  have:=BF (U:=false) (d:=false) (n:=0) (λh=>by cases h) v r
  exact aV.mono (c:=cx0 g.β g.bs (SS E g w) w 0) (c':=cx0 g.β g.bs (λb _=>b<w.heap.size) w 0) ⟨λb n h=>⟨SS.lt k h,rfl⟩,ji _,λ_ _=>rfl,λ_ _=>rfl,λs k=>k.elim⟩ _ _ (λ_ _ _ h=>h) this
 by_cases q:∃ so off n z,bv=.ss so off n z
 ·obtain⟨so,off,n,z,rfl⟩:=q
  simp only[nA] at h;obtain⟨cells,u,J⟩:=jj.1 h;obtain⟨l,f,K⟩:=jf.1 J;subst K;obtain⟨G,j,rfl,H,P⟩:so<σ.sh.length/\∃ j,I=.slice (some ⟨g.β so,off,none⟩) n j/\n<=j/\ssz off j z (g.bs so):=r;have y:=k.shrlt so G;show aG (λb _=>b<w.heap.size) w (.sl .no z l) _;simp only[aG];by_cases p:n=0
  ·have C:l.length=0:=by
    unfold dE at f
    split at f
    ·cases f;subst p;simp [cP]
    ·cases f
   have x:=js C;exact⟨_,j,by rw[C,p],by omega,by simp,by simp,.inl x⟩
  ·have hd:cells≠aO/\bX cells=true:=by
    have L:0<z/\off+n*z<=cells.length/\((cells.drop off).take (n*z)).all (λbv=>aQ (aJ bv))=true:=by
     unfold dE at f
     split at f
     ·assumption
     ·cases f
    obtain⟨M,o,i⟩:=L;have D:0<n*z:=ai1 (by omega) M;have key:∀ fx,cells=[fx]->aQ (aJ fx)=true:=by
     rintro fx rfl
     have:off=0/\n*z=1:=by simp at o;omega
     obtain⟨rfl,u⟩:=this;rw[u] at i;simpa using i
    refine⟨λe=>?_,?_⟩
    ·have:=key _ e;simp [aJ,aQ] at this
    ·unfold bX
     split
     ·have:=key _ rfl;simp [aJ,aQ] at this
     ·have:=key _ rfl;simp [aJ,aQ] at this
     ·rfl
   obtain⟨_,A,_⟩:=k.shr so cells u hd.1;obtain⟨_,F,Q,N,_⟩:=qI (du:=λb _=>b<w.heap.size) f (A hd.2) (λO n h=>⟨SS.lt k h,rfl⟩) (λ_=>y);exact⟨_,j,by rw[F],by rw[F];exact H,by simp,by simp,.inr ⟨_,_,rfl,N⟩⟩
 ·have B:fx=bv:=by
   unfold nA at h
   split at h
   ·rename_i so off n z
    exact absurd ⟨so,off,n,z,rfl⟩ q
   ·cases h;rfl
  subst B;exact m v r
def CJ{sh:LL}:∀ {xs a:List AV},l8 sh xs=some a->a.length=xs.length/\∀ (i:Nat) (x:AV),xs[i]?=some x->∃ y,a[i]?=some y/\nA sh x=some y
 | [],a,h=>by simp only[l8,jc] at h;subst h;exact⟨rfl,λi x g=>by simp at g⟩
 | x::xs,a,h=>by
  simp only[l8] at h
  split at h
  ·rename_i y j c d
   cases h;obtain⟨e,f⟩:=CJ d;refine⟨by simp [e],λi u b=>?_⟩
   cases i with
   | zero=>simp at b;subst b;exact⟨y,rfl,c⟩
   | succ i=>simpa using f i u (by simpa using b)
  ·cases h
def TP{eo:Cx}(h:xG bv=true)(r:aV Z aX bv I):aV eo aX bv I/\aJ bv=bv:=by
 have key:∀ (y:AV) (u:Value),bY y=true->aR Z y u->aR eo y u:=by
  intro y u d c
  cases y<;>simp [bY] at d
  ·exact c
  ·exact c
  ·exact c
  ·exact c
 cases bv with
 | tup l =>
  refine⟨?_,rfl⟩;obtain⟨vs,e,a⟩:=r;refine⟨vs,e,?_⟩;simp only[xG,kx] at h;generalize vs.toList=b at a
  clear e
  induction l generalizing b with
  | nil=>cases b with
   | nil=>trivial
   | cons=>simp [aM] at a
  | cons bv l f=>cases b with
   | nil=>simp [aM] at a
   | cons u b=>exact⟨key _ _ (h bv (by simp)) a.1,f (λy d=>h y (by simp [d])) b a.2⟩
 | int=>exact⟨r,rfl⟩
 | bool=>exact⟨r,rfl⟩
 | str=>exact⟨r,rfl⟩
 | nilp=>exact⟨r,rfl⟩
 | _=>simp [xG,bY] at h
def A5(L:Sim E g σ a w)(hd:∀ d,o.dst=some d->d<E.nt){G:aP}(S:fK P G)(A:vO P Y->(execOp a.eval o).run P w=.ok (.enter Y bk) w)(v:∀ h w',(callFunc Y bk).run P w=.ok (.value h) w'->(execOp a.eval o).run P w=.ok (.value h) w')(k:jO G cf Y bh (rdm σ cf)=some (h,dy))
  (R:bk.size=bh.length)(q:∀ (i:Nat) (x:AV) (u:Value),bh[i]?=some x->bk[i]?=some u->∃ ow,aV (cx E g σ w) ow x u):
  o.wp P a w (aS E (put (wrm σ dy cf) o.dst h)) Q:=by
 unfold jO at k
 split at k
 ·obtain⟨X,N,k⟩:=jj.1 k
  split at k
  ·rename_i j
   obtain⟨⟨r,sh'⟩,U,J⟩:=jj.1 k
   split at J
   ·rename_i f
    cases J;rw[ir] at f
    have:sh'=[]:=by simpa using f.1
    subst this;have l:=Dl (w:=w) (dx:=g.β) (fy:=g.bs) (du:=λb _=>b<w.heap.size) (λb n T=>T) L.globOK';obtain⟨l1,l2⟩:=CJ N;have p:aM (aV (cx0 g.β g.bs (λb _=>b<w.heap.size) w 0) aX) (X.map fV) bk.toList:=by
     refine aM.of_get (by simp;omega) λi x u C V=>?_
     rw[aa5] at C;obtain⟨y,M,rfl⟩:=jf.1 C;have hi:i<bh.length:=by
      have:=(jh.1 M).1
      omega
     obtain⟨y',D,F⟩:=l2 i _ (ii hi);rw[M] at D;cases D;obtain⟨ow,H⟩:=q i _ u (ii hi) (by simpa using V);rw[kx] at j;exact P9 L F (j y (ns.2 ⟨i,M⟩)) H
    have m:∀ (u:Value) (w':World) kd' β' bs',After (λb _=>b<w.heap.size) (λ_=>none) g.β g.bs w [] [] r u kd' β' bs' w'->aS E (put (wrm σ (rdm σ .sh) .sh) o.dst r) (a.put o.dst u) w':=by
     intro u w' kd' β' bs' c;obtain⟨g',O,Z,D⟩:=L.afterP c;obtain⟨F,H⟩:=TP (eo:=cx E g' σ w') f.2 c.rep;show aS E _ (a.put o.dst u) w';cases I:o.dst with
     | none=>exact⟨g',O⟩
     | some d=>exact⟨g',O.put_ (hd d I) (F.noown H)⟩
    unfold Oper.wp;rcases S _ _ _ _ _ U with ⟨s,B⟩ | C
    ·rw[A s]
     refine Calls.mono (B _ g.β g.bs _ _ w bk l p) ?_
     rintro e w' ⟨u,kd',β',bs',rfl,c⟩
     exact m _ _ _ _ _ c
    ·obtain⟨u,w',kd',β',bs',K,c⟩:=C _ g.β g.bs _ _ w bk l p
     rw[v _ _ K];exact m _ _ _ _ _ c
   ·cases J
  ·cases k
 ·cases k
def z7:∀ {xs:List Operand} {rs:List AR},cR xs rs=true->xs.length=rs.length/\∀ (i:Nat) (x:Operand) (r:AR),xs[i]?=some x->rs[i]?=some r->okR x r=true
 | [],rs,h=>by have:=uI h;subst this;exact⟨rfl,λi x r g=>by simp at g⟩
 | x::xs,rs,h=>by
  obtain⟨r,j,rfl,c,d⟩:=uH h;obtain⟨e,f⟩:=z7 d;refine⟨by simp [e],λi y s b a=>?_⟩
  cases i with
  | zero=>simp at b a;subst b;subst a;exact c
  | succ i=>exact f i y s (by simpa using b) (by simpa using a)
def P6(j:Sim E g σ a w)(hd:∀ d,o.dst=some d->d<E.nt){G:aP}(n:fK P G)(c:o.op=.call { callee:=.value (.func Y),args:=gn,argTypes:=gw })
  (q:cR gn.toList bq=true)(p:jO G cf Y (bq.map (ev σ.fr)) (rdm σ cf)=some (bv,dy)):
  o.wp P a w (aS E (put (wrm σ dy cf) o.dst bv)) Q:=by
 obtain⟨s,v⟩:=z7 q;refine A5 j hd n (bk:=gn.map a.eval) ?_ (λbv w' h=>by simp [execOp,c,resolve,Deferred.ofValue,Act.eval,invoke,h]) p (by simp at s ⊢;omega) ?_
 ·intro b
  have:=i7 (P:=P) (w:=w) b (gn.map a.eval)
  simp [execOp,c,resolve,Deferred.ofValue,Act.eval,invoke,this]
 ·intro i x u l k
  rw[aa5] at l;obtain⟨r,e,rfl⟩:=jf.1 l;rw[am5] at k;obtain⟨y,f,rfl⟩:=jf.1 k;obtain⟨ow,m,_⟩:=j.rdT (v i y r (by simpa using f) e);exact⟨ow,m⟩
end
end Go.Av
