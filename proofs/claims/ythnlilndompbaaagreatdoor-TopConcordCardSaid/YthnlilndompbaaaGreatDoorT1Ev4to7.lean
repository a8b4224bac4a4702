/- A part of the frame. No conditions. -/
import Derived.Test.YthnlilndompbaaaGreatDoorT1Ev1to3
import Derived.Laws.AppendOwn
import Derived.Laws.Append
import Derived.Laws.Strings
import Derived.Laws.StructEq
import Derived.Laws.CopyRow
open List
set_option linter.all false
set_option maxRecDepth 100000
set_option maxHeartbeats 16000000
def jl:=@Bool.false_eq_true
def ke:=@Go.run_underlying
def kq:=@List.getElem?_append_left
def kw:=@Array.getElem?_eq_some_iff
def mx:=@List.getElem?_take_of_lt
def ns:=@List.mem_iff_getElem?
def qs:=@not_false_eq_true
theorem rh:type_of% @Nat.add_zero:=λ_=>rfl
def sp:=@List.getElem?_set_self
def tr:=@List.length_take
def we:=@Option.isSome_iff_exists
def xm:=@List.getElem?_set_ne
def ye:=@List.take_append_drop
def zt:=@List.length_map
def Vz:=@List.getElem?_take
def aa0:=@List.getElem?_append
def aa5:=@List.getElem?_map
theorem ac2:type_of% @Array.length_toList:=rfl
def ac3:=@Go.run_loadCells_list
def ad2:=@List.getElem?_toArray
def ae2:=@Go.heap_alloc_new
def af4:=@Go.setRow_heap
def ah2:=@List.drop_drop
def aj8:=@Array.toList_setIfInBounds
def ak1:=@Go.setCell_eq_setRow
def ak9:=@Go.Sem.run_bind
theorem al3:type_of% @Go.Result.andThen_ok:=λ_ _ _=>rfl
def am6:=@Go.setRow_other
def ao5:=@bne_iff_ne
namespace Go.Av
variable{C ba:AR}{D:Int}{I:Value}{J bj:TypeId}{K:List UInt8}{M bi ij:Operand}{O:IntKind}{R j n q:Nat}{U d:Bool}{Z:Cx}{bd:LL}{bf:Own}{bh f iv zero:List AV}{bk:Array Value}{bq:List AR}{bv fx h:AV}{cd gz:List Value}{di:Nat->BK}{dq ow':Value->Nat->Nat->Prop}{ea:TypeDesc}{eb:Program}{fe:BinOp}{fs:Array Field}{fw:Nat->Value->Nat->Nat->Prop}{gj:AV->Value->Prop}{gm:Nat×Nat}{gw:Array TypeId}{im:Ow}{ks:List Nat}{p:UInt8}{xs:List Operand}
variable [Gtab]
open Go.RowKit
def S1(S0:Nat->Nat->Prop)(w w':World)(kd:Nat->BK)(b o:Nat):Prop:=
 S0 b o\/(w.heap.size<=b/\b<w'.heap.size/\kd b=.stab)\/(b<w'.heap.size/\∃ t k,kd b=.own t k/\o<k)
def cx0(β bs:Nat->Nat)(S0:Nat->Nat->Prop)(w:World)(n:Nat):Cx:=
 { S:=S0,w:=w,β:=β,bs:=bs,lam:=λ_=>0,shn:=n,live:=λ_=>False }
def Tf(sh:LL)(kd:Nat->BK)(β bs:Nat->Nat)(S:Nat->Nat->Prop)(w:World):Prop:=
 (∀ i cells,sh[i]?=some cells->cells≠aO->kd (β i)=.shr i/\yB (cx0 β bs S w sh.length) (λj=>d9 kd w (.cell i j)) w (β i) (bs i) cells) /\
 (∀ i,i<sh.length->β i<w.heap.size/\∃ j,kd (β i)=.shr j)
def qF(S0:Nat->Nat->Prop)(w:World):Prop:=∀ i k l,Gtab.tab i=some (k,l)->dR S0 w (l.map (AV.int k)) i 0
def BU(sh:LL)(kd:Nat->BK)(β bs:Nat->Nat)(S0:Nat->Nat->Prop)(O0:Nat->Option Nat)(w:World):Prop:=
 Tf sh kd β bs S0 w /\
 (∀ b o,S0 b o->b<w.heap.size/\(∀ i,i<sh.length->β i≠b)/\∀ k,O0 b=some k->o<k) /\
 (∀ b k,O0 b=some k->b<w.heap.size/\(∀ i,i<sh.length->β i≠b)/\∃ t k',kd b=.own t k'/\k<=k') /\
 (∀ b t k,kd b=.own t k->b<w.heap.size->(O0 b).isSome=true)/\qF S0 w
structure After (S0:Nat->Nat->Prop) (O0:Nat->Option Nat) (β bs:Nat->Nat) (w:World) (sh sh':LL) (r:AV) (v:Value) (kd':Nat->BK) (β' bs':Nat->Nat) (w':World):Prop where
 same:∀ i,i<sh.length->β' i=β i/\bs' i=bs i
 len:sh.length<=sh'.length
 shok:Tf sh' kd' β' bs' (S1 S0 w w' kd') w'
 rep:aV (cx0 β' bs' (S1 S0 w w' kd') w' sh'.length) aX r v
 os:w'.os=w.os
 tape:w'.tape=w.tape
 output:w'.output=w.output
 size:w.heap.size<=w'.heap.size
 frame:∀ b,b<w.heap.size->(∀ i,i<sh.length->β i≠b)->O0 b=none->w'.heap[b]?=w.heap[b]?
 sframe:∀ b o,S0 b o->w'.cell? ⟨b,o,none⟩=w.cell? ⟨b,o,none⟩
 o0:∀ b k,O0 b=some k->∃ t k',kd' b=.own t k'/\k<=k'
 own0:∀ b t k,kd' b=.own t k->w.heap.size<=b\/(O0 b).isSome=true
 new:∀ i,sh.length<=i->i<sh'.length->w.heap.size<=β' i\/∃ j,j<sh.length/\β j=β' i/\sh[j]?≠some aO/\sh'[j]?=some aO
 deads:∀ i:Nat,sh[i]?=some aO->sh'[i]?=some aO
def fB(P:Program)(f:FuncId)(args:List AV)(sh:LL)(r:AV)(sh':LL):Prop:=
 ∀ (kd:Nat->BK) (β bs:Nat->Nat) (S0:Nat->Nat->Prop) (O0:Nat->Option Nat) (w:World) (vs:Array Value),BU sh kd β bs S0 O0 w ->
  aM (aV (cx0 β bs S0 w sh.length) aX) args vs.toList ->
  Calls P f vs w λe w'=>∃ v kd' β' bs',e=.returned v/\After S0 O0 β bs w sh sh' r v kd' β' bs' w'
def vO(P:Program)(f:FuncId):Prop:=∃ fn,P.funcs[f]?=some fn/\fn.body.isSome=true/\(fn.name == "runtime.NumGoroutine")=false
def Th(P:Program)(f:FuncId)(args:List AV)(sh:LL)(r:AV)(sh':LL):Prop:=
 ∀ (kd:Nat->BK) (β bs:Nat->Nat) (S0:Nat->Nat->Prop) (O0:Nat->Option Nat) (w:World) (vs:Array Value),BU sh kd β bs S0 O0 w ->
  aM (aV (cx0 β bs S0 w sh.length) aX) args vs.toList ->
  ∃ v w' kd' β' bs',(callFunc f vs).run P w=.ok (.value v) w'/\After S0 O0 β bs w sh sh' r v kd' β' bs' w'
def fK(P:Program)(G:aP):Prop:=∀ f args sh r sh',G f args sh=some (r,sh')->(vO P f/\fB P f args sh r sh')\/Th P f args sh r sh'
def aS(E:Env)(σ:AS):Act->World->Prop:=λa w=>∃ g,Sim E g σ a w
section
variable{P:Program}{E:Env}{g g':Gh}{σ σ1:AS}{a:Act}{w w':World}{o:Oper}{Q:Exit->Act->World->Prop}
def SS.nshr(h:Sim E g σ a w)(d:SS E g w q n){v:Nat}(hi:v<σ.sh.length):g.β v≠q:=by
 rintro rfl
 obtain⟨j,i⟩:=h.shrk v hi;rcases d with ⟨l,d⟩ | ⟨_,_,b⟩ | ⟨_,_,_,b,_⟩
 ·rcases aa7 v E.n0 with c | c
  ·exact (h.s0 _ _ d).2.1 v c (h.shr0 v c).1.symm
  ·rcases h.shr1 v hi c with f | ⟨k,f,e,_⟩
   ·omega
   ·exact (h.s0 _ _ d).2.1 k f e
 ·rw[i] at b;cases b
 ·rw[i] at b;cases b
def SS.own(h:Sim E g σ a w)(e:SS E g w j n)(d:g.kd j=.own im q):n<q:=by
 rcases e with ⟨o,e⟩ | ⟨_,_,b⟩ | ⟨_,t',k',b,l⟩
 ·rcases h.own0 j im q d with f | f
  ·omega
  ·obtain⟨k,c⟩:=we.1 f
   obtain⟨_,_,r,p,i,m⟩:=h.o0 j k c;rw[d] at i;cases i
   have:=(h.s0 j n e).2.2 k c
   omega
 ·rw[d] at b;cases b
 ·rw[d] at b;cases b;exact l
def wP(σ:AS):Ow->Prop
 | .slot s=>∀ z l,σ.fr s≠.sl .own z l
 | .cell i j=>∀ cells z l,σ.sh[i]?=some cells->cells≠aO->cells[j]?≠some (.sl .own z l)
def Sim.turn(h:Sim E g σ a w){b:Nat}{t t':Ow}{k k':Nat}{C arr':Array Value}{ty:TypeId}(R:w.heap[b]?=some (.cells C ty (0,0)))(B:g.kd b=.own t k)
  (Z:wP σ t)(av:k<=k')(D:∀ j,j<k->arr'[j]?=C[j]?):
  Sim E { g with kd:=upd g.kd b (.own t' k') } σ a (w.setRow b arr')/\Cx.le (cx E g σ w) (cx E { g with kd:=upd g.kd b (.own t' k') } σ (w.setRow b arr')):=by
 have m:∀ d,d≠b->(w.setRow b arr').heap[d]?=w.heap[d]?:=λd f=>am6 w b d _ f
 have q:(w.setRow b arr').heap.size=w.heap.size:=by simp [World.setRow]
 have L:=af4 w b C arr' ty (0,0) R;have V:=iL R;have hm:∀ d n,SS E g w d n->SS E { g with kd:=upd g.kd b (.own t' k') } (w.setRow b arr') d n/\(w.setRow b arr').cell? ⟨d,n,none⟩=w.cell? ⟨d,n,none⟩:=by
  intro d n o;by_cases u:d=b
  ·subst u
   have hn:=SS.own h o B;refine⟨.inr (.inr ⟨by rw[q];exact V,t',k',by simp [upd],by omega⟩),?_⟩;simp only[World.cell?,L,R];simpa using D n hn
  ·refine⟨?_,by simp [World.cell?,m d u]⟩
   rcases o with o | ⟨I,J,F⟩ | ⟨I,r,G,J,F⟩
   ·exact .inl o
   ·exact .inr (.inl ⟨I,by rw[q];exact J,by simp only[upd];rw[ie u];exact F⟩)
   ·exact .inr (.inr ⟨by rw[q];exact I,r,G,by simp only[upd];rw[ie u];exact J,F⟩)
 have x:Cx.le (cx E g σ w) (cx E { g with kd:=upd g.kd b (.own t' k') } σ (w.setRow b arr')):=⟨hm,ji _,λ_ _=>rfl,λ_ _=>rfl,λs o=>⟨o,rfl⟩⟩
 have M:∀ r v z n,r≠t->d9 g.kd w r v z n->d9 (upd g.kd b (.own t' k')) (w.setRow b arr') r v z n:=by
  rintro r v z n f ⟨A,c,e1,P⟩
  refine⟨A,c,e1,?_⟩;rcases P with P | ⟨b1,ar,tt,e3,e4,e5,H⟩
  ·exact .inl P
  ·have K:b1≠b:=by
    rintro rfl
    rw[B] at H
    injection H with H _
    exact f H.symm
   exact .inr ⟨b1,ar,tt,e3,(m b1 K).trans e4,e5,by simp only[upd];rw[ie K];exact H⟩
 have p:∀ d,d≠b->upd g.kd b (.own t' k') d=g.kd d:=λd f=>by simp [upd,f]
 refine⟨{ h with slots:=?_,shr:=?_,shrlt:=?_,shrk:=?_,loc:=?_,o0:=?_,own0:=?_,hsize:=by rw[q];exact h.hsize,frame:=?_,sframe:=?_ },x⟩
 ·intro s
  refine aV.mono x _ _ (λz l Y X=>M _ _ _ _ ?_ X) (h.slots s)
  rintro rfl
  exact Z z l Y
 ·intro i cells hi hd
  obtain⟨y,N⟩:=h.shr i cells hi hd;have f:g.β i≠b:=by intro e;rw[e,B] at y;cases y
  refine⟨(p _ f).trans y,N.mono x (m _ f) (λj z l v Y X=>M _ _ _ _ ?_ X)⟩
  rintro rfl
  exact Z cells z l hi hd Y
 ·intro i hi;rw[q];exact h.shrlt i hi
 ·intro i hi
  obtain⟨j,S⟩:=h.shrk i hi;have f:g.β i≠b:=by intro e;rw[e,B] at S;cases S
  exact⟨j,(p _ f).trans S⟩
 ·intro s cells o
  obtain⟨y,N,O⟩:=h.loc s cells o;have f:g.lam s≠b:=by intro e;rw[e,B] at y;cases y
  exact⟨(p _ f).trans y,N,O.mono x (m _ f) (λ_ _ _ _ _ h=>h)⟩
 ·intro d k0 T
  obtain⟨y,N,r,G,O,j4⟩:=h.o0 d k0 T;refine⟨y,N,?_⟩;by_cases u:d=b
  ·subst u
   rw[B] at O;cases O;exact⟨t',k',by simp [upd],by omega⟩
  ·exact⟨r,G,(p _ u).trans O,j4⟩
 ·intro d r G U
  by_cases u:d=b
  ·subst u;exact h.own0 d t k B
  ·have h9:g.kd d=.own r G:=(p _ u).symm.trans U
   exact h.own0 d r G h9
 ·intro d I J F
  have f:d≠b:=by
   rintro rfl
   rcases h.own0 _ t k B with Q | Q
   ·omega
   ·rw[F] at Q;cases Q
  rw[m d f];exact h.frame d I J F
 ·intro d n o
  rw[<- h.sframe d n o];exact (hm d n (.inl ⟨(h.s0 d n o).1,o⟩)).2
def setRow_self(b:w.heap[n]?=some (.cells bk J gm)):w.setRow n bk=w:=by
 have a:(w.setRow n bk).heap=w.heap:=by
  apply Array.ext_getElem?;intro i;by_cases c:i=n
  ·subst c
   rw[af4 w i bk bk J gm b,b]
  ·exact am6 w n i _ c
 cases w;simp only[World.setRow] at a ⊢;rw[a]
def cO(c:Sim E g' σ1 a w')(b:(execOp a.eval o).run P w=.ok (.value I) w')
  (e:∀ d,o.dst=some d->d<E.nt/\aV (cx E g' σ1 w') (d9 g'.kd w' (.slot d)) h I):o.wp P a w (aS E (put σ1 o.dst h)) Q:=by
 unfold Oper.wp;rw[b];show aS E (put σ1 o.dst h) (a.put o.dst I) w';cases hd:o.dst with
 | none=>exact⟨g',c⟩
 | some d=>exact⟨g',c.put_ (e d hd).1 (e d hd).2⟩
def uI(h:cR [] bq=true):bq=[]:=by
 cases bq with
 | nil=>rfl
 | cons r bq=>simp [cR] at h
def uH(h:cR (M::xs) bq=true):∃ r a,bq=r::a/\okR M r=true/\cR xs a=true:=by
 cases bq with
 | nil=>simp [cR] at h
 | cons r bq=>exact⟨r,bq,rfl,by simpa [cR] using h⟩
def iZ(h:cR [M] bq=true):∃ r,bq=[r]/\okR M r=true:=by
 obtain⟨r,c,rfl,a,b⟩:=uH h
 cases uI b
 exact⟨r,rfl,a⟩
def iC(h:cR [M,bi] bq=true):∃ r s,bq=[r,s]/\okR M r=true/\okR bi s=true:=by
 obtain⟨r,d,rfl,a,b⟩:=uH h;obtain⟨s,rfl,c⟩:=iZ b;exact⟨r,s,rfl,a,c⟩
def G4(h:cR [M,bi,ij] bq=true):∃ r s t,bq=[r,s,t]/\okR M r=true/\okR bi s=true/\okR ij t=true:=by
 obtain⟨r,e,rfl,a,b⟩:=uH h;obtain⟨s,t,rfl,c,d⟩:=iC b;exact⟨r,s,t,rfl,a,c,d⟩
def aG.top{c:Cx}{ow:Value->Nat->Nat->Prop}{x:AV}{v:Value}(h:aG c.S c.w x v):aV c ow x v/\aJ x=x/\aQ x=true/\v.cells=#[v]:=by
 cases x with
 | int k n=>simp only[aG] at h;subst h;exact⟨rfl,rfl,rfl,rfl⟩
 | bool b=>simp only[aG] at h;subst h;exact⟨rfl,rfl,rfl,rfl⟩
 | str s =>
  have a:=h;simp only[aG] at h;obtain⟨b,rfl,_⟩:=h;exact⟨a,rfl,rfl,rfl⟩
 | nilp=>simp only[aG] at h;subst h;exact⟨rfl,rfl,rfl,rfl⟩
 | sl m z l =>
  have a:=h;simp only[aG] at h;obtain⟨A,e,rfl,_,_,d,_⟩:=h
  cases m with
  | own=>exact absurd rfl d
  | no=>exact⟨a,rfl,rfl,rfl⟩
  | full=>exact⟨a,rfl,rfl,rfl⟩
 | _=>simp [aG] at h
def Sim.rd(h:Sim E g σ a w){x:Operand}{r:AR}(b:okR x r=true){v:AV}(c:ev σ.fr r=v):aV (cx E g σ w) aX (aJ v) (a.eval x):=by
 rw[<- c];exact h.ev_ b
def Sim.rdT(h:Sim E g σ a w)(b:okR M C=true):∃ ow,aV (cx E g σ w) ow (ev σ.fr C) (a.eval M)/\(∀ s,C=.t s->ow=d9 g.kd w (.slot s)):=by
 unfold okR at b
 split at b
 ·exact⟨aX,⟨_,0,rfl,h.tabR b⟩,λs c=>by cases c⟩
 ·simp at b
  subst b;exact⟨_,h.slots _,λs c=>by cases c;rfl⟩
 ·exact⟨aX,NK b,λs c=>by cases c⟩
 ·simp at b
  subst b;exact⟨aX,⟨#[],rfl,trivial⟩,λs c=>by cases c⟩
 ·cases b
def Sim.rdNat(h:Sim E g σ a w)(b:okR M C=true)(c:ev σ.fr C=.int O D):a.eval M=.int O D:=by
 have:=h.rd b c
 exact this
def Sim.rdBool(h:Sim E g σ a w){x:Operand}{r:AR}(c:okR x r=true){b:Bool}(d:ev σ.fr r=.bool b):a.eval x=.bool b:=by
 have:=h.rd c d
 exact this
def Sim.rdStr(h:Sim E g σ a w)(c:okR M C=true)(d:ev σ.fr C=.str K):∃ b,a.eval M=.string b/\b.data.toList=K:=by
 have:=h.rd c d
 exact this
def Sim.rdSl(h:Sim E g σ a w){x:Operand}{r:AR}(j:okR x r=true){m:Own}{z:Nat}{l:LL}(k:ev σ.fr r=.sl m z l):
  ∃ A c,a.eval x=.slice A l.length c/\l.length<=c/\(m=.full->c=l.length)/\(l=[]\/∃ b o,A=some ⟨b,o,none⟩/\fC (SS E g w) w z l b o):=by
 have:=h.rd j k
 cases m with
 | own =>
  simp only[aJ,aV,aR,aG] at this;obtain⟨A,c,d,e,_,_,f⟩:=this;exact⟨A,c,d,e,by simp,f⟩
 | no =>
  simp only[aJ,aV,aR,aG] at this;obtain⟨A,c,d,e,_,_,f⟩:=this;exact⟨A,c,d,e,by simp,f⟩
 | full =>
  simp only[aJ,aV,aR,aG] at this;obtain⟨A,c,d,e,i,_,f⟩:=this;exact⟨A,c,d,e,λ_=>i trivial,f⟩
def IG(d:aQ (fV h)=true)(r:aV Z dq h I):aG Z.S Z.w (fV h) I/\I.cells=#[I]:=by
 have a:aV Z aX (fV h) I:=r.str;generalize fV h=y at d a
 cases y<;>simp [aQ] at d
 ·have:I=.int _ _:=a
  subst this;exact⟨a,rfl⟩
 ·have:I=.bool _:=a
  subst this;exact⟨a,rfl⟩
 ·obtain⟨b,rfl,e⟩:∃ b,I=.string b/\b.data.toList=_:=a
  exact⟨⟨b,rfl,e⟩,rfl⟩
 ·have:I=.pointer none:=a
  subst this;exact⟨a,rfl⟩
 ·rename_i m z l
  cases m
  ·have c:aG Z.S Z.w (.sl .no z l) I:=a
   refine⟨c,?_⟩;simp only[aG] at c;obtain⟨A,Z,rfl,_⟩:=c;rfl
  ·have c:aG Z.S Z.w (.sl .full z l) I:=a
   refine⟨c,?_⟩;simp only[aG] at c;obtain⟨A,Z,rfl,_⟩:=c;rfl
  ·simp at d
def XB(b:aQ (C9 bv)=true)(r:aV Z dq bv I):aG Z.S Z.w (C9 bv) I/\I.cells=#[I]:=by
 by_cases h:∃ z,bv=.sl .full z []
 ·obtain⟨z,rfl⟩:=h
  have a:aG Z.S Z.w (.sl .full z []) I:=r;refine⟨a,?_⟩;simp only[aG] at a;obtain⟨A,Z,rfl,_⟩:=a;rfl
 ·have e:C9 bv=fV bv:=by
   unfold C9;split
   ·rename_i z
    exact absurd ⟨z,rfl⟩ h
   ·rfl
  rw[e] at b ⊢;exact IG b r
def oJ(a:cI n h=some f)(r:aV Z dq h I):
  aM (aG Z.S Z.w) f I.cells.toList/\f.length=n:=by
 unfold cI at a
 split at a
 ·split at a
  ·cases a
   rename_i b;obtain⟨vs,rfl,c⟩:∃ vs,I=.agg vs/\aM (aG Z.S Z.w) _ vs.toList:=r;exact⟨c,b⟩
  ·cases a
 ·split at a
  ·cases a
   rename_i b;obtain⟨d,c⟩:=XB b.2 r;rw[c];exact⟨⟨d,trivial⟩,by simp [b.1]⟩
  ·cases a
def u9(a:aQ (aJ h)=true)(r:bO Z dq h I):aG Z.S Z.w (aJ h) I:=by
 cases h with
 | sl m z l =>
  cases m with
  | own=>exact r.1
  | no=>exact r
  | full=>exact r
 | int=>exact r
 | bool=>exact r
 | str=>exact r
 | nilp=>exact r
 | _=>simp [aQ,aJ] at a
def N7(h:ldC d q n f=some bv)
  (D:∀ (j:Nat) (x:AV),f[j]?=some x->∃ u,bk[j]?=some u/\bO Z (fw j) x u):
  aJ bv=bv/\((d=true/\∃ vs:List Value,vs.length=n/\(∀ j u,vs[j]?=some u->bk[q+j]?=some u)/\aV Z aX bv (.agg vs.toArray))\/(d=false/\∃ x,bk[q]?=some x/\aV Z aX bv x)):=by
 unfold ldC at h
 split at h
 ·rename_i B
  split at h
  ·rename_i F
   cases h;obtain⟨c,p⟩:=F;refine⟨rfl,.inl ⟨B,?_⟩⟩;have I:q+n<=f.length\/n=0:=by
    rw[tr,kl] at c;omega
   have g:∀ j,j<n->∃ x u,f[q+j]?=some x/\bk[q+j]?=some u/\aG Z.S Z.w (aJ x) u:=by
    intro j s;have k:q+j<f.length:=by omega
    obtain⟨u,b,a⟩:=D (q+j) _ (ii k);refine⟨_,u,ii k,b,u9 ?_ a⟩;rw[kx] at p;refine p _ (ns.2 ⟨j,?_⟩);rw[mx s,tb,ii k]
   have C:n<=bk.size-q:=by
    by_cases H:n=0
    ·omega
    ·obtain⟨_,u,_,b,_⟩:=g (n-1) (by omega)
     have:=(kw.1 b).1
     omega
   refine⟨(bk.toList.drop q).take n,by simp;omega,?_,_,rfl,?_⟩
   ·intro j u i
    rw[Vz] at i
    split at i
    ·rw[tb] at i;simpa using i
    ·cases i
   ·have key:∀ (l:List AV) (vs:List Value),l.length=vs.length->(∀ (j:Nat) (x:AV) (u:Value),l[j]?=some x->vs[j]?=some u->aG Z.S Z.w x u)->aM (aG Z.S Z.w) l vs:=by
     intro l
     induction l with
     | nil=>intro vs c _;cases vs with
      | nil=>trivial
      | cons=>simp at c
     | cons x l G=>intro vs c p;cases vs with
      | nil=>simp at c
      | cons u vs=>exact⟨p 0 x u rfl rfl,G vs (by simpa using c) λj y w b a=>p (j+1) y w (by simpa using b) (by simpa using a)⟩
    refine key _ _ (by simp [c];omega) ?_;intro j x u o i;have s:j<n:=by
     have:=(jh.1 o).1
     rw[zt,c] at this;exact this
    obtain⟨y,J,b,a,E⟩:=g j s;rw[aa5,mx s,tb,b] at o;simp only[jq,jc] at o;subst o
    have:bk[q+j]?=some u:=by
     rw[mx s,tb] at i;simpa using i
    rw[a] at this;cases this;exact E
  ·cases h
 ·rename_i B
  split at h
  ·rename_i x o
   obtain⟨u,b,a⟩:=D q x o;have r:d=false:=by simpa using B
   unfold ldV at h
   split at h
   ·cases h
   ·cases h
   ·cases h
    exact⟨rfl,.inr ⟨r,u,b,a.1⟩⟩
   ·rename_i v A e
    simp only[jc] at h;subst h;refine⟨?_,.inr ⟨r,u,b,?_⟩⟩
    ·cases x with
     | sl m z l=>cases m<;>first | rfl | exact absurd rfl (e _ _)
     | _=>rfl
    ·cases x with
     | sl m z l=>cases m<;>first | exact a | exact absurd rfl (e _ _)
     | undef=>exact absurd rfl A
     | mapv=>exact absurd rfl (v _)
     | any=>trivial
     | loc=>simp [bO,aR,aG] at a
     | ip=>simp [bO,aR,aG] at a
     | fn=>simp [bO,aR,aG] at a
     | tup=>simp [bO,aR,aG] at a
     | aggR=>simp [bO,aR,aG] at a
     | _=>exact a
  ·cases h
def d8(a:aG Z.S Z.w h I):I.oneCell'=true/\bO Z aX h I:=by
 cases h with
 | int k n=>have c:=a;simp only[aG] at a;subst a;exact⟨rfl,c⟩
 | bool b=>have c:=a;simp only[aG] at a;subst a;exact⟨rfl,c⟩
 | str s=>have c:=a;simp only[aG] at a;obtain⟨b,rfl,_⟩:=a;exact⟨rfl,c⟩
 | nilp=>have c:=a;simp only[aG] at a;subst a;exact⟨rfl,c⟩
 | sl m z l =>
  have c:=a;simp only[aG] at a;obtain⟨A,e,rfl,_,_,d,_⟩:=a
  cases m with
  | own=>exact absurd rfl d
  | no=>exact⟨rfl,c⟩
  | full=>exact⟨rfl,c⟩
 | _=>simp [aG] at a
def oK(c:dI n h=some f)(r:aV Z dq h I):
  f.length=n/\I.cells.size=n/\(∀ u∈I.cells.toList,u.oneCell'=true)/\∀ (j:Nat) (y:AV),f[j]?=some y->∃ u,I.cells[j]?=some u/\bO Z aX y u:=by
 unfold dI at c
 split at c
 ·split at c
  ·cases c
   rename_i l a;obtain⟨vs,rfl,g⟩:∃ vs,I=.agg vs/\aM (aG Z.S Z.w) _ vs.toList:=r;have d:=g.length;simp only[ac2] at d;refine⟨a,by show vs.size=n;omega,λu o=>?_,λj y e=>?_⟩
   ·obtain⟨j,B⟩:=ns.1 o
    obtain⟨y,_,v⟩:=g.getv B;exact (d8 v).1
   ·obtain⟨u,q,v⟩:=g.get e
    exact⟨u,by simpa [Value.cells] using q,(d8 v).2⟩
  ·cases c
 ·split at c
  ·cases c
   rename_i l a;obtain⟨a,x⟩:=a;obtain⟨vs,rfl,g⟩:∃ vs,I=.agg vs/\aM (bO Z aX) _ vs.toList:=r;have d:=g.length;simp only[ac2] at d;have one:∀ (y:AV) (u:Value),frB y=true->bO Z aX y u->u.oneCell'=true:=by
    intro y u C i
    cases y with
    | int k n=>have:u=.int k n:=i;subst this;rfl
    | bool b=>have:u=.bool b:=i;subst this;rfl
    | str s=>obtain⟨b,rfl,_⟩:∃ b,u=.string b/\b.data.toList=s:=i;rfl
    | nilp=>have:u=.pointer none:=i;subst this;rfl
    | sl m z l =>
     cases m with
     | own=>simp [frB,aQ,TZ] at C
     | no=>exact (d8 (Z:=Z) (h:=.sl .no z l) i).1
     | full=>exact (d8 (Z:=Z) (h:=.sl .full z l) i).1
    | ptr=>obtain⟨_,rfl⟩:_/\u=_:=i;rfl
    | ss=>obtain⟨_,A,rfl,_⟩:_/\∃ A,u=_/\_:=i;rfl
    | mp=>obtain⟨_,rfl⟩:_/\u=_:=i;rfl
    | _=>simp [frB,aQ,TZ] at C
   refine⟨a,by show vs.size=n;omega,λu o=>?_,λj y e=>?_⟩
   ·obtain⟨j,B⟩:=ns.1 o
    obtain⟨y,q,v⟩:=g.getv B;exact one y u (kx.1 x y (ns.2 ⟨j,q⟩)) v
   ·obtain⟨u,q,v⟩:=g.get e
    exact⟨u,by simpa [Value.cells] using q,v⟩
  ·cases c
 ·split at c
  ·cases c
   rename_i a;obtain⟨rfl,a⟩:=a;rw[yb] at a;rcases a with a | a
   ·obtain⟨p,g⟩:=IG a r
    rw[g];refine⟨rfl,rfl,λu o=>?_,λj y e=>?_⟩
    ·simp at o;subst o;exact (d8 p).1
    ·cases j with
     | zero=>simp at e;subst e;exact⟨I,rfl,(d8 p).2⟩
     | succ j=>simp at e
   ·have key:I.cells=#[I]/\I.oneCell'=true/\bO Z aX (fV h) I:=by
     cases h<;>simp [TZ] at a
     ·obtain⟨p,rfl⟩:_/\I=_:=r
      exact⟨rfl,rfl,p,rfl⟩
     ·obtain⟨p,A,rfl,q⟩:_/\∃ A,I=_/\_:=r
      exact⟨rfl,rfl,p,A,rfl,q⟩
     ·obtain⟨p,rfl⟩:_/\I=_:=r
      exact⟨rfl,rfl,p,rfl⟩
    rw[key.1];refine⟨rfl,rfl,λu o=>?_,λj y e=>?_⟩
    ·simp at o;subst o;exact key.2.1
    ·cases j with
     | zero=>simp at e;subst e;exact⟨I,rfl,key.2.2⟩
     | succ j=>simp at e
  ·cases c
def v7(h:iW d j n f=some bv)(a:aM (aG Z.S Z.w) ((f.drop j).take n) cd):
  cd.length=n/\((d=true/\aV Z aX bv (.agg cd.toArray))\/(d=false/\∃ x,cd=[x]/\aV Z aX bv x))/\aJ bv=bv:=by
 unfold iW at h;simp only at h
 split at h
 ·rename_i e
  have i:=a.length
  split at h
  ·rename_i c
   cases h;exact⟨by omega,.inl ⟨c,⟨_,rfl,by simpa using a⟩⟩,rfl⟩
  ·rename_i c
   split at h
   ·rename_i x g
    cases h;rw[g] at a i e
    match cd,a with
    | [u],a =>
     have b:=aG.top (ow:=aX) a.1;exact⟨by simpa using e,.inr ⟨by simpa using c,u,rfl,b.1⟩,b.2.1⟩
   ·cases h
 ·cases h
end
section
variable{P:Program}{E:Env}{g g':Gh}{σ σ1:AS}{a:Act}{w w':World}{o:Oper}{Q:Exit->Act->World->Prop}
def nO:aJ (aJ h)=aJ h:=by
 cases h with
 | sl m z l=>cases m<;>rfl
 | _=>rfl
def aI(c:Sim E g σ a w)(hd:∀ d,o.dst=some d->d<E.nt)
  (b:(execOp a.eval o).run P w=.ok (.value I) w)(e:aJ bv=bv)(f:aV (cx E g σ w) aX bv I):o.wp P a w (aS E (put σ o.dst bv)) Q:=
 cO c b λd h=>⟨hd d h,f.noown e⟩
def S5(c:Sim E g σ a w)(hd:∀ d,o.dst=some d->d<E.nt)(b:o.op=.move M\/o.op=.assign M)(e:okR M C=true):
  o.wp P a w (aS E (put σ o.dst (aJ (ev σ.fr C)))) Q:=by
 refine aI c hd (I:=a.eval M) ?_ (nO) (c.ev_ e);rcases b with h | h<;>simp [execOp,h]
def MQ(v:Sim E g σ a w)(hd:∀ d,o.dst=some d->d<E.nt)(F:o.op=.move M\/o.op=.assign M)(J:okR M (.t n)=true):
  o.wp P a w (aS E (put (dT σ (some n)) o.dst (ev σ.fr (.t n)))) Q:=by
 have H:M=.tmp n:=by
  unfold okR at J;split at J<;>simp_all
 subst H;have j:(execOp a.eval o).run P w=.ok (.value (a.eval (.tmp n))) w:=by rcases F with h | h<;>simp [execOp,h]
 have i:=v.slots n;by_cases p:∃ z l,σ.fr n=.sl .own z l
 ·obtain⟨z,l,k⟩:=p
  cases f:o.dst with
  | none =>
   have:=cO (o:=o) (P:=P) (Q:=Q) (h:=ev σ.fr (.t n)) (v.dem_ (some n)) j (λd h=>by rw[f] at h;cases h)
   rwa [f] at this
  | some d =>
   rw[k] at i;obtain⟨I,A,c,K,B⟩:=i;rcases B with B | ⟨b,s,R,L,C,N,O⟩
   ·have:=cO (o:=o) (P:=P) (Q:=Q) (h:=ev σ.fr (.t n)) (v.dem_ (some n)) j (λy h=>⟨hd y h,by
     show aV (cx E g (dT σ (some n)) w) _ (σ.fr n) (a.tmps.getD n undef);rw[k]
     exact⟨I,A,c,K,.inl B⟩⟩)
    rwa [f] at this
   ·have G:=v.dem_ (some n)
    have r:wP (dT σ (some n)) (.slot n):=by
     intro T S e;simp [dT,upd,k,aJ] at e
    obtain⟨x,u⟩:=G.turn (t':=.slot d) (k':=l.length*z) (arr':=s) C O r (ji _) (λ_ _=>rfl);rw[setRow_self C] at x u
    have:=cO (o:=o) (P:=P) (Q:=Q) (h:=ev σ.fr (.t n)) x j (λy h=>⟨hd y h,by
     rw[f] at h;cases h;show aV (cx E _ (dT σ (some n)) w) _ (σ.fr n) (a.tmps.getD n undef);rw[k]
     exact⟨aG.le u I,A,c,K,.inr ⟨b,s,R,L,C,N,by simp [upd]⟩⟩⟩)
    rwa [f] at this
 ·have q:aJ (σ.fr n)=σ.fr n:=by
   cases H:σ.fr n with
   | sl m z l=>cases m<;>first | rfl | exact absurd ⟨z,l,H⟩ p
   | _=>rfl
  have D:dT σ (some n)=σ:=by
   show { σ with fr:=upd σ.fr n (aJ (σ.fr n)) }=σ
   have:upd σ.fr n (aJ (σ.fr n))=σ.fr:=by
    funext t;unfold upd;split
    ·rename_i h;subst h;exact q
    ·rfl
   rw[this]
  rw[D];exact aI v hd j q (aV.noown q i)
def S3(b:Sim E g σ a w)(hd:∀ d,o.dst=some d->d<E.nt){ej:AR}(c:o.op=.pick M bi ij)
  (h:okR M C=true)(i:okR bi ba=true)(j:okR ij ej=true)(f:ev σ.fr C=.bool U):
  o.wp P a w (aS E (put σ o.dst (aJ (if U then ev σ.fr ba else ev σ.fr ej)))) Q:=by
 have e:=b.rdBool h f;refine aI b hd (I:=if U then a.eval bi else a.eval ij) ?_ (nO) ?_
 ·simp [execOp,c,e,asBool]
 ·cases U
  ·exact b.ev_ j
  ·exact b.ev_ i
def S4(q:Sim E g σ a w)(hd:∀ d,o.dst=some d->d<E.nt)(m:o.op=.nilCheck M)(s:okR M C=true)
  (p:(∃ i j,ev σ.fr C=.ptr i j)\/(∃ i j,ev σ.fr C=.loc i j)\/(∃ l,ev σ.fr C=.ip l)):
  o.wp P a w (aS E (put σ o.dst (ev σ.fr C))) Q:=by
 have e:aJ (ev σ.fr C)=ev σ.fr C:=by
  rcases p with ⟨i,j,h⟩ | ⟨i,j,h⟩ | ⟨l,h⟩<;>rw[h]<;>rfl
 have c:=q.ev_ (ow:=aX) s;rw[e] at c;have f:∃ ad,a.eval M=.pointer (some ad):=by
  rcases p with ⟨i,j,h⟩ | ⟨i,j,h⟩ | ⟨l,h⟩<;>rw[h] at c
  ·exact⟨_,c.2⟩
  ·exact⟨_,c.2⟩
  ·obtain⟨b,n,r,_⟩:=c
   exact⟨_,r⟩
 obtain⟨ad,k⟩:=f;refine aI q hd (I:=a.eval M) ?_ e c;simp [execOp,m,k]
def XK{cr y:ByteArray}:(cr.toList==y.toList)=(cr.data.toList==y.data.toList):=by
 simp [ByteArray.toList_eq]
def LT{v:AV}{e:Value}(h:gF fe bv fx=some v)(q:aV Z dq bv I)(r:aV Z ow' fx e)(w:World):
  ∃ val,(binOp fe J I e).run P w=.ok val w/\aV Z aX v val/\aJ v=v/\(∀ X Y,(eqGuard fe J X Y I e).run P w=.ok () w):=by
 have m:∀ (X Y:Operand) k i k' j,(eqGuard fe J X Y (.int k i) (.int k' j)).run P w=.ok () w:=by intros;cases fe<;>rfl
 have o:∀ (X Y:Operand) i j,(eqGuard fe J X Y (.string i) (.string j)).run P w=.ok () w:=by intros;cases fe<;>rfl
 unfold gF at h
 split at h
 ·rename_i k n k' n'
  have l:I=.int _ _:=q;have c:e=.int _ _:=r;subst l;subst c
  split at h
  ·rename_i y
   subst y;have a:=λX Y=>m X Y k n k n'
   cases fe<;>simp only[jc,reduceCtorEq] at h
   case quo =>
    split at h
    ·cases h
    ·cases h
     rename_i c;exact⟨_,by simp [binOp,Op.intDiv,c],rfl,rfl,a⟩
   case rem =>
    split at h
    ·cases h
    ·cases h
     rename_i c;exact⟨_,by simp [binOp,Op.intDiv,c],rfl,rfl,a⟩
   case and=>subst h;exact⟨_,by simp [binOp,Op.intBits],rfl,rfl,a⟩
   case or=>subst h;exact⟨_,by simp [binOp,Op.intBits],rfl,rfl,a⟩
   all_goals
    subst h;exact⟨_,by simp [binOp,Op.intArith,Op.intCmp],rfl,rfl,a⟩
  ·cases h
 ·obtain⟨f,l,b⟩:∃ s,I=.string s/\s.data.toList=_:=q
  obtain⟨g,c,d⟩:∃ s,e=.string s/\s.data.toList=_:=r;subst l;subst c;have a:=λX Y=>o X Y f g
  cases fe<;>simp only[jc,reduceCtorEq] at h
  case add =>
   split at h
   ·rename_i A
    cases h;have u:f.size=f.data.toList.length:=by simp
    have x:g.size=g.data.toList.length:=by simp
    rw[b] at u;rw[d] at x;have p:(f.size:Int)+(g.size:Int)<=9223372036854775807:=by omega
    refine⟨.string (f++g),by simp [binOp,Op.stringOp,p],⟨_,rfl,?_⟩,rfl,a⟩;rw[<- b,<- d];simp
   ·cases h
  all_goals
   subst h;refine⟨_,by simp only[binOp,Op.stringOp];rfl,?_,rfl,a⟩;simp only[ByteArray.toList_eq,b,d];rfl
 ·cases h
def ak(c:Sim E g σ a w)(hd:∀ d,o.dst=some d->d<E.nt)(b:o.op=.binOp fe J M bi bj)
  (n:okR M C=true)(p:okR bi ba=true)(m:gF fe (ev σ.fr C) (ev σ.fr ba)=some h):
  o.wp P a w (aS E (put σ o.dst h)) Q:=by
 obtain⟨_,e,_⟩:=c.rdT n;obtain⟨_,f,_⟩:=c.rdT p;obtain⟨val,i,j,k,l⟩:=LT (P:=P) (J:=J) m e f w;refine aI c hd (I:=val) ?_ k j;simp [execOp,b,l,i]
def ae(k:Sim E g σ a w)(hd:∀ d,o.dst=some d->d<E.nt){bx:TypeId}(i:o.op=.binOp .eql J M (.const (.slice none 0 0)) bj)
  (v:P.underlying J=some (.slice bx))(B:okR M C=true)(y:ev σ.fr C=.sl bf j (f::bd)):
  o.wp P a w (aS E (put σ o.dst (.bool false))) Q:=by
 have e:=k.ev_ (ow:=aX) B;rw[y] at e;have m:∃ p n c,a.eval M=.slice (some p) n c:=by
  have key:∀ (S:Nat->Nat->Prop) (w:World) (bf:Own),aG S w (.sl bf j (f::bd)) (a.eval M)->∃ p n c,a.eval M=.slice (some p) n c:=by
   intro S w bf h;simp only[aG] at h;obtain⟨A,c,l,_,_,_,h⟩:=h;rcases h with h | ⟨b,o,h,_⟩
   ·cases h
   ·exact⟨_,_,c,by rw[l,h]⟩
  cases bf
  ·exact key _ _ _ e
  ·exact key _ _ _ e
  ·exact key _ _ _ e
 obtain⟨p,n,c,u⟩:=m;have x:∀ w,(underlying J).run P w=.ok (.slice bx) w:=ke v;have s:∀ w,(Op.equal J (.slice (some p) n c) (.slice none 0 0)).run P w=.ok false w:=by
  intro w;have h:∀ d:Nat,(Op.equalIn (d+1) J (.slice (some p) n c) (.slice none 0 0)).run P w=.ok false w:=λd=>by
   simp only[Op.equalIn];simp [x]
  exact h 9999
 refine aI k hd (I:=.bool false) ?_ rfl rfl;have hg:(eqGuard .eql J M (.const (.slice none 0 0)) (.slice (some p) n c) (.slice none 0 0)).run P w=.ok () w:=rfl;have q:(binOp .eql J (.slice (some p) n c) (.slice none 0 0)).run P w=.ok (.bool false) w:=by
  simp only[binOp];simp [s]
 have r:a.eval (.const (.slice none 0 0))=.slice none 0 0:=rfl;simp [execOp,i,u,r,hg,q]
def tY(a:P.underlying J=some ea)(hd:ea=.bool\/ea=.string\/∃ k,ea=.int k)(b:bk[n]?=some I)(w:World):(part J bk n).run P w=.ok I w:=by
 rcases hd with rfl | rfl | ⟨k,rfl⟩<;>simp [part,isAgg,ke a,b]
def nM(h:bk.toList.drop n=I::cd):bk[n]?=some I/\bk.toList.drop (n+1)=cd:=by
 have a:(bk.toList.drop n)[0]?=some I:=by rw[h];rfl
 rw[tb] at a;refine⟨by simpa using a,?_⟩;rw[<- ah2,h];rfl
def pQ{S:Nat->Nat->Prop}{w0:World}(d:Nat)(xs G:Array Value)(w:World):∀ (fs:List Field) (n:Nat) (ks:List Nat) (l m:List AV) (r:Bool),lP P fs n ks=true->aM (aG S w0) l (xs.toList.drop n)->aM (aG S w0) m (G.toList.drop n)->eqL ks l m=some r ->
  (Op.eqFields (d+1) xs G fs).run P w=.ok r w
 | [],n,[],l,m,r,_,p,s,h=>by
  cases l<;>cases m<;>simp [eqL] at h
  subst h;simp [Op.eqFields]
 | [],_,_::_,_,_,_,h,_,_,_=>by simp [lP] at h
 | _::_,_,[],_,_,_,h,_,_,_=>by simp [lP] at h
 | f::fs,n,k::ks,l,m,r,J,p,s,h=>by
  simp only[lP,ir,ao5,ad6,Lh] at J;obtain⟨⟨⟨M,u⟩,F⟩,v⟩:=J
  cases l with
  | nil=>cases m<;>simp [eqL] at h
  | cons x l =>
   cases m with
   | nil=>cases x<;>simp [eqL] at h
   | cons y m =>
    cases A:xs.toList.drop n with
    | nil=>rw[A] at p;exact p.elim
    | cons a Z =>
     cases B:G.toList.drop n with
     | nil=>rw[B] at s;exact s.elim
     | cons b yr =>
      rw[A] at p;rw[B] at s;obtain⟨R,T⟩:=nM A;obtain⟨U,V⟩:=nM B;have C:=p.2;have D:=s.2;rw[<- T] at C;rw[<- V] at D;have key:∀ (c:TypeDesc) (q:Bool),P.underlying f.type=some c->(c=.bool\/c=.string\/∃ k,c=.int k)->((Op.equalIn (d+1) f.type a b).run P w=.ok q w) ->
        ∀ o,eqL ks l m=some o->r=(q&&o)->(Op.eqFields (d+1) xs G (f::fs)).run P w=.ok r w:=by
       intro c q g hd K o e E;have N:=pQ d xs G w fs (n+1) ks l m o v C D e;have O:=tY g hd (n:=f.offset) (by rw[u];exact R) w;have Q:=tY g hd (n:=f.offset) (by rw[u];exact U) w;simp only[Op.eqFields,M,ad6,qs,kp,ak9,O,Q,K,al3];cases q
       ·simp [E]
       ·simpa [E] using N
      split at F
      ·rename_i kk g
       cases x<;>cases y<;>simp only[eqL,reduceCtorEq] at h
       split at h
       ·rename_i L
        subst L;obtain⟨o,e,rfl⟩:=jf.1 h;have i:=p.1;have j:=s.1;simp only[aG] at i j;subst i;subst j;exact key _ _ g (.inr (.inr ⟨_,rfl⟩)) (run_equalIn_int w d f.type _ kk _ _ g) o e rfl
       ·cases h
      ·rename_i g
       cases x<;>cases y<;>simp only[eqL,reduceCtorEq] at h
       obtain⟨o,e,rfl⟩:=jf.1 h;have i:=p.1;have j:=s.1;simp only[aG] at i j;subst i;subst j;exact key _ _ g (.inl rfl) (run_equalIn_bool' w d f.type _ _ g) o e rfl
      ·rename_i g
       cases x<;>cases y<;>simp only[eqL,reduceCtorEq] at h
       obtain⟨o,e,rfl⟩:=jf.1 h;have i:=p.1;have j:=s.1;simp only[aG] at i j;obtain⟨X,i,H⟩:=i;obtain⟨Y,j,I⟩:=j;subst i;subst j;refine key _ _ g (.inr (.inl rfl)) (run_equalIn_string w d f.type _ _ g) o e ?_;rw[XK,H,I]
      ·cases F
def ZW(j:Sim E g σ a w)(hd:∀ d,o.dst=some d->d<E.nt)(i:o.op=.binOp fe J M bi bj)
  (h:(if U then fe==.neq else fe==.eql)=true)(p:P.underlying J=some (.struct fs))(s:P.stoodInHeld J=false)(m:P.eqGuardType P.depth J=false)(u:lP P fs.toList 0 ks=true)
  (A:okR M C=true)(B:okR bi ba=true)(v:ev σ.fr C=.agg f)(x:ev σ.fr ba=.agg bh){bm:Bool}(y:eqL ks f bh=some bm):
  o.wp P a w (aS E (put σ o.dst (.bool (if U then !bm else bm)))) Q:=by
 obtain⟨_,q,_⟩:=j.rdT A;obtain⟨_,r,_⟩:=j.rdT B;rw[v] at q;rw[x] at r;obtain⟨xs,k,D⟩:=q;obtain⟨b,l,F⟩:=r;have e:P.fieldsOf J=fs:=by simp [Program.fieldsOf,p]
 have n:(Op.equalIn 10000 J (.agg xs) (.agg b)).run P w=.ok bm w:=by
  rw[run_equalIn_struct w 9999 J xs b (by rw[e];exact p) s,e];exact pQ 9998 xs b w fs.toList 0 ks f bh bm u (by simpa using D) (by simpa using F) y
 refine aI j hd (I:=.bool (if U then !bm else bm)) ?_ rfl rfl;cases U
 ·have:fe=.eql:=by simpa using h
  subst this;have hg:=run_eqGuard_agg (P:=P) w .eql J M bi xs b m;have c:=run_eql_struct (P:=P) w J xs b;rw[n] at c;simp [execOp,i,k,l,hg,c]
 ·have:fe=.neq:=by simpa using h
  subst this;have hg:=run_eqGuard_agg (P:=P) w .neq J M bi xs b m;have c:=run_neq_struct (P:=P) w J xs b;rw[n] at c;simp [execOp,i,k,l,hg,c]
def ZV(f:Sim E g σ a w)(hd:∀ d,o.dst=some d->d<E.nt)(e:o.op=.binOp fe J M bi bj)
  (q:(if U then fe==.shl else fe==.shr)=true)(r:okR M C=true)(s:okR bi ba=true)(b:shA U (ev σ.fr C) (ev σ.fr ba)=some h):
  o.wp P a w (aS E (put σ o.dst h)) Q:=by
 generalize i:ev σ.fr C=v at b;generalize j:ev σ.fr ba=x at b;unfold shA at b
 split at b
 ·rename_i k n k' m
  have l:=f.rdNat r i;have p:=f.rdNat s j
  split at b
  ·rename_i u
   have c:¬ m<0:=by omega
   cases U
   ·simp only[jl,kz,jc] at b
    subst b
    have:fe=.shr:=by simpa using q
    subst this;refine aI f hd (I:=.int k (n.fdiv (2 ^ (min m.toNat k.bits)))) ?_ rfl rfl;have hg:(eqGuard .shr J M bi (Value.int k n) (Value.int k' m)).run P w=.ok () w:=rfl;simp [execOp,e,l,p,hg,binOp,Op.shift,c]
   ·simp only[kp,jc] at b
    subst b
    have:fe=.shl:=by simpa using q
    subst this;refine aI f hd (I:=.int k (k.wrap (n*2 ^ (min m.toNat k.bits)))) ?_ rfl rfl;have hg:(eqGuard .shl J M bi (Value.int k n) (Value.int k' m)).run P w=.ok () w:=rfl;simp [execOp,e,l,p,hg,binOp,Op.shift,c]
  ·cases b
 ·cases b
def ah(f:Sim E g σ a w)(hd:∀ d,o.dst=some d->d<E.nt)(e:o.op=.convert J bj M){gt:IntKind}
  (i:(P.underlying J).isSome=true)(b:wN P bj O=true)(m:okR M C=true)(l:ev σ.fr C=.int gt D):
  o.wp P a w (aS E (put σ o.dst (.int O (O.wrap D)))) Q:=by
 have h:=f.rdNat m l;obtain⟨u,k⟩:=we.1 i;have c:P.underlying bj=some (.int O):=by
  unfold wN at b
  split at b
  ·rename_i j;rw[j];simp at b;rw[b]
  ·cases b
 refine aI f hd (I:=.int O (O.wrap D)) ?_ rfl rfl;simp [execOp,e,h,convert,ke k,ke c,Conv.intToInt]
def ZZ(c:Sim E g σ a w)(hd:∀ d,o.dst=some d->d<E.nt)(b:o.op=.unOp .neg J M)
  (h:okR M C=true)(f:ev σ.fr C=.int O D):
  o.wp P a w (aS E (put σ o.dst (.int O (O.wrap (0-D))))) Q:=by
 have e:=c.rdNat h f;refine aI c hd (I:=.int O (O.wrap (0-D))) ?_ rfl rfl;simp [execOp,b,e,Op.unary,Op.intArith]
def ZY(c:Sim E g σ a w)(hd:∀ d,o.dst=some d->d<E.nt)(b:o.op=.unOp .not J M)
  (h:okR M C=true)(f:ev σ.fr C=.bool U):
  o.wp P a w (aS E (put σ o.dst (.bool !U))) Q:=by
 have e:=c.rdBool h f;refine aI c hd (I:=.bool !U) ?_ rfl rfl;simp [execOp,b,e,Op.unary]
def S8(e:Sim E g σ a w)(hd:∀ d,o.dst=some d->d<E.nt)(b:o.op=.call { callee:=.builtin .len,args:=#[M],argTypes:=gw })
  (j:okR M C=true)(hts:gw[0]?=some J)(h:P.underlying J=some (.slice bj))(i:ev σ.fr C=.sl bf n bd):
  o.wp P a w (aS E (put σ o.dst (.int .i64 bd.length))) Q:=by
 obtain⟨A,c,f,_⟩:=e.rdSl j i;refine aI e hd (I:=.int .i64 bd.length) ?_ rfl rfl;simp [execOp,b,resolve,invoke,builtin,f,Builtin.len_,hts,ke h,goInt]
def S7(f:Sim E g σ a w)(hd:∀ d,o.dst=some d->d<E.nt)(c:o.op=.call { callee:=.builtin .len,args:=#[M],argTypes:=gw })
  (l:okR M C=true)(hts:gw[0]?=some J)(j:P.underlying J=some .string)(k:ev σ.fr C=.str K):
  o.wp P a w (aS E (put σ o.dst (.int .i64 K.length))) Q:=by
 obtain⟨b,h,i⟩:=f.rdStr l k;have e:b.size=K.length:=by rw[<- i];simp
 refine aI f hd (I:=.int .i64 K.length) ?_ rfl rfl;simp [execOp,c,resolve,invoke,builtin,h,Builtin.len_,hts,ke j,goInt,e]
def S6(c:Sim E g σ a w)(hd:∀ d,o.dst=some d->d<E.nt)(b:o.op=.call { callee:=.builtin (if U then .max else .min),args:=#[M,bi],argTypes:=gw })
  (j:okR M C=true)(k:okR bi ba=true){iy:Int}(h:ev σ.fr C=.int O D)(i:ev σ.fr ba=.int O iy):
  o.wp P a w (aS E (put σ o.dst (.int O (if U then (if D<iy then iy else D) else (if iy<D then iy else D))))) Q:=by
 have e:=c.rdNat j h;have f:=c.rdNat k i;refine aI c hd (I:=.int O (if U then (if D<iy then iy else D) else (if iy<D then iy else D))) ?_ rfl rfl;cases U
 ·simp [execOp,b,resolve,invoke,builtin,e,f,Builtin.min_,Builtin.min2]
 ·simp [execOp,b,resolve,invoke,builtin,e,f,Builtin.max_,Builtin.max2]
def dJ:(⟨j,n,none⟩:Addr).add q=⟨j,n+q,none⟩:=by
 unfold Addr.add;split<;>simp_all
def J8(p:Sim E g σ a w)(hd:∀ d,o.dst=some d->d<E.nt)(r:o.op=.fieldAddr J M j)
  (G:okR M C=true){f:Field}(D:P.underlying J=some (.struct fs))(B:fs[j]?=some f)(m:aY P f.type=some n)(v:n≠0)
  (F:ev σ.fr C=bv)(u:(∃ s k,bv=.loc s k/\fx=.loc s (k+f.offset))\/(∃ s k,bv=.ptr s k/\fx=.ptr s (k+f.offset))\/(∃ l,bv=.ip l/\fx=.ip (l.drop f.offset))):
  o.wp P a w (aS E (put σ o.dst fx)) Q:=by
 obtain⟨i,hi,q⟩:∃ i,P.info? f.type=some i/\i.size=n:=by
  unfold aY at m;cases h:P.info? f.type with
  | none=>rw[h] at m;cases m
  | some i=>rw[h] at m;exact⟨i,rfl,by simpa using m⟩
 have c:=p.rd G F;have e:∀ b k,a.eval M=.pointer (some ⟨b,k,none⟩)->(execOp a.eval o).run P w=.ok (.value (.pointer (some ⟨b,k+f.offset,none⟩))) w:=by
  intro b k A;simp [execOp,r,A,Instr.fieldAt,ke D,B,Instr.sureAddr,fieldPlace,sizeOf,typeInfo,hi,q,v,dJ]
 rcases u with ⟨s,k,rfl,rfl⟩ | ⟨s,k,rfl,rfl⟩ | ⟨l,rfl,rfl⟩
 ·exact aI p hd (e _ _ c.2) rfl ⟨c.1,rfl⟩
 ·exact aI p hd (e _ _ c.2) rfl ⟨c.1,rfl⟩
 ·obtain⟨b,k,x,y⟩:=c
  exact aI p hd (e _ _ x) rfl ⟨b,_,rfl,y.drop _⟩
def dZ(a:aY eb J=some n):∃ i,eb.info? J=some i/\i.size=n:=by
 unfold aY at a;cases h:eb.info? J with
 | none=>rw[h] at a;cases a
 | some i=>rw[h] at a;exact⟨i,rfl,by simpa using a⟩
def zr(l:Sim E g σ a w)(hd:∀ d,o.dst=some d->d<E.nt)(k:o.op=.indexAddr J M bi)
  (B:okR M C=true)(F:okR bi ba=true)(y:P.underlying J=some (.slice bj))(G:aY P bj=some j)(v:ev σ.fr C=.sl bf j bd)(x:ev σ.fr ba=.int O D)(u:0<=D)(m:bd[D.toNat]?=some f):
  o.wp P a w (aS E (put σ o.dst (.ip f))) Q:=by
 obtain⟨H,hi,h⟩:=dZ G;obtain⟨A,K,p,_,_,e⟩:=l.rdSl B v;have q:=l.rdNat F x;have i:D.toNat<bd.length:=(jh.1 m).1;rcases e with e | ⟨b,n,rfl,r⟩
 ·subst e;simp at i
 ·obtain⟨_,s⟩:=r.get m
  refine aI l hd (I:=.pointer (some ⟨b,n+D.toNat*j,none⟩)) ?_ rfl ⟨b,_,rfl,s⟩;have c:D<(bd.length:Int):=by omega
  simp [execOp,k,p,q,Instr.indexAt,asIntOf,ke y,u,c,sizeOf,typeInfo,hi,h,dJ]
def D4(f:Sim E g σ a w)(hd:∀ d,o.dst=some d->d<E.nt)(r:o.op=.indexAddr J M bi)
  (B:okR M C=true)(F:okR bi ba=true)(A:P.underlying J=some (.array j bj))(G:aY P bj=some q)(i:ev σ.fr C=h)(k:ev σ.fr ba=.int O D)(x:0<=D)(p:D<j)
  (u:(∃ s O,h=.loc s O/\bv=.loc s (O+D.toNat*q))\/(∃ s O,h=.ptr s O/\bv=.ptr s (O+D.toNat*q))\/(∃ l,h=.ip l/\bv=.ip (l.drop (D.toNat*q)))):
  o.wp P a w (aS E (put σ o.dst bv)) Q:=by
 obtain⟨H,hi,m⟩:=dZ G;have c:=f.rd B i;have v:=f.rdNat F k;have e:∀ b n,a.eval M=.pointer (some ⟨b,n,none⟩)->(execOp a.eval o).run P w=.ok (.value (.pointer (some ⟨b,n+D.toNat*q,none⟩))) w:=by
  intro b n y;simp [execOp,r,y,v,Instr.indexAt,asIntOf,Instr.sureAddr,ke A,x,p,sizeOf,typeInfo,hi,m,dJ]
 rcases u with ⟨s,n,rfl,rfl⟩ | ⟨s,n,rfl,rfl⟩ | ⟨l,rfl,rfl⟩
 ·exact aI f hd (e _ _ c.2) rfl ⟨c.1,rfl⟩
 ·exact aI f hd (e _ _ c.2) rfl ⟨c.1,rfl⟩
 ·obtain⟨b,n,i,k⟩:=c
  exact aI f hd (e _ _ i) rfl ⟨b,_,rfl,k.drop _⟩
def aa(f:Sim E g σ a w)(hd:∀ d,o.dst=some d->d<E.nt)(e:o.op=.index J M bi)
  (x:okR M C=true)(y:okR bi ba=true)(v:P.underlying J=some .string)(m:ev σ.fr C=.str K)(n:ev σ.fr ba=.int O D)(l:0<=D)(i:K[D.toNat]?=some p):
  o.wp P a w (aS E (put σ o.dst (.int .u8 (p.toNat:Int)))) Q:=by
 obtain⟨b,j,c⟩:=f.rdStr x m;have k:=f.rdNat y n;have u:b[D.toNat]?=some p:=by
  rw[<- c] at i;obtain⟨h,q⟩:=jh.1 i;have r:D.toNat<b.size:=by simpa using h
  rw[getElem?_pos b D.toNat r];have s:b[D.toNat]=b.data[D.toNat]'(by simpa using h):=rfl;rw[s];simpa using q
 refine aI f hd (I:=.int .u8 (p.toNat:Int)) ?_ rfl rfl;simp [execOp,e,j,k,Instr.index,asIntOf,ke v,l,u]
def af(q:Sim E g σ a w)(hd:∀ d,o.dst=some d->d<E.nt)(l:o.op=.extract M j)
  (D:okR M C=true)(y:ev σ.fr C=.tup f)(B:f[j]?=some h):
  o.wp P a w (aS E (put σ o.dst h)) Q:=by
 obtain⟨vs,r,v⟩:=q.rd D y;obtain⟨u,A,e⟩:=v.get B;have p:vs[j]?=some u:=by simpa using A
 have i:aV (cx E g σ w) aX h u/\aJ h=h:=by
  cases h with
  | ptr=>exact⟨e,rfl⟩
  | ss=>exact⟨e,rfl⟩
  | mp=>exact⟨e,rfl⟩
  | mapv=>simp [aR,aG] at e
  | aggR=>simp [aR,aG] at e
  | agg=>exact⟨e,rfl⟩
  | any=>simp [aR,aG] at e
  | undef=>simp [aR,aG] at e
  | loc=>simp [aR,aG] at e
  | ip=>simp [aR,aG] at e
  | fn=>simp [aR,aG] at e
  | tup=>simp [aR,aG] at e
  | int k n=>exact⟨(aG.top (c:=cx E g σ w) e).1,rfl⟩
  | bool b=>exact⟨(aG.top (c:=cx E g σ w) e).1,rfl⟩
  | str s=>exact⟨(aG.top (c:=cx E g σ w) e).1,rfl⟩
  | nilp=>exact⟨(aG.top (c:=cx E g σ w) e).1,rfl⟩
  | sl m z f =>
   have:=aG.top (c:=cx E g σ w) (ow:=aX) (x:=.sl m z f) e
   exact⟨this.1,this.2.1⟩
 refine aI q hd (I:=u) ?_ i.2 i.1;simp [execOp,l,r,Instr.extract,p]
end
section
variable{P:Program}{E:Env}{g g':Gh}{σ σ1:AS}{a:Act}{w w':World}{o:Oper}{Q:Exit->Act->World->Prop}
def UM(m:∀ b k,di b=.own im k->w'.heap[b]?=w.heap[b]?)(h:d9 di w im I j n):d9 di w' im I j n:=by
 obtain⟨A,c,f,a⟩:=h;refine⟨A,c,f,?_⟩;rcases a with a | ⟨b,e,o,g,i,l,d⟩
 ·exact .inl a
 ·exact .inr ⟨b,e,o,g,(m b _ d).trans i,l,d⟩
def Sim.addLoc(h:Sim E g σ a w)(r:σ.lo j=none)(p:g.kd q=.loc j)(o:E.w0.heap.size<=q)(u:o6 (cx E g σ w) (λ_=>aX) w q (2*f.length) f):
  Sim E { g with lam:=upd g.lam j q } { σ with lo:=upd σ.lo j (some f) } a w:=by
 have d:Cx.le (cx E g σ w) (cx E { g with lam:=upd g.lam j q } { σ with lo:=upd σ.lo j (some f) } w):=by
  refine⟨λv n b=>⟨b,rfl⟩,ji _,λ_ _=>rfl,λ_ _=>rfl,λs b=>?_⟩;have e:s≠j:=by rintro rfl;simp [cx,r] at b
  simp only[cx] at b ⊢;simp [upd,e,b]
 refine { h with slots:=?_,loc:=?_,shr:=?_ }
 ·intro t
  exact aV.mono d _ _ (λ_ _ _ h=>h) (h.slots t)
 ·intro i c hi hd
  obtain⟨k,l⟩:=h.shr i c hi hd;exact⟨k,l.mono d rfl (λ_ _ _ _ _ h=>h)⟩
 ·intro s c b
  simp only[upd] at b ⊢;by_cases e:s=j
  ·subst e
   rw[iw rfl] at b;cases b;rw[iw rfl];exact⟨p,o,u.mono d rfl (λ_ _ _ _ _ h=>h)⟩
  ·rw[ie e] at b ⊢
   obtain⟨k,l,m⟩:=h.loc s c b;exact⟨k,l,m.mono d rfl (λ_ _ _ _ _ h=>h)⟩
def Sim.addShr(h:Sim E g σ a w){b n:Nat}{cells:List AV}(v:g.kd b=.shr σ.sh.length)(y:E.w0.heap.size<=b)(u:b<w.heap.size)
  (D:cells≠aO->yB (cx E g σ w) (λj=>d9 g.kd w (.cell σ.sh.length j)) w b n cells):
  Sim E { g with β:=upd g.β σ.sh.length b,bs:=upd g.bs σ.sh.length n } { σ with sh:=σ.sh++[cells] } a w /\
  Cx.le (cx E g σ w) (cx E { g with β:=upd g.β σ.sh.length b,bs:=upd g.bs σ.sh.length n } { σ with sh:=σ.sh++[cells] } w):=by
 have d:Cx.le (cx E g σ w) (cx E { g with β:=upd g.β σ.sh.length b,bs:=upd g.bs σ.sh.length n } { σ with sh:=σ.sh++[cells] } w):=by
  refine⟨λG n k=>⟨k,rfl⟩,by simp [cx],λi hi=>?_,λi hi=>?_,λs k=>⟨k,rfl⟩⟩ <;>
  ·simp only[cx] at hi ⊢
   simp [upd,ae8 hi]
 have C:=h.n0;have f:∀ i,i<E.n0->¬ i=σ.sh.length:=λi hi=>by omega
 refine⟨{ h with slots:=?_,shr:=?_,shr0:=?_,shr1:=?_,shrlt:=?_,shrk:=?_,loc:=?_,n0:=by simp;omega,dd:=λi hi hd=>by rw[kq (by omega)];exact h.dd i hi hd },d⟩
 ·intro t
  exact aV.mono d _ _ (λ_ _ _ h=>h) (h.slots t)
 ·intro i c hi hd
  simp only[upd];rw[aa0] at hi
  split at hi
  ·rename_i e
   rw[ie (ae8 e),ie (ae8 e)];obtain⟨l,q⟩:=h.shr i c hi hd;exact⟨l,q.mono d rfl (λ_ _ _ _ _ h=>h)⟩
  ·rename_i A
   have hi':i=σ.sh.length:=by
    have:=(jh.1 hi).1
    simp at this;omega
   subst hi';simp at hi;subst hi;rw[iw rfl,iw rfl];exact⟨v,(D hd).mono d rfl (λ_ _ _ _ _ h=>h)⟩
 ·intro i hi
  simp only[upd];rw[ie (f i hi),ie (f i hi)];exact h.shr0 i hi
 ·intro i hi B
  simp only[upd];split
  ·exact .inl y
  ·rcases h.shr1 i (by simp at hi;omega) B with r | ⟨F,r,m,o,p⟩
   ·exact .inl r
   ·exact .inr ⟨F,r,m,o,by rw[kq (by omega)];exact p⟩
 ·intro i hi
  simp only[upd];split
  ·exact u
  ·exact h.shrlt i (by simp at hi;omega)
 ·intro i hi
  simp only[upd];split
  ·exact⟨_,v⟩
  ·exact h.shrk i (by simp at hi;omega)
 ·intro s c k
  obtain⟨l,q,x⟩:=h.loc s c k;exact⟨l,q,x.mono d rfl (λ_ _ _ _ _ h=>h)⟩
def Sim.setBlk(h:Sim E g σ a w)(m:w'.heap.size=w.heap.size)(b:∀ c,c≠j->w'.heap[c]?=w.heap[c]?)
  (d:(∃ i,g.kd j=.shr i/\i<σ.sh.length/\g.β i=j)\/(∃ s,g.kd j=.loc s/\E.w0.heap.size<=j)):
  (∀ c n,SS E g w c n->SS E g w' c n/\w'.cell? ⟨c,n,none⟩=w.cell? ⟨c,n,none⟩) /\
  (∀ t v z n,d9 g.kd w t v z n->d9 g.kd w' t v z n):=by
 refine⟨λc n l=>?_,λt v z n=>UM λc k f=>b c ?_⟩
 ·have r:c≠j:=by
   rintro rfl
   rcases d with ⟨i,d,hi,q⟩ | ⟨s,d,u⟩
   ·exact SS.nshr h l hi q
   ·rcases l with ⟨o,_⟩ | ⟨_,_,e⟩ | ⟨_,_,_,e,_⟩
    ·omega
    ·rw[d] at e;cases e
    ·rw[d] at e;cases e
  refine⟨?_,by simp [World.cell?,b c r]⟩;rcases l with l | ⟨o,p,e⟩ | ⟨o,p⟩
  ·exact .inl l
  ·exact .inr (.inl ⟨o,by rw[m];exact p,e⟩)
  ·exact .inr (.inr ⟨by rw[m];exact o,p⟩)
 ·rintro rfl
  rcases d with ⟨i,d,_⟩ | ⟨s,d,_⟩<;>rw[d] at f<;>cases f
def Sim.setLoc(h:Sim E g σ a w){arr':Array Value}(T:σ.lo q=some f)(L:bh.length=f.length)
  (K:w.heap[g.lam q]?=some (.cells bk J gm))(V:QP gm bk.size)(G:arr'.size=bk.size)(S:∀ (j:Nat) (x:AV),bh[j]?=some x->∃ v,arr'[j]?=some v/\bO (cx E g σ w) aX x v):
  Sim E g { σ with lo:=upd σ.lo q (some bh) } a (w.setRow (g.lam q) arr'):=by
 obtain⟨y,O,k3⟩:=h.loc q f T;have d:∀ r,r≠g.lam q->(w.setRow (g.lam q) arr').heap[r]?=w.heap[r]?:=λr F=>am6 w _ r _ F
 have p:(w.setRow (g.lam q) arr').heap.size=w.heap.size:=by simp [World.setRow]
 obtain⟨M,u⟩:=h.setBlk p d (.inr ⟨q,y,O⟩);have s:=af4 w _ bk arr' J gm K;have l:Cx.le (cx E g σ w) (cx E g { σ with lo:=upd σ.lo q (some bh) } (w.setRow (g.lam q) arr')):=by
  refine⟨M,ji _,λ_ _=>rfl,λ_ _=>rfl,λA k=>⟨?_,rfl⟩⟩;show (upd σ.lo q (some bh) A).isSome=true;unfold upd;split
  ·rfl
  ·exact k
 have N:bk.size=f.length:=by
  obtain⟨H,av,Q,I,_,P,_⟩:=k3;rw[K] at I;cases I;have:=P.1;omega
 refine { h with slots:=?_,shr:=?_,shrlt:=?_,loc:=?_,hsize:=by rw[p];exact h.hsize,frame:=?_,sframe:=?_ }
 ·intro t
  exact aV.mono l _ _ (λ_ _ _=>u _ _ _ _) (h.slots t)
 ·intro i c hi hd
  obtain⟨m,X⟩:=h.shr i c hi hd;exact⟨m,X.mono l (d _ (by intro e;rw[e,y] at m;cases m)) (λ_ _ _ _ _=>u _ _ _ _)⟩
 ·intro i hi;rw[p];exact h.shrlt i hi
 ·intro A c k
  simp only[upd] at k;by_cases D:A=q
  ·subst D
   rw[iw rfl] at k;cases k;refine⟨y,O,arr',J,gm,s,by rw[G];exact V,⟨by omega,λh=>by omega⟩,λj x U=>?_⟩;obtain⟨v,B,C⟩:=S j x U;exact⟨v,B,bO.mono l _ _ (λ_ _ _ h=>h) C⟩
  ·rw[ie D] at k
   obtain⟨m,Y,Z⟩:=h.loc A c k;refine⟨m,Y,Z.mono l (d _ ?_) (λ_ _ _ _ _ h=>h)⟩;intro e;rw[e,y] at m;injection m with m;exact D m.symm
 ·intro b B C R
  rw[d b (by omega)];exact h.frame b B C R
 ·intro b n o
  rw[<- h.sframe b n o];exact (M b n (.inl ⟨(h.s0 b n o).1,o⟩)).2
def Sim.setObj(h:Sim E g σ a w)(hi:σ.sh[q]?=some f)(hd:f≠aO)
  (A:w'.heap.size=w.heap.size)(d:∀ H,H≠g.β q->w'.heap[H]?=w.heap[H]?)(L:w'.os=w.os)(B:w'.tape=w.tape)(F:w'.output=w.output)
  (D:Cx.le (cx E g σ w) (cx E g { σ with sh:=σ.sh.set q bh } w')->(∀ t v z n,d9 g.kd w t v z n->d9 g.kd w' t v z n)->bh≠aO ->
   yB (cx E g { σ with sh:=σ.sh.set q bh } w') (λj=>d9 g.kd w' (.cell q j)) w' (g.β q) (g.bs q) bh):
  Sim E g { σ with sh:=σ.sh.set q bh } a w':=by
 obtain⟨G,_⟩:=h.shr q f hi hd;have s:q<σ.sh.length:=(jh.1 hi).1;obtain⟨N,u⟩:=h.setBlk A d (.inl ⟨q,G,s,rfl⟩);have m:Cx.le (cx E g σ w) (cx E g { σ with sh:=σ.sh.set q bh } w'):=
  ⟨N,by simp [cx],λ_ _=>rfl,λ_ _=>rfl,λO x=>⟨x,rfl⟩⟩
 refine { h with os:=L.trans h.os,tape:=B.trans h.tape,output:=F.trans h.output,slots:=?_,shr:=?_,shr1:=?_,shrlt:=?_,shrk:=?_,loc:=?_,hsize:=by rw[A];exact h.hsize,frame:=?_,sframe:=?_,n0:=by simpa using h.n0,dd:=?_ }
 ·intro t
  exact aV.mono m _ _ (λ_ _ _=>u _ _ _ _) (h.slots t)
 ·intro j c i l
  by_cases K:j=q
  ·subst K
   rw[sp s] at i;cases i;exact⟨G,D m u l⟩
  ·rw[xm (ad9 K)] at i
   obtain⟨o,R⟩:=h.shr j c i l;refine⟨o,R.mono m (d _ ?_) (λ_ _ _ _ _=>u _ _ _ _)⟩;intro e;rw[e,G] at o;injection o with o;exact K o.symm
 ·intro j i C
  rcases h.shr1 j (by simpa using i) C with k | ⟨M,k,p,I,r⟩
  ·exact .inl k
  ·refine .inr ⟨M,k,p,I,?_⟩
   rw[xm (by rintro rfl;rw[hi] at r;cases r;exact hd rfl)];exact r
 ·intro j i l
  have k:=h.dd j i l;rw[xm (by rintro rfl;rw[hi] at k;cases k;exact hd rfl)];exact k
 ·intro j i;rw[A];exact h.shrlt j (by simpa using i)
 ·intro j i;exact h.shrk j (by simpa using i)
 ·intro O c x
  obtain⟨o,S,T⟩:=h.loc O c x;refine⟨o,S,T.mono m (d _ ?_) (λ_ _ _ _ _ h=>h)⟩;intro e;rw[e,G] at o;cases o
 ·intro b P J Q
  rw[d b ?_]
  ·exact h.frame b P J Q
  ·rintro rfl
   rcases aa7 q E.n0 with C | C
   ·exact J q C (h.shr0 q C).1.symm
   ·rcases h.shr1 q s C with k | ⟨M,k,p,_⟩
    ·omega
    ·exact J M k p
 ·intro b n y
  rw[<- h.sframe b n y];exact (N b n (.inl ⟨(h.s0 b n y).1,y⟩)).2
def Sim.setShr(h:Sim E g σ a w){i:Nat}{cells cells':List AV}{b arr':Array Value}{o:TypeId}{c:Nat×Nat}(hi:σ.sh[i]?=some cells)(hd:cells≠aO)
  (s:w.heap[g.β i]?=some (.cells b o c))(y:QP c b.size)(d:arr'.size=b.size)(f:bsz c b.size (g.bs i))
  (p:∀ (j:Nat) (x:AV),cells'[j]?=some x->∃ v,arr'[j]?=some v/\bO (cx E g σ w) (d9 g.kd w (.cell i j)) x v):
  Sim E g { σ with sh:=σ.sh.set i cells' } a (w.setRow (g.β i) arr'):=by
 refine h.setObj hi hd (by simp [World.setRow]) (λq m=>am6 w _ q _ m) rfl rfl rfl (λk n _=>⟨λ_=>⟨arr',o,c,af4 w _ b arr' o c s,by rw[d];exact y,by rw[d];exact f,λj x u=>?_⟩,?_⟩)
 ·obtain⟨v,r,e⟩:=p j x u
  exact⟨v,r,bO.mono k _ _ (λ_ _ _=>n _ _ _ _) e⟩
 ·unfold p9
  split
  ·rename_i l
   obtain⟨v,_,e⟩:=p 0 _ rfl;simp [bO,aR,aG] at e
  ·trivial
end
section
variable{P:Program}{E:Env}{g g':Gh}{σ σ1:AS}{a:Act}{w w':World}{o:Oper}{Q:Exit->Act->World->Prop}
def jG(h:jH P J zero=true):∃ i a,P.info? J=some i/\i.zero=some a/\okL a.cells.toList zero=true/\i.size=zero.length:=by
 unfold jH at h
 split at h
 ·rename_i i hi
  rw[ir] at h;obtain⟨b,c⟩:=h
  split at b
  ·rename_i a d
   exact⟨i,a,hi,d,b,by simpa using c⟩
  ·cases b
 ·cases h
def y8(h:qG P J zero=true):∃ i a,P.info? J=some i/\i.zero=some a/\G6 a.cells.toList zero=true/\i.size=zero.length:=by
 unfold qG at h
 split at h
 ·rename_i i hi
  rw[ir] at h;obtain⟨b,c⟩:=h
  split at b
  ·rename_i a d
   exact⟨i,a,hi,d,b,by simpa using c⟩
  ·cases b
 ·cases h
def uK{c:Cx}:∀ {vs:List Value} {l:List AV},G6 vs l=true->aM (bO c aX) l vs
 | [],[],_=>trivial
 | v::vs,x::l,h=>by
  unfold G6 at h
  split at h
  ·rename_i a b;cases a
  ·rename_i a b
   cases a;cases b
   exact⟨trivial,uK h⟩
  ·rename_i a b
   cases a;cases b
   rw[ir] at h;exact⟨(d8 (yN h.1)).2,uK h.2⟩
  ·cases h
 | [],_::_,h=>by simp [G6] at h
 | v::vs,[],h=>by simp [G6] at h
def B5(h:aM (bO Z aX) f bk.toList):∀ (j:Nat) (x:AV),f[j]?=some x->∃ v,bk[j]?=some v/\bO Z (fw j) x v:=by
 intro j x c;obtain⟨v,a,b⟩:=h.get c;exact⟨v,by simpa using a,bO.mono (Cx.le.refl Z) x v (λ_ _ _ q=>q.elim) b⟩
def rM(h:aM (aG Z.S Z.w) f bk.toList):∀ (j:Nat) (x:AV),f[j]?=some x->∃ v,bk[j]?=some v/\bO Z (fw j) x v:=by
 intro j x d;obtain⟨v,b,a⟩:=h.get d;refine⟨v,by simpa using b,?_⟩
 cases x with
 | sl m z f =>
  cases m with
  | own =>
   simp only[aG] at a;obtain⟨_,_,_,_,_,c,_⟩:=a;exact absurd rfl c
  | no=>exact a
  | full=>exact a
 | any=>trivial
 | undef=>simp [aG] at a
 | int=>exact a
 | bool=>exact a
 | str=>exact a
 | nilp=>exact a
 | _=>simp [aG] at a
def Sim.newLoc(h:Sim E g σ a w){d:Nat}{cells:List AV}{cs:Array Value}{e:TypeId}(j:σ.lo d=none)(f:aM (aG (SS E g w) w) cells cs.toList):
  Sim E { g with kd:=upd g.kd w.heap.size (.loc d),lam:=upd g.lam d w.heap.size } { σ with lo:=upd σ.lo d (some cells) } a (w.alloc (.cells cs e)):=by
 obtain⟨i,c⟩:=h.alloc (.cells cs e) (.loc d);have b:=f.length;simp only[ac2] at b;exact i.addLoc j (by simp [upd]) h.hsize ⟨cs,e,(0,0),ae2 w _,.inl rfl,⟨by omega,λh=>by omega⟩,rM (fw:=λ_=>aX) (f.mono (aG.mono c.cell))⟩
def Sim.newShr(h:Sim E g σ a w){cells:List AV}{cs:Array Value}{e:TypeId}(k:∀ (j:Nat) (x:AV),cells[j]?=some x->∃ v,cs[j]?=some v/\bO (cx E g σ w) aX x v):
  ∃ g',Sim E g' { σ with sh:=σ.sh++[cells] } a (w.alloc (.cells cs e))/\Cx.le (cx E g σ w) (cx E g' { σ with sh:=σ.sh++[cells] } (w.alloc (.cells cs e)))/\g'.β σ.sh.length=w.heap.size/\g'.bs σ.sh.length=2*cs.size+1:=by
 obtain⟨l,c⟩:=h.alloc (.cells cs e) (.shr σ.sh.length)
 have:=l.addShr (b:=w.heap.size) (n:=2*cs.size+1) (cells:=cells) (by simp [upd]) h.hsize (by simp) (λhd=>⟨λ_=>⟨cs,e,(0,0),ae2 w _,.inl rfl,⟨by omega,λ_=>rfl⟩,λj x o=>?_⟩,?_⟩)
 ·exact⟨_,this.1,⟨λb n d=>⟨(this.2.cell b n (c.cell b n d).1).1,(c.cell b n d).2⟩,by simp [cx],λi hi=>by simp only[cx] at hi ⊢;simp [upd,ae8 hi],λi hi=>by simp only[cx] at hi ⊢;simp [upd,ae8 hi],λs d=>⟨d,rfl⟩⟩,by simp [upd],by simp [upd]⟩
 ·obtain⟨v,m,f⟩:=k j x o
  exact⟨v,m,bO.mono c _ _ (λ_ _ _ h=>h.elim) f⟩
 ·unfold p9
  split
  ·obtain⟨v,_,f⟩:=k 0 _ rfl
   simp [bO,aR,aG] at f
  ·trivial
def P8(l:Sim E g σ a w)(b:o.dst=some n)(hd:n<E.nt)(c:o.op=.alloc J)(m:jH P J zero=true)(k:σ.lo n=none):
  o.wp P a w (aS E (put { σ with lo:=upd σ.lo n (some zero) } o.dst (.loc n 0))) Q:=by
 obtain⟨i,p,d,f,j,_⟩:=jG m;refine cO (l.newLoc (cs:=p.cells) (e:=J) k (kS j)) (I:=.pointer (some ⟨w.heap.size,0,none⟩)) ?_ λq h=>?_
 ·simp [execOp,c,Instr.alloc,zeroValue,typeInfo,d,f,newVar,newRow]
 ·rw[b] at h;cases h
  exact⟨hd,by simp [cx,upd],by simp [cx,upd]⟩
def KA(k:Sim E g σ a w)(b:o.dst=some n)(hd:n<E.nt)(c:o.op=.alloc J)(l:qG P J zero=true):
  o.wp P a w (aS E (put { σ with sh:=σ.sh++[zero] } o.dst (.ptr σ.sh.length 0))) Q:=by
 obtain⟨i,q,d,f,j,_⟩:=y8 l;obtain⟨g',m,s,p,u⟩:=k.newShr (cs:=q.cells) (e:=J) (cells:=zero) (B5 (Z:=cx E g σ w) (fw:=λ_=>aX) (uK j));refine cO m (I:=.pointer (some ⟨w.heap.size,0,none⟩)) ?_ λr h=>?_
 ·simp [execOp,c,Instr.alloc,zeroValue,typeInfo,d,f,newVar,newRow]
 ·rw[b] at h;cases h
  exact⟨hd,by simp [cx],by simp [cx,p]⟩
def aj(d:Sim E g σ a w)(b:o.dst=some j)(hd:j<E.nt)(c:o.op=.box J M)(p:okR M C=true)(k:cI n (ev σ.fr C)=some f)(l:σ.lo j=none):
  o.wp P a w (aS E (put { σ with lo:=upd σ.lo j (some f) } o.dst (.loc j 0))) Q:=by
 obtain⟨_,m,_⟩:=d.rdT p;obtain⟨i,_⟩:=oJ k m;refine cO (d.newLoc (cs:=(a.eval M).cells) (e:=J) l i) (I:=.pointer (some ⟨w.heap.size,0,none⟩)) ?_ λq h=>?_
 ·simp [execOp,c,Instr.box,newVar,newRow]
 ·rw[b] at h;cases h
  exact⟨hd,by simp [cx,upd],by simp [cx,upd]⟩
def TA(d:Sim E g σ a w)(b:o.dst=some j)(hd:j<E.nt)(c:o.op=.box J M)(m:okR M C=true)(k:cI n (ev σ.fr C)=some f):
  o.wp P a w (aS E (put { σ with sh:=σ.sh++[f] } o.dst (.ptr σ.sh.length 0))) Q:=by
 obtain⟨_,l,_⟩:=d.rdT m;obtain⟨i,_⟩:=oJ k l;obtain⟨g',p,s,q,u⟩:=d.newShr (cs:=(a.eval M).cells) (e:=J) (cells:=f) (rM (Z:=cx E g σ w) (fw:=λ_=>aX) i);refine cO p (I:=.pointer (some ⟨w.heap.size,0,none⟩)) ?_ λr h=>?_
 ·simp [execOp,c,Instr.box,newVar,newRow]
 ·rw[b] at h;cases h
  exact⟨hd,by simp [cx],by simp [cx,q]⟩
def lB(h:gL P J d n=true):(∀ w,(isAgg J).run P w=.ok d w)/\(∀ w,(sizeOf J).run P w=.ok n w):=by
 unfold gL at h;simp only[ir] at h;obtain⟨⟨e,f⟩,b⟩:=h;obtain⟨u,c⟩:=we.1 e;cases hi:P.info? J with
 | none=>rw[hi] at b;cases b
 | some i =>
  rw[hi] at b;have g:i.size=n:=by simpa using b
  refine⟨λw=>?_,λw=>by simp [sizeOf,typeInfo,hi,g]⟩;have a:K6 P J=d:=by simpa using f
  simp only[K6,c] at a;unfold isAgg;simp only[ak9,ke c,al3];subst a;cases u<;>rfl
def uU(h:gL P J d n=true)(i:cd.length=n)
  (e:∀ j v,cd[j]?=some v->w.cell? ⟨R,q+j,none⟩=some v)(f:d=false->∃ x,cd=[x]):
  ∃ val,(Instr.loadAt J (.pointer (some ⟨R,q,none⟩))).run P w=.ok val w/\((d=true/\val=.agg cd.toArray)\/(d=false/\cd=[val])):=by
 obtain⟨c,b⟩:=lB h
 cases d with
 | true =>
  have a:=ac3 (P:=P) w ⟨R,q,none⟩ cd (λj v g=>by rw[dJ];exact e j v g);rw[i] at a;exact⟨.agg cd.toArray,by simp [Instr.loadAt,Instr.sureAddr,loadVar,c,b,a],.inl ⟨rfl,rfl⟩⟩
 | false =>
  obtain⟨x,rfl⟩:=f rfl
  have:w.cell? ⟨R,q,none⟩=some x:=by simpa using e 0 x rfl
  exact⟨x,by simp [Instr.loadAt,Instr.sureAddr,loadVar,c,this],.inr ⟨rfl,rfl⟩⟩
def nv(D:Sim E g σ a w)(hd:∀ d,o.dst=some d->d<E.nt)(i:o.op=.load J M)(k:gL P J U n=true)
  (C:a.eval M=.pointer (some ⟨R,q,none⟩))(F:iW U q n f=some h)
  (l:aM (aG (SS E g w) w) ((f.drop q).take n) cd)(B:∀ j u,cd[j]?=some u->w.cell? ⟨R,q+j,none⟩=some u):
  o.wp P a w (aS E (put σ o.dst h)) Q:=by
 obtain⟨r,m,s⟩:=v7 (Z:=cx E g σ w) F l
 obtain⟨val,v,x⟩:=uU (P:=P) k r B (λA=>by
  rcases m with ⟨e,_⟩ | ⟨_,M,e,_⟩
  ·rw[A] at e;cases e
  ·exact⟨M,e⟩)
 refine aI D hd (I:=val) ?_ s ?_
 ·simp [execOp,i,C,v]
 ·rcases m with ⟨b,c⟩ | ⟨b,y,c,p⟩<;>rcases x with ⟨f1,f2⟩ | ⟨f1,f2⟩
  ·rw[f2];exact c
  ·rw[b] at f1;cases f1
  ·rw[b] at f1;cases f1
  ·rw[c] at f2;cases f2;exact p
def tD{S:Nat->Nat->Prop}{b o:Nat}:∀ {cells:List AV},dR S w cells b o->∀ n,∃ vs,aM (aG S w) (cells.take n) vs/\∀ j u,vs[j]?=some u->w.cell? ⟨b,o+j,none⟩=some u
 | _,_,0=>⟨[],by simp [aM],by simp⟩
 | [],_,_+1=>⟨[],by simp [aM],by simp⟩
 | c::cs,h,n+1=>by
  simp only[dR] at h;obtain⟨⟨_,u,d,e⟩,f⟩:=h;obtain⟨vs,g,i⟩:=tD f n;refine⟨u::vs,⟨e,g⟩,λj x a=>?_⟩
  cases j with
  | zero=>simp at a;subst a;simpa using d
  | succ j =>
   have:=i j x (by simpa using a)
   rwa [show o+1+j=o+(j+1) from by omega] at this
def H3(y:Sim E g σ a w)(hd:∀ d,o.dst=some d->d<E.nt)(e:o.op=.load J M)(i:gL P J U n=true)
  (x:a.eval M=.pointer (some ⟨R,q,none⟩))(K:ldC U q n f=some bv){m:Nat}(H:o6 (cx E g σ w) fw w R m f):
  o.wp P a w (aS E (put σ o.dst bv)) Q:=by
 obtain⟨k,S,L,A,_,N,B⟩:=H;obtain⟨v,C⟩:=N7 K B;have b:∀ j u,k[q+j]?=some u->w.cell? ⟨R,q+j,none⟩=some u:=λj u s=>by
  simp [World.cell?,A];simpa using s
 rcases C with ⟨rfl,vs,l,p,D⟩ | ⟨rfl,u,l,p⟩
 ·obtain⟨val,F,c⟩:=uU (P:=P) (q:=q) i l (λj u s=>b j u (p j u s)) (λh=>by cases h)
  rcases c with ⟨_,rfl⟩ | ⟨c,_⟩
  ·refine aI y hd (I:=.agg vs.toArray) ?_ v D
   simp [execOp,e,x,F]
  ·cases c
 ·have O:∃ n',n=n':=⟨n,rfl⟩
  obtain⟨G,_⟩:=lB i;have r:w.cell? ⟨R,q,none⟩=some u:=by simpa using b 0 u (by simpa using l)
  refine aI y hd (I:=u) ?_ v p;simp [execOp,e,x,Instr.loadAt,Instr.sureAddr,loadVar,G,r]
def Z8(e:Sim E g σ a w)(hd:∀ d,o.dst=some d->d<E.nt)(b:o.op=.load J M)(p:okR M C=true)(i:gL P J U n=true)(k:ev σ.fr C=.loc j q)(l:σ.lo j=some f)(m:ldC U q n f=some h):
  o.wp P a w (aS E (put σ o.dst h)) Q:=by
 have c:=e.rd p k;exact H3 e hd b i c.2 m (e.loc j f l).2.2
def nx(h:ldC d j n f=some bv)(a:n≠0\/d=false):bX f=true/\f≠aO:=by
 have key:∀ y,(y=.undef\/∃ l,y=.mapv l)->ldC d j n [y]=some bv->False:=by
  intro y e h;unfold ldC at h
  split at h
  ·rename_i i
   split at h
   ·rename_i m
    obtain⟨c,g⟩:=m;have o:n≠0:=by
     rcases a with a | a
     ·exact a
     ·rw[i] at a;cases a
    have:j=0/\n=1:=by
     rw[tr,kl] at c;simp at c;omega
    obtain⟨rfl,rfl⟩:=this;rcases e with rfl | ⟨l,rfl⟩<;>simp [aQ,aJ] at g
   ·cases h
  ·cases j with
   | zero =>
    simp only[getElem?_cons_zero] at h;rcases e with rfl | ⟨l,rfl⟩<;>simp [ldV] at h
   | succ k=>simp at h
 constructor
 ·cases b:bX f with
  | true=>rfl
  | false =>
   unfold bX at b
   split at b
   ·exact (key _ (.inr ⟨_,rfl⟩) h).elim
   ·exact (key _ (.inl rfl) h).elim
   ·cases b
 ·rintro rfl
  exact key _ (.inl rfl) h
def MR(l:Sim E g σ a w)(hd:∀ d,o.dst=some d->d<E.nt)(c:o.op=.load J M)(G:okR M C=true)(k:gL P J U n=true)(A:ev σ.fr C=.ptr q R)(B:σ.sh[q]?=some f)(m:ldC U R n f=some bv):
  o.wp P a w (aS E (put σ o.dst bv)) Q:=by
 have i:=l.rd G A;by_cases p:n≠0\/U=false
 ·obtain⟨s,v⟩:=nx m p
  exact H3 l hd c k i.2 m ((l.shr q f B v).2.1 s)
 ·have r:n=0:=by
   by_cases h:n=0
   ·exact h
   ·exact absurd (.inl h) p
  have y:U=true:=by
   cases U
   ·exact absurd (.inr rfl) p
   ·rfl
  subst r;subst y;have F:bv=.agg []:=by
   unfold ldC at m;simpa using m.symm
  subst F;obtain⟨val,x,b⟩:=uU (P:=P) (w:=w) (R:=g.β q) (q:=R) (cd:=[]) k rfl (λj u D=>by simp at D) (λh=>by cases h);rcases b with ⟨_,rfl⟩ | ⟨b,_⟩
  ·refine aI l hd (I:=.agg #[]) ?_ rfl ⟨#[],rfl,trivial⟩
   have e:=i.2;simp only[cx] at e;simp [execOp,c,e,x]
  ·cases b
def Z9(i:Sim E g σ a w)(hd:∀ d,o.dst=some d->d<E.nt)(c:o.op=.load J M)(v:okR M C=true)(e:gL P J U n=true)(u:ev σ.fr C=.ip f)(j:iW U 0 n f=some h):
  o.wp P a w (aS E (put σ o.dst h)) Q:=by
 obtain⟨b,k,l,m⟩:=i.rd v u;obtain⟨vs,p,q⟩:=tD m n;have r:iW U k n (List.replicate k .any++f)=some h:=by
  unfold iW at j ⊢;simpa using j
 have s:aM (aG (SS E g w) w) (((List.replicate k AV.any++f).drop k).take n) vs:=by simpa [cx] using p
 exact nv i hd c e l r s q
def eT{S:Nat->Nat->Prop}{c:Cx}:∀ {l:List AV} {vs:List Value},aM (aG c.S c.w) l vs->∀ v∈vs,v.oneCell'=true
 | [],[],_,_,e=>by cases e
 | x::l,v::vs,h,u,d=>by
  rcases la.1 d with rfl | d
  ·have a:=h.1
   cases x with
   | int k n=>simp only[aG] at a;subst a;rfl
   | bool b=>simp only[aG] at a;subst a;rfl
   | str s=>simp only[aG] at a;obtain⟨b,rfl,_⟩:=a;rfl
   | nilp=>simp only[aG] at a;subst a;rfl
   | sl m z l=>simp only[aG] at a;obtain⟨A,f,rfl,_⟩:=a;rfl
   | _=>simp [aG] at a
  ·exact eT (S:=S) h.2 u d
 | [],_::_,h,_,_=>by simp [aM] at h
 | _::_,[],h,_,_=>by simp [aM] at h
def mD(h:gR n f bh=some iv):n+f.length<=bh.length/\iv=bh.take n++f++bh.drop (n+f.length):=by
 unfold gR at h
 split at h
 ·cases h;exact⟨by assumption,rfl⟩
 ·cases h
def d7(P:Program)(b o:Nat)(t:TypeId)(f:Nat×Nat):∀ (vs:List Value) (i:Nat) (a:Array Value) (w:World),w.heap[b]?=some (.cells a t f)->QP f a.size->o+i+vs.length<=a.size->(∀ v∈vs,v.oneCell'=true) ->
  (storeCells ⟨b,o,none⟩ vs i).run P w=.ok () (w.setRow b (a.toList.take (o+i)++vs++a.toList.drop (o+i+vs.length)).toArray)
 | [],i,a,w,hg,_,_,_=>by
  simp only[storeCells,ka,jz,rh,ye,Array.toArray_toList];rw[Av.setRow_self hg];rfl
 | v::vs,i,a,w,hg,h,k,j=>by
  simp only[jd] at k;have hi:o+i<a.size:=by omega
  have c:w.cell? ⟨b,o+i,none⟩=some a[o+i]:=by simp [World.cell?,hg,hi]
  have d:w.frozen? ⟨b,o+i,none⟩=false:=by
   simp only[World.frozen?,hg];rcases h with rfl | h
   ·simp
   ·simp;omega
  have g:(store ((⟨b,o,none⟩:Addr).add i) v).run P w=.ok () (w.setRow b (a.setIfInBounds (o+i) v)):=by
   rw[dJ,run_store P w _ v _ (j v (by simp)),c];simp [d,ak1 w b (o+i) a t f v hg]
  have m:=d7 P b o t f vs (i+1) (a.setIfInBounds (o+i) v) (w.setRow b (a.setIfInBounds (o+i) v)) (af4 w b a _ t _ hg) (by simpa using h) (by simp;omega) (λx l=>j x (by simp [l]));simp only[storeCells,ak9,g,al3,m,setRow_setRow];have e:=list_seg_step a.toList (o+i) v vs (by simp;omega)
  congr 3
  simpa [aj8,La] using e
def D1(h:o.op=.store J M bi)(k:aY P J=some n)(c:o.dst=none)
  (r:a.eval M=.pointer (some ⟨q,j,none⟩))(p:w.heap[q]?=some (.cells bk bj gm))(s:QP gm bk.size)
  (b:(a.eval bi).cells.size=n)(d:j+n<=bk.size)(l:∀ v∈(a.eval bi).cells.toList,v.oneCell'=true)
  {K:Act->World->Prop}(m:K a (w.setRow q (bk.toList.take j++(a.eval bi).cells.toList++bk.toList.drop (j+n)).toArray)):o.wp P a w K Q:=by
 obtain⟨i,hi,g⟩:=dZ k;have f:=d7 P q j bj gm (a.eval bi).cells.toList 0 bk w p s (by simpa [b] using d) l;simp only[rh,ac2,b] at f;have e:(execOp a.eval o).run P w=.ok .skip (w.setRow q (bk.toList.take j++(a.eval bi).cells.toList++bk.toList.drop (j+n)).toArray):=by
  simp [execOp,h,r,Instr.storeAt,Instr.sureAddr,storeVar,sizeOf,typeInfo,hi,g,b,f]
 unfold Oper.wp;rw[e];show K (a.put o.dst undef) _;rw[c];exact m
def zn(a:aM gj bh gz)(b:aM gj f cd):
  aM gj (bh.take n++f++bh.drop (n+f.length)) (gz.take n++cd++gz.drop (n+cd.length)):=by
 rw[b.length];exact ((a.take n).append b).append (a.drop _)
def pB(c:f.length=gz.length)(i:n+f.length<=bh.length)
  (e:∀ (j:Nat) (x:AV),bh[j]?=some x->∃ u,cd[j]?=some u/\bO Z (fw j) x u)(o:∀ (j:Nat) (y:AV),f[j]?=some y->∃ u,gz[j]?=some u/\bO Z aX y u):
  ∀ (j:Nat) (x:AV),(bh.take n++f++bh.drop (n+f.length))[j]?=some x->∃ u,(cd.take n++gz++cd.drop (n+gz.length)).toArray[j]?=some u/\bO Z (fw j) x u:=by
 have q:bh.length<=cd.length:=by
  by_cases r:bh.length=0
  ·omega
  ·obtain⟨u,g,_⟩:=e (bh.length-1) _ (ii (by omega))
   have:=(jh.1 g).1
   omega
 intro j x a;rw[ad2];rw[kb,aa0,tr] at a;rw[kb,aa0,tr];have k:min n bh.length=n:=by omega
 have l:min n cd.length=n:=by omega
 rw[k] at a;rw[l]
 split at a
 ·rename_i d
  rw[iw d];rw[mx d] at a ⊢;exact e j x a
 ·rename_i d
  rw[ie d];rw[aa0] at a ⊢;rw[<- c]
  split at a
  ·rename_i b
   rw[iw b];obtain⟨u,g,p⟩:=o _ x a;exact⟨u,g,bO.mono (Cx.le.refl Z) _ _ (λ_ _ _ h=>h.elim) p⟩
  ·rename_i b
   rw[ie b];rw[tb] at a ⊢;have m:n+f.length+(j-n-f.length)=j:=by omega
   rw[m] at a ⊢;exact e j x a
def ZS(c:Sim E g σ a w)(i:o.op=.store J M bi)(b:o.dst=none)(G:okR M C=true)(H:okR bi ba=true)(l:aY P J=some n)(B:ev σ.fr C=.loc j q)(r:σ.lo j=some f)(A:dI n (ev σ.fr ba)=some bh)(D:gR q bh f=some iv):
  o.wp P a w (aS E { σ with lo:=upd σ.lo j (some iv) }) Q:=by
 have k:=c.rd G B;obtain⟨_,F,_⟩:=c.rdT H;obtain⟨K,m,e,h⟩:=oK A F;obtain⟨u,rfl⟩:=mD D;obtain⟨_,_,d,L,I,p,s,v,y⟩:=c.loc j f r;have x:=v.1;refine D1 i l b k.2 p s m (by omega) e ?_;refine⟨g,c.setLoc r (by simp;omega) p s (by simp;omega) ?_⟩
 have:=pB (n:=q) (gz:=(a.eval bi).cells.toList) (cd:=d.toList) (by simp;omega) u (by simpa using y) (by simpa using h)
 simpa [m] using this
def ZR(h:Sim E g σ a w)(m:o.op=.store J M bi)(d:o.dst=none)(O:okR M C=true)(R:okR bi ba=true)(r:aY P J=some n)(K:ev σ.fr C=.ptr j q)(y:σ.sh[j]?=some f)(c:bX f=true)(I:dI n (ev σ.fr ba)=some bh)(L:gR q bh f=some iv):
  o.wp P a w (aS E { σ with sh:=σ.sh.set j iv }) Q:=by
 have p:=h.rd O K;obtain⟨_,N,_⟩:=h.rdT R;obtain⟨U,s,i,k⟩:=oK I N;obtain⟨B,rfl⟩:=mD L;have e:f≠aO:=by rintro rfl;simp [bX,aO] at c
 obtain⟨D,l,_⟩:=h.shr j f y e;obtain⟨b,V,S,v,A,F,x⟩:=l c;have H:f.length<=b.size:=by
  by_cases T:f.length=0
  ·omega
  ·obtain⟨u,G,_⟩:=x (f.length-1) _ (ii (by omega))
   have:=(kw.1 G).1
   omega
 refine D1 m r d p.2 v A s (by omega) i ?_;refine⟨g,h.setShr y e v A (by simp;omega) F ?_⟩
 have:=pB (n:=q) (gz:=(a.eval bi).cells.toList) (cd:=b.toList) (by simp;omega) B (by simpa using x) (by simpa using k)
 simpa [s] using this
end
end Go.Av
