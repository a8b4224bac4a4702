/- Functions walked, and plain facts. No conditions. -/
import Derived.Test.YthnlilndompbaaaGreatDoorT1XE
import Derived.Shelf.Strings.BuilderK
import Derived.KernelRfl
import Derived.Test.YthnlilndompbaaaGreatDoorChecked
import Derived.Deep.LoopGhost
import Derived.Deep.RegionHeld3
import Derived.Deep.DeepCutAuto
import Derived.Lib.Walk
import Derived.IntWalk
import Derived.Lib.Hide
import Derived.Test.YthnlilndompbaaaGreatDoorT1XD
import Derived.Shelf.Strings.Search3
import Derived.Tactics
import Derived.Tactics2
import Derived.Defers
import Derived.Laws.Pointers
import Derived.Laws.LoneSync
import Derived.RegionTactic
import Derived.RegionCalls
import Derived.ChangeAlike
import Derived.Laws.NewBlocks
open List
set_option linter.all false
set_option maxRecDepth 100000
set_option maxHeartbeats 16000000
def Mo:=@Go.Lib.hid
def ad3:=@Go.RowKit.Below.heap_alloc
def ae9:=@Go.RowKit.Below.refl
def aj9:=@Go.World.cell?_setCell_other
namespace Go.Av
open Go.Nt
variable{D iy k:Int}{K:List UInt8}{V e:List It}{Y:FuncId}{b bu fq:List Tk}{bc i u:Bs}{bd c:LL}{bh f:List AV}{bk:Array Value}{bv:AV}{cr:ByteArray}{cs r:List Nat}{de s:It}{du:Nat->Nat->Prop}{ei:Option Addr}{j n:Nat}{p:UInt8}{x:World}
variable [Mx]
def Skr(v:AV)(R:LL)(op:List Tk):Prop:=
 (op=[]/\v=.sl .full 3 []/\R=[])\/(∃ D,v=.ss (D.length+1) 0 op.length 3/\R=D++[fl op]/\∀ n,(D.all λc=>c.all (fP n))=true)
def WM(n:Nat):∀ l:List Tk,(fl l).all (fP n)=true
 | []=>rfl
 | t::l=>by rw[mI];simp only[ad0,WM n l,fP,kv]
def Skr.ro(h:Skr bv c b):RO bv c:=by
 rcases h with ⟨rfl,rfl,rfl⟩ | ⟨D,rfl,rfl,h⟩
 ·exact⟨rfl,rfl⟩
 ·refine⟨by simp [fP],?_⟩
  rw[af7,h];simp only[ad0,all_nil,WM,kv]
def gD1:(f::(bd++[bh]))[bd.length+1]?=some bh:=by simp
def sD1(iv:List AV):(f::(bd++[bh])).set (bd.length+1) iv=f::(bd++[iv]):=by
 rw[Ec,sD]
def TF(h:n<=b.length):D5 3 (f::(c++[fl b])) (.ss (c.length+1) 0 b.length 3) (.int .i64 n)=some (.ss (c.length+1) 0 n 3,f::(c++[fl (b.take n)])):=by
 have a:(fl b).take (n*3)=fl (b.take n):=by
  conv=>lhs;rw[<- ye n b,i5]
  rw[take_append_of_le_length (by rw[fH];simp;omega),Ty (by rw[fH];simp;omega)]
 have d:n*3<=(fl b).length:=by rw[fH];omega
 unfold D5 rB cZ;simp only[uO,gD1,km,lv,tn,d,g9,Nat.sub_zero,ai8,jk,jq,ah8,kp,a,sD1,ab3,show (1:Nat)<3 from by decide]
def XZ(op':List Tk)(y:Tk)(c:Int)(fl:List Tk)(tx:Bs)(cs:List Nat)(a:Nat)(r:Option (AV×LL)):Prop:=
 (nN fl tx cs false=true->∃ sh',r=some (.int .i64 3,sh')) /\
 (nN fl tx cs false=false->∃ b e d,Skr e d op'/\r=some (.int .i64 0,Bo true (fin fl tx++[y]) b [] true (cs++[a]) e c::d))
def Jq(d U bm:Bool)(h:AV)(a:Skr h c bu)(m:b.length<=2000)(o:u.length<=1000000)(p:r.length<=2000)(hid:0<=k/\k<=2000)(v:bu.length<=2000):
  XZ bu (4,bc,k+1) (k+1) b u r n (G9 207 [.ptr 0 0,.agg [.int .i64 4,.str bc,.int .i64 iy],.int .i64 n] (Bo d b U u bm r h k::c)):=by
 have e:IntKind.i64.wrap (k+1)=k+1:=w6 (by omega);obtain⟨j,l⟩:=R4 d U bm b u r h (k+1) c (4,bc,k+1) n a.ro m o p;unfold Bo at j l;have i:=F4 false;have g:=F4 true;constructor
 ·intro q
  have:=j q
  refine⟨Bo d b U u bm r h (k+1)::c,?_⟩;unfold Bo;refine aA k7 ?_;rcases a with ⟨rfl,rfl,rfl⟩ | ⟨D,rfl,rfl,s⟩
  ·simp only[k7,go_sem,e,this,i]
   try rfl
  ·simp only[k7,go_sem,e,this,i]
   try rfl
 ·intro q
  obtain⟨f,z⟩:=l q;refine⟨f,h,c,a,?_⟩;unfold Bo;have w:aE []=[]:=rfl;rw[w] at z ⊢;refine aA k7 ?_;rcases a with ⟨rfl,rfl,rfl⟩ | ⟨D,rfl,rfl,s⟩
  ·simp only[k7,go_sem,e,z,g]
   try rfl
  ·simp only[k7,go_sem,e,z,g]
   try rfl
def Jo(d U bm:Bool)(h:AV)(I:Skr h bd bu)(B:b.length<=2000)(C:u.length<=1000000)(E:r.length<=2000)(hid:0<=k/\k<=2000)(J:bu.length<=2000):
  XZ (bu++[(2,bc,k+1)]) (2,bc,k+1) (k+1) b u r j (G9 207 [.ptr 0 0,.agg [.int .i64 2,.str bc,.int .i64 iy],.int .i64 j] (Bo d b U u bm r h k::bd)):=by
 have s:IntKind.i64.wrap (k+1)=k+1:=w6 (by omega);have x:=F4 false;have w:=F4 true;have e:aU 32 1=true:=by decide
 have f:aU 32 (bu.length+1)=true:=aL (by decide) (by omega);have G:=g9 bu;have l:=kV bu;have F:bu.length*3=(Go.Av.fl bu).length:=(fH bu).symm;have y:∀ D:LL,(D++[Go.Av.fl bu]).length=(D++[aO]).length:=λD=>by simp
 have v:Go.Av.fl bu++[[AV.int .i64 2,.str bc,.int .i64 (k+1)]].flatten=Go.Av.fl (bu++[(2,bc,k+1)]):=by rw[i5];rfl
 have A:[[AV.int .i64 2,.str bc,.int .i64 (k+1)]].flatten=Go.Av.fl [(2,bc,k+1)]:=rfl;have i:∀ D:LL,(∀ n,(D.all λc=>c.all (fP n))=true)->Skr (.ss ((D++[aO]).length+1) 0 (bu.length+1) 3) ((D++[aO])++[Go.Av.fl (bu++[(2,bc,k+1)])]) (bu++[(2,bc,k+1)]):=by
  intro D p
  refine .inr ⟨D++[aO],by simp,rfl,?_⟩
  intro n;rw[af7,p];rfl
 have H:aE []=[]:=rfl;rcases I with ⟨rfl,rfl,rfl⟩ | ⟨D,rfl,rfl,p⟩
 ·have g:Skr (.ss 1 0 1 3) [Go.Av.fl [(2,bc,k+1)]] [(2,bc,k+1)]:=.inr ⟨[],rfl,rfl,λ_=>rfl⟩
  obtain⟨m,o⟩:=R4 d U bm b u r (.ss 1 0 1 3) (k+1) [Go.Av.fl [(2,bc,k+1)]] (2,bc,k+1) j g.ro B C E;unfold Bo at m o;constructor
  ·intro q
   have:=m q
   refine⟨Bo d b U u bm r (.ss 1 0 1 3) (k+1)::[Go.Av.fl [(2,bc,k+1)]],?_⟩;unfold Bo;refine aA k7 ?_;simp only[k7,go_sem,s,e,A,this,x]
   try rfl
  ·intro q
   obtain⟨a,z⟩:=o q;refine⟨a,_,_,g,?_⟩;unfold Bo;rw[H] at z ⊢;refine aA k7 ?_;simp only[k7,go_sem,s,e,A,z,w]
   try rfl
 ·obtain⟨m,o⟩:=R4 d U bm b u r (.ss ((D++[aO]).length+1) 0 (bu.length+1) 3) (k+1) ((D++[aO])++[Go.Av.fl (bu++[(2,bc,k+1)])]) (2,bc,k+1) j (i D p).ro B C E
  unfold Bo at m o;constructor
  ·intro q
   have:=m q
   refine⟨Bo d b U u bm r (.ss ((D++[aO]).length+1) 0 (bu.length+1) 3) (k+1)::((D++[aO])++[Go.Av.fl (bu++[(2,bc,k+1)])]),?_⟩;unfold Bo;refine aA k7 ?_;simp only[k7,go_sem,s,f,gD1,sD1,G,l,F,y,v,this,x]
   try rfl
  ·intro q
   obtain⟨a,z⟩:=o q;refine⟨a,_,_,i D p,?_⟩;unfold Bo;rw[H] at z ⊢;refine aA k7 ?_;simp only[k7,go_sem,s,f,gD1,sD1,G,l,F,y,v,z,w]
   try rfl
def Jp(d U bm:Bool)(h:AV)(y:Skr h c bu)(F:b.length<=2000)(G:u.length<=1000000)(H:r.length<=2000)(hid:0<=k/\k<=2000)(l:bu.length<=2000)(m:bu=[]\/∃ o a,bu=o++[a]/\a.2.1.length<=1000000/\aH a.2.1≠bc):
  ∃ sh',G9 207 [.ptr 0 0,.agg [.int .i64 3,.str bc,.int .i64 iy],.int .i64 n] (Bo d b U u bm r h k::c)=some (.int .i64 7,sh'):=by
 refine⟨Bo d b U u bm r h k::c,?_⟩;unfold Bo;rcases m with rfl | ⟨o,a,rfl,p,j⟩
 ·refine aA k7 ?_
  rcases y with ⟨-,rfl,rfl⟩ | ⟨D,rfl,rfl,I⟩
  ·simp only[k7,go_sem]
   try rfl
  ·simp only[k7,go_sem,jz]
   try rfl
 ·have A:(o++[a]).length=o.length+1:=by simp
  rw[A] at l;have i:=R7 a.2.1 p;have g:(aH a.2.1 != bc)=true:=by simpa using j
  have e:(Go.Av.fl (o++[a]))[o.length*3+1]?=some (.str a.2.1):=rK o a 1;have s:IntKind.i64.wrap (((o.length+1:Nat):Int)-1)=(o.length:Nat):=by rw[w6 (by omega)];omega
  have v:¬ ((o.length+1:Nat):Int)=0:=by omega
  have w:((o.length:Nat):Int)<((o.length+1:Nat):Int):=by omega
  have x:(0:Int)<=((o.length:Nat):Int):=by omega
  have B:=g9 (o++[a]);have f:∃ D,h=.ss (D.length+1) 0 (o.length+1) 3/\c=D++[Go.Av.fl (o++[a])]:=by
   rcases y with ⟨q,_⟩ | ⟨D,C,E,_⟩
   ·simp at q
   ·exact⟨D,by rw[C,A],E⟩
  obtain⟨D,rfl,rfl⟩:=f;refine aA k7 ?_;simp only[k7,go_sem,s,v,w,x,gD1,e,i,g,B]
  try rfl
def Jr(d U bm:Bool)(h:AV)(R:Skr h bd bu)(M:b.length<=2000)(O:u.length<=1000000)(P:r.length<=2000)(hid:0<=k/\k<=2000)(G:bu.length<=2000)(N:Tk)(a:bu=fq++[N])(H:N.2.1.length<=1000000)(F:aH N.2.1=bc):
  XZ fq (3,bc,N.2.2) k b u r j (G9 207 [.ptr 0 0,.agg [.int .i64 3,.str bc,.int .i64 iy],.int .i64 j] (Bo d b U u bm r h k::bd)):=by
 have E:bu.length=fq.length+1:=by rw[a];simp
 rw[E] at G;have l:=R7 N.2.1 H;rw[F] at l;have o:(bc != bc)=false:=by simp
 have g:(Go.Av.fl bu)[fq.length*3+1]?=some (.str N.2.1):=by rw[a];exact rK fq N 1
 have i:(Go.Av.fl bu)[fq.length*3+2]?=some (.int .i64 N.2.2):=by rw[a];exact rK fq N 2
 have p:IntKind.i64.wrap (((fq.length+1:Nat):Int)-1)=(fq.length:Nat):=by rw[w6 (by omega)];omega
 have s:¬ ((fq.length+1:Nat):Int)=0:=by omega
 have v:((fq.length:Nat):Int)<((fq.length+1:Nat):Int):=by omega
 have w:(0:Int)<=((fq.length:Nat):Int):=by omega
 have J:=g9 bu;have C:∃ D,h=.ss (D.length+1) 0 (fq.length+1) 3/\bd=D++[Go.Av.fl bu]/\∀ n,(D.all λc=>c.all (fP n))=true:=by
  rcases R with ⟨q,_⟩ | ⟨D,y,A,T⟩
  ·rw[a] at q;simp at q
  ·exact⟨D,by rw[y,E],A,T⟩
 obtain⟨D,rfl,rfl,Q⟩:=C;have e:=λx=>TF (f:=x) (c:=D) (b:=bu) (n:=fq.length) (by omega)
 rw[E] at e;have I:bu.take fq.length=fq:=by rw[a];simp
 rw[I] at e;have m:Skr (.ss (D.length+1) 0 fq.length 3) (D++[Go.Av.fl fq]) fq:=.inr ⟨D,rfl,rfl,Q⟩;obtain⟨y,A⟩:=R4 d U bm b u r (.ss (D.length+1) 0 fq.length 3) k (D++[Go.Av.fl fq]) (3,bc,N.2.2) j m.ro M O P;unfold Bo at y A;have L:=F4 false;have K:=F4 true;have S:aE []=[]:=rfl;constructor
 ·intro q
  have:=y q
  refine⟨Bo d b U u bm r (.ss (D.length+1) 0 fq.length 3) k::(D++[Go.Av.fl fq]),?_⟩;unfold Bo;refine aA k7 ?_;simp only[k7,go_sem,p,s,v,w,gD1,g,i,l,o,J,e,this,L]
  try rfl
 ·intro q
  obtain⟨B,z⟩:=A q;refine⟨B,_,_,m,?_⟩;unfold Bo;rw[S] at z ⊢;refine aA k7 ?_;simp only[k7,go_sem,p,s,v,w,gD1,g,i,l,o,J,e,z,K]
  try rfl
def ErE(r:Option (AV×LL)):Prop:=∃ n e sh',e≠0/\r=some (.tup [.int .i64 n,.int .i64 e],sh')
def OkE(d op':List Tk)(b:Int)(a:List Nat)(n:Nat)(r:Option (AV×LL)):Prop:=
 ∃ b1 fl b2 tx c v R,Skr v R op'/\fin fl tx=d/\cX fl≠1/\tx.length<=a.length/\r=some (.tup [.int .i64 n,.int .i64 0],Bo b1 fl b2 tx c a v b::R)
def UI:pn e (1,[p],0)=Nt.put e (1,[p],0):=by simp [pn]
def OO(c:UInt8)(a:cX b≠1):nN b i r true=decide (512<(pn (fin b i) (1,[c],0)).length\/1024<=r.length):=by
 rw[UI,xP a (by simp)];unfold nN;rw[iw rfl,ag5];omega
def E6(y:It)(a:y.1≠1):nN b i r false=decide (512<(pn (fin b i) y).length\/1024<=r.length):=by
 have e:pn (fin b i) y=fin b i++[y]:=by unfold pn;rw[ie a]
 rw[e,jb,jy];unfold nN;rw[ie (by decide),ag5];omega
def qP(h:s.1≠1):cX (e++[s])≠1:=by rw[dB];exact h
def FA(f:List It)(tx:Bs)(h:s.1≠1):fin (fin f tx++[s]) []=pn (fin f tx) s:=by rw[iI];unfold pn;rw[ie h]
def My(b1 b2 d:Bool)(tx:Bs)(v:AV)(id:Int)(R:LL)(c:UInt8)(a:Nat)(m:Skr v R bu)(e:cX b≠1)(j:(fin b tx).length<=512)(o:r.length<=1024)(q:tx.length<=r.length):
  (512<(pn (fin b tx) (1,[c],0)).length\/1024<=r.length->G9 210 [.ptr 0 0,.int .u8 (bI c),.int .i64 a] (Bo b1 b b2 tx d r v id::R)=some (.bool false,Bo b1 b b2 tx d r v id::R)) /\
  (¬ (512<(pn (fin b tx) (1,[c],0)).length\/1024<=r.length)->G9 210 [.ptr 0 0,.int .u8 (bI c),.int .i64 a] (Bo b1 b b2 tx d r v id::R)=some (.bool true,Bo b1 b true (tx++[c]) true (r++[a]) v id::R)/\fin b (tx++[c])=pn (fin b tx) (1,[c],0)):=by
 have l:b.length<=512:=by rw[fZ] at j;omega
 obtain⟨f,g⟩:=Xh b1 b2 d (b:=b) (i:=tx) (r:=r) v (k:=id) (bd:=R) (p:=c) (n:=a) m.ro (by omega) (by omega) (by omega);rw[OO c e] at f g;constructor
 ·intro h;exact f (jv h)
 ·intro h
  refine⟨g (jr h),?_⟩;rw[UI,uY e (by simp)]
def vp(h:rfR i=some (s,n)):∃ d,s=(1,[d],0):=by
 unfold rfR at h
 repeat' split at h
 all_goals (cases h;try exact⟨_,rfl⟩)
def yF(b:Bs):(rtK b).2.length<=b.length:=by unfold rtK;split<;>(try split)<;>simp
def Mw{N:Tk}{r:Option (AV×LL)}(g:N.1≠1)(h:XZ b N k bu i cs n r):
  (512<(pn (fin bu i) N).length\/1024<=cs.length->∃ sh',r=some (.int .i64 3,sh')) /\
  (¬ (512<(pn (fin bu i) N).length\/1024<=cs.length)->∃ a f c,Skr f c b/\r=some (.int .i64 0,Bo true (fin bu i++[N]) a [] true (cs++[n]) f k::c)):=by
 obtain⟨d,e⟩:=h;rw[E6 N g] at d e;exact⟨λh=>d (jv h),λh=>e (jr h)⟩
def Xo(U bm m:Bool)(h:AV)(L:Skr h bd fq)(hl:cX bu≠1)(hf:(fin bu i).length<=512)(hc:cs.length<=1024)(ht:i.length<=cs.length)
  (hid:0<=D/\D<=2000)(F:fq.length<=2000)(a1:∀ t∈fq,t.2.1.length<=1000000)(ha:j<bc.length)(hs:bc.length<=50000):
  (el 1 (bc.drop j)=none->ErE (G9 169 [.ptr 0 0,.str bc,.int .i64 j] (Bo U bu bm i m cs h D::bd))) /\
  (∀ x n,el 1 (bc.drop j)=some (x,n)->(stp x fq D=none->ErE (G9 169 [.ptr 0 0,.str bc,.int .i64 j] (Bo U bu bm i m cs h D::bd))) /\
   (∀ y op' g,stp x fq D=some (y,op',g)->(512<(pn (fin bu i) y).length\/1024<=cs.length->ErE (G9 169 [.ptr 0 0,.str bc,.int .i64 j] (Bo U bu bm i m cs h D::bd))) /\
    (¬ (512<(pn (fin bu i) y).length\/1024<=cs.length)->OkE (pn (fin bu i) y) op' g (cs++[j]) n (G9 169 [.ptr 0 0,.str bc,.int .i64 j] (Bo U bu bm i m cs h D::bd))))):=by
 have a2:bu.length<=512:=by rw[fZ] at hf;omega
 have hd:bc.drop j=bc[j]::bc.drop (j+1):=je ha;have I:(bc.drop (j+1)).length<=50000:=by rw[kl];omega
 have e:=ss1 bc j (by omega);rw[hd] at e;rw[hd];generalize bc[j]=c at hd e;generalize bc.drop (j+1)=t at hd e I;have E:(c::t)[0]?=some c:=rfl;have f:(c::t)[(0:Int).toNat]?=some c:=rfl;have e9:=F4 false;have e8:=F4 true;have ab:el 1 (c::t)=elM (c::t):=by unfold el;rw[iw rfl]
 rw[ab,elM];by_cases c1:c=60
 ·subst c1
  have B:((60:UInt8).toNat:Int)=60:=rfl;rw[iw rfl];cases H:cut 62 t with
  | none =>
   have l:=Jw (p:=60) (i:=t) (by decide) H;have S:tgR t=none:=by unfold tgR;rw[H]
   rw[S];refine⟨λ_=>⟨0,2,Bo U bu bm i m cs h D::bd,by decide,?_⟩,λx n q=>(by cases q)⟩;unfold Bo;refine aA iO ?_;simp only[iO,go_sem,e,E,f,B,l]
  | some p =>
   obtain⟨b,r⟩:=p;have l:=R6 60 t b r (by decide) (by omega) H;have ag:b.length<=50000:=by have:=(bP.1 H).1;rw[this] at I;simp at I;omega
   have av:=yF b;have S:tgR t=if rtV (rtK b).1 (rtK b).2=true then some (((rtK b).1,(rtK b).2,0),b.length+2) else none:=by unfold tgR;rw[H]
   rw[S];have T:=TS b;generalize rtK b=ku at l av T ⊢;obtain⟨k,u⟩:=ku;simp only at l av T ⊢;by_cases P:rtV k u=true
   ·rw[iw P]
    rw[P] at l;have v:=R7 u (by omega);have A:=yp (aH u);simp only[];by_cases hB:eD (aH u)=true
    ·rw[iw hB]
     rw[hB] at A;refine⟨λ_=>⟨0,2,Bo U bu bm i m cs h D::bd,by decide,?_⟩,λx n q=>(by cases q)⟩;unfold Bo;refine aA iO ?_;simp only[iO,go_sem,e,E,f,B,l,v,A]
     try rfl
    ·rw[ie hB]
     have ap:eD (aH u)=false:=by simpa using hB
     rw[ap] at A;refine⟨λq=>(by cases q),λx n q=>?_⟩;cases q;have w:∀ (y op' g),y.1≠1->XZ op' y g bu i cs j (G9 207 [.ptr 0 0,.agg [.int .i64 k,.str u,.int .i64 0],.int .i64 j] (Bo U bu bm i m cs h D::bd)) ->
       (512<(pn (fin bu i) y).length\/1024<=cs.length->ErE (G9 169 [.ptr 0 0,.str bc,.int .i64 j] (Bo U bu bm i m cs h D::bd))) /\
       (¬ (512<(pn (fin bu i) y).length\/1024<=cs.length)->OkE (pn (fin bu i) y) op' g (cs++[j]) (b.length+2) (G9 169 [.ptr 0 0,.str bc,.int .i64 j] (Bo U bu bm i m cs h D::bd))):=by
      intro y op' g hy hT;obtain⟨J,K⟩:=Mw hy hT;constructor
      ·intro q
       obtain⟨sh',z⟩:=J q;unfold Bo at z;refine⟨((b.length+2:Nat):Int),3,sh',by decide,?_⟩;unfold Bo;refine aA iO ?_;simp only[iO,go_sem,e,E,f,B,l,v,A,z]
       try rfl
      ·intro q
       obtain⟨R,v',R',a0,z⟩:=K q;unfold Bo at z;have hz:aE []=[]:=rfl;rw[hz] at z;refine⟨true,fin bu i++[y],R,[],true,v',R',a0,FA bu i (s:=y) hy,qP hy,by simp,?_⟩;unfold Bo;rw[hz];refine aA iO ?_;simp only[iO,go_sem,e,E,f,B,l,v,A,z]
       try rfl
     rcases T with h3 | h4 | ar
     ·rw[show k=3 from h3] at w l ⊢
      have Q:(fq=[]\/∃ o M,fq=o++[M]/\M.2.1.length<=1000000/\aH M.2.1≠u)->ErE (G9 169 [.ptr 0 0,.str bc,.int .i64 j] (Bo U bu bm i m cs h D::bd)):=by
       intro N;obtain⟨sh',z⟩:=Jp U bm m (b:=bu) (u:=i) (r:=cs) h (k:=D) (c:=bd) (bu:=fq) (bc:=u) (iy:=0) (n:=j) L (by omega) (by omega) (by omega) hid F N;unfold Bo at z;refine⟨((b.length+2:Nat):Int),7,sh',by decide,?_⟩;unfold Bo;refine aA iO ?_;simp only[iO,go_sem,e,E,f,B,l,v,A,z]
       try rfl
      rcases dS fq with N | ⟨o,M,N⟩
      ·have a:stp (3,u,0) fq D=none:=by rw[N];rfl
       exact⟨λ_=>Q (.inl N),λy op' g q=>(by rw[a] at q;cases q)⟩
      ·have a:stp (3,u,0) fq D=if aH M.2.1=u then some ((3,u,M.2.2),o,D) else none:=by rw[N];simp [stp]
       have Z:=a1 M (by rw[N];simp);by_cases hn:aH M.2.1=u
       ·rw[iw hn] at a
        refine⟨λq=>(by rw[a] at q;cases q),λy op' g q=>?_⟩;rw[a] at q;cases q;exact w _ _ _ (by show (3:Int)≠1;decide) (Jr U bm m (b:=bu) (u:=i) (r:=cs) h (k:=D) (bd:=bd) (bu:=fq) (bc:=u) (iy:=0) (j:=j) L (by omega) (by omega) (by omega) hid F (fq:=o) M N Z hn)
       ·rw[ie hn] at a
        exact⟨λ_=>Q (.inr ⟨o,M,N,Z,hn⟩),λy op' g q=>(by rw[a] at q;cases q)⟩
     ·rw[show k=4 from h4] at w ⊢
      have a:stp (4,u,0) fq D=some ((4,u,D+1),fq,D+1):=rfl;refine⟨λq=>(by rw[a] at q;cases q),λy op' g q=>?_⟩;rw[a] at q;cases q;exact w _ _ _ (by show (4:Int)≠1;decide) (Jq U bm m (b:=bu) (u:=i) (r:=cs) h (k:=D) (c:=bd) (bu:=fq) (bc:=u) (iy:=0) (n:=j) L (by omega) (by omega) (by omega) hid F)
     ·rw[show k=2 from ar] at w ⊢
      have a:stp (2,u,0) fq D=some ((2,u,D+1),fq++[(2,u,D+1)],D+1):=rfl;refine⟨λq=>(by rw[a] at q;cases q),λy op' g q=>?_⟩;rw[a] at q;cases q;exact w _ _ _ (by show (2:Int)≠1;decide) (Jo U bm m (b:=bu) (u:=i) (r:=cs) h (k:=D) (bd:=bd) (bu:=fq) (bc:=u) (iy:=0) (j:=j) L (by omega) (by omega) (by omega) hid F)
   ·rw[ie P]
    have Y:rtV k u=false:=by simpa using P
    rw[Y] at l;refine⟨λ_=>⟨0,2,Bo U bu bm i m cs h D::bd,by decide,?_⟩,λx n q=>(by cases q)⟩;unfold Bo;refine aA iO ?_;simp only[iO,go_sem,e,E,f,B,l]
    try rfl
 have n1:¬ (c.toNat:Int)=60:=by rw[i60];exact c1
 rw[ie c1];by_cases c2:c=38
 ·subst c2
  have G:((38:UInt8).toNat:Int)=38:=rfl;rw[iw rfl];have l:=Xi 38 (i:=t);cases hr:rfR t with
  | none =>
   rw[hr] at l;refine⟨λ_=>⟨0,2,Bo U bu bm i m cs h D::bd,by decide,?_⟩,λx n q=>(by cases q)⟩;unfold Bo;refine aA iO ?_;simp only[iO,go_sem,e,E,f,G,l]
   try rfl
  | some p =>
   obtain⟨x,n⟩:=p;obtain⟨d,rfl⟩:=vp hr;rw[hr] at l;simp only[] at l;refine⟨λq=>(by cases q),λx n q=>?_⟩;cases q;have a:stp (1,[d],0) fq D=some ((1,[d],0),fq,D):=rfl;refine⟨λq=>(by rw[a] at q;cases q),λy op' g q=>?_⟩;rw[a] at q;cases q;obtain⟨J,K⟩:=My U bm m (b:=bu) i (r:=cs) h D bd (bu:=fq) d j L hl hf hc ht;unfold Bo at J K;constructor
   ·intro q
    have z:=J q;refine⟨(n:Int),3,Bo U bu bm i m cs h D::bd,by decide,?_⟩;unfold Bo;refine aA iO ?_;simp only[iO,go_sem,e,E,f,G,l,z,e9]
    try rfl
   ·intro q
    obtain⟨z,zf⟩:=K q;refine⟨U,bu,true,i++[d],true,h,bd,L,zf,hl,by simp;omega,?_⟩;unfold Bo;refine aA iO ?_;simp only[iO,go_sem,e,E,f,G,l,z,e8]
    try rfl
 have n2:¬ (c.toNat:Int)=38:=by rw[i38];exact c2
 rw[ie c2];by_cases c3:c=123
 ·subst c3
  have C:((123:UInt8).toNat:Int)=123:=rfl;rw[iw rfl];cases H:cut 125 t with
  | none =>
   have h0:cut 125 (123::t)=none:=by simp [cut,H]
   have l:G9 155 [.str (123::t),.int .u8 125] []=some (.int .i64 (Lib.indexByte (123::t) 125),[]):=up (B7 (123::t) 125) rfl;rw[kU h0] at l;have S:slR t=none:=by unfold slR;rw[H]
   rw[S];refine⟨λ_=>⟨0,2,Bo U bu bm i m cs h D::bd,by decide,?_⟩,λx n q=>(by cases q)⟩;unfold Bo;refine aA iO ?_;simp only[iO,go_sem,e,E,f,C,l]
   try rfl
  | some p =>
   obtain⟨b,r⟩:=p;have X:=(bP.1 H).1;have ag:b.length<=50000:=by rw[X] at I;simp at I;omega
   have h0:cut 125 (123::t)=some (123::b,r):=by simp [cut,H]
   have l:G9 155 [.str (123::t),.int .u8 125] []=some (.int .i64 (Lib.indexByte (123::t) 125),[]):=up (B7 (123::t) 125) rfl;rw[mH h0,jd] at l;have V:¬ ((b.length+1:Nat):Int)<0:=by omega
   have hw:IntKind.i64.wrap (((b.length+1:Nat):Int)+1)=(b.length+2:Nat):=by rw[w6 (by omega)];rfl
   have e3:(((123::t):Bs).take (b.length+1)).drop 1=b:=by rw[X];simp
   have O:=ss3 (123::t) 1 (b.length+1) (by omega) (by rw[X];simp);rw[e3,show ((1:Nat):Int)=1 from rfl] at O;have v:=up (c83 b) rfl;have S:slR t=if cU b=true then some ((5,b,0),b.length+2) else none:=by unfold slR;rw[H]
   rw[S];by_cases P:cU b=true
   ·rw[iw P]
    rw[P] at v;refine⟨λq=>(by cases q),λx n q=>?_⟩;cases q;have a:stp (5,b,0) fq D=some ((5,b,0),fq,D):=rfl;refine⟨λq=>(by rw[a] at q;cases q),λy op' g q=>?_⟩;rw[a] at q;cases q;obtain⟨J,K⟩:=R4 U bm m bu i cs h D bd (5,b,0) j L.ro (by omega) (by omega) (by omega);rw[E6 (5,b,0) (by show (5:Int)≠1;decide)] at J K;unfold Bo at J K;constructor
    ·intro q
     have z:=J (jv q);refine⟨((b.length+2:Nat):Int),3,Bo U bu bm i m cs h D::bd,by decide,?_⟩;unfold Bo;refine aA iO ?_;simp only[iO,go_sem,e,E,f,C,l,V,hw,O,v,z,e9]
     try rfl
    ·intro q
     obtain⟨R,z⟩:=K (jr q);have hz:aE []=[]:=rfl;rw[hz] at z;refine⟨true,fin bu i++[(5,b,0)],R,[],true,h,bd,L,FA bu i (by show (5:Int)≠1;decide),qP (by show (5:Int)≠1;decide),by simp,?_⟩;unfold Bo;rw[hz];refine aA iO ?_;simp only[iO,go_sem,e,E,f,C,l,V,hw,O,v,z,e8]
     try rfl
   ·rw[ie P]
    have Y:cU b=false:=by simpa using P
    rw[Y] at v;refine⟨λ_=>⟨0,2,Bo U bu bm i m cs h D::bd,by decide,?_⟩,λx n q=>(by cases q)⟩;unfold Bo;refine aA iO ?_;simp only[iO,go_sem,e,E,f,C,l,V,hw,O,v]
    try rfl
 have n3:¬ (c.toNat:Int)=123:=by rw[xZ];exact c3
 rw[ie c3];refine⟨λq=>(by cases q),λx n q=>?_⟩;cases q;have a:stp (1,[c],0) fq D=some ((1,[c],0),fq,D):=rfl;refine⟨λq=>(by rw[a] at q;cases q),λy op' g q=>?_⟩;rw[a] at q;cases q;obtain⟨J,K⟩:=My U bm m (b:=bu) i (r:=cs) h D bd (bu:=fq) c j L hl hf hc ht;unfold Bo at J K;constructor
 ·intro q
  have z:=J q;refine⟨1,3,Bo U bu bm i m cs h D::bd,by decide,?_⟩;unfold Bo;refine aA iO ?_;simp only[iO,go_sem,e,E,f,n1,n2,n3,z,e9]
  try rfl
 ·intro q
  obtain⟨z,zf⟩:=K q;refine⟨U,bu,true,i++[c],true,h,bd,L,zf,hl,by simp;omega,?_⟩;unfold Bo;refine aA iO ?_;simp only[iO,go_sem,e,E,f,n1,n2,n3,z,e8]
  try rfl
def SQ(h:stp s e k=some (de,V,D)):de.2.1=s.2.1/\V.length<=e.length+1/\∀ t∈V,t∈e\/t=de:=by
 unfold stp at h
 split at h
 ·cases h;exact⟨rfl,by simp,λt a=>by simpa using a⟩
 split at h
 ·cases h;exact⟨rfl,by omega,λt a=>.inl a⟩
 split at h
 ·cases b:e.getLast? with
  | none=>rw[b] at h;cases h
  | some t =>
   rw[b] at h;simp only[] at h
   split at h
   ·cases h;exact⟨rfl,by simp;omega,λz c=>.inl (dropLast_subset _ c)⟩
   ·cases h
 ·cases h;exact⟨rfl,by omega,λt a=>.inl a⟩
def InD.step{fh:List It}{y:It}(hi:InD i e V D r j)(v:i.length<=50000)(u:j<=i.length)(c:el k (i.drop j)=some (de,n))(g:¬ de.1=0)(a:stp de V D=some (y,fh,iy))(q:¬ (512<(pn e y).length\/1024<=r.length))(f:Nat):InD i (pn e y) fh iy (r++[f]) (j+n):=by
 have b:=lQ c;have l:=sQ c;have m:=b.2.2;rw[kl] at m;obtain⟨i1,w,p⟩:=LD hi.fv b.1 g hi.idl (by have:=xF e;have:=hi.fl;omega) a;obtain⟨d,x,s⟩:=SQ a
 have:=(o9 e y).1
 rw[d] at this;refine⟨i1,p,by omega,?_,by have:=hi.tl;omega,?_,?_⟩
 ·rw[jb,jy];omega
 ·rw[jb,jy];have:=hi.opl;omega
 ·intro t o
  rcases s t o with h | h
  ·exact hi.ol t h
  ·subst h;rw[d];omega
def Dq(h:el 1 i=some (de,n)):¬ de.1=0:=by
 intro a;unfold el at h;rw[iw rfl] at h
 cases i with
 | nil=>cases h
 | cons c t =>
  rw[elM] at h
  split at h
  ·cases b:tgR t with
   | none=>rw[b] at h;cases h
   | some p =>
    obtain⟨y,m⟩:=p;rw[b] at h;simp only[] at h
    have:=(rZ b).2.2.2
    split at h
    ·cases h
    ·cases h;omega
  split at h
  ·obtain⟨d,rfl⟩:=vp h;exact absurd (show (1:Int)=0 from a) (by decide)
  split at h
  ·unfold slR at h
   cases e:cut 125 t with
   | none=>rw[e] at h;cases h
   | some p=>rw[e] at h;simp only[] at h;split at h<;>cases h;exact absurd (show (5:Int)=0 from a) (by decide)
  ·cases h;exact absurd (show (1:Int)=0 from a) (by decide)
def ErR(r:Option (AX×AS)):Prop:=∃ a sh' b e,e≠0/\r=some (.ret,ST a [] sh')/\aF .any a 2=.nilp/\aF .any a 3=.int .i64 b/\aF .any a 4=.int .i64 e
def Tj(s:Bs)(r:Option (AX×AS))(d:Option (List It×List Nat)):Prop:=
 (d=none->ErR r\/∃ b1 fl b2 tx a cs v id R op,op≠[]/\Skr v R op/\r=some (.ex 0,ST [(0,.str s),(5,.ptr 0 0),(6,.int .i64 s.length),(14,.bool false)] [] (Bo b1 fl b2 tx a cs v id::R))) /\
 (∀ g c,d=some (g,c)->∃ b1 fl b2 tx a cs v id R,Skr v R []/\g=fin fl tx/\c=cs++[s.length]/\cs.length<=1024/\g.length<=512/\r=some (.ex 0,ST [(0,.str s),(5,.ptr 0 0),(6,.int .i64 s.length),(14,.bool false)] [] (Bo b1 fl b2 tx a cs v id::R)))
def wo(s:Bs)(G:s.length<=50000):∀ (k:Nat) (b1:Bool) (fl:List Tk) (b2:Bool) (tx:Bs) (d:Bool) (cs:List Nat) (v:AV) (id:Int) (R:LL) (op:List Tk) (a:Nat),Skr v R op->cX fl≠1->tx.length<=cs.length->InD s (fin fl tx) op id cs a->s.length<=a+k->a<=s.length ->
  Tj s (aC G9 mX (ST [(0,.str s),(5,.ptr 0 0),(6,.int .i64 a)] [] (Bo b1 fl b2 tx d cs v id::R))) (dcs 1 k (fin fl tx) op id cs a a (s.drop a))
 | k,b1,fl,b2,tx,d,cs,v,id,R,op,a,A,P,S,hi,h1,O=>by
  by_cases w:a=s.length
  ·subst w
   have e:aC G9 mX (ST [(0,.str s),(5,.ptr 0 0),(6,.int .i64 s.length)] [] (Bo b1 fl b2 tx d cs v id::R))=some (.ex 0,ST [(0,.str s),(5,.ptr 0 0),(6,.int .i64 s.length),(14,.bool false)] [] (Bo b1 fl b2 tx d cs v id::R)):=by
    have u:¬ (s.length:Int)<s.length:=by omega
    unfold Bo;rw[aB mX rfl];simp only[go_sem,u]
   have M:dcs 1 k (fin fl tx) op id cs s.length s.length (s.drop s.length)=if op=[] then some (fin fl tx,cs++[s.length]) else none:=by
    rw[lb]
    cases k with
    | zero=>unfold dcs;simp
    | succ k=>unfold dcs;rw[iw rfl]
   rw[e,M];by_cases q:op=[]
   ·rw[iw q]
    subst q;exact⟨λq=>(by cases q),λg c q=>by cases q;exact⟨b1,fl,b2,tx,d,cs,v,id,R,A,rfl,rfl,hi.cl,hi.fl,rfl⟩⟩
   ·rw[ie q]
    exact⟨λ_=>.inr ⟨b1,fl,b2,tx,d,cs,v,id,R,op,q,A,rfl⟩,λg c q=>(by cases q)⟩
  have w:a<s.length:=by omega
  cases k with
  | zero=>omega
  | succ k =>
  have E:¬ s.drop a=[]:=by rw[al2];omega
  have u:(a:Int)<s.length:=by omega
  obtain⟨Z,y2⟩:=Xo b1 b2 d (bu:=fl) (i:=tx) (cs:=cs) v (D:=id) (bd:=R) (fq:=op) (bc:=s) (j:=a) A P hi.fl hi.cl S ⟨hi.fv.i0,by have:=hi.idl;have:=xF (fin fl tx);have:=hi.fl;omega⟩ (by have:=hi.opl;have:=hi.cl;omega) (λt q=>by have:=hi.ol t q;omega) w G;have b:ErE (G9 169 [.ptr 0 0,.str s,.int .i64 a] (Bo b1 fl b2 tx d cs v id::R))->ErR (aC G9 mX (ST [(0,.str s),(5,.ptr 0 0),(6,.int .i64 a)] [] (Bo b1 fl b2 tx d cs v id::R))):=by
   rintro ⟨n,e,sh',f,z⟩
   unfold Bo at z ⊢;refine⟨[(0,.str s),(2,.nilp),(3,.int .i64 a),(4,.int .i64 e),(5,.ptr 0 0),(7,.int .i64 n),(14,.bool true),(23,.bool true)],sh',a,e,f,?_,rfl,rfl,rfl⟩;rw[aB mX rfl];simp only[go_sem,u,z,f]
  unfold dcs;rw[ie E];cases f:el 1 (s.drop a) with
  | none=>exact⟨λ_=>.inl (b (Z f)),λg c q=>(by cases q)⟩
  | some p =>
   obtain⟨x,n⟩:=p;obtain⟨U,V⟩:=y2 x n f;have J:=Dq f;have K:=lQ f;have F:=K.2.2;rw[kl] at F;have Q:=K.2.1;simp only[];rw[ie J];cases h:stp x op id with
   | none=>exact⟨λ_=>.inl (b (U h)),λg c q=>(by cases q)⟩
   | some p =>
    obtain⟨y,op',l⟩:=p;obtain⟨X,Y⟩:=V y op' l h;simp only[];by_cases q:512<(pn (fin fl tx) y).length\/1024<=cs.length
    ·rw[iw q]
     exact⟨λ_=>.inl (b (X q)),λg c q=>(by cases q)⟩
    ·rw[ie q,ah2]
     obtain⟨c1,o,c2,r,c3,L,I,B,N,C,H,z⟩:=Y q;have hi':=hi.step G O f J h q a;rw[<- N] at hi' ⊢;have T:IntKind.i64.wrap ((a:Int)+(n:Int))=(a+n:Nat):=by rw[w6 (by omega)];rfl
     have m:aC G9 mX (ST [(0,.str s),(5,.ptr 0 0),(6,.int .i64 a)] [] (Bo b1 fl b2 tx d cs v id::R))=aC G9 mX (ST [(0,.str s),(5,.ptr 0 0),(6,.int .i64 (a+n:Nat))] [] (Bo c1 o c2 r c3 (cs++[a]) L l::I)):=by
      unfold Bo at z ⊢
      conv=>lhs;rw[aB mX rfl]
      simp only[go_sem,u,z,T]
      try rfl
     rw[m];exact wo s G k c1 o c2 r c3 (cs++[a]) L l I op' (a+n) B C H hi' (by omega) (by omega)
def Yr(a:i.length<=50000):Tj i (aC G9 mX (ST [(0,.str i),(5,.ptr 0 0),(6,.int .i64 0)] [] [[.sl .full 3 [],.sl .full 1 [],.sl .full 1 [],.sl .full 3 [],.int .i64 0]])) (dcd 1 i):=by
 have h:=wo i a i.length false [] false [] false [] (.sl .full 3 []) 0 [] [] 0 (.inl ⟨rfl,rfl,rfl⟩) (by decide) (by simp) (show InD i [] [] 0 [] 0 from ⟨E5,by decide,by simp,by simp,by decide,by simp,by simp⟩) (by omega) (by omega);rw[kc] at h;exact h
def Jz(s:Bs)(y:s.length<=50000):
  (∀ g c,dcd 1 s=some (g,c)->∃ b1 fl b2 tx d cs v id R,Skr v R []/\g=fin fl tx/\c=cs++[s.length]/\cs.length<=1024/\g.length<=512/\G9 127 [.str s] []=some (.tup [.ptr 0 0,.int .i64 0,.int .i64 0],Bo b1 fl b2 tx d cs v id::R)) /\
  (dcd 1 s=none->∃ a e sh',e≠0/\G9 127 [.str s] []=some (.tup [.nilp,.int .i64 a,.int .i64 e],sh')):=by
 obtain⟨h,j⟩:=Yr (i:=s) y;constructor
 ·intro g c q
  obtain⟨b1,fl,b2,tx,d,cs,v,id,R,k,n,o,p,r,e⟩:=j g c q;refine⟨b1,fl,b2,tx,d,cs,v,id,R,k,n,o,p,r,?_⟩
  clear h j
  unfold Bo at e ⊢;refine aA JV ?_;rcases k with ⟨-,rfl,rfl⟩ | ⟨D,rfl,rfl,u⟩
  ·simp only[JV,go_sem,e]
   try rfl
  ·simp only[JV,go_sem,e,jz]
   try rfl
 ·intro q
  rcases h q with ⟨E,sh',l,m,w,e,A,B,C⟩ | ⟨b1,fl,b2,tx,d,cs,v,id,R,op,f,k,e⟩
  ·refine⟨l,m,sh',w,?_⟩
   clear h j
   refine aA JV ?_;simp only[JV,go_sem,e,A,B,C]
   try rfl
  ·refine⟨(s.length:Int),7,Bo b1 fl b2 tx d cs v id::R,by decide,?_⟩
   clear h j
   unfold Bo at e ⊢;rcases k with ⟨rfl,_⟩ | ⟨D,rfl,rfl,u⟩
   ·exact absurd rfl f
   have x:0<(op.length:Int):=by cases op with | nil=>exact absurd rfl f | cons a b=>simp only[jd];omega
   refine aA JV ?_;simp only[JV,go_sem,e,x]
   try rfl
def u85(s:Bs)(x:s.length<=50000):
  (∀ g c,dcd 1 s=some (g,c)->G9 85 [.str s] []=some (.tup [.sl .no 3 (tks g),.int .i64 0,.int .i64 0],[])) /\
  (dcd 1 s=none->∃ a e,e≠0/\G9 85 [.str s] []=some (.tup [.sl .no 3 [],.int .i64 a,.int .i64 e],[])):=by
 obtain⟨p,u⟩:=Jz s x;constructor
 ·intro g c q
  obtain⟨b1,fl,b2,tx,m,cs,v,id,R,w,f,y,A,o,e⟩:=p g c q;have d:fl.length<=2000:=by rw[f,fZ] at o;omega
  obtain⟨j,l,z⟩:=Ya b1 b2 m (b:=fl) (i:=tx) (r:=cs) v (k:=id) (c:=R) w.ro d;rw[f];unfold Bo at e z;refine aA F85 ?_;simp only[F85,go_sem,e,z]
  try rfl
 ·intro q
  obtain⟨a,n,sh',h,e⟩:=u q;refine⟨a,n,h,?_⟩;refine aA F85 ?_;simp only[F85,go_sem,e,h]
  try rfl
def u92(g:i.length<=50000)(q:dcd 1 i=some (V,r)):G9 92 [.str i] []=some (.tup [.sl .no 1 (fI r),.int .i64 0],[]):=by
 obtain⟨b1,fl,b2,tx,a,cs,v,id,R,f,h,d,j,l,e⟩:=(Jz i g).1 V r q;have z:=Xv b1 b2 a (b:=fl) (i:=tx) (r:=cs) v (k:=id) (c:=R) (n:=i.length) f.ro (by omega);rw[d];unfold Bo at e z;refine aA F92 ?_;simp only[F92,go_sem,e,z]
 try rfl
def OkT(c:List Tk)(a:List Nat)(n:Nat)(T:List AV)(r:Option (AV×LL)):Prop:=
 ∃ b1 fl b2 tx b,fin fl tx=c/\cX fl≠1/\tx.length<=a.length/\r=some (.tup [.int .i64 n,.int .i64 0],[BoT b1 fl b2 tx b a T])
def wb(b1 b2 d:Bool)(tx:Bs)(T:List AV)(c:UInt8)(a:Nat)(k:ROT T [])(e:cX b≠1)(i:(fin b tx).length<=512)(l:r.length<=1024)(m:tx.length<=r.length):
  (512<(pn (fin b tx) (1,[c],0)).length\/1024<=r.length->G9 210 [.ptr 0 0,.int .u8 (bI c),.int .i64 a] [BoT b1 b b2 tx d r T]=some (.bool false,[BoT b1 b b2 tx d r T])) /\
  (¬ (512<(pn (fin b tx) (1,[c],0)).length\/1024<=r.length)->G9 210 [.ptr 0 0,.int .u8 (bI c),.int .i64 a] [BoT b1 b b2 tx d r T]=some (.bool true,[BoT b1 b true (tx++[c]) true (r++[a]) T])/\fin b (tx++[c])=pn (fin b tx) (1,[c],0)):=by
 have j:b.length<=512:=by rw[fZ] at i;omega
 obtain⟨f,g⟩:=uo b1 b2 d (b:=b) tx (r:=r) T [] c a k (by omega) (by omega) (by omega);rw[OO c e] at f g;constructor
 ·intro h;exact f (jv h)
 ·intro h
  refine⟨g (jr h),?_⟩;rw[UI,uY e (by simp)]
def vz(b1 b2 c:Bool)(tx:Bs)(T:List AV)(b:Bs)(a:Nat)(j:ROT T [])(l:cX bu≠1)(g:(fin bu tx).length<=512)(k:r.length<=1024)(m:tx.length<=r.length):
  (512<(pn (fin bu tx) (5,b,0)).length\/1024<=r.length->G9 211 [.ptr 0 0,.agg [.int .i64 5,.str b,.int .i64 0],.int .i64 a] [BoT b1 bu b2 tx c r T]=some (.bool false,[BoT b1 bu b2 tx c r T])) /\
  (¬ (512<(pn (fin bu tx) (5,b,0)).length\/1024<=r.length)->∃ d,G9 211 [.ptr 0 0,.agg [.int .i64 5,.str b,.int .i64 0],.int .i64 a] [BoT b1 bu b2 tx c r T]=some (.bool true,[BoT true (fin bu tx++[(5,b,0)]) d [] true (r++[a]) T])):=by
 have i:bu.length<=512:=by rw[fZ] at g;omega
 obtain⟨e,f⟩:=um b1 b2 c (b:=bu) tx (r:=r) T [] (5,b,0) a j (by omega) (by omega) (by omega);rw[E6 (5,b,0) (by show (5:Int)≠1;decide)] at e f;exact⟨λh=>e (jv h),λh=>f (jr h)⟩
def Ez:ROT [] []:=⟨rfl,rfl⟩
def Qu(h:elS i=some (de,n)):(∃ c,de=(1,[c],0))\/(∃ b,de=(5,b,0)):=by
 cases i with
 | nil=>cases h
 | cons c t =>
  have d:∀ {t:Bs} {de:It} {n:Nat},slR t=some (de,n)->∃ b,de=(5,b,0):=by
   intro t de n h;unfold slR at h;cases a:cut 125 t with
   | none=>rw[a] at h;cases h
   | some p=>obtain⟨b,r⟩:=p;rw[a] at h;simp only[] at h;split at h<;>cases h;exact⟨_,rfl⟩
  rw[elS] at h
  split at h
  ·split at h<;>cases h;exact .inl ⟨_,rfl⟩
  split at h
  ·split at h
   ·cases h;exact .inl ⟨_,rfl⟩
   ·exact .inr (d h)
  ·cases h;exact .inl ⟨_,rfl⟩
def UD(c d:UInt8)(t:Bs)(h:c≠d):decide ([d,d] <+: c::t)=false:=by
 rw[ac7]
 rintro ⟨r,b⟩
 injection b with a e
 exact h a.symm
def Xm(U bm e:Bool)(M:cX bu≠1)(R:(fin bu u).length<=512)(Q:cs.length<=1024)(S:u.length<=cs.length)(Y:j<bc.length)(hs:bc.length<=50000):
  (el 3 (bc.drop j)=none->ErE (G9 172 [.ptr 0 0,.str bc,.int .i64 j] [BoT U bu bm u e cs []])) /\
  (∀ x n,el 3 (bc.drop j)=some (x,n)->(512<(pn (fin bu u) x).length\/1024<=cs.length->ErE (G9 172 [.ptr 0 0,.str bc,.int .i64 j] [BoT U bu bm u e cs []])) /\
    (¬ (512<(pn (fin bu u) x).length\/1024<=cs.length)->OkT (pn (fin bu u) x) (cs++[j]) (j+n) [] (G9 172 [.ptr 0 0,.str bc,.int .i64 j] [BoT U bu bm u e cs []]))):=by
 have L:el 3 (bc.drop j)=elS (bc.drop j):=by unfold el;rw[ie (by decide),ie (by decide)]
 rw[L];have hd:bc.drop j=bc[j]::bc.drop (j+1):=je Y;have E:(bc.drop (j+1)).length<=50000:=by rw[kl];omega
 have a:=ss1 bc j (by omega);rw[hd] at a;rw[hd];generalize bc[j]=c at hd a;generalize bc.drop (j+1)=t at hd a E;have w:(c::t)[0]?=some c:=rfl;have g:(c::t)[(0:Int).toNat]?=some c:=rfl;have f:=wI (n:=j) (by omega)
 have A:IntKind.i64.wrap ((j:Int)+2)=(j+2:Nat):=by rw[w6 (by omega)];rfl
 have k:=BV (c::t) [34,34];have l:=BV (c::t) [123,123];have hz:aE []=[]:=rfl
 have o:∀ (d:UInt8) (n:Nat),(∀ v,G9 210 [.ptr 0 0,.int .u8 (bI d),.int .i64 j] [BoT U bu bm u e cs []]=some (.bool false,v)->v=[BoT U bu bm u e cs []]->ErE (G9 172 [.ptr 0 0,.str bc,.int .i64 j] [BoT U bu bm u e cs []])) ->
   (∀ v,G9 210 [.ptr 0 0,.int .u8 (bI d),.int .i64 j] [BoT U bu bm u e cs []]=some (.bool true,v)->v=[BoT U bu true (u++[d]) true (cs++[j]) []]->G9 172 [.ptr 0 0,.str bc,.int .i64 j] [BoT U bu bm u e cs []]=some (.tup [.int .i64 (j+n:Nat),.int .i64 0],v)) ->
   (512<(pn (fin bu u) (1,[d],0)).length\/1024<=cs.length->ErE (G9 172 [.ptr 0 0,.str bc,.int .i64 j] [BoT U bu bm u e cs []])) /\
   (¬ (512<(pn (fin bu u) (1,[d],0)).length\/1024<=cs.length)->OkT (pn (fin bu u) (1,[d],0)) (cs++[j]) (j+n) [] (G9 172 [.ptr 0 0,.str bc,.int .i64 j] [BoT U bu bm u e cs []])):=by
  intro d n f1 f2;obtain⟨O,P⟩:=wb U bm e (b:=bu) u (r:=cs) [] d j Ez M R Q S;refine⟨λq=>f1 _ (O q) rfl,λq=>?_⟩;obtain⟨z,zf⟩:=P q;exact⟨U,bu,true,u++[d],true,zf,M,by simp;omega,f2 _ z rfl⟩
 have slot:∀ (b:Bs) (n:Nat),(∀ v,G9 211 [.ptr 0 0,.agg [.int .i64 5,.str b,.int .i64 0],.int .i64 j] [BoT U bu bm u e cs []]=some (.bool false,v)->v=[BoT U bu bm u e cs []]->ErE (G9 172 [.ptr 0 0,.str bc,.int .i64 j] [BoT U bu bm u e cs []])) ->
   (∀ v m,G9 211 [.ptr 0 0,.agg [.int .i64 5,.str b,.int .i64 0],.int .i64 j] [BoT U bu bm u e cs []]=some (.bool true,v)->v=[BoT true (fin bu u++[(5,b,0)]) m [] true (cs++[j]) []]->G9 172 [.ptr 0 0,.str bc,.int .i64 j] [BoT U bu bm u e cs []]=some (.tup [.int .i64 (j+n:Nat),.int .i64 0],v)) ->
   (512<(pn (fin bu u) (5,b,0)).length\/1024<=cs.length->ErE (G9 172 [.ptr 0 0,.str bc,.int .i64 j] [BoT U bu bm u e cs []])) /\
   (¬ (512<(pn (fin bu u) (5,b,0)).length\/1024<=cs.length)->OkT (pn (fin bu u) (5,b,0)) (cs++[j]) (j+n) [] (G9 172 [.ptr 0 0,.str bc,.int .i64 j] [BoT U bu bm u e cs []])):=by
  intro b n f1 f2;obtain⟨O,P⟩:=vz U bm e (bu:=bu) u (r:=cs) [] b j Ez M R Q S;refine⟨λq=>f1 _ (O q) rfl,λq=>?_⟩;obtain⟨m,z⟩:=P q;exact⟨true,fin bu u++[(5,b,0)],m,[],true,FA bu u (by show (5:Int)≠1;decide),qP (by show (5:Int)≠1;decide),by simp,f2 _ m z rfl⟩
 rw[elS];by_cases c1:c=34
 ·subst c1
  have F:((34:UInt8).toNat:Int)=34:=rfl;rw[mh] at k;rw[UD 34 123 t (by decide)] at l;rw[iw rfl];by_cases q:t.head?=some 34
  ·rw[jv q] at k
   rw[iw q];refine⟨λq=>(by cases q),λx n q=>?_⟩;cases q;refine o 34 2 ?_ ?_
   ·intro v z h
    subst h;refine⟨j,3,[BoT U bu bm u e cs []],by decide,?_⟩;unfold BoT at z ⊢;refine aA lZ ?_;simp only[lZ,go_sem,a,w,g,f,A,k,z]
    try rfl
   ·intro v z h
    subst h;unfold BoT at z ⊢;refine aA lZ ?_;simp only[lZ,go_sem,a,w,g,f,A,k,z]
    try rfl
  ·rw[jr q] at k
   rw[ie q];refine⟨λ_=>⟨j,2,[BoT U bu bm u e cs []],by decide,?_⟩,λx n q=>(by cases q)⟩;unfold BoT;refine aA lZ ?_;simp only[lZ,go_sem,a,w,g,f,F,k,l]
   try rfl
 rw[UD c 34 t c1] at k;have T:¬ (c.toNat:Int)=34:=by rw[i34];exact c1
 rw[ie c1];by_cases c2:c=123
 ·subst c2
  have i:((123:UInt8).toNat:Int)=123:=rfl;rw[mh] at l;rw[iw rfl];by_cases q:t.head?=some 123
  ·rw[jv q] at l
   rw[iw q];refine⟨λq=>(by cases q),λx n q=>?_⟩;cases q;refine o 123 2 ?_ ?_
   ·intro v z h
    subst h;refine⟨j,3,[BoT U bu bm u e cs []],by decide,?_⟩;unfold BoT at z ⊢;refine aA lZ ?_;simp only[lZ,go_sem,a,w,g,f,A,k,l,z]
    try rfl
   ·intro v z h
    subst h;unfold BoT at z ⊢;refine aA lZ ?_;simp only[lZ,go_sem,a,w,g,f,A,k,l,z]
    try rfl
  ·rw[jr q] at l
   rw[ie q];cases G:cut 125 t with
   | none =>
    have K:cut 125 (123::t)=none:=by simp [cut,G]
    have B:G9 155 [.str (123::t),.int .u8 125] []=some (.int .i64 (Lib.indexByte (123::t) 125),[]):=up (B7 (123::t) 125) rfl;rw[kU K] at B;have J:slR t=none:=by unfold slR;rw[G]
    rw[J];refine⟨λ_=>⟨j,2,[BoT U bu bm u e cs []],by decide,?_⟩,λx n q=>(by cases q)⟩;unfold BoT;refine aA lZ ?_;simp only[lZ,go_sem,a,w,g,f,i,k,l,B]
    try rfl
   | some p =>
    obtain⟨b,r⟩:=p;have D:=(bP.1 G).1;have Z:b.length<=50000:=by rw[D] at E;simp at E;omega
    have K:cut 125 (123::t)=some (123::b,r):=by simp [cut,G]
    have B:G9 155 [.str (123::t),.int .u8 125] []=some (.int .i64 (Lib.indexByte (123::t) 125),[]):=up (B7 (123::t) 125) rfl;rw[mH K,jd] at B;have C:¬ ((b.length+1:Nat):Int)<0:=by omega
    have H:IntKind.i64.wrap ((j:Int)+((b.length+1:Nat):Int))=((j+(b.length+1):Nat):Int):=by rw[w6 (by omega)];rfl
    have I:IntKind.i64.wrap (((j+(b.length+1):Nat):Int)+1)=((j+(b.length+2):Nat):Int):=by rw[w6 (by omega)];rfl
    have X:(((123::t):Bs).take (b.length+1)).drop 1=b:=by rw[D];simp
    have y:=ss3 (123::t) 1 (b.length+1) (by omega) (by rw[D];simp);rw[X,show ((1:Nat):Int)=1 from rfl] at y;have s:=up (c83 b) rfl;have J:slR t=if cU b=true then some ((5,b,0),b.length+2) else none:=by unfold slR;rw[G]
    rw[J];by_cases h:cU b=true
    ·rw[iw h]
     rw[h] at s;refine⟨λq=>(by cases q),λx n q=>?_⟩;cases q;refine slot b (b.length+2) ?_ ?_
     ·intro v z h
      subst h;refine⟨j,3,[BoT U bu bm u e cs []],by decide,?_⟩;unfold BoT at z ⊢;refine aA lZ ?_;simp only[lZ,go_sem,a,w,g,f,i,k,l,B,C,y,s,H,I,z]
      try rfl
     ·intro v m z h
      subst h;unfold BoT at z ⊢;rw[hz] at z ⊢;refine aA lZ ?_;simp only[lZ,go_sem,a,w,g,f,i,k,l,B,C,y,s,H,I,z]
      try rfl
    ·rw[ie h]
     have N:cU b=false:=by simpa using h
     rw[N] at s;refine⟨λ_=>⟨j,2,[BoT U bu bm u e cs []],by decide,?_⟩,λx n q=>(by cases q)⟩;unfold BoT;refine aA lZ ?_;simp only[lZ,go_sem,a,w,g,f,i,k,l,B,C,y,s]
     try rfl
 rw[UD c 123 t c2] at l;have V:¬ (c.toNat:Int)=123:=by rw[xZ];exact c2
 rw[ie c2];refine⟨λq=>(by cases q),λx n q=>?_⟩;cases q;refine o c 1 ?_ ?_
 ·intro v z h
  subst h;refine⟨j,3,[BoT U bu bm u e cs []],by decide,?_⟩;unfold BoT at z ⊢;refine aA lZ ?_;simp only[lZ,go_sem,a,w,g,f,T,V,k,l,z]
  try rfl
 ·intro v z h
  subst h;unfold BoT at z ⊢;refine aA lZ ?_;simp only[lZ,go_sem,a,w,g,f,T,V,k,l,z]
  try rfl
def sj(s:Bs)(T:Nat->List AV)(r:Option (AX×AS))(d:Option (List It×List Nat)):Prop:=
 (d=none->ErR r) /\
 (∀ g c,d=some (g,c)->∃ b1 fl b2 tx b cs a,g=fin fl tx/\c=cs++[a]/\cs.length<=1024/\g.length<=512/\r=some (.ex 0,ST [(0,.str s),(5,.ptr 0 0),(6,.int .i64 s.length),(14,.bool false)] [] [BoT b1 fl b2 tx b cs (T a)]))
def Kw(h:(∃ c,s=(1,[c],0))\/(∃ b,s=(5,b,0))):stp s [] 0=some (s,[],0):=by
 rcases h with ⟨c,rfl⟩ | ⟨b,rfl⟩<;>rfl
def wm(s:Bs)(H:s.length<=50000):∀ (k:Nat) (b1:Bool) (fl:List Tk) (b2:Bool) (tx:Bs) (d:Bool) (cs:List Nat) (a:Nat),cX fl≠1->tx.length<=cs.length->(fin fl tx).length<=512->cs.length<=1024->s.length<=a+k->a<=s.length ->
  sj s (λ_=>[]) (aC G9 mW (ST [(0,.str s),(5,.ptr 0 0),(6,.int .i64 a)] [] [BoT b1 fl b2 tx d cs []])) (dcs 3 k (fin fl tx) [] 0 cs a a (s.drop a))
 | k,b1,fl,b2,tx,d,cs,a,K,M,F,E,R,S=>by
  by_cases r:a=s.length
  ·subst r
   have e:aC G9 mW (ST [(0,.str s),(5,.ptr 0 0),(6,.int .i64 s.length)] [] [BoT b1 fl b2 tx d cs []])=some (.ex 0,ST [(0,.str s),(5,.ptr 0 0),(6,.int .i64 s.length),(14,.bool false)] [] [BoT b1 fl b2 tx d cs []]):=by
    have o:¬ (s.length:Int)<s.length:=by omega
    unfold BoT;rw[aB mW rfl];simp only[go_sem,o]
   have I:dcs 3 k (fin fl tx) [] 0 cs s.length s.length (s.drop s.length)=some (fin fl tx,cs++[s.length]):=by
    rw[lb]
    cases k with
    | zero=>unfold dcs;simp
    | succ k=>unfold dcs;rw[iw rfl,iw rfl]
   rw[e,I];exact⟨λq=>(by cases q),λg c q=>by cases q;exact⟨b1,fl,b2,tx,d,cs,s.length,rfl,rfl,E,F,rfl⟩⟩
  have r:a<s.length:=by omega
  cases k with
  | zero=>omega
  | succ k =>
  have y:¬ s.drop a=[]:=by rw[al2];omega
  have o:(a:Int)<s.length:=by omega
  obtain⟨P,Q⟩:=Xm b1 b2 d (bu:=fl) (u:=tx) (cs:=cs) (bc:=s) (j:=a) K F E M r H;have h:ErE (G9 172 [.ptr 0 0,.str s,.int .i64 a] [BoT b1 fl b2 tx d cs []])->ErR (aC G9 mW (ST [(0,.str s),(5,.ptr 0 0),(6,.int .i64 a)] [] [BoT b1 fl b2 tx d cs []])):=by
   rintro ⟨n,e,sh',f,z⟩
   unfold BoT at z ⊢;refine⟨[(0,.str s),(2,.nilp),(3,.int .i64 a),(4,.int .i64 e),(5,.ptr 0 0),(7,.int .i64 n),(14,.bool true),(23,.bool true)],sh',a,e,f,?_,rfl,rfl,rfl⟩;rw[aB mW rfl];simp only[go_sem,o,z,f]
  unfold dcs;rw[ie y];cases f:el 3 (s.drop a) with
  | none=>exact⟨λ_=>h (P f),λg c q=>(by cases q)⟩
  | some p =>
   obtain⟨x,n⟩:=p;obtain⟨N,O⟩:=Q x n f;have G:(∃ c,x=(1,[c],0))\/(∃ b,x=(5,b,0)):=by
    have:el 3 (s.drop a)=elS (s.drop a):=by unfold el;rw[ie (by decide),ie (by decide)]
    rw[this] at f;exact Qu f
   have J:¬ x.1=0:=by rcases G with ⟨c,rfl⟩ | ⟨b,rfl⟩;exact (show ¬ (1:Int)=0 from by decide);exact (show ¬ (5:Int)=0 from by decide)
   have D:=lQ f;have A:=D.2.2;rw[kl] at A;have L:=D.2.1;simp only[];rw[ie J,Kw G];simp only[];by_cases q:512<(pn (fin fl tx) x).length\/1024<=cs.length
   ·rw[iw q]
    exact⟨λ_=>h (N q),λg c q=>(by cases q)⟩
   ·rw[ie q,ah2]
    obtain⟨c1,i,c2,m,c3,C,w,B,z⟩:=O q;have v:(fin i m).length<=512:=by rw[C];omega
    rw[<- C];have l:aC G9 mW (ST [(0,.str s),(5,.ptr 0 0),(6,.int .i64 a)] [] [BoT b1 fl b2 tx d cs []])=aC G9 mW (ST [(0,.str s),(5,.ptr 0 0),(6,.int .i64 (a+n:Nat))] [] [BoT c1 i c2 m c3 (cs++[a]) []]):=by
     unfold BoT at z ⊢
     conv=>lhs;rw[aB mW rfl]
     simp only[go_sem,o,z]
     try rfl
    rw[l];exact wm s H k c1 i c2 m c3 (cs++[a]) (a+n) w B v (by rw[jb,jy];omega) (by omega) (by omega)
def Xy(s:i.length<=50000):
  (∀ g c,dcd 3 i=some (g,c)->∃ b1 fl b2 tx b cs d,g=fin fl tx/\c=cs++[d]/\cs.length<=1024/\g.length<=512/\G9 130 [.str i] []=some (.tup [.ptr 0 0,.int .i64 0,.int .i64 0],[BoT b1 fl b2 tx b cs []])) /\
  (dcd 3 i=none->∃ a e sh',e≠0/\G9 130 [.str i] []=some (.tup [.nilp,.int .i64 a,.int .i64 e],sh')):=by
 have h:=wm i s i.length false [] false [] false [] 0 (by decide) (by simp) (by decide) (by decide) (by omega) (by omega);rw[kc] at h;have h:sj i (λ_=>[]) (aC G9 mW (ST [(0,.str i),(5,.ptr 0 0),(6,.int .i64 0)] [] [[.sl .full 3 [],.sl .full 1 [],.sl .full 1 []]])) (dcd 3 i):=h;obtain⟨f,j⟩:=h;constructor
 ·intro g c q
  obtain⟨b1,fl,b2,tx,b,cs,d,m,n,o,p,e⟩:=j g c q;refine⟨b1,fl,b2,tx,b,cs,d,m,n,o,p,?_⟩
  clear f j
  unfold BoT at e ⊢;refine aA YQ ?_;simp only[YQ,go_sem,e]
  try rfl
 ·intro q
  obtain⟨x,sh',k,l,r,e,u,v,w⟩:=f q;refine⟨k,l,sh',r,?_⟩
  clear f j
  refine aA YQ ?_;simp only[YQ,go_sem,e,u,v,w]
  try rfl
def u87(p:i.length<=50000):
  (∀ g c,dcd 3 i=some (g,c)->G9 87 [.str i] []=some (.tup [.sl .no 3 (tks g),.int .i64 0,.int .i64 0],[])) /\
  (dcd 3 i=none->∃ a e,e≠0/\G9 87 [.str i] []=some (.tup [.sl .no 3 [],.int .i64 a,.int .i64 e],[])):=by
 obtain⟨n,o⟩:=Xy (i:=i) p;constructor
 ·intro g c q
  obtain⟨b1,fl,b2,tx,k,cs,r,d,s,u,m,e⟩:=n g c q;have b:fl.length<=2000:=by rw[d,fZ] at m;omega
  obtain⟨h,j,z⟩:=R8 b1 b2 k fl tx cs [] [] Ez b;rw[d];unfold BoT at e z;refine aA F87 ?_;simp only[F87,go_sem,e,z]
  try rfl
 ·intro q
  obtain⟨a,l,sh',f,e⟩:=o q;refine⟨a,l,f,?_⟩;refine aA F87 ?_;simp only[F87,go_sem,e,f]
  try rfl
def Xg:G9 212 [.int .u8 (bI p)] []=some (.bool (p==32||p==9),[]):=by
 refine aA YC ?_;unfold bI;by_cases a:p=32
 ·have c:(p.toNat:Int)=32:=by rw[i32];exact a
  have e:(p==32)=true:=by simp [a]
  simp only[YC,go_sem,c,e,aa3]
 ·have c:¬ (p.toNat:Int)=32:=by rw[i32];exact a
  have e:(p==32)=false:=by simp [a]
  by_cases b:p=9
  ·have f:(p.toNat:Int)=9:=by rw[i9];exact b
   have d:(p==9)=true:=by simp [b]
   simp only[YC,go_sem,c,f,e,d,ys]
  ·have f:¬ (p.toNat:Int)=9:=by rw[i9];exact b
   have d:(p==9)=false:=by simp [b]
   simp only[YC,go_sem,c,f,e,d,ys]
def WT:Option UInt8->AV
 | some v=>.tup [.int .u8 (bI v),.bool true]
 | none=>.tup [.int .u8 0,.bool false]
def Xf:G9 213 [.int .u8 (bI p)] []=some (WT (kN p),[]):=by
 refine aA F0 ?_;unfold bI;by_cases a:p=110
 ·subst a
  have k:((110:UInt8).toNat:Int)=110:=rfl;simp only[F0,go_sem,k]
  try rfl
 have h:¬ (p.toNat:Int)=110:=by rw[tIx p 110 110 rfl];exact a
 by_cases b:p=116
 ·subst b
  have k:((116:UInt8).toNat:Int)=116:=rfl;simp only[F0,go_sem,k]
  try rfl
 have i:¬ (p.toNat:Int)=116:=by rw[tIx p 116 116 rfl];exact b
 by_cases c:p=115
 ·subst c
  have k:((115:UInt8).toNat:Int)=115:=rfl;simp only[F0,go_sem,k]
  try rfl
 have m2:¬ (p.toNat:Int)=115:=by rw[tIx p 115 115 rfl];exact c
 by_cases d:p=114
 ·subst d
  have k:((114:UInt8).toNat:Int)=114:=rfl;simp only[F0,go_sem,k]
  try rfl
 have j:¬ (p.toNat:Int)=114:=by rw[tIx p 114 114 rfl];exact d
 by_cases e:p=92
 ·subst e
  have k:((92:UInt8).toNat:Int)=92:=rfl;simp only[F0,go_sem,k]
  try rfl
 have l:¬ (p.toNat:Int)=92:=by rw[tIx p 92 92 rfl];exact e
 by_cases f:p=123
 ·subst f
  have k:((123:UInt8).toNat:Int)=123:=rfl;simp only[F0,go_sem,k]
  try rfl
 have m:¬ (p.toNat:Int)=123:=by rw[tIx p 123 123 rfl];exact f
 have g:kN p=none:=by
  unfold kN;rw[ie a,ie b,ie c,ie d,ie e,ie f]
 simp only[F0,go_sem,h,i,m2,j,l,m,g,WT]
def Pe(s u:Bs)(sh:LL)(g:s.length<=1000000000):∀ (k i:Nat),i+k=s.length ->
  aC G9 BN (ST [(0,.ptr 0 0),(1,.str s),(8,.str u),(10,.int .i64 i),(29,.bool false),(34,.bool true)] [] sh) =
   some (.ex 1,ST [(0,.ptr 0 0),(1,.str s),(8,.str u),(10,.int .i64 ((i+sX (s.drop i):Nat):Int)),(29,.bool false),(34,.bool true),(59,.bool false)] [] sh)
 | 0,i,h=>by
  have hi:i=s.length:=by omega
  have a:¬ (i:Int)<s.length:=by omega
  rw[aa6 (by omega),I0,rh];rw[aB BN rfl];simp only[go_sem,a]
 | k+1,i,h=>by
  have a:(i:Int)<s.length:=by omega
  have d:0<=(i:Int):=by omega
  have c:=wI (n:=i) (by omega)
  have f:s[i]?=some s[i]:=ii (by omega);have hd:s.drop i=s[i]::s.drop (i+1):=je (by omega);have j:=Pe s u sh g k (i+1) (by omega);have b:G9 212 [.int .u8 (s[i].toNat:Int)] []=some (.bool (s[i]==32||s[i]==9),[]):=Xg (p:=s[i]);by_cases c1:s[i]=32\/s[i]=9
  ·have e:(s[i]==32||s[i]==9)=true:=by simpa using c1
   rw[e] at b;rw[aB BN rfl];simp only[go_sem,a,d,f,b,c];rw[hd,BA c1,<- La,am2];exact j
  ·have e:(s[i]==32||s[i]==9)=false:=by simpa using c1
   rw[e] at b;rw[aB BN rfl];simp only[go_sem,a,d,f,b];rw[hd,PB (λq=>c1 (.inl q)) (λq=>c1 (.inr q)),rh]
def Ey:ROT [.int .i64 k,.int .i64 D] []:=⟨rfl,rfl⟩
def WW:elR (p::i)=if p=10 then none else if p=123 then slR i else if p=92 then (match i with
   | []=>none
   | d::u=>match kN d with
    | some v=>some ((1,[v],0),2)
    | none=>if d=10 then some ((0,[],0),2+sX u) else none) else some ((1,[p],0),1):=by cases i<;>rfl
def Qv(h:elR i=some (de,n)):de=(0,[],0)\/(∃ c,de=(1,[c],0))\/(∃ b,de=(5,b,0)):=by
 cases i with
 | nil=>cases h
 | cons c t =>
  rw[WW] at h
  split at h
  ·cases h
  split at h
  ·unfold slR at h
   cases a:cut 125 t with
   | none=>rw[a] at h;cases h
   | some p=>obtain⟨b,r⟩:=p;rw[a] at h;simp only[] at h;split at h<;>cases h;exact .inr (.inr ⟨_,rfl⟩)
  split at h
  ·cases t with
   | nil=>cases h
   | cons d u =>
    simp only[] at h;cases e:kN d with
    | some v=>rw[e] at h;cases h;exact .inr (.inl ⟨_,rfl⟩)
    | none=>rw[e] at h;simp only[] at h;split at h<;>cases h;exact .inl rfl
  ·cases h;exact .inr (.inl ⟨_,rfl⟩)
def Dk:kN 10=none:=by decide
def Xn(U bm i:Bool)(cy:Bs)(a j:Nat)(X:cX bu≠1)(hf:(fin bu bc).length<=512)(hc:cs.length<=1024)(ht:bc.length<=cs.length)(ha:a<cy.length)(hs:cy.length<=50000):
  (el 2 (cy.drop a)=none->ErE (G9 171 [.ptr 0 0,.str cy,.int .i64 a] [BoT U bu bm bc i cs [.int .i64 j,.int .i64 j]])) /\
  (∀ x n,el 2 (cy.drop a)=some (x,n)->(x.1=0->(G9 171 [.ptr 0 0,.str cy,.int .i64 a] [BoT U bu bm bc i cs [.int .i64 j,.int .i64 j]])=some (.tup [.int .i64 (a+n:Nat),.int .i64 0],[BoT U bu bm bc i cs [.int .i64 j,.int .i64 j]]))/\(¬ x.1=0 ->
    (512<(pn (fin bu bc) x).length\/1024<=cs.length->ErE (G9 171 [.ptr 0 0,.str cy,.int .i64 a] [BoT U bu bm bc i cs [.int .i64 j,.int .i64 j]])) /\
    (¬ (512<(pn (fin bu bc) x).length\/1024<=cs.length)->OkT (pn (fin bu bc) x) (cs++[j]) (a+n) [.int .i64 (a+n:Nat),.int .i64 (a+n:Nat)] (G9 171 [.ptr 0 0,.str cy,.int .i64 a] [BoT U bu bm bc i cs [.int .i64 j,.int .i64 j]])))):=by
 have V:el 2 (cy.drop a)=elR (cy.drop a):=by unfold el;rw[ie (by decide),iw rfl]
 rw[V];have hd:cy.drop a=cy[a]::cy.drop (a+1):=je ha;have D:(cy.drop (a+1)).length=cy.length-(a+1):=by rw[kl]
 have e:=ss1 cy a (by omega);have H:(cy.drop (a+1)).drop 1=cy.drop (a+2):=by rw[ah2]
 rw[hd] at e;rw[hd];generalize cy[a]=c at hd e;generalize cy.drop (a+1)=t at hd e D H;have o:(c::t)[0]?=some c:=rfl;have h:(c::t)[(0:Int).toNat]?=some c:=rfl;have g:=wI (n:=a) (by omega)
 have K:IntKind.i64.wrap ((a:Int)+2)=(a+2:Nat):=by rw[w6 (by omega)];rfl
 have hz:aE []=[]:=rfl;have E:∀ (d:UInt8) (n:Nat),(∀ v,G9 210 [.ptr 0 0,.int .u8 (bI d),.int .i64 j] [BoT U bu bm bc i cs [.int .i64 j,.int .i64 j]]=some (.bool false,v)->v=[BoT U bu bm bc i cs [.int .i64 j,.int .i64 j]]->ErE (G9 171 [.ptr 0 0,.str cy,.int .i64 a] [BoT U bu bm bc i cs [.int .i64 j,.int .i64 j]])) ->
   (∀ v,G9 210 [.ptr 0 0,.int .u8 (bI d),.int .i64 j] [BoT U bu bm bc i cs [.int .i64 j,.int .i64 j]]=some (.bool true,v)->v=[BoT U bu true (bc++[d]) true (cs++[j]) [.int .i64 j,.int .i64 j]]->(G9 171 [.ptr 0 0,.str cy,.int .i64 a] [BoT U bu bm bc i cs [.int .i64 j,.int .i64 j]])=some (.tup [.int .i64 (a+n:Nat),.int .i64 0],[BoT U bu true (bc++[d]) true (cs++[j]) [.int .i64 (a+n:Nat),.int .i64 (a+n:Nat)]])) ->
   (512<(pn (fin bu bc) (1,[d],0)).length\/1024<=cs.length->ErE (G9 171 [.ptr 0 0,.str cy,.int .i64 a] [BoT U bu bm bc i cs [.int .i64 j,.int .i64 j]])) /\
   (¬ (512<(pn (fin bu bc) (1,[d],0)).length\/1024<=cs.length)->OkT (pn (fin bu bc) (1,[d],0)) (cs++[j]) (a+n) [.int .i64 (a+n:Nat),.int .i64 (a+n:Nat)] (G9 171 [.ptr 0 0,.str cy,.int .i64 a] [BoT U bu bm bc i cs [.int .i64 j,.int .i64 j]])):=by
  intro d n f1 f2;obtain⟨z1,z2⟩:=wb U bm i (b:=bu) bc (r:=cs) [.int .i64 j,.int .i64 j] d j (Ey) X hf hc ht;refine⟨λq=>f1 _ (z1 q) rfl,λq=>?_⟩;obtain⟨z,zf⟩:=z2 q;exact⟨U,bu,true,bc++[d],true,zf,X,by simp;omega,f2 _ z rfl⟩
 rw[WW];by_cases c1:c=10
 ·subst c1
  have M:((10:UInt8).toNat:Int)=10:=rfl;rw[iw rfl];refine⟨λ_=>⟨a,2,[BoT U bu bm bc i cs [.int .i64 j,.int .i64 j]],by decide,?_⟩,λx n q=>(by cases q)⟩;unfold BoT;refine aA kP ?_;simp only[kP,go_sem,e,o,h,g,M]
  try rfl
 have n1:¬ (c.toNat:Int)=10:=by rw[i10];exact c1
 rw[ie c1];by_cases c2:c=123
 ·subst c2
  have k:((123:UInt8).toNat:Int)=123:=rfl;rw[iw rfl];cases F:cut 125 t with
  | none =>
   have T:cut 125 (123::t)=none:=by simp [cut,F]
   have G:G9 155 [.str (123::t),.int .u8 125] []=some (.int .i64 (Lib.indexByte (123::t) 125),[]):=up (B7 (123::t) 125) rfl;rw[kU T] at G;have S:slR t=none:=by unfold slR;rw[F]
   rw[S];refine⟨λ_=>⟨a,2,[BoT U bu bm bc i cs [.int .i64 j,.int .i64 j]],by decide,?_⟩,λx n q=>(by cases q)⟩;unfold BoT;refine aA kP ?_;simp only[kP,go_sem,e,o,h,g,k,G]
   try rfl
  | some p =>
   obtain⟨b,r⟩:=p;have J:=(bP.1 F).1;have ar:b.length<=50000:=by rw[J] at D;simp at D;omega
   have T:cut 125 (123::t)=some (123::b,r):=by simp [cut,F]
   have G:G9 155 [.str (123::t),.int .u8 125] []=some (.int .i64 (Lib.indexByte (123::t) 125),[]):=up (B7 (123::t) 125) rfl;rw[mH T,jd] at G;have I:¬ ((b.length+1:Nat):Int)<0:=by omega
   have N:IntKind.i64.wrap ((a:Int)+((b.length+1:Nat):Int))=((a+(b.length+1):Nat):Int):=by rw[w6 (by omega)];rfl
   have O:IntKind.i64.wrap (((a+(b.length+1):Nat):Int)+1)=((a+(b.length+2):Nat):Int):=by rw[w6 (by omega)];rfl
   have e3:(((123::t):Bs).take (b.length+1)).drop 1=b:=by rw[J];simp
   have C:=ss3 (123::t) 1 (b.length+1) (by omega) (by rw[J];simp);rw[e3,show ((1:Nat):Int)=1 from rfl] at C;have s:=up (c83 b) rfl;have S:slR t=if cU b=true then some ((5,b,0),b.length+2) else none:=by unfold slR;rw[F]
   rw[S];by_cases m:cU b=true
   ·rw[iw m]
    rw[m] at s;refine⟨λq=>(by cases q),λx n q=>?_⟩;cases q;refine⟨λq=>absurd q (show ¬ (5:Int)=0 by decide),λ_=>?_⟩;obtain⟨z1,z2⟩:=vz U bm i (bu:=bu) bc (r:=cs) [.int .i64 j,.int .i64 j] b j (Ey) X hf hc ht;constructor
    ·intro q
     have z:=z1 q;refine⟨a,3,[BoT U bu bm bc i cs [.int .i64 j,.int .i64 j]],by decide,?_⟩;unfold BoT at z ⊢;refine aA kP ?_;simp only[kP,go_sem,e,o,h,g,k,G,I,C,s,N,O,z]
     try rfl
    ·intro q
     obtain⟨R,z⟩:=z2 q;refine⟨true,fin bu bc++[(5,b,0)],R,[],true,FA bu bc (by show (5:Int)≠1;decide),qP (by show (5:Int)≠1;decide),by simp,?_⟩;unfold BoT at z ⊢;rw[hz] at z ⊢;refine aA kP ?_;simp only[kP,go_sem,e,o,h,g,k,G,I,C,s,N,O,z]
     try rfl
   ·rw[ie m]
    have Z:cU b=false:=by simpa using m
    rw[Z] at s;refine⟨λ_=>⟨a,2,[BoT U bu bm bc i cs [.int .i64 j,.int .i64 j]],by decide,?_⟩,λx n q=>(by cases q)⟩;unfold BoT;refine aA kP ?_;simp only[kP,go_sem,e,o,h,g,k,G,I,C,s]
    try rfl
 have n2:¬ (c.toNat:Int)=123:=by rw[xZ];exact c2
 rw[ie c2];by_cases c3:c=92
 ·subst c3
  have l:((92:UInt8).toNat:Int)=92:=rfl;rw[iw rfl]
  cases t with
  | nil =>
   refine⟨λ_=>⟨a,2,[BoT U bu bm bc i cs [.int .i64 j,.int .i64 j]],by decide,?_⟩,λx n q=>(by cases q)⟩;have Y:((92::([]:Bs)).length:Int)=1:=rfl;unfold BoT;refine aA kP ?_;simp only[kP,go_sem,e,o,h,g,l,Y]
   try rfl
  | cons d u =>
   have A:¬ ((u.length+1+1:Nat):Int)<2:=by omega
   have B:(1:Int)<((u.length+1+1:Nat):Int):=by omega
   have P:(92::d::u)[1]?=some d:=rfl;have f:G9 213 [.int .u8 (d.toNat:Int)] []=some (WT (kN d),[]):=Xf (p:=d);simp only[];by_cases L:d=10
   ·have Q:(d.toNat:Int)=10:=by rw[i10];exact L
    rw[L,Dk,iw rfl];refine⟨λq=>(by cases q),λx n q=>?_⟩;cases q;refine⟨λ_=>?_,λq=>absurd rfl q⟩;rw[ab8,kc] at H;simp only[jd] at D;have y:=Pe cy (92::d::u) [BoT U bu bm bc i cs [.int .i64 j,.int .i64 j]] (by omega) (cy.length-(a+2)) (a+2) (by omega);rw[<- H,La] at y;rw[L] at y;have av:((10:UInt8).toNat:Int)=10:=rfl;rw[L] at e P f;unfold BoT at y ⊢;refine aA kP ?_;simp only[kP,go_sem,e,o,h,g,K,l,A,B,P,av,y]
    try rfl
   ·have Q:¬ (d.toNat:Int)=10:=by rw[i10];exact L
    cases F:kN d with
    | none =>
     rw[F] at f;simp only[WT] at f;simp only[];rw[ie L];refine⟨λ_=>⟨a,2,[BoT U bu bm bc i cs [.int .i64 j,.int .i64 j]],by decide,?_⟩,λx n q=>(by cases q)⟩;unfold BoT;refine aA kP ?_;simp only[kP,go_sem,e,o,h,g,l,A,B,P,Q,f]
     try rfl
    | some w =>
     rw[F] at f;simp only[WT] at f;simp only[];refine⟨λq=>(by cases q),λx n q=>?_⟩;cases q;refine⟨λq=>absurd q (show ¬ (1:Int)=0 by decide),λ_=>?_⟩;refine E w 2 ?_ ?_
     ·intro v z m
      subst m;refine⟨a,3,[BoT U bu bm bc i cs [.int .i64 j,.int .i64 j]],by decide,?_⟩;unfold BoT at z ⊢;refine aA kP ?_;simp only[kP,go_sem,e,o,h,g,K,l,A,B,P,Q,f,z]
      try rfl
     ·intro v z m
      subst m;unfold BoT at z ⊢;refine aA kP ?_;simp only[kP,go_sem,e,o,h,g,K,l,A,B,P,Q,f,z]
      try rfl
 have n3:¬ (c.toNat:Int)=92:=by rw[i92];exact c3
 rw[ie c3];refine⟨λq=>(by cases q),λx n q=>?_⟩;cases q;refine⟨λq=>absurd q (show ¬ (1:Int)=0 by decide),λ_=>?_⟩;refine E c 1 ?_ ?_
 ·intro v z m
  subst m;refine⟨a,3,[BoT U bu bm bc i cs [.int .i64 j,.int .i64 j]],by decide,?_⟩;unfold BoT at z ⊢;refine aA kP ?_;simp only[kP,go_sem,e,o,h,g,n1,n2,n3,z]
  try rfl
 ·intro v z m
  subst m;unfold BoT at z ⊢;refine aA kP ?_;simp only[kP,go_sem,e,o,h,g,n1,n2,n3,z]
  try rfl
def U6(s:Bs)(F:s.length<=50000):∀ (k:Nat) (b1:Bool) (fl:List Tk) (b2:Bool) (tx:Bs) (h:Bool) (cs:List Nat) (a d:Nat),cX fl≠1->tx.length<=cs.length->(fin fl tx).length<=512->cs.length<=1024->s.length<=a+k->a<=s.length ->
  sj s (λd=>[.int .i64 d,.int .i64 d]) (aC G9 jR (ST [(0,.str s),(5,.ptr 0 0),(6,.int .i64 a)] [] [BoT b1 fl b2 tx h cs [.int .i64 d,.int .i64 d]])) (dcs 2 k (fin fl tx) [] 0 cs a d (s.drop a))
 | k,b1,fl,b2,tx,h,cs,a,d,K,L,y,w,T,U=>by
  by_cases v:a=s.length
  ·subst v
   have e:aC G9 jR (ST [(0,.str s),(5,.ptr 0 0),(6,.int .i64 s.length)] [] [BoT b1 fl b2 tx h cs [.int .i64 d,.int .i64 d]])=some (.ex 0,ST [(0,.str s),(5,.ptr 0 0),(6,.int .i64 s.length),(14,.bool false)] [] [BoT b1 fl b2 tx h cs [.int .i64 d,.int .i64 d]]):=by
    have r:¬ (s.length:Int)<s.length:=by omega
    unfold BoT;rw[aB jR rfl];simp only[go_sem,r]
   have M:dcs 2 k (fin fl tx) [] 0 cs s.length d (s.drop s.length)=some (fin fl tx,cs++[d]):=by
    rw[lb]
    cases k with
    | zero=>unfold dcs;simp
    | succ k=>unfold dcs;rw[iw rfl,iw rfl]
   rw[e,M];exact⟨λq=>(by cases q),λg c q=>by cases q;exact⟨b1,fl,b2,tx,h,cs,d,rfl,rfl,w,y,rfl⟩⟩
  have v:a<s.length:=by omega
  cases k with
  | zero=>omega
  | succ k =>
  have D:¬ s.drop a=[]:=by rw[al2];omega
  have r:(a:Int)<s.length:=by omega
  obtain⟨R,S⟩:=Xn b1 b2 h (bu:=fl) (bc:=tx) (cs:=cs) s a d K y w L v F;have j:ErE (G9 171 [.ptr 0 0,.str s,.int .i64 a] [BoT b1 fl b2 tx h cs [.int .i64 d,.int .i64 d]])->ErR (aC G9 jR (ST [(0,.str s),(5,.ptr 0 0),(6,.int .i64 a)] [] [BoT b1 fl b2 tx h cs [.int .i64 d,.int .i64 d]])):=by
   rintro ⟨n,e,sh',i,z⟩
   unfold BoT at z ⊢;refine⟨[(0,.str s),(2,.nilp),(3,.int .i64 a),(4,.int .i64 e),(5,.ptr 0 0),(7,.int .i64 n),(14,.bool true),(23,.bool true)],sh',a,e,i,?_,rfl,rfl,rfl⟩;rw[aB jR rfl];simp only[go_sem,r,z,i]
  unfold dcs;rw[ie D];cases i:el 2 (s.drop a) with
  | none=>exact⟨λ_=>j (R i),λg c q=>(by cases q)⟩
  | some p =>
   obtain⟨x,n⟩:=p;obtain⟨w0,O⟩:=S x n i;have B:x=(0,[],0)\/(∃ c,x=(1,[c],0))\/(∃ b,x=(5,b,0)):=by
    have:el 2 (s.drop a)=elR (s.drop a):=by unfold el;rw[ie (by decide),iw rfl]
    rw[this] at i;exact Qv i
   have I:=lQ i;have E:=I.2.2;rw[kl] at E;have N:=I.2.1;simp only[];rcases B with u | J
   ·have o:x.1=0:=by rw[u]
    rw[iw o,ah2];have z:=w0 o;have f:aC G9 jR (ST [(0,.str s),(5,.ptr 0 0),(6,.int .i64 a)] [] [BoT b1 fl b2 tx h cs [.int .i64 d,.int .i64 d]])=aC G9 jR (ST [(0,.str s),(5,.ptr 0 0),(6,.int .i64 (a+n:Nat))] [] [BoT b1 fl b2 tx h cs [.int .i64 d,.int .i64 d]]):=by
     unfold BoT at z ⊢
     conv=>lhs;rw[aB jR rfl]
     simp only[go_sem,r,z]
     try rfl
    rw[f];exact U6 s F k b1 fl b2 tx h cs (a+n) d K L y w (by omega) (by omega)
   have o:¬ x.1=0:=by rcases J with ⟨c,rfl⟩ | ⟨b,rfl⟩;exact (show ¬ (1:Int)=0 from by decide);exact (show ¬ (5:Int)=0 from by decide)
   obtain⟨P,Q⟩:=O o;rw[ie o,Kw J];simp only[];by_cases q:512<(pn (fin fl tx) x).length\/1024<=cs.length
   ·rw[iw q]
    exact⟨λ_=>j (P q),λg c q=>(by cases q)⟩
   ·rw[ie q,ah2]
    obtain⟨c1,l,c2,m,c3,H,C,G,z⟩:=Q q;have A:(fin l m).length<=512:=by rw[H];omega
    rw[<- H];have f:aC G9 jR (ST [(0,.str s),(5,.ptr 0 0),(6,.int .i64 a)] [] [BoT b1 fl b2 tx h cs [.int .i64 d,.int .i64 d]])=aC G9 jR (ST [(0,.str s),(5,.ptr 0 0),(6,.int .i64 (a+n:Nat))] [] [BoT c1 l c2 m c3 (cs++[d]) [.int .i64 (a+n:Nat),.int .i64 (a+n:Nat)]]):=by
     unfold BoT at z ⊢
     conv=>lhs;rw[aB jR rfl]
     simp only[go_sem,r,z]
     try rfl
    rw[f];exact U6 s F k c1 l c2 m c3 (cs++[d]) (a+n) (a+n) C G A (by rw[jb,jy];omega) (by omega) (by omega)
def Xz(s:i.length<=50000):
  (∀ g c,dcd 2 i=some (g,c)->∃ b1 fl b2 tx d cs,∃ b:Nat,g=fin fl tx/\c=cs++[b]/\cs.length<=1024/\g.length<=512/\G9 129 [.str i] []=some (.tup [.ptr 0 0,.int .i64 0,.int .i64 0],[BoT b1 fl b2 tx d cs [.int .i64 b,.int .i64 b]])) /\
  (dcd 2 i=none->∃ a e sh',e≠0/\G9 129 [.str i] []=some (.tup [.nilp,.int .i64 a,.int .i64 e],sh')):=by
 have h:=U6 i s i.length false [] false [] false [] 0 0 (by decide) (by simp) (by decide) (by decide) (by omega) (by omega);rw[kc] at h;have h:sj i (λb=>[.int .i64 b,.int .i64 b]) (aC G9 jR (ST [(0,.str i),(5,.ptr 0 0),(6,.int .i64 0)] [] [[.sl .full 3 [],.sl .full 1 [],.sl .full 1 [],.int .i64 0,.int .i64 0]])) (dcd 2 i):=h;obtain⟨f,j⟩:=h;constructor
 ·intro g c q
  obtain⟨b1,fl,b2,tx,d,cs,b,m,n,o,p,e⟩:=j g c q;refine⟨b1,fl,b2,tx,d,cs,b,m,n,o,p,?_⟩
  clear f j
  unfold BoT at e ⊢;refine aA YR ?_;simp only[YR,go_sem,e]
  try rfl
 ·intro q
  obtain⟨x,sh',k,l,r,e,u,v,w⟩:=f q;refine⟨k,l,sh',r,?_⟩
  clear f j
  refine aA YR ?_;simp only[YR,go_sem,e,u,v,w]
  try rfl
def u86(r:i.length<=50000):
  (∀ g c,dcd 2 i=some (g,c)->G9 86 [.str i] []=some (.tup [.sl .no 3 (tks g),.int .i64 0,.int .i64 0],[])) /\
  (dcd 2 i=none->∃ a e,e≠0/\G9 86 [.str i] []=some (.tup [.sl .no 3 [],.int .i64 a,.int .i64 e],[])):=by
 obtain⟨o,p⟩:=Xz (i:=i) r;constructor
 ·intro g c q
  obtain⟨b1,fl,b2,tx,l,cs,d,f,s,u,n,e⟩:=o g c q;have b:fl.length<=2000:=by rw[f,fZ] at n;omega
  obtain⟨j,k,z⟩:=R8 b1 b2 l fl tx cs [.int .i64 d,.int .i64 d] [] (Ey) b;rw[f];unfold BoT at e z;refine aA F86 ?_;simp only[F86,go_sem,e,z]
  try rfl
 ·intro q
  obtain⟨a,m,sh',h,e⟩:=p q;refine⟨a,m,h,?_⟩;refine aA F86 ?_;simp only[F86,go_sem,e,h]
  try rfl
abbrev Pt:=Bool×Bs×Bs
variable{A ps:List Pt}{iu:Pt}
def ptR(p:Pt):List AV:=[.bool p.1,.str p.2.1,.str p.2.2]
def pts(l:List Pt):List (List AV):=l.map ptR
def dP:(pts A).length=A.length:=zt ..
def zY(h:A[n]?=some iu):(pts A)[n]?=some [.bool iu.1,.str iu.2.1,.str iu.2.2]:=by
 simp [pts,h,ptR]
def fmK(fm:Int):Prop:=fm=1\/fm=2\/fm=3
def u39(h:fmK k):G9 39 [.int .i64 k] []=some (.bool true,[]):=by
 refine aA F39 ?_;rcases h with rfl | rfl | rfl<;>simp only[F39,go_sem]
def u41(h:fmK k)(s:Bs)(j:s.length<=50000):
  (∀ g c,dcd k s=some (g,c)->G9 41 [.int .i64 k,.str s] []=some (.tup [.sl .no 3 (tks g),.int .i64 0],[])) /\
  (dcd k s=none->∃ e,e≠0/\G9 41 [.int .i64 k,.str s] []=some (.tup [.sl .no 3 [],.int .i64 e],[])):=by
 rcases h with rfl | rfl | rfl
 ·obtain⟨b,d⟩:=u85 s j
  constructor
  ·intro g c q
   have z:=b g c q;refine aA F41 ?_;simp only[F41,go_sem,z]
  ·intro q
   obtain⟨a,e,f,z⟩:=d q;refine⟨e,f,?_⟩;refine aA F41 ?_;simp only[F41,go_sem,z]
 ·obtain⟨b,d⟩:=u86 (i:=s) j
  constructor
  ·intro g c q
   have z:=b g c q;refine aA F41 ?_;simp only[F41,go_sem,z]
  ·intro q
   obtain⟨a,e,f,z⟩:=d q;refine⟨e,f,?_⟩;refine aA F41 ?_;simp only[F41,go_sem,z]
 ·obtain⟨b,d⟩:=u87 (i:=s) j
  constructor
  ·intro g c q
   have z:=b g c q;refine aA F41 ?_;simp only[F41,go_sem,z]
  ·intro q
   obtain⟨a,e,f,z⟩:=d q;refine⟨e,f,?_⟩;refine aA F41 ?_;simp only[F41,go_sem,z]
def u16(h:fmK D)(ps:List Pt)(i:Nat)(k raw:Bs)(hi:ps[i]?=some (true,k,raw))(l:raw.length<=50000)(m:ps.length<=1000000)(hd:dcd D raw=some (e,r)):
  G9 16 [.agg [.int .i64 D,.sl .no 3 (pts ps)],.int .i64 i] []=some (.tup [.sl .no 3 (tks e),.int .i64 0],[]):=by
 have z:=(u41 h raw l).1 e r hd;have b:=u39 h;have j:i<ps.length:=by
  rcases aa7 i ps.length with q | q
  ·exact q
  ·rw[getElem?_eq_none_iff.2 q] at hi;cases hi
 have c:=zY hi;have d:¬ (i:Int)<0:=by omega
 have a:0<=(i:Int):=by omega
 have f:¬ (ps.length:Int)<=i:=by omega
 have g:(i:Int)<ps.length:=by omega
 simp only at c;refine aA F16 ?_;simp only[F16,go_sem,b,d,a,f,g,dP,c,z]
 try rfl
def fD:List Pt->Nat->List Nat
 | [],_=>[]
 | p::l,i=>if p.1=true then i::fD l (i+1) else fD l (i+1)
def md0(l:List Nat)(m:AV):Prop:=(l=[]/\m=.sl .full 1 [])\/m=.sl .own 1 (fI l)
def Cf(ps:List Pt)(m:ps.length<=1000000):∀ (k i:Nat) (o:List Nat) (v:AV),i+k=ps.length->o.length<=i->md0 o v ->
  ∃ c,md0 (o++fD (ps.drop i) i) c/\aC G9 BL (ST [(3,v),(7,.sl .no 3 (pts ps)),(8,.int .i64 ps.length),(9,.int .i64 i)] [] [])=some (.ex 0,ST [(3,c),(7,.sl .no 3 (pts ps)),(8,.int .i64 ps.length),(9,.int .i64 ps.length),(10,.bool false)] [] [])
 | 0,i,o,v,h,s,b=>by
  have:i=ps.length:=by omega
  subst this;have r:¬ (ps.length:Int)<ps.length:=by omega
  rw[lb];refine⟨v,by simpa [fD] using b,?_⟩;rcases b with ⟨rfl,rfl⟩ | rfl<;>rw[aB BL rfl]<;>simp only[go_sem,r]
 | k+1,i,o,v,h,s,b=>by
  have hi:i<ps.length:=by omega
  have e:(i:Int)<ps.length:=by omega
  have a:0<=(i:Int):=by omega
  have f:=wI (n:=i) (by omega)
  have hg:ps[i]?=some ps[i]:=ii hi;have hd:ps.drop i=ps[i]::ps.drop (i+1):=je hi;generalize ps[i]=p at hg hd;have d:=zY hg;obtain⟨u,key,raw⟩:=p;simp only at d;rw[hd]
  cases u with
  | false =>
   obtain⟨c,g,l⟩:=Cf ps m k (i+1) o v (by omega) (by omega) b;refine⟨c,g,?_⟩;rw[<- l];rcases b with ⟨rfl,rfl⟩ | rfl
   ·conv=>lhs;rw[aB BL rfl]
    simp only[go_sem,e,a,dP,d,f]
    try rfl
   ·conv=>lhs;rw[aB BL rfl]
    simp only[go_sem,e,a,dP,d,f]
    try rfl
  | true =>
   obtain⟨c,g,l⟩:=Cf ps m k (i+1) (o++[i]) (.sl .own 1 (fI (o++[i]))) (by omega) (by simp;omega) (.inr rfl);refine⟨c,by rw[kb] at g;exact g,?_⟩;rw[<- l];have q:aU 8 (o.length+1)=true:=aL (by decide) (by omega);have j:aU 8 1=true:=by decide
   rcases b with ⟨rfl,rfl⟩ | rfl
   ·conv=>lhs;rw[aB BL rfl]
    simp only[go_sem,e,a,dP,d,f,j]
    try rfl
   ·conv=>lhs;rw[aB BL rfl]
    simp only[go_sem,e,a,dP,d,f,q,aW,cK]
    try rfl
def u21(c:A.length<=1000000):G9 21 [.agg [.int .i64 k,.sl .no 3 (pts A)]] []=some (.sl .no 1 (fI (fD A 0)),[]):=by
 obtain⟨d,b,a⟩:=Cf A c A.length 0 [] (.sl .full 1 []) (by omega) (by simp) (.inl ⟨rfl,rfl⟩);rw[kc,kg] at b;rw[show ((0:Nat):Int)=0 from rfl] at a;refine aA F21 ?_;rcases b with ⟨e,rfl⟩ | rfl
 ·rw[e]
  simp only[F21,go_sem,dP,a]
  try rfl
 ·simp only[F21,go_sem,dP,a]
  try rfl
open Go.Proofs Go.Shelf Go.RowKit
def rnB:Ren:=⟨λi=>match i with | 166=>55 | 240=>100 | 276=>140 | 169=>56 | _=>0,λi=>match i with | 72=>125 | 70=>122 | 37=>123 | 164=>213 | 127=>161 | 75=>127 | 80=>130 | i=>i,λi=>i⟩
def Oc:Lays.n166 Tryz.prog rnB:=by constructor<;>first | kernel_rfl | (intro w;kernel_rfl)
def Ob:Lays.n169 Tryz.prog rnB:=by constructor<;>first | kernel_rfl | (intro w;kernel_rfl)
def Wt:Builder.X72 Tryz.prog rnB:=by constructor<;>kernel_rfl
def xB:Builder.Extra Tryz.prog rnB:={ Wt with t5:=by kernel_rfl,a5:=λw=>by kernel_rfl,z5:=λw=>by kernel_rfl,v5:=λw=>by kernel_rfl,infoByte:=by kernel_rfl,cellsByte:=by kernel_rfl,sizeByte:=by kernel_rfl,neB5:=by decide }
def Bld(B b:Nat)(s:List UInt8)(w:World):Prop:=Lib.IsBuilderF 125 5 B b (Lib.byteCells s) w
def Bld.lt{B b:Nat}{s:List UInt8}{w:World}(h:Bld B b s w):b<w.heap.size:=by
 rcases h with ⟨_,v,a,_⟩ | ⟨_,v,a,_⟩<;>exact (kw.1 a).1
def Bld.keep{fc:World}(h:Bld n j K x)(d:∀ k,k<x.heap.size->fc.heap[k]?=x.heap[k]?):Bld n j K fc:=by
 have key:∀ p,Lib.BuilderAtF 125 5 n j p (Lib.byteCells K) x->Lib.BuilderAtF 125 5 n j p (Lib.byteCells K) fc:=by
  rintro p ⟨i,v,c,⟨l,b⟩,m⟩
  refine⟨i,v,(d j (kw.1 c).1).trans c,⟨l,?_⟩,m⟩;rcases b with b | ⟨g,cap,a,f,o,q,e,r⟩
  ·exact .inl b
  ·exact .inr ⟨g,cap,a,f,o,q,(d g (kw.1 e).1).trans e,r⟩
 exact h.imp (key _) (key _)
def Bld.write{fo:List UInt8}(h:Bld n j K x)(f:K.length+fo.length<=140737488355328)(d:n<=x.heap.size):
  Calls Tryz.prog 55 #[.pointer (some ⟨j,0,none⟩),.string ⟨fo.toArray⟩] x λe w'=>e=.returned (.tuple #[.int .i64 fo.length,.nilIface])/\Bld n j (K++fo) w'/\Below n x w'/\Lib.OthersKept 5 (some j) x w':=by
 refine (Any.Builder_WriteString_k Oc xB n j (Lib.byteCells K) ⟨fo.toArray⟩ x h (by rw[Lib.byteCells_length];simpa [ByteArray.size] using f) d).mono ?_
 rintro e w' ⟨rfl,a,b,c⟩
 refine⟨by simp [ByteArray.size],.inr ?_,b,c⟩;rw[Lib.strCells_eq,<- Lib.byteCells_append] at a;exact a
def Bld.str(h:Bld n j K x)(b:n<=x.heap.size):
  Calls Tryz.prog 56 #[.pointer (some ⟨j,0,none⟩)] x λe w'=>e=.returned (.string ⟨K.toArray⟩)/\Below n x w':=by
 refine (Any.Builder_String_any_f Ob xB n j K x h b).mono ?_
 rintro e w' ⟨rfl,_,a⟩
 exact⟨rfl,a⟩
def Bld.fresh{w:World}:Bld w.heap.size w.heap.size [] (w.alloc (.cells #[.pointer none,.slice none 0 0] 125)):=by
 refine .inl ⟨ji _,.slice none 0 0,ae2 w _,⟨rfl,.inl ⟨rfl,rfl⟩⟩,?_⟩
 simp [Value.ownBlock]
def QJ(h:G9 Y bh []=some (bv,[]))(m:∀ bk x,(callFunc Y bk).run Tryz.prog x=.ok (.enter Y bk) x)(l:∀ b o,du b o->b<x.heap.size)(hg:qF du x)
  (j:aM (aV (cx0 (λ_=>0) (λ_=>0) du x 0) aX) bh bk.toList):
  Calls Tryz.prog Y bk x λe w'=>∃ v β bs S,e=.returned v/\aV (cx0 β bs S w' 0) aX bv v/\Below x.heap.size x w':=by
 have a:BU [] (λ_=>.stab) (λ_=>0) (λ_=>0) du (λ_=>none) x:=⟨⟨λi c hi=>(by simp at hi),λi hi=>(by simp at hi)⟩,λb o f=>⟨l b o f,λi hi=>(by simp at hi),λk d=>(by cases d)⟩,λb k d=>(by cases d),λb t k d=>(by cases d),hg⟩
 rcases PV _ _ _ _ _ h with ⟨_,f⟩ | n
 ·refine (f _ _ _ _ _ _ _ a j).mono ?_
  rintro e w' ⟨v,kd',β',bs',rfl,A⟩
  exact⟨v,β',bs',_,rfl,A.rep,⟨A.os,A.tape,A.output,A.size,λk d=>A.frame k d (λi hi=>by simp at hi) rfl⟩⟩
 ·obtain⟨v,w',_,_,_,g,_⟩:=n _ _ _ _ _ _ _ a j
  rw[m] at g;cases g
open Go.Proofs Go.Shelf Go.RowKit Go.Nt
set_option maxHeartbeats 4000000
def btF(ps:List Pt):Bs:=ps.flatMap λp=>p.2.2
def xw(h:A[n]?=some iu):btF (A.take (n+1))=btF (A.take n)++iu.2.2:=by
 unfold btF;rw[ab7,h];simp
def Sf:(btF (A.take n)).length<=(btF A).length:=by
 have:btF A=btF (A.take n)++btF (A.drop n):=by
  unfold btF;rw[<- flatMap_append,ye]
 rw[this,jb];omega
def qw(F G c:Nat)(T:ps≠[]->ei=some ⟨F,G,none⟩)(M:ps.length<=c)(N:ps.length<=100000)(f:(btF ps).length<=100000000)
  (O:∀ (i:Nat) (p:Pt),ps[i]?=some p->∀ W:World,Below x.heap.size x W->W.cell? ⟨F,G+i*3,none⟩=some (.bool p.1)/\W.cell? ⟨F,G+i*3+1,none⟩=some (.string ⟨p.2.1.toArray⟩)/\W.cell? ⟨F,G+i*3+2,none⟩=some (.string ⟨p.2.2.toArray⟩)):
  Calls Tryz.prog 19 #[.agg #[.int .i64 D,.slice ei ps.length c]] x λr w'=>r=.returned (.string ⟨(btF ps).toArray⟩)/\Below x.heap.size x w':=by
 have H:=Mo f
 clear f
 go_enter Tryz.func19,Tryz.ntmps19
 go_wp2
 go_loopg [9] ps.length (λg Y Q=>∃ i:Nat,i+g=ps.length/\Y=.int .i64 (i:Int)/\Bld (x.heap.size+1) (x.heap.size+1) (btF (ps.take i)) Q/\Below x.heap.size x Q)
 case atStart =>
  refine⟨0,by omega,rfl,?_,((ae9 _ _).alloc (ji _) _).alloc (by simp) _⟩
  have:=Bld.fresh (w:=x.alloc (.cells #[.int .i64 D,.slice ei ps.length c] 26))
  simpa [btF] using this
 case round =>
  obtain⟨i,hi,rfl,s,d⟩:=hrel
  cases gk with
  | zero =>
   obtain rfl:i=ps.length:=by omega
   rw[Ut] at s;have E:=s.str (al0 s.lt);obtain⟨tx,m⟩:∃ tx,(btF ps).toArray=tx:=⟨_,rfl⟩
   rw[m] at E;have I:=Mo m
   clear m hi
   go_wp2_with (go_at_call 56;refine E.mono ?_;rintro e Z ⟨rfl,K⟩)
   go_ret
   exact⟨by rw[I.out];rfl,d.trans (K.mono (by omega))⟩
  | succ g =>
   have j:i<ps.length:=by omega
   have hg:ps[i]?=some ps[i]:=ii j;have C:=O i _ hg wr d
   obtain rfl:=T (by intro q;rw[q] at j;simp at j)
   have b:=Sf (A:=ps) (n:=i+1);rw[xw hg] at b;rw[jb] at b;generalize ps[i]=p at C hg b;obtain⟨u,key,raw⟩:=p;obtain⟨c0,c1,c2⟩:=C;simp only at c0 c1 c2 b;have R:=Mo hg
   clear hg
   have V:0<=(i:Int):=by omega
   have hi1:(i:Int)<ps.length:=by omega
   have f:=H.out;have U:=s.lt;have v:∀ o,Bld (x.heap.size+1) (x.heap.size+1) (btF (ps.take i)) (wr.alloc o):=λo=>s.keep (λk X=>ad3 wr o k X)
   have B:∀ o,x.heap.size+1<=(wr.alloc o).heap.size:=λo=>by simp;omega
   have y:(btF (ps.take i)).length+raw.length<=140737488355328:=by omega
   have a:∀ o,Calls Tryz.prog 55 #[.pointer (some ⟨x.heap.size+1,0,none⟩),.string ⟨raw.toArray⟩] (wr.alloc o) λe w'=>e=.returned (.tuple #[.int .i64 raw.length,.nilIface])/\Bld (x.heap.size+1) (x.heap.size+1) (btF (ps.take i)++raw) w'/\Below (x.heap.size+1) (wr.alloc o) w':=λo=>((v o).write y (B o)).mono λe w' h=>⟨h.1,h.2.1,h.2.2.1⟩
   clear O s b f v B y
   obtain⟨P,l⟩:∃ P,btF (ps.take i)++raw=P:=⟨_,rfl⟩
   rw[l] at a;have S:=Mo l
   clear l
   go_wp2_with (go_at_call 55;refine (a _).mono ?_;rintro e w5 ⟨rfl,J,L⟩)
   go_roundg g
   case measure=>omega
   case rel =>
    refine⟨i+1,by omega,by go_num,?_,d.trans (((ae9 _ _).alloc d.size _).trans (L.mono (by simp)))⟩;rw[xw R.out,S.out];exact J
open Go.Proofs Go.RowKit Go.Nt
def J5(h:cr.data.toList=K):cr=⟨K.toArray⟩:=by cases cr;subst h;simp
structure Ent (S0:Nat->Nat->Prop) (w:World):Prop where
 lt:∀ b o,S0 b o->b<w.heap.size
 gl:qF S0 w
def Ent.cell{S0:Nat->Nat->Prop}{w W:World}(h:Ent S0 w)(a:Below w.heap.size w W):∀ b o,S0 b o->W.cell? ⟨b,o,none⟩=w.cell? ⟨b,o,none⟩:=λb o c=>a.cell (p:=⟨b,o,none⟩) (h.lt b o c)
def wD{h:AV}(u:∀ (S0:Nat->Nat->Prop) (w:World) (l:List Value) (c:Cx),c.S=S0->c.w=w->c.shn=0->Ent S0 w->aM (aV c aX) bh l->Calls Tryz.prog Y ⟨l⟩ w λe w'=>∃ v,e=.returned v/\(∀ c,aV c aX h v)/\Below w.heap.size w w'):fB Tryz.prog Y bh [] h []:=by
 intro kd β bs S0 O0 w vs f a;obtain⟨_,n,p,r,s⟩:=f;obtain⟨l⟩:=vs;have m:Ent S0 w:=⟨λb o j=>(n b o j).1,s⟩
 refine (u S0 w l _ rfl rfl rfl m a).mono ?_
 rintro e w' ⟨v,rfl,x,d⟩
 refine⟨v,λb=>if b<w.heap.size then kd b else .stab,β,bs,rfl,⟨λi hi=>absurd hi (by simp),ji _,⟨λi c hi=>(by simp at hi),λi hi=>(by simp at hi)⟩,x _,d.os,d.tape,d.output,d.size,λb q _ _=>d.block b q,λb o j=>m.cell d b o j,λb k g=>?_,λb t k g=>?_,λi _ hi=>absurd hi (by simp),λi hi=>(by simp at hi)⟩⟩
 ·obtain⟨y,_,t,k',A,B⟩:=p b k g
  exact⟨t,k',by rw[iw y];exact A,B⟩
 ·by_cases q:b<w.heap.size
  ·rw[iw q] at g
   exact .inr (r b t k g q)
  ·exact .inl (by omega)
def Ei(L:ps.length<=100000)(N:(btF ps).length<=100000000):fB Tryz.prog 19 [.agg [.int .i64 k,.sl .no 3 (pts ps)]] [] (.str (btF ps)) []:=by
 refine wD λS0 w l c K P Y n d=>?_
 match l,d with
 | [v],⟨O,_⟩ =>
  obtain⟨⟨cs⟩,rfl,u⟩:∃ cs,v=.agg cs/\aM (aG c.S c.w) [.int .i64 k,.sl .no 3 (pts ps)] cs.toList:=O
  match cs,u with
  | [a,b],⟨r,s,_⟩ =>
   have r:a=.int .i64 k:=r;obtain⟨A,g,G,H,_,_,m⟩:∃ A g,b=.slice A (pts ps).length g/\(pts ps).length<=g/\(Own.no=.full->g=(pts ps).length)/\Own.no≠.own/\(pts ps=[]\/∃ b o,A=some ⟨b,o,none⟩/\fC c.S c.w 3 (pts ps) b o):=s;rw[dP] at G H;rw[K,P] at m;subst r G;have key:∀ f h,(ps≠[]->A=some ⟨f,h,none⟩)->(∀ (i:Nat) (p:Pt),ps[i]?=some p->∀ W:World,Below w.heap.size w W->W.cell? ⟨f,h+i*3,none⟩=some (.bool p.1)/\W.cell? ⟨f,h+i*3+1,none⟩=some (.string ⟨p.2.1.toArray⟩)/\W.cell? ⟨f,h+i*3+2,none⟩=some (.string ⟨p.2.2.toArray⟩))->Calls Tryz.prog 19 #[.agg #[.int .i64 k,.slice A ps.length g]] w λe w'=>∃ v,e=.returned v/\(∀ c,aV c aX (.str (btF ps)) v)/\Below w.heap.size w w':=λf h I J=>by
    refine (qw (D:=k) (ps:=ps) (x:=w) (ei:=A) f h g I H L N J).mono ?_
    rintro e w' ⟨rfl,s⟩
    exact⟨_,rfl,λc=>⟨_,rfl,by simp⟩,s⟩
   rcases m with m | ⟨b,o,m,Q⟩
   ·have M:ps=[]:=by simpa [pts] using m
    subst M;exact key 0 0 (λz=>absurd rfl z) (λi p hi=>by simp at hi)
   ·refine key b o (λ_=>m) (λi p hi W q=>?_)
    obtain⟨_,y⟩:=Q.get (i:=i) (e:=ptR p) (by simp [pts,hi]);obtain⟨s0,X,C,B⟩:=y.get (j:=0) (x:=.bool p.1) rfl;obtain⟨U,Z,E,b1,rfl,R⟩:=y.get (j:=1) (x:=.str p.2.1) rfl;obtain⟨V,v2,F,b2,rfl,T⟩:=y.get (j:=2) (x:=.str p.2.2) rfl;have B:X=.bool p.1:=B;rw[B] at C;rw[J5 R] at E;rw[J5 T] at F;exact⟨(n.cell q _ _ s0).trans C,(n.cell q _ _ U).trans E,(n.cell q _ _ V).trans F⟩
def rnI:Ren:=⟨λi=>match i with | 143=>120 | 217=>194 | 219=>163 | 224=>200 | 225=>199 | 266=>221 | 267=>201 | 314=>227 | _=>0,λi=>match i with | 46=>142 | 51=>238 | 146=>291 | i=>i,λi=>match i with | 1=>0 | i=>i⟩
def Od:Lays.n143 Tryz.prog rnI:=by constructor<;>first | kernel_rfl | (intro w;kernel_rfl)
def OG(t:Bs):∀ (s:Bs) (i:Nat),fnd t s i=if Lib.index s t = -1 then -1 else Lib.index s t+(i:Int)
 | [],i=>by
  unfold fnd Lib.index;by_cases h:t=[]
  ·subst h;simp
  ·rw[ie h]
   have:t.isEmpty=false:=by simpa using h
   rw[this];rfl
 | c::s,i=>by
  have a:=OG t s (i+1);have hg:=Lib.index_ge s t;unfold fnd Lib.index;by_cases h:t <+: c::s
  ·rw[iw h]
   have:t.isPrefixOf (c::s)=true:=isPrefixOf_iff_prefix.2 h
   rw[this];simp
  ·rw[ie h,a]
   have:t.isPrefixOf (c::s)=false:=by
    cases q:t.isPrefixOf (c::s) with
    | false=>rfl
    | true=>exact absurd (isPrefixOf_iff_prefix.1 q) h
   rw[this];by_cases q:Lib.index s t = -1
   ·rw[iw q,q];simp
   ·rw[ie q]
    have b:(Lib.index s t == -1)=false:=by simpa using q
    rw[b];have d:¬ Lib.index s t+1 = -1:=by omega
    simp only[jl,kz,ie d];omega
def WB:Lib.index u i=fnd i u 0:=by
 rw[OG i u 0];split
 ·assumption
 ·simp
def Cq(s t:Bs)(q:s.length<=4000000000):fB Tryz.prog 120 [.str s,.str t] [] (.int .i64 (fnd t s 0)) []:=by
 refine wD λS0 w l c o r p k a=>?_
 match l,a with
 | [u,v],⟨m,n,_⟩ =>
  obtain⟨b,rfl,h⟩:∃ b,u=.string b/\b.data.toList=s:=m;obtain⟨b2,rfl,f⟩:∃ b,v=.string b/\b.data.toList=t:=n;have hg:=k.gl 0 .i64 [Mx.v] rfl;obtain⟨⟨_,x,i,d⟩,_⟩:=hg;have d:x=.int .i64 Mx.v:=d;rw[d] at i;have g:b.size<4294967281:=by
   have j:b.size=b.data.toList.length:=by cases b;rfl
   rw[j,h];omega
  refine (Any.strings_Index Od b b2 Mx.v w g i).mono ?_
  rintro e w' ⟨rfl,rfl⟩
  refine⟨_,rfl,λc=>?_,ae9 _ _⟩;rw[h,f,WB];rfl
end Go.Av
namespace Go.Av
open Go.Proofs Go.RowKit
namespace Once
set_option maxHeartbeats 4000000
variable{fc x:World}{gc:Addr}{u:FrameMode}
def disable(w:World):(callFunc 259 #[]).run Tryz.prog w=.ok (.value (.tuple #[])) w:=run_call_mark0 Tryz.func259 (by kernel_rfl) (by kernel_rfl) (by kernel_rfl) .disable (by kernel_rfl) w
def enable(w:World):(callFunc 261 #[]).run Tryz.prog w=.ok (.value (.tuple #[])) w:=run_call_mark0 Tryz.func261 (by kernel_rfl) (by kernel_rfl) (by kernel_rfl) .enable (by kernel_rfl) w
def acquire(a:Addr)(w:World):(callFunc 262 #[.pointer (some a)]).run Tryz.prog w=.ok (.value (.tuple #[])) w:=run_call_marked Tryz.func262 (by kernel_rfl) (by kernel_rfl) (by kernel_rfl) .acquire (by kernel_rfl) a w
def releaseMerge(a:Addr)(w:World):(callFunc 264 #[.pointer (some a)]).run Tryz.prog w=.ok (.value (.tuple #[])) w:=run_call_marked Tryz.func264 (by kernel_rfl) (by kernel_rfl) (by kernel_rfl) .releaseMerge (by kernel_rfl) a w
def zI(I:Value)(f:fc.cell? gc=some I)(g:fc.frozen? gc=false):
  CallsD Tryz.prog 235 #[.pointer (some gc),.bool true] u fc λe d w'=>d=u/\(e=.returned (.tuple #[])/\w'=fc.drew.setCell gc (.int .u32 1)):=by
 have a:fc.drew.cell? gc=some I:=by go_simp
 have b:fc.drew.frozen? gc=false:=by go_simp
 have c:=run_call_store (P:=Tryz.prog) Tryz.func250 (by kernel_rfl) (by kernel_rfl) (by kernel_rfl) (by kernel_rfl) (k:=.u32) (y:=1) a b
 go_enter_d Tryz.func235,Tryz.ntmps235
 go_wp2
 go_region_calls
 all_goals (go_end0;exact⟨rfl,rfl⟩)
def xW(b:x.cell? gc=some (.int .i32 1))(d:x.frozen? gc=false):
  CallsD Tryz.prog 234 #[.pointer (some gc)] u x λe f w'=>f=u/\(e=.returned (.tuple #[])/\w'=x.setCell gc (.int .i32 0)):=by
 have hd:=disable;have g:=enable;have h:=releaseMerge;have a:=run_call_add (P:=Tryz.prog) Tryz.func265 (by kernel_rfl) (by kernel_rfl) (by kernel_rfl) .i32 (by kernel_rfl) (y:=-1) (s:=0) b d (by simp [go_sem];rfl);have c:=run_convert_to_unsafe (P:=Tryz.prog) (src:=339) (dst:=213) Tryz.underlying339 Tryz.underlying213 (by kernel_rfl) b
 go_enter_d Tryz.func234,Tryz.ntmps234
 go_wp2
 go_end0
 go_wp2
 go_end0
 exact⟨rfl,rfl⟩
def QV(b:x.cell? gc=some (.int .i32 0))(f:x.frozen? gc=false):
  Calls Tryz.prog 233 #[.pointer (some gc)] x λe w'=>e=.returned (.tuple #[])/\w'=x.setCell gc (.int .i32 1):=by
 have hd:=disable;have h:=enable;have g:=acquire;have c:=run_call_cas_hit (P:=Tryz.prog) Tryz.func260 (by kernel_rfl) (by kernel_rfl) (by kernel_rfl) .i32 (by kernel_rfl) (y:=1) b f;have a:(x.setCell gc (.int .i32 1)).cell? gc=some (.int .i32 1):=World.cell?_setCell_same x gc _ b;have d:=run_convert_to_unsafe (P:=Tryz.prog) (src:=339) (dst:=213) Tryz.underlying339 Tryz.underlying213 (by kernel_rfl) a
 go_enter Tryz.func233,Tryz.ntmps233
 go_wp2
 first | go_end0 | (simp only[Exit.inBlock,Exit.then];refine bodyPost_ret (results_none rfl _ _ _) rfl ?_) | refine bodyPost_ret (results_none rfl _ _ _) rfl ?_
 go_wp2
 go_end0
 exact⟨rfl,rfl⟩
end Once
namespace Once
set_option maxHeartbeats 4000000
variable{I:Value}{Q:World->Prop}{x:World}
def U8(a:Addr)(d:Int)(b:x.cell? a=some (.int .u32 d)):Calls Tryz.prog 214 #[.pointer (some a)] x λe w'=>e=.returned (.bool (d != 0))/\w'=x:=by
 have c:=run_call_load (P:=Tryz.prog) Tryz.func232 (by kernel_rfl) (by kernel_rfl) (by kernel_rfl) .u32 (by kernel_rfl) b
 go_enter Tryz.func214,Tryz.ntmps214
 go_wp2
 go_ret
 exact⟨rfl,rfl⟩
def TG(b n:Nat)(fc:World)
  (g:fc.cell? ⟨b,n,none⟩=some (.int .u32 0))(v:fc.cell? ⟨b,n+1,none⟩=some (.int .i32 0))(f1:fc.frozen? ⟨b,n+1,none⟩=false)
  (c:Calls Tryz.prog 174 #[I] (fc.setCell ⟨b,n+1,none⟩ (.int .i32 1)) λe w'=>e=.returned (.tuple #[])/\w'.cell? ⟨b,n,none⟩=some (.int .u32 0)/\w'.frozen? ⟨b,n,none⟩=false/\w'.cell? ⟨b,n+1,none⟩=some (.int .i32 1)/\w'.frozen? ⟨b,n+1,none⟩=false/\Q w'):
  Calls Tryz.prog 215 #[.pointer (some ⟨b,n,none⟩),.func (.func 174) #[I] #[]] fc λe w'=>e=.returned (.tuple #[])/\∃ j,Q j/\w'=(j.drew.setCell ⟨b,n,none⟩ (.int .u32 1)).setCell ⟨b,n+1,none⟩ (.int .i32 0):=by
 have y:=run_call_load (P:=Tryz.prog) Tryz.func232 (by kernel_rfl) (by kernel_rfl) (by kernel_rfl) .u32 (by kernel_rfl) (w:=fc.setCell ⟨b,n+1,none⟩ (.int .i32 1)) (a:=⟨b,n,none⟩) (x:=0) ((aj9 _ ⟨b,n+1,none⟩ ⟨b,n,none⟩ _ (by simp)).trans g);have i:∀ (x:Bool) (fc:World),(Op.unary .not (.bool x)).run Tryz.prog fc=.ok (.bool (!x)) fc:=λ_ _=>rfl
 have k:=Mo c
 clear c
 go_enter_defers Tryz.func215,Tryz.ntmps215
 go_wp2_with (first | (go_at_call 214;refine (U8 ⟨b,n,none⟩ 0 ((aj9 _ ⟨b,n+1,none⟩ ⟨b,n,none⟩ _ (by simp)).trans g)).mono ?_;rintro e w' ⟨rfl,rfl⟩) | (go_at_call 233;refine (QV (gc:=⟨b,n+1,none⟩) (by go_simp) (by go_simp)).mono ?_;rintro e w' ⟨rfl,rfl⟩) | (go_at_call 174;refine (k.out).mono ?_;rintro e p ⟨rfl,l,q,m,r,h⟩))
 go_wp2
 refine leaves_cons (f:=235) (args:=#[.pointer (some ⟨b,n,none⟩),.bool true]) (by simp) (by simp [go_sem]) ?_;refine (zI (gc:=⟨b,n,none⟩) (.int .u32 0) (u:=.returning) l q).mono ?_
 rintro e o d ⟨rfl,rfl,rfl⟩
 refine leaves_cons (f:=234) (args:=#[.pointer (some ⟨b,n+1,none⟩)]) (by simp [settle]) (by simp [go_sem]) ?_;refine (xW (gc:=⟨b,n+1,none⟩) ?_ (by simp [r])).mono ?_
 ·refine (aj9 _ ⟨b,n,none⟩ ⟨b,n+1,none⟩ _ (by simp)).trans ?_
  rw[World.cell?_drew];exact m
 rintro e o d ⟨rfl,rfl,rfl⟩
 have s:=h;simp [Leaves,settle,results,Tryz.results215];exact⟨p,h,rfl⟩
def do_gen(b n:Nat)(fc:World)
  (c:fc.cell? ⟨b,n,none⟩=some (.int .u32 0))(i:fc.cell? ⟨b,n+1,none⟩=some (.int .i32 0))(f1:fc.frozen? ⟨b,n+1,none⟩=false)
  (a:Calls Tryz.prog 174 #[I] (fc.setCell ⟨b,n+1,none⟩ (.int .i32 1)) λe w'=>e=.returned (.tuple #[])/\w'.cell? ⟨b,n,none⟩=some (.int .u32 0)/\w'.frozen? ⟨b,n,none⟩=false/\w'.cell? ⟨b,n+1,none⟩=some (.int .i32 1)/\w'.frozen? ⟨b,n+1,none⟩=false/\Q w'):
  Calls Tryz.prog 173 #[.pointer (some ⟨b,n,none⟩),.func (.func 174) #[I] #[]] fc λe w'=>e=.returned (.tuple #[])/\∃ g,Q g/\w'=(g.drew.setCell ⟨b,n,none⟩ (.int .u32 1)).setCell ⟨b,n+1,none⟩ (.int .i32 0):=by
 have f:=TG b n (I:=I) fc (Q:=Q) c i f1 a;have d:∀ (x:Bool) (fc:World),(Op.unary .not (.bool x)).run Tryz.prog fc=.ok (.bool (!x)) fc:=λ_ _=>rfl
 have h:=Mo f
 clear f a
 go_enter Tryz.func173,Tryz.ntmps173
 go_wp2_with (first | (go_at_call 214;refine (U8 ⟨b,n,none⟩ 0 c).mono ?_;rintro e w' ⟨rfl,rfl⟩) | (go_at_call 215;refine (h.out).mono ?_;rintro e k ⟨rfl,j⟩))
 go_end0
 exact⟨rfl,j⟩
end Once
end Go.Av
