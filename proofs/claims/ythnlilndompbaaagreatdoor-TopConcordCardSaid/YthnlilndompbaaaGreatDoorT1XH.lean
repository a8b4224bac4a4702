/- Functions walked, and plain facts. No conditions. -/
import Derived.Test.YthnlilndompbaaaGreatDoorT1XG
import Derived.Test.YthnlilndompbaaaGreatDoorT1XE
open List
set_option linter.all false
set_option maxRecDepth 100000
set_option maxHeartbeats 16000000
def ac8:=@Nat.add_sub_cancel_left
def ae0:=@List.pairwise_cons
def ah6:=@Decidable.not_not
def ai3:=@List.mem_of_mem_take
def am0:=@List.filter_cons
namespace Go.Nt
variable{D:Int}{V e:List It}{de:It}{i:Bs}
def ZC(p:UInt8):(10:UInt8) ∉ wrt p:=by
 have:=fA (λp=>!((wrt p).contains 10)) (by decide +kernel) p
 simpa using this
def ZD(h:chk e de=0):(10:UInt8) ∉ elt de:=by
 obtain⟨k,s,i⟩:=de;by_cases m:k=1
 ·subst m
  show (10:UInt8) ∉ s.flatMap wrt;rw[mem_flatMap]
  rintro ⟨c,_,p⟩
  exact ZC c p
 ·have u:=FL h m
  have hd:∀ n:Nat,n<=999->(10:UInt8) ∉ Nt.dec n:=λn r q=>absurd (vA r _ q) (by decide)
  have j:∀ t:Bs,cU t=true->(10:UInt8) ∉ t:=λt o q=>absurd ((nJ o).2.2 _ q) (by decide)
  have g:∀ t:Bs,isC t=true->(10:UInt8) ∉ t:=λt o q=>absurd ((EY o).1 _ q) (by decide)
  rcases u with ⟨a,_⟩ | ⟨a,b,f⟩ | ⟨a,b,f,l⟩ | ⟨a,b,f,l⟩
  ·exact absurd a m
  ·simp only[] at a b f
   subst a;simp [elt,j s b]
  ·simp only[] at a b f l
   have d:=hd i.toNat (by omega);rcases a with rfl | rfl
   ·simp [elt,g s b,d]
   ·simp [elt,g s b,d]
  ·simp only[] at a b f l
   have d:=hd i.toNat (by omega);subst a;simp [elt,j s b,d]
def DX(h:VL e):(10:UInt8) ∉ fmt e:=by
 have key:∀ (n:Nat) (e:List It),e.length=n->VL e->(10:UInt8) ∉ fmt e:=by
  intro n
  induction n with
  | zero=>intro e c _;rw[js c];simp [fmt]
  | succ n f =>
   intro e c d;rcases dS e with rfl | ⟨g,y,rfl⟩
   ·simp at c
   ·obtain⟨a,b⟩:=(cY g y).1 d
    rw[qS,qR,ng]
    rintro (q | q)
    ·exact f g (by simp at c;exact c) a q
    ·exact ZD b q
 exact key _ e rfl h
def CE(h:(eV i).2.2=0):(10:UInt8) ∉ i:=by
 obtain⟨g,b,e,a⟩:∃ g b e,eV i=(g,b,e):=⟨(eV i).1,(eV i).2.1,(eV i).2.2,rfl⟩
 rw[a] at h;simp only[] at h;subst h;obtain⟨c,d,_⟩:=xI a;rw[<- d];exact DX ((cG g).1 c).1
structure En where
 S:List It
 T:List It
 p:Bs
 n:Bs
 a:Bs
 j:Bs
 c:Int
 o:Int
variable{F iq:En}{m y:List En}
def uF(s:Bs):Int:=(eV s).2.2
def sJ(s:Bs):Bool:=decide (s=[])||cU s
def vE(e:En):Int:=
 if vld e.S≠0 then vld e.S else if vld e.T≠0 then vld e.T else
 if e.S=[]\/i6 e.S e.T≠e.S\/l4 e.S e.T≠e.T then 1 else
 if uF e.p≠0 then uF e.p else if uF e.n≠0 then uF e.n else
 if ¬ (sJ e.a=true/\sJ e.j=true) then 4 else
 if e.c<0\/1073741824<e.c\/e.o<1\/3<e.o then 1 else 0
structure VE (e:En):Prop where
 vS:vld e.S=0
 vT:vld e.T=0
 ne:e.S≠[]
 cS:i6 e.S e.T=e.S
 cT:l4 e.S e.T=e.T
 pp:uF e.p=0
 pn:uF e.n=0
 na:sJ e.a=true
 nj:sJ e.j=true
 c0:0<=e.c
 c1:e.c<=1073741824
 o1:1<=e.o
 o3:e.o<=3
def rW(e:En):vE e=0↔VE e:=by
 unfold vE;constructor
 ·intro h
  split at h
  ·rename_i q;exact absurd h q
  rename_i c
  split at h
  ·rename_i q;exact absurd h q
  rename_i d
  split at h
  ·cases h
  rename_i b
  split at h
  ·rename_i q;exact absurd h q
  rename_i f
  split at h
  ·rename_i q;exact absurd h q
  rename_i g
  split at h
  ·cases h
  rename_i a
  split at h
  ·cases h
  rename_i i;have a:=ah6.1 a;refine⟨ah6.1 c,ah6.1 d,λq=>b (.inl q),?_,?_,ah6.1 f,ah6.1 g,a.1,a.2,by omega,by omega,by omega,by omega⟩
  ·by_cases q:i6 e.S e.T=e.S
   ·exact q
   ·exact absurd (.inr (.inl q)) b
  ·by_cases q:l4 e.S e.T=e.T
   ·exact q
   ·exact absurd (.inr (.inr q)) b
 ·rintro ⟨vS,vT,ne,cS,cT,pp,pn,na,nj,c0,c1,o1,o3⟩
  rw[ie (by simp [vS]),ie (by simp [vT]),ie (by simp [ne,cS,cT]),ie (by simp [pp]),ie (by simp [pn]),ie (by simp [na,nj]),ie (by omega)]
def fmE(f:List It):Bs:=if vld f=0 then fmt f else []
def dM(e:En):Bs:=fmE e.S++10::(e.p++10::e.n)
def bU(e:En):Bs:=if vE e=0 then dM e else []
def OB(h:VE F):bU F=fmt F.S++10::(F.p++10::F.n):=by
 unfold bU dM fmE;rw[iw ((rW F).2 h),iw h.vS]
def OC(a:VE F)(b:VE iq):bU F=bU iq↔F.S=iq.S/\F.p=iq.p/\F.n=iq.n:=by
 rw[OB a,OB b];constructor
 ·intro h
  have i:=DX ((cG _).1 a.vS).1;have j:=DX ((cG _).1 b.vS).1;have c1:=kY i (F.p++10::F.n);rw[h,kY j] at c1;simp only[jc,jg] at c1;obtain⟨c,d⟩:=c1;have c2:=kY (CE a.pp) F.n;rw[<- d,kY (CE b.pp)] at c2;simp only[jc,jg] at c2;exact⟨(pi b.vS a.vS c).symm,c2.1.symm,c2.2.symm⟩
 ·rintro ⟨e,f,g⟩
  rw[e,f,g]
def UQ:∃ r,cF (e++V)=cF e++r:=by
 unfold cF;rw[ak8]
 have:∀ (V:List It) (l:List Int),∃ r,V.foldl gK l=l++r:=by
  intro V
  induction V with
  | nil=>intro l;exact⟨[],by simp⟩
  | cons x V b =>
   intro l;rw[ac6];obtain⟨r,a⟩:=b (gK l x);rw[a];unfold gK;split
   ·exact⟨x.2.2::r,by simp⟩
   ·exact⟨r,rfl⟩
 exact this V _
def ay{fh:List It}(h:D∈cF V):sig (V++fh) D=sig V D:=by
 obtain⟨r,f⟩:=UQ (e:=V) (V:=fh);have key:∀ (l r:List Int) (n k:Nat),l.length+k<=n->D∈l->lkz (l++r) ((eK (n+r.length)).drop k) D=lkz l ((eK n).drop k) D:=by
  intro l
  induction l with
  | nil=>intro r n k _ h;cases h
  | cons a l g =>
   intro r n k c h;have e:∀ m:Nat,k<m->(eK m).drop k=((k:Int)+1)::(eK m).drop (k+1):=by
    intro m d;have b:k<(eK m).length:=by rw[hJ];exact d
    rw[je b]
    congr 1
    exact (tN (ii b)).1
   simp only[jd] at c;rw[e (n+r.length) (by omega),e n (by omega),ko];simp only[lkz];by_cases q:a=D
   ·rw[iw q,iw q]
   ·rw[ie q,ie q]
    exact g r n (k+1) (by omega) ((la.1 h).resolve_left (λz=>q z.symm))
 have:=key (cF V) r (cF V).length 0 (by omega) h
 rw[kc,kc] at this;unfold sig;rw[f,jb,this]
def mw(h:de∈e):phi (e++V) de=phi e de:=by
 unfold phi;by_cases a:bC de=true
 ·rw[iw a,iw a,ay (nE h a)]
 ·rw[ie a,ie a]
def XG:i6 e []=i6 e V:=by
 unfold i6;rw[zQ,zQ,ka]
 congr 1
 exact ad5 λx a=>(mw a).symm
theorem XF:l4 e []=[]:=rfl
theorem Y4:vld []=0:=rfl
def VE.noT(h:VE F):VE { F with T:=[] }:=
 ⟨h.vS,Y4,h.ne,by show i6 F.S []=F.S;rw[XG (e:=F.S) (V:=F.T)];exact h.cS,XF,h.pp,h.pn,h.na,h.nj,h.c0,h.c1,h.o1,h.o3⟩
def Sr(m:List En):Prop:=m.Pairwise λx y=>ltB (bU x) (bU y)=true
def Mem(m:List En):Prop:=(∀ e∈m,VE e)/\Sr m
def EN:Mem []:=⟨λe h=>(by cases h),List.Pairwise.nil⟩
def j8(m:List En)(k:Bs):Option En:=m.find? λe=>bU e==k
def wO:j8 (F::y) i=if bU F=i then some F else j8 y i:=by
 unfold j8;rw[find?_cons];by_cases h:bU F=i
 ·have:(bU F==i)=true:=by simpa using h
  rw[this,iw h]
 ·have:(bU F==i)=false:=by simpa using h
  rw[this,ie h]
def nL(h:j8 y i=some F):F∈y/\bU F=i:=by
 unfold j8 at h;exact⟨mem_of_find?_eq_some h,by simpa using find?_some h⟩
def IA(h:Sr y)(a:F∈y):j8 y (bU F)=some F:=by
 induction y with
 | nil=>cases a
 | cons x y b =>
  rw[wO];rcases la.1 a with rfl | a
  ·rw[iw rfl]
  ·have:=(ae0.1 h).1 F a
   rw[ie (KW this)];exact b (ae0.1 h).2 a
def bel(k:Bs)(m:List En):List En:=m.filter λe=>ltB (bU e) k
def abv(k:Bs)(m:List En):List En:=m.filter λe=>ltB k (bU e)
def sC(h:Sr y)(a:j8 y i=none):y=bel i y++abv i y:=by
 induction y with
 | nil=>rfl
 | cons x y k =>
  obtain⟨c,j⟩:=ae0.1 h;rw[wO] at a;by_cases e:bU x=i
  ·rw[iw e] at a;cases a
  rw[ie e] at a;unfold bel abv;rw[am0,am0];cases d:ltB (bU x) i with
  | true =>
   rw[nG d];simp only[kp,jl,kz,ko]
   congr 1
   exact k j a
  | false =>
   have hg:=EQ _ _ d e;rw[hg];simp only[kp,jl,kz];have f:y.filter (λe=>ltB (bU e) i)=[]:=by
    rw[ah4];intro z b;rw[nG (wJ _ _ _ hg (c z b))];simp
   have g:y.filter (λe=>ltB i (bU e))=y:=by
    rw[filter_eq_self];intro z b;exact wJ _ _ _ hg (c z b)
   rw[f,g,kg]
def lE(h:Sr m)(a:j8 m i=some F):m=bel i m++F::abv i m:=by
 induction m with
 | nil=>cases a
 | cons y m k =>
  obtain⟨b,g⟩:=ae0.1 h;rw[wO] at a;unfold bel abv;rw[am0,am0];by_cases e:bU y=i
  ·rw[iw e] at a
   cases a;subst e;rw[uT];simp only[jl,kz];have d:m.filter (λe=>ltB (bU e) (bU F))=[]:=by
    rw[ah4];intro z j;rw[nG (b z j)];simp
   have f:m.filter (λe=>ltB (bU F) (bU e))=m:=by
    rw[filter_eq_self];exact b
   rw[d,f,kg]
  ·rw[ie e] at a
   obtain⟨l,n⟩:=nL a;have c:ltB (bU y) i=true:=by rw[<- n];exact b F l
   rw[c,nG c];simp only[kp,jl,kz,ko]
   congr 1
   exact k g a
def pJ(m:List En)(e:En):List En:=bel (bU e) m++e::abv (bU e) m
def zo(h:Sr y):Sr (bel i y):=h.filter _
def zp(h:Sr y):Sr (abv i y):=h.filter _
def EO:F∈bel i y↔F∈y/\ltB (bU F) i=true:=by unfold bel;rw[ag9]
def uS:F∈abv i y↔F∈y/\ltB i (bU F)=true:=by unfold abv;rw[ag9]
def SZ(h:Sr y)(e:En):Sr (pJ y e):=by
 unfold pJ Sr;rw[pairwise_append];refine⟨zo h,ae0.2 ⟨λz g=>(uS.1 g).2,zp h⟩,λa f b c=>?_⟩;have d:=(EO.1 f).2;rcases la.1 c with rfl | c
 ·exact d
 ·exact wJ _ _ _ d (uS.1 c).2
def yP:iq∈pJ y F↔iq=F\/(iq∈y/\bU iq≠bU F):=by
 unfold pJ;rw[ng,la,EO,uS];constructor
 ·rintro (⟨a,b⟩ | h | ⟨a,b⟩)
  ·exact .inr ⟨a,KW b⟩
  ·exact .inl h
  ·exact .inr ⟨a,(KW b).symm⟩
 ·rintro (h | ⟨a,b⟩)
  ·exact .inr (.inl h)
  ·cases c:ltB (bU iq) (bU F) with
   | true=>exact .inl ⟨a,rfl⟩
   | false=>exact .inr (.inr ⟨a,EQ _ _ c b⟩)
def HK(h:Mem y)(a:VE F):Mem (pJ y F):=
 ⟨λz b=>(yP.1 b).elim (λq=>by rw[q];exact a) (λq=>h.1 z q.1),SZ h.2 F⟩
def IB(h:Sr y):j8 y i=some F↔F∈y/\bU F=i:=
 ⟨nL,λ⟨a,b⟩=>by rw[<- b];exact IA h a⟩
def my{ce:Type}{a b:Option ce}(h:∀ x,a=some x↔b=some x):a=b:=by
 cases a with
 | none=>cases b with
  | none=>rfl
  | some y=>exact absurd ((h y).2 rfl) (by simp)
 | some x=>exact ((h x).1 rfl).symm
def pf(h:Sr y)(e:En)(k:Bs):j8 (pJ y e) k=if k=bU e then some e else j8 y k:=by
 refine my λx=>?_
 rw[IB (SZ h e),yP];by_cases q:k=bU e
 ·rw[iw q]
  constructor
  ·rintro ⟨a | ⟨a,b⟩,c⟩
   ·rw[a]
   ·exact absurd (c.trans q) b
  ·intro a
   cases a;exact⟨.inl rfl,q.symm⟩
 ·rw[ie q,IB h]
  constructor
  ·rintro ⟨a | ⟨a,b⟩,c⟩
   ·rw[a] at c;exact absurd c.symm q
   ·exact⟨a,c⟩
  ·rintro ⟨a,b⟩
   exact⟨.inr ⟨a,λz=>q (b.symm.trans z)⟩,b⟩
def mb(h:Sr y)(e:En):(pJ y e).length=if (j8 y (bU e)).isSome=true then y.length else y.length+1:=by
 unfold pJ;cases hg:j8 y (bU e) with
 | none =>
  have:=pz List.length (sC h hg)
  rw[jb] at this;simp only[jb,jd,ab6,jl,kz];omega
 | some x =>
  have:=pz List.length (lE h hg)
  rw[jb,jd] at this;simp only[jb,jd,ab2,kp];omega
def Zt{u bc cy:Bs}{k:Int}(a:vld e=0)(c:vld V=0)(b:e≠[])(pp:uF i=0)(pn:uF u=0)(na:sJ bc=true)(nj:sJ cy=true)(c0:0<=k)(c1:k<=1073741824)(o1:1<=D)(o3:D<=3):VE ⟨i6 e V,l4 e V,i,u,bc,cy,k,D⟩:=by
 have d:=jU a c;obtain⟨f,j⟩:=iG d a;obtain⟨m,l⟩:=nR d c;obtain⟨g,h⟩:=qt a c;exact⟨j,l,by show i6 e V≠[];rw[f];simpa using b,g,h,pp,pn,na,nj,c0,c1,o1,o3⟩
end Go.Nt
namespace Go.Av
open Go.Nt
variable{L:List Int}{bd c:LL}{bv:AV}{k:Int}
variable [Mx]
attribute [-go_sem] i8 lC
def Pf(l:List Int)(j:l.length<=1000000)(x:Int):∀ (k i:Nat),i+k=l.length ->
  (x ∉ l.drop i->∃ b,aC G0 xT (ST [(0,.sl .no 1 (fG l)),(1,.int .i64 x),(7,.int .i64 l.length),(8,.int .i64 i)] [] [])=some (.ex 0,ST b [] [])) /\
  (x∈l.drop i->∃ b n,aC G0 xT (ST [(0,.sl .no 1 (fG l)),(1,.int .i64 x),(7,.int .i64 l.length),(8,.int .i64 i)] [] [])=some (.ret,ST b [] [])/\aF .any b 4=.int .i64 (n:Nat))
 | 0,i,h=>by
  have:i=l.length:=by omega
  subst this;refine⟨λ_=>?_,λh=>(by simp at h)⟩;refine Exists.intro ?_ ?_
  rotate_left 1
  rw[aB xT rfl];simp only[go_sem,jm];rfl
 | k+1,i,h=>by
  have hi:i<l.length:=by omega
  have d:(i:Int)<l.length:=by omega
  have c:0<=(i:Int):=by omega
  have f:=wI (n:=i) (by omega)
  have hg:l[i]?=some l[i]:=ii hi;have hd:l.drop i=l[i]::l.drop (i+1):=je hi;generalize l[i]=a at hg hd;have e:=qQ hg;have m:=Pf l j x k (i+1) (by omega);rw[hd];by_cases q:a=x
  ·subst q
   refine⟨λq=>absurd (wa ..) q,λ_=>?_⟩;refine Exists.intro ?_ (Exists.intro i (And.intro ?_ ?_))
   rotate_left 1
   ·rw[aB xT rfl]
    simp only[go_sem,d,c,e,f];rfl
   ·rfl
  ·have g:¬ x=a:=λz=>q z.symm
   have step:aC G0 xT (ST [(0,.sl .no 1 (fG l)),(1,.int .i64 x),(7,.int .i64 l.length),(8,.int .i64 i)] [] [])=aC G0 xT (ST [(0,.sl .no 1 (fG l)),(1,.int .i64 x),(7,.int .i64 l.length),(8,.int .i64 (i+1:Nat))] [] []):=by
    conv=>lhs;rw[aB xT rfl]
    simp only[go_sem,d,c,e,f,g]
   rw[step];have em:(x∈a::l.drop (i+1))↔x∈l.drop (i+1):=by simp [g]
   rw[em];exact m
def k146(e:L.length<=1000000):(k ∉ L->G0 62 [.sl .no 1 (fG L),.int .i64 k] []=some (.int .i64 (-1),[]))/\(k∈L->∃ n:Nat,G0 62 [.sl .no 1 (fG L),.int .i64 k] []=some (.int .i64 n,[])):=by
 obtain⟨b,c⟩:=Pf L e k L.length 0 (by omega);have d:((0:Nat):Int)=0:=rfl;rw[kc,d] at b c;constructor
 ·intro h
  refine aA F62 ?_;obtain⟨f,a⟩:=b h;simp only[F62,go_sem,eE,a,iR,jM,ad8,kp,kz]
 ·intro h
  obtain⟨f,n,a,g⟩:=c h;refine⟨n,?_⟩;refine aA F62 ?_;simp only[F62,go_sem,eE,a,g]
def k105(c:L.length<=1000000):G0 24 [.sl .no 1 (fG L),.int .i64 k] []=some (.bool (decide (k∈L)),[]):=by
 obtain⟨a,b⟩:=k146 (L:=L) c (k:=k);refine aA F24 ?_;by_cases h:k∈L
 ·rw[jv h]
  obtain⟨n,b⟩:=b h;have d:0<=(n:Int):=by omega
  simp only[F24,go_sem,b,d]
 ·rw[jr h]
  have a:=a h;simp only[F24,go_sem,a]
def dd(h:∀ c∈bd,c=aO):∀ c∈bd++[aO],c=aO:=λc a=>by
 rcases ng.1 a with q | q
 ·exact h c q
 ·exact kj.1 q
def EP(X:LL):mF (c++[AV.mapv bd]::X) c.length=some bd:=by
 unfold mF;rw[ky (ji _),ae7];rfl
def map_set(c c':List AV)(X:LL):(bd++c::X).set bd.length c'=bd++c'::X:=by
 rw[ae1 _ _ (ji _),ae7];rfl
def NS(P:LL)(l:List Int)(v:AV)(sh:LL):Prop:=
 (l=[]/\v=.sl .full 1 []/\sh=P++[AV.mapv (spm [])]::[]) \/
 (∃ D:LL,l≠[]/\(∀ c∈D,c=aO)/\v=.ss (P.length+1+D.length) 0 l.length 1/\sh=P++[AV.mapv (spm l)]::(D++[icl l]))
def NS.map(h:NS c L bv bd):mF bd c.length=some (spm L):=by
 rcases h with ⟨rfl,_,rfl⟩ | ⟨D,_,_,_,rfl⟩
 ·exact EP _
 ·exact EP _
def NS.dem(h:NS c L bv bd):aJ bv=bv:=by
 rcases h with ⟨_,rfl,_⟩ | ⟨D,_,_,rfl,_⟩<;>rfl
def NS.scrub(h:NS c L bv bd)(k:List Nat):cA k bv=bv:=by
 rcases h with ⟨_,rfl,_⟩ | ⟨D,_,_,rfl,_⟩<;>rfl
def oz:∀ l:List Int,bX (icl l)=true
 | []=>rfl
 | _::_=>rfl
def WC:(icl L).all iE=true:=by
 induction L with
 | nil=>rfl
 | cons x L a=>show (iE (.int .i64 x)&&(icl L).all iE)=true;rw[a];rfl
def PE(n:Nat)(h:L.length<=1000000)(b:c[n]?=some (icl L)):gV 1 8 c (some [[.int .i64 k]]) (.ss n 0 L.length 1)=some (.ss c.length 0 (L.length+1) 1,c.set n aO++[icl (L++[k])]):=by
 have a:aU 8 (L.length+1)=true:=aL (by decide) (by omega);rw[i8 n L.length 8 1 (by decide),jy,iw a,b];simp only[jk];rw[iw ⟨oz L,by rw[yT];omega,WC (L:=L)⟩];simp [icl]
def I6:gV 1 8 c (some [[.int .i64 k]]) (.sl .full 1 [])=some (.ss c.length 0 1 1,c++[icl [k]]):=by
 have a:aU 8 (([]:LL).length+1)=true:=aL (by decide) (by decide);rw[lC 1 8 1 (by decide),iw a];rfl
def NS.add(h:NS c L bv bd)(f:L.length<=1000000)(i:Int)(hi:i ∉ L):
  ∃ b a sh',NS c (L++[i]) b sh'/\bd.set c.length [.mapv (spm (L++[i]))]=a/\gV 1 8 a (some [[.int .i64 i]]) bv=some (b,sh'):=by
 rcases h with ⟨rfl,rfl,rfl⟩ | ⟨D,g,d,rfl,rfl⟩
 ·refine⟨_,_,_,?_,rfl,I6⟩
  rw[map_set]
  refine .inr ⟨[],by simp,by simp,?_,?_⟩
  ·simp
  ·simp
 ·refine⟨_,_,_,?_,rfl,PE _ f (by
   rw[map_set,ky (by omega)];have e:c.length+1+D.length-c.length=D.length+1:=by omega
   rw[e,ac5,ky (ji _),ae7]
   rfl)⟩
  rw[map_set];have e:c.length+1+D.length=c.length+(D.length+1):=by omega
  refine .inr ⟨D++[aO],by simp,dd d,?_,?_⟩
  ·simp;omega
  ·rw[ae1 _ _ (by omega),e,ac8,Ec,ae1 _ _ (ji _),ae7]
   simp
def OA(P:LL)(f:List Tk)(x:f.length<=100000):∀ (k i:Nat) (l:List Int) (v:AV) (sh:LL),i+k=f.length->l.length<=i->NS P l v sh ->
  ∃ c sh',NS P ((f.drop i).foldl gK l) c sh'/\aC G0 DQ (ST [(3,v),(4,.mp P.length),(8,.sl .no 3 (tks f)),(9,.int .i64 f.length),(10,.int .i64 i)] [] sh)=some (.ex 0,ST [(3,c),(4,.mp P.length),(8,.sl .no 3 (tks f)),(9,.int .i64 f.length),(10,.int .i64 f.length),(11,.bool false)] [] sh')
 | 0,i,l,v,sh,h,E,a=>by
  have:i=f.length:=by omega
  subst this;refine⟨v,sh,by rw[lb,foldl_nil];exact a,?_⟩;have m:=a.scrub;rw[aB DQ rfl];simp only[go_sem,jm,m]
 | k+1,i,l,v,sh,h,E,a=>by
  have hi:i<f.length:=by omega
  have w:(i:Int)<f.length:=by omega
  have u:0<=(i:Int):=by omega
  have A:=wI (n:=i) (by omega)
  have hg:f[i]?=some f[i]:=ii hi;have hd:f.drop i=f[i]::f.drop (i+1):=je hi;generalize f[i]=T at hg hd;have o:=cQ hg;obtain⟨kk,s,id⟩:=T;simp only[] at o;have c69:=c69 kk s id;have b:=VD id l;have e:=a.map;have m:=a.scrub;have q:=a.dem;rw[hd,ac6];cases p:bC (kk,s,id) with
  | false =>
   rw[p] at c69;rw[XT (.inl p)];obtain⟨c,sh',j,g⟩:=OA P f x k (i+1) l v sh (by omega) (by omega) a;refine⟨c,sh',j,?_⟩;rw[aB DQ rfl];simp only[go_sem,w,u,o,A,c69,m,q];exact g
  | true =>
   rw[p] at c69;by_cases d:id∈l
   ·rw[iw d] at b
    rw[XT (.inr d)];obtain⟨c,sh',j,g⟩:=OA P f x k (i+1) l v sh (by omega) (by omega) a;refine⟨c,sh',j,?_⟩;rw[aB DQ rfl];simp only[go_sem,w,u,o,A,c69,e,b,No,m,q];exact g
   ·rw[ie d] at b
    rw[Eu p d];have y:=UY id l d;obtain⟨I,H,D,B,F,G⟩:=a.add (by omega) id d;have C:=B.scrub;have r:=B.dem;obtain⟨c,sh',j,g⟩:=OA P f x k (i+1) (l++[id]) I D (by omega) (by simp;omega) B;refine⟨c,sh',j,?_⟩;rw[aB DQ rfl];simp only[go_sem,w,u,o,A,c69,e,b,Np,y,F,G,m,q,C,r];exact g
def NV(sh:LL)(v:AV)(l:List Int):Prop:=(l=[]/\v=.sl .full 1 [])\/(∃ o,l≠[]/\v=.ss o 0 l.length 1/\sh[o]?=some (icl l))
def NV.dem(h:NV c bv L):aJ bv=bv:=by
 rcases h with ⟨_,rfl⟩ | ⟨o,_,rfl,_⟩<;>rfl
def NV.scrub(h:NV c bv L)(k:List Nat):cA k bv=bv:=by
 rcases h with ⟨_,rfl⟩ | ⟨o,_,rfl,_⟩<;>rfl
def NV.arg(h:NV c bv L):hH true bv=true:=by
 rcases h with ⟨_,rfl⟩ | ⟨o,_,rfl,_⟩<;>rfl
def NV.app{sh:LL}{v:AV}{l:List Int}(h:NV sh v l)(E:LL):NV (sh++E) v l:=by
 rcases h with ⟨a,b⟩ | ⟨o,a,b,c⟩
 ·exact .inl ⟨a,b⟩
 ·refine .inr ⟨o,a,b,?_⟩
  have hi:o<sh.length:=by
   by_cases q:o<sh.length
   ·exact q
   ·rw[ls (by omega)] at c;cases c
  rw[kq hi,c]
def Co(P:LL)(f:List Tk)(l:f.length<=100000):∃ v E,NV (P++E) v (cF f)/\(∀ o,v=.ss o 0 (cF f).length 1->P.length<=o)/\G0 23 [.sl .no 3 (tks f)] P=some (v,P++E):=by
 obtain⟨v,sh,a,c⟩:=OA P f l f.length 0 [] (.sl .full 1 []) (P++[AV.mapv (spm [])]::[]) (by omega) (by simp) (.inl ⟨rfl,rfl,rfl⟩);have i:((0:Nat):Int)=0:=rfl;have g:spm []=[]:=rfl;rw[kc] at a;have j:f.foldl gK []=cF f:=rfl;rw[j] at a;rw[i,g] at c;have n:=a.dem;obtain⟨E,k,d,m⟩:∃ E,sh=P++E/\NV (P++E) v (cF f)/\(∀ o,v=.ss o 0 (cF f).length 1->P.length<=o):=by
  rcases a with ⟨b,rfl,rfl⟩ | ⟨D,b,p,rfl,rfl⟩
  ·exact⟨_,rfl,.inl ⟨b,rfl⟩,λo h=>by cases h⟩
  ·refine⟨_,rfl,.inr ⟨_,b,rfl,?_⟩,λo h=>by cases h;omega⟩
   rw[ky (by omega)];have e:P.length+1+D.length-P.length=D.length+1:=by omega
   rw[e,ac5,ky (ji _),ae7];rfl
 subst k;refine⟨v,E,d,m,?_⟩;refine aA F23 ?_;rcases d with ⟨_,rfl⟩ | ⟨o,_,rfl,_⟩
 ·simp only[F23,go_sem,aD,c]
 ·simp only[F23,go_sem,aD,c]
end Go.Av
namespace Go.Av
open Go.Nt
variable{L:List Int}{N:Tk}{b:List Tk}{bd c:LL}{bv h:AV}{f:List AV}{n:Nat}
variable [Mx]
def StP(P:LL)(v:AV)(sh:LL)(out:List Tk):Prop:=
 (out=[]/\v=.sl .full 3 []/\P=sh)\/(∃ D o t,out=o++[t]/\v=.ss (P++D).length 0 (o.length+1) 3/\sh=P++D++[fl (o++[t])]/\∀ c∈D,c=aO)
def fl3(h:b[n]?=some N):((fl b).drop (n*3)).take 3=[AV.int .i64 N.1,.str N.2.1,.int .i64 N.2.2]:=by
 have hi:n<b.length:=by
  by_cases q:n<b.length
  ·exact q
  ·rw[ls (by omega)] at h;cases h
 have hd:b.drop n=N::b.drop (n+1):=by
  rw[je hi]
  congr 1
  rw[ii hi] at h;exact ai4 h
 have e:fl b=fl (b.take n)++fl (b.drop n):=by rw[<- i5,ye]
 have a:(fl (b.take n)).length=n*3:=by rw[fH,tr,ad7 (by omega)]
 rw[e,<- a,ae3,hd,mI];rfl
theorem sN(k:Int)(i:Bs)(D:Int):kQ [AV.int .i64 k,.str i,.int .i64 D]=some [AV.int .i64 k,.str i,.int .i64 D]:=rfl
def LB(h:bd[n]?=some f)(X Y:LL):(bd++X++Y)[n]?=some f:=by
 have hi:n<bd.length:=by
  by_cases q:n<bd.length
  ·exact q
  ·rw[ls (by omega)] at h;cases h
 rw[kb,kq hi,h]
def K2(P:LL)(so:Nat)(f:List Tk)(a:P[so]?=some (fl f))(B:f.length<=100000):∀ (k i:Nat) (out:List Tk) (v:AV) (sh:LL),i+k=f.length->out.length<=i->tot out+tot (f.drop i)<=1000000->StP P v sh out ->
  ∃ d sh',StP P d sh' ((f.drop i).foldl pn out) /\
   aC G1 jA (ST [(0,.ss so 0 f.length 3),(3,v),(8,.int .i64 f.length),(9,.int .i64 i)] [] sh)=some (.ex 0,ST [(0,.ss so 0 f.length 3),(3,d),(8,.int .i64 f.length),(9,.int .i64 f.length),(10,.bool false)] [] sh')
 | 0,i,out,v,sh,M,p,y,c=>by
  have:i=f.length:=by omega
  subst this;refine⟨v,sh,by rw[af2 (ji _)];exact c,?_⟩;rcases c with ⟨rfl,rfl,rfl⟩ | ⟨D,o,t,rfl,rfl,rfl,A⟩
  ·rw[aB jA rfl]
   simp only[go_sem,jm]
  ·rw[aB jA rfl]
   simp only[go_sem,jm]
 | k+1,i,out,v,sh,M,p,y,c=>by
  have hi:i<f.length:=by omega
  have q:(i:Int)<f.length:=by omega
  have m:0<=(i:Int):=by omega
  have x:=wI (n:=i) (by omega)
  have hg:f[i]?=some f[i]:=ii hi;have hd:f.drop i=f[i]::f.drop (i+1):=je hi;generalize f[i]=T at hg hd;have w:=fl3 hg;obtain⟨kk,s,id⟩:=T;rw[hd] at y ⊢;rw[aN] at y;simp only[ac6];simp only[] at y;by_cases c1:kk=1
  ·by_cases c2:s=[]
   ·subst c1 c2
    rw[G2];obtain⟨d,sh',g,e⟩:=K2 P so f a B k (i+1) out v sh (by omega) (by omega) (by simp only[jz] at y;omega) c;refine⟨d,sh',g,?_⟩;rcases c with ⟨rfl,rfl,rfl⟩ | ⟨D,o,t,rfl,rfl,rfl,A⟩
    ·rw[aB jA rfl]
     simp only[go_sem,q,m,a,LB a,w,sN,x];exact e
    ·rw[aB jA rfl]
     simp only[go_sem,q,m,a,LB a,w,sN,x];exact e
   ·subst c1
    have u:(s==[])=false:=by simp [c2]
    rcases c with ⟨rfl,rfl,rfl⟩ | ⟨D,o,t,rfl,rfl,rfl,A⟩
    ·rw[GZ c2]
     obtain⟨d,sh',g,e⟩:=K2 P so f a B k (i+1) [(1,s,0)] (.ss P.length 0 1 3) (P++[fl [(1,s,0)]]) (by omega) (by simp) (by simp only[aN,bZ] at *;first | done | omega) (.inr ⟨[],[],(1,s,0),rfl,by simp,by simp,by simp⟩);refine⟨d,sh',g,?_⟩;have r:aU 32 1=true:=aL (by decide) (by decide);rw[aB jA rfl];simp only[go_sem,q,m,a,LB a,w,sN,x,u,r,jm];exact e
    ·have l:(0:Int)<((o.length+1:Nat):Int):=by omega
     have F:((o.length:Nat):Int)<((o.length+1:Nat):Int):=by omega
     have E:(0:Int)<=((o.length:Nat):Int):=by omega
     have G:IntKind.i64.wrap (((o.length+1:Nat):Int)-1)=(o.length:Nat):=by rw[w64 (by omega) (by simp at p;omega)];omega
     have h:(fl (o++[t]))[o.length*3]?=some (.int .i64 t.1):=rK o t 0;have j:(fl (o++[t]))[o.length*3+1]?=some (.str t.2.1):=rK o t 1;by_cases c3:t.1=1
     ·rw[NF c2 c3]
      have N:t.2.1.length+s.length<=140737488355328:=by simp only[cN,aN,bZ] at y;omega
      have C:=g9 (o++[t]);have O:kL (o.length*3) [.int .i64 1,.str (t.2.1++s),.int .i64 0] (fl (o++[t]))=some (fl (o++[(1,t.2.1++s,0)])):=WN (b:=o) t (1,t.2.1++s,0);obtain⟨d,sh',g,e⟩:=K2 P so f a B k (i+1) (o++[(1,t.2.1++s,0)]) (.ss (P++D).length 0 (o.length+1) 3) (P++D++[fl (o++[(1,t.2.1++s,0)])]) (by omega) (by simp at p ⊢;omega) (by simp only[cN,aN,bZ,jb] at *;omega) (.inr ⟨D,o,_,rfl,rfl,rfl,A⟩);refine⟨d,sh',g,?_⟩;rw[aB jA rfl];simp only[go_sem,q,m,a,LB a,w,sN,x,u,l,F,E,G,gD,sD,h,j,c3,rh,N,C,O];exact e
     ·rw[UH c2 c3]
      have K:(o.length+1)*3=(fl (o++[t])).length:=by rw[fH];simp
      have r:aU 32 (o.length+1+1)=true:=aL (by decide) (by simp at p;omega);have C:=g9 (o++[t]);have L:=kV (o++[t]);have H:fl (o++[t])++[[AV.int .i64 1,.str s,.int .i64 0]].flatten=fl (o++[t]++[(1,s,0)]):=by rw[i5 (o++[t])];rfl
      have J:(P++D++[fl (o++[t])]).length=(P++(D++[aO])).length:=by simp
      have I:P++D++[aO]=P++(D++[aO]):=kb ..;obtain⟨d,sh',g,e⟩:=K2 P so f a B k (i+1) (o++[t]++[(1,s,0)]) (.ss (P++(D++[aO])).length 0 (o.length+1+1) 3) (P++(D++[aO])++[fl (o++[t]++[(1,s,0)])]) (by omega) (by simp at p ⊢;omega) (by simp only[cN,aN,bZ] at *;omega) (.inr ⟨D++[aO],o++[t],(1,s,0),rfl,by simp,rfl,dd A⟩);refine⟨d,sh',g,?_⟩;rw[aB jA rfl];simp only[go_sem,q,m,a,LB a,w,sN,x,u,l,F,E,G,gD,sD,h,j,c3,rh,r,C,L,K,J,I];rw[H];exact e
  ·rw[UG c1]
   rcases c with ⟨rfl,rfl,rfl⟩ | ⟨D,o,t,rfl,rfl,rfl,A⟩
   ·rw[kg]
    obtain⟨d,sh',g,e⟩:=K2 P so f a B k (i+1) [(kk,s,id)] (.ss P.length 0 1 3) (P++[fl [(kk,s,id)]]) (by omega) (by simp) (by simp only[aN,bZ] at *;first | done | omega) (.inr ⟨[],[],(kk,s,id),rfl,by simp,by simp,by simp⟩);refine⟨d,sh',g,?_⟩;have r:aU 32 1=true:=aL (by decide) (by decide);rw[aB jA rfl];simp only[go_sem,q,m,a,LB a,w,sN,x,c1,r];exact e
   ·have K:(o.length+1)*3=(fl (o++[t])).length:=by rw[fH];simp
    have r:aU 32 (o.length+1+1)=true:=aL (by decide) (by simp at p;omega);have C:=g9 (o++[t]);have L:=kV (o++[t]);have H:fl (o++[t])++[[AV.int .i64 kk,.str s,.int .i64 id]].flatten=fl (o++[t]++[(kk,s,id)]):=by rw[i5 (o++[t])];rfl
    have J:(P++D++[fl (o++[t])]).length=(P++(D++[aO])).length:=by simp
    have I:P++D++[aO]=P++(D++[aO]):=kb ..;obtain⟨d,sh',g,e⟩:=K2 P so f a B k (i+1) (o++[t]++[(kk,s,id)]) (.ss (P++(D++[aO])).length 0 (o.length+1+1) 3) (P++(D++[aO])++[fl (o++[t]++[(kk,s,id)])]) (by omega) (by simp at p ⊢;omega) (by simp only[cN,aN,bZ] at *;omega) (.inr ⟨D++[aO],o++[t],(kk,s,id),rfl,by simp,rfl,dd A⟩);refine⟨d,sh',g,?_⟩;rw[aB jA rfl];simp only[go_sem,q,m,a,LB a,w,sN,x,c1,gD,sD,r,C,L,K,J,I];rw[H];exact e
def Pn(so:Nat)(f:List Tk)(e:c[so]?=some (fl f))(h:f.length<=100000)(j:tot f<=1000000):∃ v sh,StP c v sh (nrm f)/\G1 192 [.ss so 0 f.length 3] c=some (v,sh):=by
 obtain⟨v,sh,a,b⟩:=K2 c so f e h f.length 0 [] (.sl .full 3 []) c (by omega) (by simp) (by rw[kc,bZ];omega) (.inl ⟨rfl,rfl,rfl⟩);rw[kc] at a;have a:StP c v sh (nrm f):=a;refine⟨v,sh,a,?_⟩;have d:((0:Nat):Int)=0:=rfl;rw[d] at b;generalize nrm f=g at a;refine aA JT ?_;rcases a with ⟨rfl,rfl,rfl⟩ | ⟨D,o,t,rfl,rfl,rfl,i⟩
 ·simp only[JT,go_sem,b]
 ·simp only[JT,go_sem,b]
def FSt(v:AV)(sh:LL)(f:List Tk):Prop:=(f=[]/\v=.sl .full 3 [])\/(∃ so,v=.ss so 0 f.length 3/\1<=so/\sh[so]?=some (fl f)/\f≠[])
def yx(h:b≠[]):∃ r l,tks b=r::l/\l.length+1=b.length:=by
 cases b with
 | nil=>exact absurd rfl h
 | cons a b=>exact⟨_,_,rfl,by simp [tks]⟩
theorem yy:(tks b).flatten=fl b:=rfl
def app0(h:b≠[])(g:b.length<=100000):gV 3 32 c (some (tks b)) (.sl .full 3 [])=some (.ss c.length 0 b.length 3,c++[fl b]):=by
 obtain⟨r,l,e,f⟩:=yx h;have d:aU 32 (l.length+1)=true:=aL (by decide) (by omega);have a:=yy (b:=b);rw[e] at a ⊢;rw[lC 3 32 3 (by decide),iw d,a,f]
def rnl(bf:Own):eM false 3 c (.sl bf 3 [])=some []:=by simp [eM,jZ]
def nn0:gV 3 32 c (some []) (.sl .full 3 [])=some (.sl .full 3 [],c):=XS 3 32 3 (c:=c)
def k58s(s:FSt h c b)(u:b.length<=10000)(v:tot b+N.2.1.length<=100000):
  ∃ E d sh',(E=[fl [N]]\/E=[aO,fl (b++[N])])/\StP (c++E) d sh' (nrm (b++[N]))/\G1 150 [h,.sl .full 3 [[.int .i64 N.1,.str N.2.1,.int .i64 N.2.2]]] c=some (d,sh'):=by
 rcases s with ⟨rfl,rfl⟩ | ⟨so,rfl,_,r,i⟩
 ·obtain⟨d,sh',e,a⟩:=Pn (c:=c++[fl [N]]) c.length [N] (gD (bd:=c)) (by simp) (by simp only[aN,bZ];omega)
  refine⟨[fl [N]],d,sh',.inl rfl,e,?_⟩;have f:aU 32 1=true:=aL (by decide) (by decide);rw[E9] at a;have g:([N]:List Tk).length=1:=rfl;rw[g] at a;have hd:aJ d=d:=by
   rcases e with ⟨_,rfl,_⟩ | ⟨D,o,t,_,rfl,_,_⟩<;>rfl
  refine aA xV ?_;rcases e with ⟨_,rfl,rfl⟩ | ⟨D,o,t,_,rfl,rfl,_⟩
  ·simp only[xV,go_sem,rnl,nn0,f,ag7,flatten_nil,ka,a]
  ·simp only[xV,go_sem,rnl,nn0,f,ag7,flatten_nil,ka,a]
 ·obtain⟨d,sh',e,a⟩:=Pn (c:=c++[aO]++[fl (b++[N])]) (c++[aO]).length (b++[N]) (gD) (by simp;omega) (by simp only[cN,aN,bZ];omega)
  refine⟨[aO,fl (b++[N])],d,sh',.inr rfl,by rw[show c++[aO,fl (b++[N])]=c++[aO]++[fl (b++[N])] by simp];exact e,?_⟩;have f:aU 32 (b.length+1)=true:=aL (by decide) (by omega);have m:=app0 i (by omega) (c:=c);have q:=zM b;have n:=g9 b;have p:=kV b;have l:b.length*3=(fl b).length:=(fH b).symm;have j:fl b++[[AV.int .i64 N.1,.str N.2.1,.int .i64 N.2.2]].flatten=fl (b++[N]):=by rw[i5];rfl
  have k:(c++[fl b]).length=(c++[aO]).length:=by simp
  have g:(b++[N]).length=b.length+1:=by simp
  rw[g] at a;refine aA xV ?_;rcases e with ⟨_,rfl,rfl⟩ | ⟨D,o,t,_,rfl,rfl,_⟩
  ·simp only[xV,go_sem,r,q,m,gD,sD,f,n,p,l,j,k,a]
  ·simp only[xV,go_sem,r,q,m,gD,sD,f,n,p,l,j,k,a]
def REF(n:Nat)(E:LL):Prop:=∀ c∈E,∀ x∈c,fP n x=true
def M3{j:Nat}(h:n<=j)(a:fP n bv=true):fP j bv=true:=by
 cases bv<;>first | rfl | (simp only[fP,jo] at a ⊢;omega)
def REF.app{n:Nat}{E F:LL}(h:REF n E)(a:REF n F):REF n (E++F):=by
 intro d hd;rcases ng.1 hd with q | q
 ·exact h d q
 ·exact a d q
def ly:REF n []:=λc a=>by cases a
def zS(n:Nat)(h:∀ c∈bd,c=aO):REF n bd:=λc b x a=>by
 rw[h c b] at a;simp only[aO,kj] at a;subst a;rfl
def M2(n:Nat):∀ (f:List Tk),∀ x∈fl f,fP n x=true
 | [],x,a=>by cases a
 | t::f,x,a=>by
  rw[mI] at a;simp only[la] at a;rcases a with rfl | rfl | rfl | a
  ·rfl
  ·rfl
  ·rfl
  ·exact M2 n f x a
def zR(n:Nat):REF n [fl b]:=λc a=>by rw[kj] at a;rw[a];exact M2 n b
def M1(k:Nat):∀ x∈num L k,fP n x=true:=λx a=>by
 simp only[num,la,ad8,ak3] at a;rcases a with rfl | rfl<;>rfl
def REF.rok(h:REF 0 bd):Rok bd:=λl n=>by
 unfold fF;rw[ys,kx];intro c a;rw[kx];intro x b;rcases la.1 (ai3 a) with rfl | a
 ·exact M1 (L:=l) n x b
 ·exact M3 (lv _) (h c a x b)
def REF.rok1(h:REF 0 bd)(m:Nat)(l:List Int)(n:Nat):fF false m (num l n::bd)=true:=by
 unfold fF;rw[ys,kx];intro c a;rw[kx];intro x b;rcases la.1 (ai3 a) with rfl | a
 ·exact M1 (L:=l) n x b
 ·exact M3 (lv _) (h c a x b)
def FR(v:AV)(R:LL)(f:List Tk):Prop:=(f=[]/\v=.sl .full 3 [])\/(∃ so,v=.ss (so+1) 0 f.length 3/\R[so]?=some (fl f)/\f≠[])
def FR.scrub(h:FR bv c b)(k:List Nat):cA k bv=bv:=by
 rcases h with ⟨_,rfl⟩ | ⟨so,rfl,_⟩<;>rfl
def FR.dem(h:FR bv c b):aJ bv=bv:=by
 rcases h with ⟨_,rfl⟩ | ⟨so,rfl,_⟩<;>rfl
def FR.arg(h:FR bv c b):hH true bv=true:=by
 rcases h with ⟨_,rfl⟩ | ⟨so,rfl,_⟩<;>rfl
def FR.fst(h:FR bv bd b)(c:List AV):FSt bv (c::bd) b:=by
 rcases h with ⟨a,d⟩ | ⟨so,a,d,e⟩
 ·exact .inl ⟨a,d⟩
 ·exact .inr ⟨so+1,a,by omega,by simpa using d,e⟩
def Dc{bw:LL}{sh:LL}(h:StP (f::bd++bw) bv sh b)(d:REF 0 bd)(c:REF 0 bw):∃ a,sh=f::a/\REF 0 a/\FR bv a b:=by
 rcases h with ⟨rfl,rfl,rfl⟩ | ⟨D,o,t,rfl,rfl,rfl,e⟩
 ·exact⟨bd++bw,rfl,d.app c,.inl ⟨rfl,rfl⟩⟩
 ·refine⟨bd++bw++D++[fl (o++[t])],rfl,((d.app c).app (zS 0 e)).app (zR 0),.inr ⟨(bd++bw++D).length,?_,gD,by simp⟩⟩
  simp
def VS(l:List Int)(j:REF 0 c)(o:FR h c b)(e:VL b)(x:Tk)(k:b.length<=10000)(m:tot b+x.2.1.length<=100000):
  ∃ w a,REF 0 a/\FR w a (pn b x)/\G0 150 [h,.sl .full 3 [[.int .i64 x.1,.str x.2.1,.int .i64 x.2.2]]] (num l n::c)=some (w,num l n::a):=by
 obtain⟨E,w,sh',i,p,q⟩:=k58s (o.fst (num l n)) (N:=x) k m;have d:REF 0 E:=by
  rcases i with rfl | rfl
  ·exact zR 0
  ·exact REF.app (E:=[aO]) (zS 0 (by simp)) (zR 0)
 obtain⟨a,rfl,g,f⟩:=Dc p j d;rw[HH e] at f;exact⟨w,a,g,f,f9 q⟩
def Su(f:REF 0 bd)(l:FR h bd b)(m:b.length<=10000):
  ∃ w a,REF 0 a/\FR w a (b++[N])/\∀ n,gV 3 32 (num L n::bd) (some [[.int .i64 N.1,.str N.2.1,.int .i64 N.2.2]]) h=some (w,num L n::a):=by
 rcases l with ⟨rfl,rfl⟩ | ⟨so,rfl,e,j⟩
 ·refine⟨.ss (bd.length+1) 0 1 3,bd++[fl [N]],f.app (zR 0),.inr ⟨bd.length,rfl,gD,by simp⟩,λn=>?_⟩
  have d:aU 32 (([]:LL).length+1)=true:=aL (by decide) (by decide);rw[lC 3 32 3 (by decide),iw d];rfl
 ·have k:so<bd.length:=by
   by_cases q:so<bd.length
   ·exact q
   ·rw[ls (by omega)] at e;cases e
  refine⟨.ss (bd.length+1) 0 (b++[N]).length 3,bd.set so aO++[fl (b++[N])],?_,.inr ⟨bd.length,rfl,?_,by simp⟩,λn=>?_⟩
  ·refine REF.app ?_ (zR 0)
   intro c i;rcases mem_or_eq_of_mem_set i with q | q
   ·exact f c q
   ·rw[q];exact zS 0 (bd:=[aO]) (by simp) aO (by simp)
  ·rw[ky (by simp)]
   simp
  ·have d:aU 32 (b.length+1)=true:=aL (by decide) (by omega)
   have g:fl b++[[AV.int .i64 N.1,.str N.2.1,.int .i64 N.2.2]].flatten=fl (b++[N]):=by rw[i5];rfl
   rw[i8 (so+1) b.length 32 3 (by decide),jy,iw d,ac5,e];simp only[jk];rw[iw ⟨g9 b,(fH b).symm,kV b⟩,g,Ec];simp
def at0{u:Bs}(h:1<=u.length):∃ c,u[0]?=some c:=by
 cases u with
 | nil=>simp at h
 | cons c r=>exact⟨c,rfl⟩
def SC:∀ t∈b,t.2.1.length<=tot b:=by
 induction b with
 | nil=>intro t c;cases c
 | cons a b d =>
  intro t c;rw[aN];rcases la.1 c with rfl | h
  ·omega
  ·have:=d t h;omega
def xg(h:tot b<=n)(c:n<=eZ):∀ t∈b,t.2.1.length<=eZ:=λt a=>by have:=SC t a;omega
end Go.Av
namespace Go.Av
open Go.Nt
variable{L:List Int}{c:LL}{n:Nat}
variable [Mx]
attribute [-go_sem] i8 lC
def WD{k:Int}(h:L[n]?=some k):(icl L)[n]?=some (.int .i64 k):=by simp [icl,h]
def Na(h:c[n]?=some (icl L))(bd:LL):(c++bd)[n]?=some (icl L):=by
 have hi:n<c.length:=by
  by_cases q:n<c.length
  ·exact q
  ·rw[ls (by omega)] at h;cases h
 rw[kq hi,h]
def xb(g:AV)(f:∀ k,cA k g=g)(P:LL)(o:Nat)(fr d:List Int)(v:P[o]?=some (icl fr))(x:fr.length=d.length)(A:fr.length<=1000000):∀ (k:Nat) (m:Im),k<=fr.length->(∀ i,mgI m i=lkz (fr.drop k) (d.drop k) i) ->
  ∃ m',(∀ i,mgI m' i=lkz fr d i)/\aC G0 DP (ST [(0,g),(1,.ss o 0 fr.length 1),(2,.sl .no 1 (fG d)),(7,.mp P.length),(8,.int .i64 ((k:Int)-1))] [] (P++[AV.mapv (imr m)]::[]))=some (.ex 0,ST [(0,g),(1,.ss o 0 fr.length 1),(2,.sl .no 1 (fG d)),(7,.mp P.length),(8,.int .i64 (-1)),(22,.bool false)] [] (P++[AV.mapv (imr m')]::[]))
 | 0,m,y,p=>by
  refine⟨m,by simpa using p,?_⟩;have e:((0:Nat):Int)-1 = -1:=rfl;rw[e,aB DP rfl];simp only[go_sem,f]
 | k+1,m,y,p=>by
  have e:((k+1:Nat):Int)-1=(k:Int):=by omega
  have w:0<=(k:Int):=by omega
  have n:(k:Int)<fr.length:=by omega
  have B:IntKind.i64.wrap ((k:Int)-1)=(k:Int)-1:=w6 (by omega);have h:fr[k]?=some fr[k]:=ii (by omega);have j:d[k]?=some d[k]:=ii (by omega);generalize fr[k]=a at h;generalize d[k]=b at j;have E:=WD h;have F:=qQ j;have s:=UZ a b m;have l:=Na v ([AV.mapv (imr m)]::[]);have r:=EP (c:=P) (bd:=imr m) [];have u:=map_set (bd:=P) [AV.mapv (imr m)] [AV.mapv (imr (msI m a b))] []
  obtain⟨m',C,D⟩:=xb g f P o fr d v x A k (msI m a b) (by omega) (λi=>by
   rw[wl,VB h j,p];by_cases q:i=a
   ·subst q;simp
   ·rw[ie q,ie (ad9 q)])
  refine⟨m',C,?_⟩;rw[e,aB DP rfl];simp only[go_sem,f,w,n,l,jp,km,zs,E,F,r,s,u,B];exact D
def Pi(h:AV)(a:∀ k,cA k h=h):aC G0 DP (ST [(0,h),(1,.sl .full 1 []),(2,.sl .no 1 (fG [])),(7,.mp c.length),(8,.int .i64 (-1))] [] (c++[AV.mapv (imr [])]::[]))=some (.ex 0,ST [(0,h),(1,.sl .full 1 []),(2,.sl .no 1 (fG [])),(7,.mp c.length),(8,.int .i64 (-1)),(22,.bool false)] [] (c++[AV.mapv (imr [])]::[])):=by
 rw[aB DP rfl];simp only[go_sem,a]
def H4(P:LL)(f:List Tk)(E:f.length<=100000)(j l:AV)(q:∀ k,cA k j=j)(r:∀ k,cA k l=l)(fr d:List Int)(m:Im)(y:∀ i,mgI m i=lkz fr d i):∀ (k i:Nat) (b:Bool) (o:List Tk),i+k=f.length->o.length<=i ->
  ∃ p,aC G0 DO (ST [(1,j),(2,l),(7,.mp P.length),(8,.int .i64 (-1)),(9,.sl (mdR b) 3 (tks o)),(22,.bool false),(34,.sl .no 3 (tks f)),(35,.int .i64 f.length),(36,.int .i64 i)] [] (P++[AV.mapv (imr m)]::[]))=some (.ex 2,ST [(1,j),(2,l),(7,.mp P.length),(8,.int .i64 (-1)),(9,.sl (mdR p) 3 (tks (o++rC fr d (f.drop i)))),(22,.bool false),(34,.sl .no 3 (tks f)),(35,.int .i64 f.length),(36,.int .i64 f.length),(37,.bool false)] [] (P++[AV.mapv (imr m)]::[]))
 | 0,i,b,o,h,H=>by
  have:i=f.length:=by omega
  subst this;refine⟨b,?_⟩;have e:rC fr d (f.drop f.length)=[]:=by rw[lb];rfl
  rw[e,ka];rw[aB DO rfl];simp only[go_sem,q,r,jm]
 | k+1,i,b,o,h,H=>by
  have hi:i<f.length:=by omega
  have D:(i:Int)<f.length:=by omega
  have C:0<=(i:Int):=by omega
  have F:=wI (n:=i) (by omega)
  have hg:f[i]?=some f[i]:=ii hi;have hd:f.drop i=f[i]::f.drop (i+1):=je hi;generalize f[i]=T at hg hd;have A:=cQ hg;obtain⟨kk,s,id⟩:=T;simp only[] at A;have c69:=c69 kk s id;have a:=VF id m;rw[y] at a;have w:=EP (c:=P) (bd:=imr m) [];have G:mdR true=.own:=rfl;rw[hd,TX];cases x:bC (kk,s,id) with
  | false =>
   rw[x] at c69;rw[lx x];have u:=wY b o (kk,s,id) (by omega);simp only[] at u;obtain⟨p,g⟩:=H4 P f E j l q r fr d m y k (i+1) true (o++[(kk,s,id)]) (by omega) (by simp;omega);refine⟨p,?_⟩;rw[G] at g;rw[aB DO rfl];simp only[go_sem,q,r,D,C,A,F,c69,u,iF];rw[kb] at g;exact g
  | true =>
   rw[x] at c69;cases B:lkz fr d id with
   | none =>
    rw[B] at a;simp only[wn] at a;rw[Aq x B];obtain⟨p,g⟩:=H4 P f E j l q r fr d m y k (i+1) b o (by omega) (by omega);refine⟨p,?_⟩;rw[aB DO rfl];simp only[go_sem,q,r,D,C,A,F,c69,w,a,Nn,kg];exact g
   | some v =>
    rw[B] at a;simp only[jq] at a;rw[Ap x B];have u:=wY b o (kk,s,v) (by omega);simp only[] at u;obtain⟨p,g⟩:=H4 P f E j l q r fr d m y k (i+1) true (o++[(kk,s,v)]) (by omega) (by simp;omega);refine⟨p,?_⟩;rw[G] at g;rw[aB DO rfl];simp only[go_sem,q,r,D,C,A,F,c69,w,a,Nm,u,iF];rw[kb] at g;exact g
def Cn(P:LL)(f:List Tk)(q:f.length<=100000)(v:AV)(fr a:List Int)(w:NV P v fr)(k:fr.length=a.length)(y:fr.length<=1000000)(D:VL (rC fr a f))(B:(rC fr a f).length<=100000)(x:∀ t∈rC fr a f,t.2.1.length<=1000000):∃ m,G0 25 [.sl .no 3 (tks f),v,.sl .no 1 (fG a)] P=some (.sl .no 3 (tks (rC fr a f)),P++[AV.mapv (imr m)]::[]):=by
 have g:=c99 (b:=rC fr a f) B D x;have l:(fG a).length=fr.length:=by rw[eE,k]
 have h:min (fr.length:Int) (fr.length:Int)=fr.length:=by omega
 have E:IntKind.i64.wrap ((fr.length:Int)-1)=(fr.length:Int)-1:=w6 (by omega);have p:((0:Nat):Int)=0:=rfl;have n:mdR false=.full:=rfl;have j:imr []=[]:=rfl;rcases w with ⟨rfl,rfl⟩ | ⟨o,A,rfl,C⟩
 ·have u:a=[]:=js k.symm
  subst u;have e:=Pi (.sl .no 3 (tks f)) (λ_=>rfl) (c:=P);obtain⟨r,d⟩:=H4 P f q (.sl .full 1 []) (.sl .no 1 (fG [])) (λ_=>rfl) (λ_=>rfl) [] [] [] (λi=>rfl) f.length 0 false [] (by omega) (by simp);rw[kc,p,n,cW,kg] at d;rw[j] at e d;refine⟨[],?_⟩;have s:fG []=[]:=rfl;have G:IntKind.i64.wrap (min (0:Int) 0-1) = -1:=by rw[show (min (0:Int) 0-1) = -1 by decide];exact w64 (by decide) (by decide)
  rw[j];rw[s] at e d ⊢;refine aA F25 ?_;simp only[F25,go_sem,jz,e,aD,d,iF,qT,g,G]
 ·obtain⟨m',F,e⟩:=xb (.sl .no 3 (tks f)) (λ_=>rfl) P o fr a C k y fr.length [] (ji _) (λi=>by rw[VC (.inl (ji _))];rfl)
  obtain⟨r,d⟩:=H4 P f q (.ss o 0 fr.length 1) (.sl .no 1 (fG a)) (λ_=>rfl) (λ_=>rfl) fr a m' F f.length 0 false [] (by omega) (by simp);rw[kc,p,n,cW,kg] at d;rw[j] at e;refine⟨m',?_⟩;refine aA F25 ?_;simp only[F25,go_sem,l,h,E,e,aD,d,iF,qT,g]
def Cc(u y:AV)(s0:∀ k,cA k u=u)(D:∀ k,cA k y=y)(N:List Int)(w:AV)(X:N.length<=100000):∀ (k i:Nat) (l:List Int) (v:AV) (sh:LL),i+k=N.length->l.length<=100000+i->NV sh v l->NV sh w N->(∀ o n,v=.ss o 0 n 1->∀ a,w=.ss a 0 N.length 1->o≠a) ->
  ∃ A sh',NV sh' A ((N.drop i).foldl lR l)/\aC G0 X7 (ST [(0,u),(1,y),(6,v),(12,w),(13,.int .i64 N.length),(14,.int .i64 i)] [] sh)=some (.ex 0,ST [(0,u),(1,y),(6,A),(12,w),(13,.int .i64 N.length),(14,.int .i64 N.length),(15,.bool false)] [] sh')
 | 0,i,l,v,sh,h,hl,p,d,r=>by
  have:i=N.length:=by omega
  subst this;refine⟨v,sh,by rw[lb,foldl_nil];exact p,?_⟩;have H:=p.scrub;have sw:=d.scrub;rw[aB X7 rfl];simp only[go_sem,jm,H,sw,s0,D]
 | k+1,i,l,v,sh,h,hl,p,d,r=>by
  have hi:i<N.length:=by omega
  have V:(i:Int)<N.length:=by omega
  have U:0<=(i:Int):=by omega
  have hw:=wI (n:=i) (by omega)
  have hg:N[i]?=some N[i]:=ii hi;have hd:N.drop i=N[i]::N.drop (i+1):=je hi;generalize N[i]=x at hg hd;have Z:=WD hg;have H:=p.scrub;have T:=p.dem;have F:=k105 (L:=l) (by omega) (k:=x);rw[hd,ac6];obtain⟨a,rfl,b⟩:∃ a,w=.ss a 0 N.length 1/\sh[a]?=some (icl N):=by
   rcases d with ⟨q,_⟩ | ⟨a,_,C,R⟩
   ·rw[q] at hi;simp at hi
   ·exact⟨a,C,R⟩
  have g:∃ m,nA sh v=some (.sl m 1 (fG l)):=by
   rcases p with ⟨rfl,rfl⟩ | ⟨o,_,rfl,O⟩
   ·exact⟨_,rfl⟩
   ·refine⟨.no,?_⟩
    show ((sh[o]?).bind λcells=>(dE 0 l.length 1 cells).map λl=>AV.sl .no 1 l)=_;rw[O];simp only[jk,CM,jq]
  obtain⟨md,g⟩:=g;by_cases G:x∈l
  ·have e:lR l x=l:=by unfold lR;rw[iw G]
   rw[jv G] at F;rw[e];obtain⟨A,sh',Q,P⟩:=Cc u y s0 D N _ X k (i+1) l v sh (by omega) (by omega) p d r;refine⟨A,sh',Q,?_⟩;rw[aB X7 rfl];simp only[go_sem,V,U,b,jp,km,zs,Z,hw,F,g,H,T,s0,D];exact P
  ·have e:lR l x=l++[x]:=by unfold lR;rw[ie G]
   rw[jr G] at F;rw[e];obtain⟨E,f,C,R,q3,q4⟩:∃ E f,NV f E (l++[x])/\NV f (.ss a 0 N.length 1) N/\(∀ o n,E=.ss o 0 n 1->∀ j,AV.ss a 0 N.length 1=.ss j 0 N.length 1->o≠j)/\gV 1 8 sh (some [[.int .i64 x]]) v=some (E,f):=by
    have K:a<sh.length:=by
     by_cases q:a<sh.length
     ·exact q
     ·rw[ls (by omega)] at b;cases b
    have B:N≠[]:=λq=>by rw[q] at hi;simp at hi
    rcases p with ⟨rfl,rfl⟩ | ⟨o,h1,rfl,O⟩
    ·refine⟨_,_,.inr ⟨sh.length,by simp,rfl,?_⟩,d.app _,λo n J j s=>?_,I6 (c:=sh) (k:=x)⟩
     ·rw[ky (ji _),ae7];rfl
     ·cases J;cases s;omega
    ·have M:=r o l.length rfl a rfl
     have Y:=PE o (c:=sh) (L:=l) (k:=x) (by omega) O;have el:l.length+1=(l++[x]).length:=by simp
     rw[el] at Y;refine⟨_,_,.inr ⟨sh.length,by simp,rfl,?_⟩,.inr ⟨a,B,rfl,?_⟩,λo2 n J j s=>?_,Y⟩
     ·rw[ky (by simp)];simp
     ·rw[kq (by simpa using K),xm M,b]
     ·cases J;cases s;omega
   have S:=C.scrub;have I:=C.dem;obtain⟨A,sh',Q,P⟩:=Cc u y s0 D N _ X k (i+1) (l++[x]) E f (by omega) (by simp;omega) C R q3;refine⟨A,sh',Q,?_⟩;rw[aB X7 rfl];simp only[go_sem,V,U,b,jp,km,zs,Z,hw,F,g,q4,H,T,S,I,s0,D];exact P
def KU{bv:AV}(h:NV c bv L):H0 false bv=some (.int .i64 L.length):=by
 rcases h with ⟨rfl,rfl⟩ | ⟨o,_,rfl,_⟩<;>rfl
def k60(s t:List Tk)(j:vld s=0)(k:vld t=0):G0 8 [.sl .no 3 (tks s),.sl .no 3 (tks t)] []=some (.tup [.sl .no 3 (tks (i6 s t)),.sl .no 3 (tks (l4 s t))],[]):=by
 have S:=(cG s).1 j;have lt:=(cG t).1 k;have h:=jU j k;obtain⟨I,A⟩:=iG h j;obtain⟨J,B⟩:=nR h k;have T:=HA (e:=s);have U:=HA (e:=t);obtain⟨v,b,a,ao,p⟩:=Co [] s (by omega);rw[kg] at a p;obtain⟨w,m,b1,E,b2⟩:=Co b t (by omega);have C:=a.app m;have i:∀ o n,v=.ss o 0 n 1->∀ d,w=.ss d 0 (cF t).length 1->o≠d:=by
  intro o n c d L
  have:=E d L
  rcases a with ⟨_,q⟩ | ⟨o1,_,q,u⟩
  ·rw[q] at c;cases c
  ·rw[q] at c;cases c
   have:o<b.length:=by
    by_cases z:o<b.length
    ·exact z
    ·rw[ls (by omega)] at u;cases u
   omega
 obtain⟨y,sh',c1,c2⟩:=Cc (.sl .no 3 (tks s)) (.sl .no 3 (tks t)) (λ_=>rfl) (λ_=>rfl) (cF t) w (by omega) (cF t).length 0 (cF s) v (b++m) (by omega) (by omega) C b1 i;have K:((0:Nat):Int)=0:=rfl;rw[kc,IV] at c1;rw[K] at c2;have R:(cnl s t).length<=999:=h;have d1:=c73 (cnl s t).length (by omega);have f:rC (cnl s t) (eK (cnl s t).length) s=i6 s t:=by rw[I,<- zQ];rfl
 have g:rC (cnl s t) (eK (cnl s t).length) t=l4 s t:=by rw[J,<- TY];rfl
 have V:=qH A;have X:=qH B;obtain⟨N,d2⟩:=Cn sh' s (by omega) y (cnl s t) (eK (cnl s t).length) c1 (by rw[hJ]) (by omega) (by rw[f];exact ((cG _).1 A).1) (by rw[f];omega) (by rw[f];exact λx l=>by have:=gG x l;omega);obtain⟨m2,r⟩:=Cn (sh'++[AV.mapv (imr N)]::[]) t (by omega) y (cnl s t) (eK (cnl s t).length) (c1.app _) (by rw[hJ]) (by omega) (by rw[g];exact ((cG _).1 B).1) (by rw[g];omega) (by rw[g];exact λx l=>by have:=gG x l;omega);rw[f] at d2;rw[g] at r;have F:=a.dem;have H:=b1.dem;have G:=c1.dem;have P:=c1.scrub;have O:=a.scrub;have Q:=b1.scrub;have D:=c1.arg;have lw:=KU b1;have M:=KU c1;refine aA F8 ?_;simp only[F8,go_sem,p,b2,F,H,G,P,O,Q,D,lw,M,c2,d1,d2,r]
end Go.Av
namespace Go.Av
open Go.Nt
variable{F:En}{b:List Tk}{co:List Bs}{i u:Bs}{n:Nat}{y:List En}
variable [Mx]
def Ph(a b:List Tk)(f:a.length=b.length)(D:a.length<=4611686018427387904):∀ (k i:Nat),i+k=a.length ->
  (a.drop i=b.drop i->aC G0 rP (ST [(0,.sl .no 3 (tks a)),(1,.sl .no 3 (tks b)),(10,.bool false),(12,.int .i64 a.length),(13,.int .i64 i)] [] [])=some (.ex 0,ST [(0,.sl .no 3 (tks a)),(1,.sl .no 3 (tks b)),(10,.bool false),(12,.int .i64 a.length),(13,.int .i64 a.length),(14,.bool false)] [] [])) /\
  (a.drop i≠b.drop i->∃ B,aC G0 rP (ST [(0,.sl .no 3 (tks a)),(1,.sl .no 3 (tks b)),(10,.bool false),(12,.int .i64 a.length),(13,.int .i64 i)] [] [])=some (.ret,ST B [] [])/\aF .any B 4=.bool false)
 | 0,i,h=>by
  have:i=a.length:=by omega
  subst this;refine⟨λ_=>?_,λq=>absurd (by rw[lb,f,lb]) q⟩;rw[aB rP rfl];simp only[go_sem,jm]
 | k+1,i,h=>by
  have hi:i<a.length:=by omega
  have o:(i:Int)<a.length:=by omega
  have m:0<=(i:Int):=by omega
  have p:=wI (n:=i) (by omega)
  have hg:a[i]?=some a[i]:=ii hi;have hd:a.drop i=a[i]::a.drop (i+1):=je hi;generalize a[i]=T at hg hd;have j:b[i]?=some b[i]:=ii (by omega);have g:b.drop i=b[i]::b.drop (i+1):=je (by omega);generalize b[i]=U at j g;have l:=cQ hg;have c:=cQ j;have x:=Ph a b f D k (i+1) (by omega);rw[hd,g];obtain⟨y,d,i1⟩:=T;obtain⟨A,s,w⟩:=U;simp only[] at l c;by_cases r:((y,d,i1):Tk)=(A,s,w)
  ·cases r
   have e:(d==d)=true:=by simp
   have step:aC G0 rP (ST [(0,.sl .no 3 (tks a)),(1,.sl .no 3 (tks b)),(10,.bool false),(12,.int .i64 a.length),(13,.int .i64 i)] [] [])=aC G0 rP (ST [(0,.sl .no 3 (tks a)),(1,.sl .no 3 (tks b)),(10,.bool false),(12,.int .i64 a.length),(13,.int .i64 (i+1:Nat))] [] []):=by
    conv=>lhs;rw[aB rP rfl]
    simp only[go_sem,o,m,l,c,p,e]
   rw[step];refine⟨λq=>x.1 (by injection q),λq=>x.2 (λz=>q (by rw[z]))⟩
  ·refine⟨λq=>absurd (by injection q) r,λ_=>?_⟩
   by_cases u:y=A
   ·subst u
    by_cases v:d=s
    ·subst v
     have C:¬ i1=w:=λq=>r (by rw[q])
     have e:(d==d)=true:=by simp
     refine Exists.intro ?_ (And.intro ?_ ?_)
     rotate_left 1
     ·rw[aB rP rfl]
      simp only[go_sem,o,m,l,c,p,e,C];rfl
     ·rfl
    ·have e:(d==s)=false:=by simpa using v
     refine Exists.intro ?_ (And.intro ?_ ?_)
     rotate_left 1
     ·rw[aB rP rfl]
      simp only[go_sem,o,m,l,c,p,e,kn,rk];rfl
     ·rfl
   ·refine Exists.intro ?_ (And.intro ?_ ?_)
    rotate_left 1
    ·rw[aB rP rfl]
     simp only[go_sem,o,m,l,c,p,u,qa,kn,rk];rfl
    ·rfl
def k108(bu:List Tk)(i:bu.length<=4611686018427387904):G0 98 [.sl .no 3 (tks bu),.sl .no 3 (tks b)] []=some (.bool (decide (bu=b)),[]):=by
 refine aA F98 ?_;by_cases c:bu.length=b.length
 ·have a:(bu.length:Int)=b.length:=by omega
  obtain⟨d,e⟩:=Ph bu b c i bu.length 0 (by omega);have g:((0:Nat):Int)=0:=rfl;rw[kc,kc,g] at d e;by_cases h:bu=b
  ·rw[jv h]
   simp only[F98,go_sem,aD,a,d h];rw[a] at d;simp only[F98,go_sem,aD,d h]
  ·rw[jr h]
   obtain⟨k,f,j⟩:=e h;rw[a] at f;simp only[F98,go_sem,aD,a,f,j]
 ·have a:¬ (bu.length:Int)=b.length:=by omega
  have h:¬ bu=b:=λq=>c (by rw[q])
  rw[jr h];simp only[F98,go_sem,aD,a]
def k61(a b:List Tk)(c:a.length<=4611686018427387904):G0 52 [.sl .no 3 (tks a),.sl .no 3 (tks b)] []=some (.bool (decide (a=b)),[]):=by
 refine aA F52 ?_;have h:=k108 a (b:=b) c;simp only[F52,go_sem,h]
def cD(e:En):List AV:=[.sl .no 3 (tks e.S),.sl .no 3 (tks e.T),.str e.p,.str e.n,.str e.a,.str e.j,.int .i64 e.c,.int .i64 e.o]
structure BE (e:En):Prop where
 S:e.S.length<=600
 sT:tot e.S<=50000
 T:e.T.length<=600
 tT:tot e.T<=50000
 p:e.p.length<=50000
 n:e.n.length<=50000
 a:e.a.length<=1000
 j:e.j.length<=1000
def BE.lS(h:BE F):F.S.length<=600/\tot F.S<=50000/\∀ t∈F.S,t.2.1.length<=eZ:=
 ⟨h.S,h.sT,xg (n:=50000) h.sT (by decide)⟩
def BE.lT(h:BE F):F.T.length<=600/\tot F.T<=50000/\∀ t∈F.T,t.2.1.length<=eZ:=
 ⟨h.T,h.tT,xg (n:=50000) h.tT (by decide)⟩
def Ji(b:vld F.S=0)(d:vld F.T=0):vE F=(if F.S=[]\/i6 F.S F.T≠F.S\/l4 F.S F.T≠F.T then 1 else
 if uF F.p≠0 then uF F.p else if uF F.n≠0 then uF F.n else
 if ¬ (sJ F.a=true/\sJ F.j=true) then 4 else
 if F.c<0\/1073741824<F.c\/F.o<1\/3<F.o then 1 else 0):=by
 unfold vE;rw[ie (by simp [b]),ie (by simp [d])]
def Be(h:b≠[]):¬ (b.length:Int)=0:=by
 have:b.length≠0:=λq=>h (js q)
 omega
def UU(s:Bs):((s != [])&&!(cU s))=!(sJ s):=by
 unfold sJ;by_cases h:s=[]
 ·subst h;rfl
 ·rw[jr h]
  have:(s != [])=true:=by simpa using h
  rw[this];simp
def k23v(h:BE F)(H:vld F.S=0)(I:vld F.T=0):G0 28 [.agg (cD F)] []=some (.int .i64 (vE F),[]):=by
 obtain⟨l1,l2,Q⟩:=h.lS;obtain⟨X,m2,R⟩:=h.lT;have i:=c46 F.S (by omega) Q;have k:=c46 F.T (by omega) R;rw[H] at i;rw[I] at k;have m:=k60 F.S F.T H I;have b1:=qH (iG (jU H I) H).2;have b2:=qH (nR (jU H I) I).2;have l:=k61 (i6 F.S F.T) F.S (by omega);have a5:=k61 (l4 F.S F.T) F.T (by omega);have V:=h.p;have U:=h.n;have q:=c35 F.p (by omega);have r:=c35 F.n (by omega);have s:=c83 F.a;have u:=c83 F.j;rw[Ji H I];refine aA F28 ?_;by_cases J:F.S=[]
 ·rw[iw (.inl J)]
  have b:((F.S.length:Nat):Int)=0:=by rw[J];rfl
  simp only[F28,cD,go_sem,i,k,m,aD,b]
 have b:=Be J;by_cases K:i6 F.S F.T=F.S
 case neg =>
  rw[iw (.inr (.inl K))];rw[jr K] at l;simp only[F28,cD,go_sem,i,k,m,l,aD,b,kr]
 rw[jv K] at l;by_cases L:l4 F.S F.T=F.T
 case neg =>
  rw[iw (.inr (.inr L))];rw[jr L] at a5;simp only[F28,cD,go_sem,i,k,m,l,a5,aD,b,kr,jt]
 rw[jv L] at a5;rw[ie (by simp [J,K,L])];by_cases M:uF F.p=0
 case neg =>
  rw[iw M];have d:¬ (eV F.p).2.2=0:=M;simp only[F28,cD,go_sem,i,k,m,l,a5,q,aD,b,d,jt];rfl
 have d:(eV F.p).2.2=0:=M;rw[ie (by simp [M])];by_cases N:uF F.n=0
 case neg =>
  rw[iw N];have e:¬ (eV F.n).2.2=0:=N;simp only[F28,cD,go_sem,i,k,m,l,a5,q,r,aD,b,d,e,jt];rfl
 have e:(eV F.n).2.2=0:=N;rw[ie (by simp [N])];have D:=UU F.a;have E:=UU F.j;by_cases O:sJ F.a=true/\sJ F.j=true
 case neg =>
  rw[iw O];by_cases G:sJ F.a=true
  ·have P:sJ F.j=false:=by simpa [G] using O
   rw[G,jt] at D;rw[P,kr] at E;simp only[ir,aa8] at E;by_cases f:(F.a != [])=true
   ·rw[f,jx] at D
    simp only[F28,cD,go_sem,i,k,m,l,a5,q,r,s,u,aD,b,d,e,jt,f,D,E.1,E.2,kr]
   ·have f:(F.a != [])=false:=by simpa using f
    simp only[F28,cD,go_sem,i,k,m,l,a5,q,r,s,u,aD,b,d,e,jt,f,E.1,E.2,kr]
  ·have G:sJ F.a=false:=by simpa using G
   rw[G,kr] at D;simp only[ir,aa8] at D;simp only[F28,cD,go_sem,i,k,m,l,a5,q,r,s,u,aD,b,d,e,jt,D.1,D.2,kr]
 rw[ie (by simp [O])];obtain⟨G,P⟩:=O;rw[G,jt] at D;rw[P,jt] at E;have f:(F.a != [])=false\/((F.a != [])=true/\cU F.a=true):=by
  cases w:(F.a != []) with
  | false=>exact .inl rfl
  | true=>rw[w,jx] at D;exact .inr ⟨rfl,by simpa using D⟩
 have g:(F.j != [])=false\/((F.j != [])=true/\cU F.j=true):=by
  cases w:(F.j != []) with
  | false=>exact .inl rfl
  | true=>rw[w,jx] at E;exact .inr ⟨rfl,by simpa using E⟩
 by_cases v:F.c<0
 ·rw[iw (.inl v)]
  rcases f with f | ⟨f,A⟩<;>rcases g with g | ⟨g,B⟩
  ·simp only[F28,cD,go_sem,i,k,m,l,a5,q,r,s,u,aD,b,d,e,jt,f,g,v]
  ·simp only[F28,cD,go_sem,i,k,m,l,a5,q,r,s,u,aD,b,d,e,jt,f,g,B,v]
  ·simp only[F28,cD,go_sem,i,k,m,l,a5,q,r,s,u,aD,b,d,e,jt,f,A,g,v]
  ·simp only[F28,cD,go_sem,i,k,m,l,a5,q,r,s,u,aD,b,d,e,jt,f,A,g,B,v]
 by_cases y:1073741824<F.c
 ·rw[iw (.inr (.inl y))]
  rcases f with f | ⟨f,A⟩<;>rcases g with g | ⟨g,B⟩
  ·simp only[F28,cD,go_sem,i,k,m,l,a5,q,r,s,u,aD,b,d,e,jt,f,g,v,y]
  ·simp only[F28,cD,go_sem,i,k,m,l,a5,q,r,s,u,aD,b,d,e,jt,f,g,B,v,y]
  ·simp only[F28,cD,go_sem,i,k,m,l,a5,q,r,s,u,aD,b,d,e,jt,f,A,g,v,y]
  ·simp only[F28,cD,go_sem,i,k,m,l,a5,q,r,s,u,aD,b,d,e,jt,f,A,g,B,v,y]
 by_cases C:F.o<1
 ·rw[iw (.inr (.inr (.inl C)))]
  rcases f with f | ⟨f,A⟩<;>rcases g with g | ⟨g,B⟩
  ·simp only[F28,cD,go_sem,i,k,m,l,a5,q,r,s,u,aD,b,d,e,jt,f,g,v,y,C]
  ·simp only[F28,cD,go_sem,i,k,m,l,a5,q,r,s,u,aD,b,d,e,jt,f,g,B,v,y,C]
  ·simp only[F28,cD,go_sem,i,k,m,l,a5,q,r,s,u,aD,b,d,e,jt,f,A,g,v,y,C]
  ·simp only[F28,cD,go_sem,i,k,m,l,a5,q,r,s,u,aD,b,d,e,jt,f,A,g,B,v,y,C]
 by_cases x:3<F.o
 ·rw[iw (.inr (.inr (.inr x)))]
  rcases f with f | ⟨f,A⟩<;>rcases g with g | ⟨g,B⟩
  ·simp only[F28,cD,go_sem,i,k,m,l,a5,q,r,s,u,aD,b,d,e,jt,f,g,v,y,C,x]
  ·simp only[F28,cD,go_sem,i,k,m,l,a5,q,r,s,u,aD,b,d,e,jt,f,g,B,v,y,C,x]
  ·simp only[F28,cD,go_sem,i,k,m,l,a5,q,r,s,u,aD,b,d,e,jt,f,A,g,v,y,C,x]
  ·simp only[F28,cD,go_sem,i,k,m,l,a5,q,r,s,u,aD,b,d,e,jt,f,A,g,B,v,y,C,x]
 rw[ie (by omega)];rcases f with f | ⟨f,A⟩<;>rcases g with g | ⟨g,B⟩
 ·simp only[F28,cD,go_sem,i,k,m,l,a5,q,r,s,u,aD,b,d,e,jt,f,g,v,y,C,x]
 ·simp only[F28,cD,go_sem,i,k,m,l,a5,q,r,s,u,aD,b,d,e,jt,f,g,B,v,y,C,x]
 ·simp only[F28,cD,go_sem,i,k,m,l,a5,q,r,s,u,aD,b,d,e,jt,f,A,g,v,y,C,x]
 ·simp only[F28,cD,go_sem,i,k,m,l,a5,q,r,s,u,aD,b,d,e,jt,f,A,g,B,v,y,C,x]
def k23(e:En)(h:BE e):G0 28 [.agg (cD e)] []=some (.int .i64 (vE e),[]):=by
 obtain⟨l1,l2,g⟩:=h.lS;obtain⟨j,m2,i⟩:=h.lT;have d:=c46 e.S (by omega) g;have f:=c46 e.T (by omega) i;by_cases a:vld e.S=0
 ·by_cases b:vld e.T=0
  ·exact k23v (F:=e) h a b
  ·have c:vE e=vld e.T:=by unfold vE;rw[ie (by simp [a]),iw b]
   rw[c];refine aA F28 ?_;simp only[F28,cD,go_sem,d,f,a,b]
 ·have c:vE e=vld e.S:=by unfold vE;rw[iw a]
  rw[c];refine aA F28 ?_;simp only[F28,cD,go_sem,d,a]
theorem De:Dd b=fmE b:=rfl
def om:dM F=fmE F.S++[10]++F.p++[10]++F.n:=by simp [dM]
def pj:(fmE b).length<=50000:=by
 unfold fmE;split
 ·rename_i h;exact MH h
 ·simp
def k64(e:En)(h:BE e):G0 30 [.agg (cD e)] []=some (.str (dM e),[]):=by
 obtain⟨l1,l2,c⟩:=h.lS;have a:=c32 (b:=e.S) (by omega) c;have l:=pj (b:=e.S);rw[De] at a;have o:=h.p;have m:=h.n;have d:(fmE e.S).length+[(10:UInt8)].length<=140737488355328:=by simp;omega
 have f:(fmE e.S++[10]).length+e.p.length<=140737488355328:=by simp;omega
 have g:(fmE e.S++[10]++e.p).length+[(10:UInt8)].length<=140737488355328:=by simp;omega
 have i:(fmE e.S++[10]++e.p++[10]).length+e.n.length<=140737488355328:=by simp;omega
 have j:(fmE e.S).length<=140737488355327:=by omega
 have k:(fmE e.S++[10]++e.p).length<=140737488355327:=by simp;omega
 rw[om];refine aA F30 ?_;simp only[F30,cD,go_sem,a,d,f,g,i,j,k]
def k24(h:BE F):G0 12 [.agg (cD F)] []=some (.str (bU F),[]):=by
 have a:=k23 F h;have b:=k64 F h;simp only[cD] at a b;unfold bU;refine aA F12 ?_;by_cases q:vE F=0
 ·rw[iw q]
  simp only[F12,cD,go_sem,a,b,q]
 ·rw[ie q]
  simp only[F12,cD,go_sem,a,b,q]
theorem ni:Op.bytesLess i u=ltB i u:=rfl
def Po(s:Bs):G0 112 [.str s] []=some (.bool false,[]):=by
 refine aA Gl ?_;have e:(s != s)=false:=by simp
 simp only[Gl,go_sem,e]
def ens(m:List En):List (List AV):=m.map cD
def kW:(ens y).length=y.length:=by simp [ens]
def LJ(h:y[n]?=some F):(ens y)[n]?=some [.sl .no 3 (tks F.S),.sl .no 3 (tks F.T),.str F.p,.str F.n,.str F.a,.str F.j,.int .i64 F.c,.int .i64 F.o]:=by simp [ens,cD,h]
def okE(p:Option Bs)(e:En):Bool:=decide (vE e=0)&&(match p with | none=>true | some k=>ltB k (dM e))
def B8:Option Bs->List En->Bool
 | _,[]=>true
 | p,e::m=>okE p e&&B8 (some (dM e)) m
def okM(m:List En):Bool:=decide (m.length<=1024)&&B8 none m
def prv(m:List En):Nat->Option Bs
 | 0=>none
 | i+1=>(m[i]?).map dM
def vu(h:y[n]?=some F):prv y (n+1)=some (dM F):=by simp [prv,h]
def Ss(d:Bool)(h:co.length<=1000000):iN false 1 16 (.sl (md d) 1 (cH co)) (.sl .full 1 [[.str i]])=some (.sl .own 1 (cH (co++[i]))):=by
 have a:aU 16 (co.length+1)=true:=aL (by decide) (by omega);rw[bJ (md d) .full (pM d) 1 16 (by decide),dG,jy,iw a];simp [cH]
theorem LC:gF .geq (.str i) (.str u)=some (.bool !(ltB i u)):=rfl
def Og(m:List En)(O:m.length<=2000)(F:∀ e∈m,BE e):∀ (k i:Nat) (b:Bool),i+k=m.length ->
  (B8 (prv m i) (m.drop i)=true->∃ J,aC G0 oY (ST [(4,.sl (md b) 1 (cH ((m.take i).map dM))),(9,.bool false),(10,.sl .no 8 (ens m)),(11,.int .i64 m.length),(12,.int .i64 i)] [] [])=some (.ex 0,ST [(4,.sl (md J) 1 (cH (m.map dM))),(9,.bool false),(10,.sl .no 8 (ens m)),(11,.int .i64 m.length),(12,.int .i64 m.length),(13,.bool false)] [] [])) /\
  (B8 (prv m i) (m.drop i)=false->∃ E M,aC G0 oY (ST [(4,.sl (md b) 1 (cH ((m.take i).map dM))),(9,.bool false),(10,.sl .no 8 (ens m)),(11,.int .i64 m.length),(12,.int .i64 i)] [] [])=some (.ret,ST E M [])/\aF .any E 2=.sl .full 1 []/\aF .any E 3=.bool false)
 | 0,i,b,h=>by
  have:i=m.length:=by omega
  subst this;refine⟨λ_=>⟨b,?_⟩,λq=>by rw[lb] at q;cases q⟩;rw[Ut];rw[aB oY rfl];simp only[go_sem,jm]
 | k+1,i,b,h=>by
  have hi:i<m.length:=by omega
  have w:(i:Int)<m.length:=by omega
  have v:0<=(i:Int):=by omega
  have y:=wI (n:=i) (by omega)
  have hg:m[i]?=some m[i]:=ii hi;have hd:m.drop i=m[i]::m.drop (i+1):=je hi;have G:m.take (i+1)=m.take i++[m[i]]:=by rw[ab7,hg];rfl
  have c:=F _ (xd hi);generalize m[i]=e at hg hd G c;have x:=LJ hg;have g:=k23 e c;have u:=k64 e c;simp only[cD] at g u;have A:=Ss b (co:=(m.take i).map dM) (i:=dM e) (by simp;omega);have s:=Og m O F k (i+1) true (by omega);rw[vu hg,G,af5] at s;have K:md true=.own:=rfl;rw[K] at s;simp only[ju,kh] at s;rw[hd];show ((okE _ _&&_)=true->_)/\((okE _ _&&_)=false->_);by_cases q:vE e=0
  case neg =>
   have:okE (prv m i) e=false:=by unfold okE;rw[jr q];rfl
   rw[this,kn];refine⟨λz=>(by cases z),λ_=>?_⟩;refine Exists.intro ?_ (Exists.intro ?_ (And.intro ?_ (And.intro ?_ ?_)))
   rotate_left 2
   ·rw[aB oY rfl]
    simp only[go_sem,w,v,x,y,g,q,ad6,qs,ms];rfl
   ·rfl
   ·rfl
  have B:(((m.take i).map dM)++[dM e])[i]?=some (dM e):=by
   rw[ky (by simp;omega)];simp [ad7 (show i<=m.length by omega)]
  have H:=gQ B;by_cases D:i=0
  ·have L:okE (prv m i) e=true:=by unfold okE;rw[jv q,D];rfl
   have P:¬ 0<(i:Int):=by omega
   rw[L,jx];have step:aC G0 oY (ST [(4,.sl (md b) 1 (cH ((m.take i).map dM))),(9,.bool false),(10,.sl .no 8 (ens m)),(11,.int .i64 m.length),(12,.int .i64 i)] [] [])=aC G0 oY (ST [(4,.sl .own 1 (cH ((m.take i).map dM++[dM e]))),(9,.bool false),(10,.sl .no 8 (ens m)),(11,.int .i64 m.length),(12,.int .i64 (i+1:Nat))] [] []):=by
    conv=>lhs;rw[aB oY rfl]
    simp only[go_sem,w,v,x,y,g,u,A,q,ad6,kt,qa,cC,P]
   rw[step];exact s
  obtain⟨j,rfl⟩:∃ j,i=j+1:=⟨i-1,by omega⟩
  have d:m[j]?=some m[j]:=ii (by omega);generalize m[j]=f at d;have C:(((m.take (j+1)).map dM)++[dM e])[j]?=some (dM f):=by
   rw[kq (by simp;omega),aa5,mx (by omega),d];rfl
  have I:=gQ C;have l:(0:Int)<((j+1:Nat):Int):=by omega
  have o:(0:Int)<=((j+1:Nat):Int):=by omega
  have p:IntKind.i64.wrap (((j+1:Nat):Int)-1)=(j:Int):=by rw[w6 (by omega)];omega
  have r:0<=(j:Int):=by omega
  have N:prv m (j+1)=some (dM f):=vu d;rw[N];cases a:ltB (dM f) (dM e) with
  | false =>
   have:okE (some (dM f)) e=false:=by unfold okE;simp [a]
   rw[this,kn];refine⟨λz=>(by cases z),λ_=>?_⟩;refine Exists.intro ?_ (Exists.intro ?_ (And.intro ?_ (And.intro ?_ ?_)))
   rotate_left 2
   ·rw[aB oY rfl]
    simp only[go_sem,w,v,x,y,g,u,A,q,ad6,kt,qa,cC,l,o,p,r,H,I,LC,a,kr,d4];rfl
   ·rfl
   ·rfl
  | true =>
   have:okE (some (dM f)) e=true:=by unfold okE;simp [a,q]
   rw[this,jx];have step:aC G0 oY (ST [(4,.sl (md b) 1 (cH ((m.take (j+1)).map dM))),(9,.bool false),(10,.sl .no 8 (ens m)),(11,.int .i64 m.length),(12,.int .i64 (j+1:Nat))] [] [])=aC G0 oY (ST [(4,.sl .own 1 (cH ((m.take (j+1)).map dM++[dM e]))),(9,.bool false),(10,.sl .no 8 (ens m)),(11,.int .i64 m.length),(12,.int .i64 (j+1+1:Nat))] [] []):=by
    conv=>lhs;rw[aB oY rfl]
    simp only[go_sem,w,v,x,y,g,u,A,q,ad6,kt,qa,cC,l,o,p,r,H,I,LC,a,jt,d4]
   rw[step];exact s
def k66(m:List En)(l:m.length<=2000)(k:∀ e∈m,BE e):G0 27 [.sl .no 8 (ens m)] []=some (.tup [.sl .no 1 (cH (if okM m=true then m.map dM else [])),.bool (okM m)],[]):=by
 refine aA F27 ?_;by_cases r:1024<m.length
 ·have a:1024<(m.length:Int):=by omega
  have:okM m=false:=by unfold okM;rw[jr (by omega)];rfl
  rw[this];simp only[F27,go_sem,kW,a,jl]
  try rfl
 have a:¬ 1024<(m.length:Int):=by omega
 have f:okM m=B8 none m:=by unfold okM;rw[jv (by omega),jx]
 rw[f];obtain⟨c,d⟩:=Og m l k m.length 0 false (by omega);have j:((0:Nat):Int)=0:=rfl;have g:md false=.full:=rfl;have h:cH (([]:List En).map dM)=[]:=rfl;have i:prv m 0=none:=rfl;rw[kc,Tv,j,g,h,i] at c d;cases b:B8 none m with
 | true =>
  obtain⟨q,y⟩:=c b;simp only[F27,go_sem,kW,a,y]
 | false =>
  obtain⟨s,M,n,o,p⟩:=d b;simp only[F27,go_sem,kW,a,n,o,p,jl];rfl
def k31(m:List En)(c:m.length<=2000)(b:∀ e∈m,BE e):G0 36 [.sl .no 8 (ens m)] []=some (.bool (okM m),[]):=by
 have a:=k66 m c b;refine aA F36 ?_;simp only[F36,go_sem,a]
def lst(m:List En):Nat->Bs
 | 0=>[]
 | i+1=>match m[i]? with | some e=>bU e | none=>[]
def H5(h:vE F=0):bU F=dM F:=by unfold bU;rw[iw h]
def k113(a b:Bs):G0 67 [.str a,.str b] []=some (.bool (ltB a b),[]):=by
 have c1:=Po a;have c2:=Po b;refine aA F67 ?_;simp only[F67,go_sem,c1,c2,ni]
def Pp(s:Bs):G0 68 [.str s] []=some (.bool false,[]):=by
 refine aA F68 ?_;have e:(s != s)=false:=by simp
 simp only[F68,go_sem,e]
def QY(l:List Bs)(k:Bs)(n:Nat):Prop:=n<=l.length/\∀ h x,l[h]?=some x->ltB x k=decide (h<n)
def U2(a b:Nat)(h:a+b<=1000000):IntKind.i64.wrap ((a:Int)+(b:Int))=(a+b:Nat)/\IntKind.u64.wrap ((a+b:Nat):Int)=(a+b:Nat)/\((a+b:Nat):Int).fdiv (2 ^ (min 1 64:Nat))=(((a+b) / 2:Nat):Int)/\IntKind.i64.wrap (((a+b) / 2:Nat):Int)=(((a+b) / 2:Nat):Int):=by
 refine⟨by rw[w6 (by omega)];rfl,?_,?_,by rw[w6 (by omega)]⟩
 ·show (((a+b:Nat):Int)) % 18446744073709551616=_
  omega
 ·rw[show (min 1 64:Nat)=1 from rfl,af9 _ (by decide)]
  omega
def Ca(l:List Bs)(k:Bs)(h:l.length<=100000)(n:Nat)(e:QY l k n):∀ (d i j:Nat),j-i<=d->i<=n->n<=j->j<=l.length ->
  aC G0 JI (ST [(0,.sl .no 1 (cH l)),(1,.str k),(6,.int .i64 l.length),(7,.int .i64 i),(8,.int .i64 j)] [] [])=some (.ex 0,ST [(0,.sl .no 1 (cH l)),(1,.str k),(6,.int .i64 l.length),(7,.int .i64 n),(8,.int .i64 n),(15,.bool false)] [] [])
 | d,i,j,hd,y,A,B=>by
  by_cases D:i<j
  case neg =>
   have v:i=n:=by omega
   have w:j=n:=by omega
   subst v;subst w;rw[aB JI rfl];simp only[go_sem,jm]
  cases d with
  | zero=>omega
  | succ d =>
   have a:(i:Int)<j:=by omega
   obtain⟨r,m2,s,u⟩:=U2 i j (by omega);have C:(i+j) / 2<l.length:=by omega
   have hg:l[(i+j) / 2]?=some l[(i+j) / 2]:=ii C;generalize l[(i+j) / 2]=x at hg;have b:=e.2 _ _ hg;have o:=gQ hg;have c:=k113 x k;have g:(0:Int)<=(((i+j) / 2:Nat):Int):=by omega
   generalize E:(i+j) / 2=m at *;have p:=wI (n:=m) (by omega)
   by_cases q:m<n
   ·rw[jv q] at b
    have f:=Ca l k h n e d (m+1) j (by omega) (by omega) A B;rw[aB JI rfl];simp only[go_sem,a,r,m2,s,u,g,o,c,b,p];exact f
   ·rw[jr q] at b
    have f:=Ca l k h n e d i m (by omega) y (by omega) (by omega);rw[aB JI rfl];simp only[go_sem,a,r,m2,s,u,g,o,c,b,p];exact f
def k67(h:co.length<=100000)(c:QY co i n):G0 29 [.sl .no 1 (cH co),.str i] []=some (.tup [.int .i64 n,.bool (decide (co[n]?=some i))],[]):=by
 have x:=Ca co i h n c co.length 0 co.length (by omega) (by omega) c.1 (ji _);have g:((0:Nat):Int)=0:=rfl;rw[g] at x;have c2:=Pp i;have b:0<=(n:Int):=by omega
 refine aA F29 ?_;by_cases q:n<co.length
 ·have a:(n:Int)<co.length:=by omega
  have hg:co[n]?=some co[n]:=ii q;generalize co[n]=y at hg;have d:=gQ hg;have c1:=Pp y;rw[hg];by_cases e:y=i
  ·subst e
   rw[jv rfl];simp only[F29,go_sem,dG,x,a,b,d,pk]
  ·have f:(y==i)=false:=by simpa using e
   rw[jr (by simpa using e)];simp only[F29,go_sem,dG,x,a,b,d,f,c1]
 ·have a:¬ (n:Int)<co.length:=by omega
  rw[ls (by omega),jr (by simp)];simp only[F29,go_sem,dG,x,a]
theorem Aj:fF false 2 [[AV.sl Own.no 1 (cH co)],[AV.str i]]=true:=rfl
theorem cap2:[AV.ptr 0 0,AV.ptr 1 0].all (B6 true)=true:=rfl
theorem Zs:Bh 81 [AV.ptr 0 0,AV.ptr 1 0]=some (.fn 81 [.ptr 0 0,.ptr 1 0]):=rfl
def k118(hg:co[n]?=some u):G0 81 [.int .i64 n,.ptr 0 0,.ptr 1 0] [[.sl .no 1 (cH co)],[.str i]]=some (.bool !(ltB u i),[[.sl .no 1 (cH co)],[.str i]]):=by
 have b:=gQ hg;have a:0<=(n:Int):=by omega
 refine aA F81 ?_;simp only[F81,go_sem,a,b,LC,Aj]
def VN(l:List Bs)(k:Bs)(h:l.length<=100000)(n:Nat)(e:QY l k n):∀ (d i j:Nat),j-i<=d->i<=n->n<=j->j<=l.length ->
  aC G0 I9 (ST [(1,.fn 81 [.ptr 0 0,.ptr 1 0]),(5,.int .i64 i),(6,.int .i64 j)] [] [[.sl .no 1 (cH l)],[.str k]])=some (.ex 0,ST [(1,.fn 81 [.ptr 0 0,.ptr 1 0]),(5,.int .i64 n),(6,.int .i64 n),(11,.bool false)] [] [[.sl .no 1 (cH l)],[.str k]])
 | d,i,j,hd,y,A,B=>by
  by_cases D:i<j
  case neg =>
   have v:i=n:=by omega
   have w:j=n:=by omega
   subst v;subst w;rw[aB I9 rfl];simp only[go_sem,jm]
  cases d with
  | zero=>omega
  | succ d =>
   have a:(i:Int)<j:=by omega
   obtain⟨p,m2,r,s⟩:=U2 i j (by omega);have C:(i+j) / 2<l.length:=by omega
   have hg:l[(i+j) / 2]?=some l[(i+j) / 2]:=ii C;generalize l[(i+j) / 2]=x at hg;have b:=e.2 _ _ hg;have c:=k118 (co:=l) (i:=k) (u:=x) hg;have g:(0:Int)<=(((i+j) / 2:Nat):Int):=by omega
   generalize E:(i+j) / 2=m at *;have o:=wI (n:=m) (by omega)
   by_cases q:m<n
   ·rw[jv q] at b
    rw[b,jt] at c;have f:=VN l k h n e d (m+1) j (by omega) (by omega) A B;rw[aB I9 rfl];simp only[go_sem,a,p,m2,r,s,g,c,o,kr];exact f
   ·rw[jr q] at b
    rw[b,kr] at c;have f:=VN l k h n e d i m (by omega) y (by omega) (by omega);rw[aB I9 rfl];simp only[go_sem,a,p,m2,r,s,g,c,o,jt];exact f
def k117(c:co.length<=100000)(a:QY co i n):G0 80 [.int .i64 co.length,.fn 81 [.ptr 0 0,.ptr 1 0]] [[.sl .no 1 (cH co)],[.str i]]=some (.int .i64 n,[[.sl .no 1 (cH co)],[.str i]]):=by
 have x:=VN co i c n a co.length 0 co.length (by omega) (by omega) a.1 (ji _);have b:((0:Nat):Int)=0:=rfl;rw[b] at x;refine aA F80 ?_;simp only[F80,go_sem,x,Aj]
def k74(l:List Bs)(k:Bs)(a:l.length<=100000)(n:Nat)(b:QY l k n):G0 38 [.sl .no 1 (cH l),.str k] []=some (.int .i64 n,[]):=by
 have x:=k117 (co:=l) (i:=k) a (n:=n) b;refine aA F38 ?_;simp only[F38,go_sem,dG,x,Zs,Aj,cap2]
end Go.Av
namespace Go.Av
open Go.Nt
variable{F:En}{f:List AV}{n:Nat}{y:List En}
variable [Mx]
def k85(b:List Tk)(m:Own)(a:b.length<=100000):G0 70 [.sl m 3 (tks b)] []=some (.sl .no 3 (tks b),[]):=by
 refine f9 ?_;show (if 3=3/\aU 32 (tks b).length=true then some (AV.sl .no 3 (tks b),([]:LL)) else none)=_;rw[iw ⟨rfl,by rw[aD];exact aL (by decide) (by omega)⟩]
def k69(e:En)(h:BE e):G0 32 [.agg (cD e)] []=some (.agg (cD e),[]):=by
 obtain⟨l1,l2,c⟩:=h.lS;obtain⟨d,m2,f⟩:=h.lT;have a:=k85 e.S .no (by omega);have b:=k85 e.T .no (by omega);refine aA F32 ?_;simp only[F32,cD,go_sem,a,b]
def cls(m:List En):List AV:=(ens m).flatten
def mK(b:List En):cls (y++b)=cls y++cls b:=by simp [cls,ens]
def vF:cls (F::y)=cD F++cls y:=by simp [cls,ens]
theorem EB:(cD F).length=8:=rfl
def oI:∀ m:List En,(cls m).length=m.length*8
 | []=>rfl
 | e::m=>by rw[vF,jb,oI m,EB,jd,sa];omega
theorem TU:(cD F).all aQ=true:=rfl
def vD:∀ m:List En,(cls m).all aQ=true
 | []=>rfl
 | e::m=>by rw[vF,af7,TU,vD m];rfl
theorem WU:ens (F::y)=cD F::ens y:=rfl
def OV:∀ (m:List En),∀ r∈ens m,r.length=8
 | [],r,h=>by cases h
 | e::m,r,h=>by
  rw[WU] at h;rcases la.1 h with rfl | h
  ·rfl
  ·exact OV m r h
def KJ:cP 8 y.length (cls y)=ens y:=by
 have:=n7 8 (ens y) (OV y)
 rw[kW] at this;exact this
def QC(a d r:List En):dE (a.length*8) d.length 8 (cls (a++d++r))=some (ens d):=by
 rw[mK,mK,<- oI a,wF (by decide) _ _ _ d.length (oI d) (vD d),KJ]
def QE:dE 0 y.length 8 (cls y)=some (ens y):=by
 have:=QC [] y []
 rw[kg,ka] at this;exact this
def UT(h:f.all aQ=true):f.all iE=true:=by
 rw[kx] at h ⊢;intro x a
 have:=h x a
 cases x<;>simp_all [aQ,iE]
def FJ:bX (cls y)=true:=by
 cases y with
 | nil=>rfl
 | cons e y=>rw[vF];rfl
def rD:(List.replicate n aO++[f])[n]?=some f:=by
 rw[ky (by simp)];simp
def rS(bh:List AV):(List.replicate n aO++[f]).set n bh=List.replicate n aO++[bh]:=by
 have h:n=(List.replicate n aO).length:=by simp
 conv=>lhs;rw[show (List.replicate n aO++[f]).set n bh=(List.replicate n aO++[f]).set (List.replicate n aO).length bh by rw[<- h]]
 rw[ae1 _ _ (ji _),ae7];rfl
def rL:(List.replicate n aO++[f]).length=n+1:=by simp
def rN:List.replicate n aO++[aO]=List.replicate (n+1) aO:=by
 rw[replicate_succ']
def Sv(e:En)(k:Nat)(b:y.length<=100000):gV 8 128 (List.replicate k aO++[cls y]) (some [cD e]) (.ss k 0 y.length 8)=some (.ss (k+1) 0 (y.length+1) 8,List.replicate (k+1) aO++[cls (y++[e])]):=by
 have a:aU 128 (y.length+1)=true:=aL (by decide) (by omega);rw[i8 k y.length 128 8 (by decide),jy,iw a,rD];simp only[jk];rw[iw ⟨FJ (y:=y),(oI y).symm,UT (vD y)⟩,rL,rS,rN,mK];simp [cls,ens]
theorem Nd(bv fx c d e f g h:AV):gX 8 [AV.sl Own.full 3 [],AV.sl Own.full 3 [],AV.str [],AV.str [],AV.str [],AV.str [],AV.int IntKind.i64 0,AV.int IntKind.i64 0] 1 [0] [.agg [bv,fx,c,d,e,f,g,h]]=some (.sl .full 8 [[bv,fx,c,d,e,f,g,h]]):=rfl
attribute [-go_sem] i8 uR
def Of(m:List En)(o:m.length<=2000)(f:∀ e∈m,BE e):∀ (k i:Nat),i+k=m.length ->
  aC G0 PR (ST [(3,.ss i 0 i 8),(10,.sl .no 8 (ens m)),(11,.int .i64 m.length),(12,.int .i64 i)] [] (List.replicate i aO++[cls (m.take i)]))=some (.ex 0,ST [(3,.ss m.length 0 m.length 8),(10,.sl .no 8 (ens m)),(11,.int .i64 m.length),(12,.int .i64 m.length),(13,.bool false)] [] (List.replicate m.length aO++[cls m]))
 | 0,i,h=>by
  have:i=m.length:=by omega
  subst this;rw[Ut];rw[aB PR rfl];simp only[go_sem,jm]
 | k+1,i,h=>by
  have hi:i<m.length:=by omega
  have l:(i:Int)<m.length:=by omega
  have j:0<=(i:Int):=by omega
  have q:=wI (n:=i) (by omega)
  have hg:m[i]?=some m[i]:=ii hi;have g:m.take (i+1)=m.take i++[m[i]]:=by rw[ab7,hg];rfl
  have a:=f _ (xd hi);generalize m[i]=e at hg g a;have p:=LJ hg;have d:=k69 e a;simp only[cD] at d;have c:(m.take i).length=i:=by simp;omega
  have b:=Sv (y:=m.take i) e i (by omega);rw[c,<- g] at b;simp only[cD] at b;have r:=Of m o f k (i+1) (by omega);rw[aB PR rfl];simp only[go_sem,l,j,p,q,d,Nd,b];exact r
def k68(f:y.length<=2000)(c:∀ e∈y,BE e):G0 31 [.sl .no 8 (ens y)] []=some (.ss y.length 0 y.length 8,List.replicate y.length aO++[cls y]):=by
 have x:=Of y f c y.length 0 (by omega);have b:((0:Nat):Int)=0:=rfl;have a:List.replicate 0 aO++[cls (y.take 0)]=[[]]:=rfl;rw[b,a] at x;have g:=wI (n:=y.length) (by omega)
 have d:U1 8 [AV.sl Own.full 3 [],AV.sl Own.full 3 [],AV.str [],AV.str [],AV.str [],AV.str [],AV.int IntKind.i64 0,AV.int IntKind.i64 0] 128 [] (.int .i64 0) (.int .i64 (y.length+1:Nat))=some (.ss 0 0 0 8,[[]]):=by
  rw[uR,iw ⟨by decide,by omega,by omega,by omega,by decide,rfl⟩];rfl
 refine aA F31 ?_;simp only[F31,go_sem,kW,g,d,x]
end Go.Av
namespace Go.Av
open Go.Nt
variable{F:En}{i:Bs}{m y:List En}
variable [Mx]
def nH(h:VE F):dM F=bU F:=(H5 ((rW F).2 h)).symm
def DH:∀ (m:List En) (k:Bs),B8 (some k) m=true↔(∀ e∈m,VE e)/\Sr m/\∀ e∈m,ltB k (bU e)=true
 | [],k=>by simp [B8,Sr]
 | e::m,k=>by
  show (okE _ _&&_)=true↔_;rw[ir,DH m (dM e)];unfold okE;simp only[ir,jo];constructor
  ·rintro ⟨⟨d,b⟩,f,h,g⟩
   have c:=(rW e).1 d;rw[nH c] at b g;refine⟨λx a=>?_,ae0.2 ⟨λx a=>g x a,h⟩,λx a=>?_⟩
   ·rcases la.1 a with rfl | a
    ·exact c
    ·exact f x a
   ·rcases la.1 a with rfl | a
    ·exact b
    ·exact wJ _ _ _ b (g x a)
  ·rintro ⟨d,b,f⟩
   have c:=d e (wa ..);rw[nH c];obtain⟨i,j⟩:=ae0.1 b;exact⟨⟨(rW e).2 c,f e (wa ..)⟩,λx a=>d x (xa _ a),j,i⟩
def RH:B8 none y=true↔Mem y:=by
 cases y with
 | nil=>simp [B8,EN]
 | cons e y =>
  show (okE _ _&&_)=true↔_;rw[ir,DH y (dM e)];unfold okE;simp only[kv,jo];constructor
  ·rintro ⟨c,g,h,d⟩
   have b:=(rW e).1 c;rw[nH b] at d;refine⟨λx a=>?_,ae0.2 ⟨λx a=>d x a,h⟩⟩;rcases la.1 a with rfl | a
   ·exact b
   ·exact g x a
  ·rintro ⟨c,f⟩
   have b:=c e (wa ..);rw[nH b];obtain⟨i,j⟩:=ae0.1 f;exact⟨(rW e).2 b,λx a=>c x (xa _ a),j,i⟩
def uJ:okM y=true↔y.length<=1024/\Mem y:=by
 unfold okM;rw[ir,RH,jo]
def plc(m:List En)(k:Bs):Nat:=(bel k m).length
def QR(h:Sr y):∃ r,y=bel i y++r/\∀ e∈r,ltB (bU e) i=false:=by
 cases hg:j8 y i with
 | none =>
  refine⟨abv i y,sC h hg,λe a=>?_⟩;exact nG (uS.1 a).2
 | some x =>
  refine⟨x::abv i y,lE h hg,λe a=>?_⟩;rcases la.1 a with rfl | a
  ·rw[(nL hg).2];exact uT i
  ·exact nG (uS.1 a).2
def mem_map(h:Mem y):y.map dM=y.map bU:=ad5 λe a=>nH (h.1 e a)
def K0(h:Mem m)(k:Bs):QY (m.map bU) k (plc m k):=by
 obtain⟨r,e,d⟩:=QR h.2 (i:=k);have c:(bel k m).length<=m.length:=by
  have:=pz List.length e
  rw[jb] at this;omega
 refine⟨by rw[zt];exact c,λi x b=>?_⟩;rw[aa5] at b;obtain⟨y,a,rfl⟩:=jf.1 b;unfold plc;by_cases q:i<(bel k m).length
 ·rw[jv q]
  rw[e,kq q] at a;exact (EO.1 (ab4 a)).2
 ·rw[jr q]
  rw[e,ky (by omega)] at a;exact d y (ab4 a)
def sG{m:List En}(h:Mem m)(k:Bs):plc m k<=m.length:=by have:=(K0 h k).1;simpa using this
def FT(h:Mem y)(hg:j8 y i=some F):y[plc y i]?=some F:=by
 have e:=lE h.2 hg
 have:(bel i y++F::abv i y)[(bel i y).length]?=some F:=by simp
 unfold plc;rw[<- e] at this;exact this
def PC(h:Mem m)(hg:j8 m i=none):∀ y,m[plc m i]?=some y->bU y≠i:=by
 intro y a q
 have:=IA h.2 (ab4 a)
 rw[q,hg] at this;cases this
def WJ(m:List En)(k:Bs):Int:=if okM m=true then (match j8 m k with | some _=>(plc m k:Nat) | none=>-1) else -1
def k35(u:m.length<=2000)(r:∀ e∈m,BE e):G0 14 [.sl .no 8 (ens m),.str i] []=some (.int .i64 (WJ m i),[]):=by
 have a:=k66 m u r;unfold WJ;refine aA F14 ?_;cases l:okM m with
 | false =>
  rw[l] at a;simp only[jl,kz] at a ⊢;have f:=k74 [] i (by simp) 0 ⟨by simp,λh x A=>by simp at A⟩;simp only[F14,go_sem,a,f,kr]
 | true =>
  rw[l] at a;simp only[kp] at a ⊢;obtain⟨B,g⟩:=(uJ (y:=m)).1 l;have k:=K0 g i;rw[mem_map g] at a;have f:=k74 (m.map bU) i (by simp;omega) (plc m i) k;have o:(0:Int)<=((plc m i:Nat):Int):=by omega
  have v:=sG g i;cases hg:j8 m i with
  | some x =>
   have b:=FT g hg;have j:(m.map bU)[plc m i]?=some i:=by rw[aa5,b];simp [(nL hg).2]
   have n:=gQ j;have w:plc m i<m.length:=by
    by_cases q:plc m i<m.length
    ·exact q
    ·rw[ls (by omega)] at b;cases b
   have d:¬ ((plc m i:Nat):Int)=(m.length:Int):=by omega
   have c:(i != i)=false:=by simp
   simp only[F14,go_sem,a,f,jt,dG,zt,d,o,n,c]
  | none =>
   by_cases q:plc m i<m.length
   ·have b:m[plc m i]?=some m[plc m i]:=ii q
    have p:=PC g hg _ b;generalize m[plc m i]=y at b p;have j:(m.map bU)[plc m i]?=some (bU y):=by rw[aa5,b];rfl
    have n:=gQ j;have d:¬ ((plc m i:Nat):Int)=(m.length:Int):=by omega
    have c:(bU y != i)=true:=by simpa using p
    simp only[F14,go_sem,a,f,jt,dG,zt,d,o,n,c]
   ·have s:((plc m i:Nat):Int)=(m.length:Int):=by omega
    simp only[F14,go_sem,a,f,jt,dG,zt,s]
end Go.Av
namespace Go.Av
open Go.Nt
variable{F:En}{y:List En}
variable [Mx]
attribute [-go_sem] i8 uR
def t8(m:List En)(e:En):Int:=if okM m=true then (if vE e=0 then (if j8 m (bU e)=none/\1024<=m.length then 3 else 0) else vE e) else 1
def EF(m:List En)(e:En):List En:=if t8 m e=0 then pJ m e else []
def UA(h:okM y=false):t8 y F=1/\EF y F=[]:=by
 have:t8 y F=1:=by unfold t8;rw[h];rfl
 exact⟨this,by unfold EF;rw[this];rfl⟩
def T8(h:okM y=true)(a:vE F≠0):t8 y F=vE F/\EF y F=[]:=by
 have:t8 y F=vE F:=by unfold t8;rw[iw h,ie a]
 exact⟨this,by unfold EF;rw[this,ie a]⟩
def T7(h:okM y=true)(b:vE F=0)(hg:j8 y (bU F)=none)(a:1024<=y.length):t8 y F=3/\EF y F=[]:=by
 have:t8 y F=3:=by unfold t8;rw[iw h,iw b,iw ⟨hg,a⟩]
 exact⟨this,by unfold EF;rw[this];rfl⟩
def zX(h:okM y=true)(a:vE F=0)(hg:¬ (j8 y (bU F)=none/\1024<=y.length)):t8 y F=0/\EF y F=pJ y F:=by
 have:t8 y F=0:=by unfold t8;rw[iw h,iw a,ie hg]
 exact⟨this,by unfold EF;rw[this];rfl⟩
def me(a:Mem y){iq:En}(hg:j8 y (bU F)=some iq):y.take (plc y (bU F))++[F]++y.drop (plc y (bU F)+1)=pJ y F:=by
 have b:=lE a.2 hg;unfold pJ plc;generalize bel (bU F) y=B at *;generalize abv (bU F) y=A at *;subst b;simp
def mf(a:Mem y)(hg:j8 y (bU F)=none):y.take (plc y (bU F))++[F]++y.drop (plc y (bU F))=pJ y F:=by
 have b:=sC a.2 hg;unfold pJ plc;generalize bel (bU F) y=B at *;generalize abv (bU F) y=A at *;subst b;simp
def Au(b:Mem y){i:Bs}(hg:j8 y i=some F):plc y i<y.length:=by
 have a:=FT b hg;by_cases q:plc y i<y.length
 ·exact q
 ·rw[ls (by omega)] at a;cases a
end Go.Av
namespace Go.Av
open Go.Nt
variable{F:En}{n:Nat}{y:List En}
variable [Mx]
attribute [-go_sem] i8 uR
def wV(i:Nat):cls y=cls (y.take i)++cls (y.drop i):=by rw[<- mK,ye]
def OZ:cls [F]=cD F:=by simp [cls,ens]
def zG(h:n<=y.length):(cls (y.take n)).length=n*8:=by rw[oI,tr,ad7 h]
def UB(hi:n<y.length):gR (n*8) (cD F) (cls y)=some (cls (y.take n++[F]++y.drop (n+1))):=by
 have hd:y.drop n=y[n]::y.drop (n+1):=je hi
 have:=pK (cls (y.take n)) (cls (y.drop n)) (cD F) (by rw[oI,EB,kl];omega)
 rw[zG (by omega),<- wV] at this;rw[this,hd,vF,EB,mK,mK,OZ]
 congr 2
def lc(hi:n<y.length):(y.take n++[F]++y.drop (n+1)).length=y.length:=by simp;omega
def oy(hi:n<=y.length):(y.take n++[F]++y.drop n).length=y.length+1:=by simp;omega
def VZ(hi:n<=y.length):H8 8 n (cls y) [cD F]=cls (y.take n++[F]++y.drop n):=by
 have a:(cls y).take (n*8)=cls (y.take n):=by
  rw[wV (y:=y) n,<- zG hi,ah1]
 have b:(cls y).drop (n*8)=cls (y.drop n):=by
  conv=>lhs;rw[wV (y:=y) n]
  rw[<- zG hi,ae3]
 unfold H8;rw[a,b,mK,mK,OZ];simp
def k70(i:y.length<=2000)(k:Nat)(hi:n<=y.length):G0 33 [.ss k 0 y.length 8,.int .i64 n,.sl .full 8 [cD F]] (List.replicate k aO++[cls y])=some (.ss (k+1) 0 (y.length+1) 8,List.replicate (k+1) aO++[cls (y.take n++[F]++y.drop n)]):=by
 by_cases q:n<y.length
 ·refine f9 ?_
  show ((List.replicate k aO++[cls y])[k]?).bind (λcells=>if 8=8/\8=8/\xM 8 128 y.length (n:Int) cells [cD F]=true then some (AV.ss (List.replicate k aO++[cls y]).length 0 (y.length+([]:LL).length+1) 8,(List.replicate k aO++[cls y]).set k aO++[H8 8 (n:Int).toNat cells [cD F]]) else none)=_;rw[rD];simp only[jk];have a:xM 8 128 y.length (n:Int) (cls y) [cD F]=true:=by
   unfold xM;simp only[ir,jo];refine⟨⟨⟨⟨⟨by omega,by omega,(oI y).symm⟩,vD y⟩,rfl⟩,rfl⟩,?_⟩;simp only[jy]
   constructor<;>omega
  rw[iw ⟨trivial,trivial,a⟩,rL,rS,rN,jp,VZ (y:=y) (n:=n) (F:=F) (by omega)];rfl
 ·have d:n=y.length:=by omega
  subst d;have a:xM 8 128 y.length (y.length:Int) (cls y) [cD F]=false:=by
   have h:¬ (0<=(y.length:Int)/\(y.length:Int)<y.length/\y.length*8=(cls y).length):=λz=>by omega
   unfold xM;rw[jr h];rfl
  have g:B0 33 [.ss k 0 y.length 8,.int .i64 y.length,.sl .full 8 [cD F]] (List.replicate k aO++[cls y])=none:=by
   show ((List.replicate k aO++[cls y])[k]?).bind (λcells=>if 8=8/\8=8/\xM 8 128 y.length (y.length:Int) cells [cD F]=true then _ else none)=none;rw[rD];simp only[jk,a];rfl
  have c:=Sv (y:=y) F k (by omega);simp only[cD] at c;have e:0<=(y.length:Int):=by omega
  have f:y.take y.length++[F]++y.drop y.length=y++[F]:=by simp
  rw[f];refine aA F33 ?_ g;by_cases j:y.length=0
  ·have b:(y.length:Int)=0:=by omega
   simp only[F33,cD,go_sem,e,c,Wa,ah8,b]
  ·have b:¬ (y.length:Int)=0:=by omega
   simp only[F33,cD,go_sem,e,c,Wa,b,jm,ao1]
def MZ(h:y.length=n):dE 0 n 8 (cls y)=some (ens y):=by rw[<- h];exact QE (y:=y)
def k27(m:List En)(u:m.length<=2000)(v:∀ F∈m,BE F)(s:BE F):G0 9 [.sl .no 8 (ens m),.agg (cD F)] []=some (.tup [.sl .no 8 (ens (EF m F)),.int .i64 (t8 m F)],[]):=by
 have c:=k66 m u v;refine aA F9 ?_;cases a:okM m with
 | false =>
  rw[a] at c;simp only[jl,kz] at c;rw[(UA a).1,(UA a).2];simp only[F9,cD,go_sem,c,kr];rfl
 | true =>
  rw[a] at c;simp only[kp] at c;obtain⟨E,d⟩:=(uJ (y:=m)).1 a;rw[mem_map d] at c;have f:=k23 F s;simp only[cD] at f;by_cases b:vE F=0
  case neg =>
   rw[(T8 a b).1,(T8 a b).2];simp only[F9,cD,go_sem,c,f,jt,ad6,b,qs,ms];rfl
  have g:=k64 F s;rw[<- H5 b] at g;simp only[cD] at g;have h:=k67 (co:=m.map bU) (i:=bU F) (by simp;omega) (n:=plc m (bU F)) (K0 d (bU F));have a5:=k68 (y:=m) u v;have o:=k69 F s;simp only[cD] at o;have A:(0:Int)<=((plc m (bU F):Nat):Int):=by omega
  have j:=sG d (bU F);cases hg:j8 m (bU F) with
  | some x =>
   have q:=Au d hg;have B:((plc m (bU F):Nat):Int)<(m.length:Int):=by omega
   have ex:=FT d hg;have r:(m.map bU)[plc m (bU F)]?=some (bU F):=by rw[aa5,ex];simp [(nL hg).2]
   rw[r,jv rfl] at h;have l:=UB (y:=m) (n:=plc m (bU F)) (F:=F) q;have k:=MZ (lc (F:=F) q);rw[me d hg] at l k;rw[EG _ _ _ (by simp [cD])] at l;simp only[cD] at l;rw[(zX a b (by rw[hg];simp)).1,(zX a b (by rw[hg];simp)).2];simp only[F9,cD,go_sem,c,f,jt,ad6,b,kt,qa,g,h,a5,o,kW,B,A,jp,km,rD,rS,FJ,l,k,lv]
  | none =>
   have r:¬ (m.map bU)[plc m (bU F)]?=some (bU F):=by
    intro z;rw[aa5] at z;obtain⟨y,C,D⟩:=jf.1 z;exact PC d hg _ C D
   rw[jr r] at h;by_cases w:1024<=m.length
   ·have e:1024<=(m.length:Int):=by omega
    rw[(T7 a b hg w).1,(T7 a b hg w).2];simp only[F9,cD,go_sem,c,f,jt,kr,ad6,b,kt,qa,g,h,kW,e];rfl
   ·have e:¬ 1024<=(m.length:Int):=by omega
    have p:=k70 (y:=m) u m.length (n:=plc m (bU F)) (F:=F) j;have k:=MZ (oy (F:=F) j);rw[mf d hg] at p k;simp only[cD] at p;rw[(zX a b (by simp;omega)).1,(zX a b (by simp;omega)).2];simp only[F9,cD,go_sem,c,f,jt,kr,ad6,b,kt,qa,g,h,a5,o,Nd,kW,e,p,rD,k,FJ,lv]
end Go.Av
namespace Go.Av
open Go.Nt
variable{D k:Int}{i:Bs}{y:List En}
variable [Mx]
def GE(e:En):Prop:=VE e/\BE e
def MG(m:List En):Prop:=Mem m/\∀ e∈m,GE e
def MG.nil:MG []:=⟨EN,λe h=>by cases h⟩
def MG.be(h:MG y):∀ e∈y,BE e:=λe a=>(h.2 e a).2
def MG.put(h:MG y){F:En}(a:GE F):MG (pJ y F):=by
 refine⟨HK h.1 a.1,λz b=>?_⟩;rcases yP.1 b with q | q
 ·rw[q];exact a
 ·exact h.2 z q.1
def MG.ok(h:MG y)(a:y.length<=1024):okM y=true:=(uJ (y:=y)).2 ⟨a,h.1⟩
def ek:En:=⟨[(1,[83,97,118,101],0)],[(1,[83,105,99,104,101,114,110],0)],[],[120],[],[],0,1⟩
def f31(b:y.length<=2000)(a:∀ e∈y,BE e):G0 36 [.sl .no 8 (ens y)] []=some (.bool (okM y),[]):=(k31 y b a)
def tkT(t:Tk):List Tk:=if t.1=1 then pV t.2.1 else if t.1=2\/t.1=3\/t.1=4\/t.1=5 then [t] else []
def eN:List Tk->List Tk
 | []=>[]
 | t::l=>tkT t++eN l
def ZB(N:Tk):(tkT N).length<=N.2.1.length+1/\∀ x∈tkT N,x.2.1.length<=N.2.1.length:=by
 unfold tkT;split
 ·have h:=pU N.2.1.length N.2.1
  exact⟨by unfold pV;omega,h.2⟩
 ·split
  ·exact⟨by simp,λx a=>by rw[kj.1 a];exact ji _⟩
  ·exact⟨by simp,λx a=>by cases a⟩
def lD:∀ f:List Tk,(eN f).length<=tot f+f.length/\∀ x∈eN f,x.2.1.length<=tot f
 | []=>⟨by simp [eN,tot],λx a=>by cases a⟩
 | t::l=>by
  have c:=ZB t;have d:=lD l;have e:=aN (N:=t) (b:=l);refine⟨by simp only[eN,jb,jd];omega,λx a=>?_⟩;simp only[eN] at a;rcases ng.1 a with q | q
  ·have:=c.2 x q;omega
  ·have:=d.2 x q;omega
theorem Yi:tkT (1,i,k)=pV i:=rfl
def Yh(h:k=2\/k=3\/k=4\/k=5):tkT (k,i,D)=[(k,i,D)]:=by
 unfold tkT;rw[ie (show ¬ k=1 by omega),iw h]
def Yj(a:¬ k=1)(h:¬ (k=2\/k=3\/k=4\/k=5)):tkT (k,i,D)=[]:=by
 unfold tkT;rw[ie a,ie h]
def Oe(x:LL)(N i:Int):∀ (k:Nat) (s:List UInt8) (md:Own) (out:List Tk),md≠.no->s.length<=k->s.length<=1000000->out.length+s.length<=2000000 ->
  ∃ md',md'≠.no/\aC G0 vU (ST [(3,.sl md 3 (tks out)),(6,.str s),(9,.sl .no 3 x),(10,.int .i64 N),(11,.int .i64 i),(12,.bool true),(17,.bool false),(26,.bool true)] [] [])=some (.ex 3,ST [(3,.sl md' 3 (tks (out++o5 k s))),(6,.str []),(9,.sl .no 3 x),(10,.int .i64 N),(11,.int .i64 i),(12,.bool true),(17,.bool false),(26,.bool true),(31,.bool false)] [] [])
 | 0,s,md,out,b,e,_,f=>by
  have:s=[]:=js (by omega)
  subst this;refine⟨md,b,?_⟩;rw[aB vU rfl];simp only[go_sem,o5,jm]
 | k+1,s,md,out,b,e,l,f=>by
  by_cases a:1<=s.length
  ·have m:=NP s a
   obtain⟨md',c,d⟩:=Oe x N i k (s.drop (nxN s)) .own (out++[(nxK s,s.take (nxN s),0)]) (by decide) (by simp;omega) (by simp;omega) (by simp;omega);have g:(0:Int)<=(nxN s:Int):=by omega
   have h:(nxN s:Int)<=(s.length:Int):=by omega
   have j:aU 32 (out.length+1)=true:=aL (by decide) (by omega);refine⟨md',c,?_⟩;rw[aB vU rfl];simp only[o5,a,kp];rw[kb] at d;simp only[go_sem,PA a,Rk (K:=s) l a,g,h,bJ md _ b 3 32 (by decide),aD,j,DW,iV];exact d
  ·have:s=[]:=js (by omega)
   subst this;refine⟨md,b,?_⟩;rw[aB vU rfl];simp only[go_sem,o5,jm]
def oa(f:List Tk)(l:f.length<=600)(e:∀ t∈f,t.2.1.length<=1000000):∀ (k i:Nat) (md:Own) (out:List Tk),md≠.no->i+k=f.length->out.length+(tot (f.drop i)+(f.drop i).length)<=1000000 ->
  ∃ md',aC G0 xU (ST [(3,.sl md 3 (tks out)),(9,.sl .no 3 (tks f)),(10,.int .i64 f.length),(11,.int .i64 i)] [] [])=some (.ex 0,ST [(3,.sl md' 3 (tks (out++eN (f.drop i)))),(9,.sl .no 3 (tks f)),(10,.int .i64 f.length),(11,.int .i64 f.length),(12,.bool false)] [] [])
 | 0,i,md,out,d,A,c=>by
  have:i=f.length:=by omega
  subst this;refine⟨md,?_⟩;rw[aB xU rfl];simp only[go_sem,jm,lb,eN,ka]
 | k+1,i,md,out,d,A,c=>by
  have h:i<f.length:=by omega
  have j:(i:Int)<f.length:=by omega
  have g:0<=(i:Int):=by omega
  have p:=wI (n:=i) (by omega)
  have hg:f[i]?=some f[i]:=ii h;have hd:f.drop i=f[i]::f.drop (i+1):=je h;have u:=e _ (xd h);obtain⟨a,s,n,C⟩:∃ a s n,f[i]=(a,s,n):=⟨_,_,_,rfl⟩
  rw[C] at hg hd u;have o:=cQ hg;have E:=lD (f.drop (i+1));rw[hd] at c ⊢;rw[aN,jd] at c;simp only[eN] at c ⊢;by_cases c1:a=1
  ·subst c1
   rw[Yi];have F:=pU s.length s;obtain⟨r,m,D⟩:=Oe (tks f) f.length i s.length s md out d (by omega) u (by omega);obtain⟨md',b⟩:=oa f l e k (i+1) r (out++pV s) m (by omega) (by simp only[jb,pV];omega);refine⟨md',?_⟩;rw[kb] at b;rw[aB xU rfl];simp only[go_sem,j,g,p,o,D];exact b
  ·by_cases c2:a=2\/a=3\/a=4\/a=5
   ·rw[Yh c2]
    obtain⟨md',b⟩:=oa f l e k (i+1) .own (out++[(a,s,n)]) (by decide) (by omega) (by simp only[jb,jy];omega);refine⟨md',?_⟩;rw[kb] at b;have B:aU 32 (out.length+1)=true:=aL (by decide) (by omega);rcases c2 with q | q | q | q
    all_goals
     subst q;rw[aB xU rfl];simp only[go_sem,j,g,p,o,Int.reduceEq,bJ md _ d 3 32 (by decide),aD,B,DW,iV];exact b
   ·rw[Yj c1 c2]
    obtain⟨md',b⟩:=oa f l e k (i+1) md out d (by omega) (by omega);refine⟨md',?_⟩;have v:¬ a=2:=λq=>c2 (.inl q)
    have w:¬ a=3:=λq=>c2 (.inr (.inl q))
    have x:¬ a=4:=λq=>c2 (.inr (.inr (.inl q)))
    have y:¬ a=5:=λq=>c2 (.inr (.inr (.inr q)))
    rw[aB xU rfl];simp only[go_sem,j,g,p,o,c1,v,w,x,y,kg];exact b
def k93(f:List Tk)(b:f.length<=600)(c:tot f<=50000):G0 10 [.sl .no 3 (tks f)] []=some (.sl .no 3 (tks (eN f)),[]):=by
 obtain⟨md',a⟩:=oa f b (λt h=>by have:=SC t h;omega) f.length 0 .full [] (by decide) (by omega) (by simp;omega);rw[kc,kg] at a;simp only[go_sem,cW] at a;refine aA F10 ?_;simp only[F10,go_sem,aD,a]
end Go.Av
