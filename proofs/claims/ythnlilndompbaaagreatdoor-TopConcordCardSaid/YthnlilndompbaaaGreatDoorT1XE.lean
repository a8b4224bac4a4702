/- Functions walked, and plain facts. No conditions. -/
import Derived.Test.YthnlilndompbaaaGreatDoorT1XD
open List
set_option linter.all false
set_option maxRecDepth 100000
set_option maxHeartbeats 16000000
def ah7:=@List.takeWhile_cons_of_neg
def al2:=@List.drop_eq_nil_iff
def am2:=@Nat.add_right_comm
namespace Go.Av
open Go.Nt
variable{D id iy k:Int}{N:Tk}{R bd bw c:LL}{U d:Bool}{V e:List It}{b bu:List Tk}{bf m2:Own}{bv:AV}{ch:Tm}{de:It}{dz:List (Nat×AV)}{f:List AV}{fu:Option (AX×AS)}{i u:Bs}{ik:List (Nat×Option (List AV))}{n:Nat}{p:UInt8}{r:List Nat}
variable [Mx]
theorem I0:sX []=0:=rfl
def BA(h:p=32\/p=9):sX (p::i)=sX i+1:=by
 unfold sX;rw[af0 (by rcases h with h | h<;>simp [h])];rfl
def PB(a:¬ p=32)(b:¬ p=9):sX (p::i)=0:=by
 unfold sX;rw[ah7 (by simp [a,b])];rfl
def SJ:AV:=.agg [.str [110,10],.str [116,9],.str [115,32],.str [114,13],.str [92,92],.str [123,123]]
def Ou(s:Bs)(j:s.length<=1000000000):∀ (k i:Nat),i+k=s.length ->
  aC G9 w8 (ST [(0,.str s),(2,.loc 2 0),(6,.int .i64 i),(9,.bool false),(12,.bool false),(18,.bool true),(22,.bool false),(24,SJ),(25,.int .i64 6),(26,.bool false),(39,.bool false)] [(2,some [.int .i64 0,.str [],.int .i64 0])] []) =
   some (.ex 3,ST [(0,.str s),(2,.loc 2 0),(6,.int .i64 ((i+sX (s.drop i):Nat):Int)),(9,.bool false),(12,.bool false),(18,.bool true),(22,.bool false),(24,SJ),(25,.int .i64 6),(26,.bool false),(39,.bool false),(56,.bool false)] [(2,some [.int .i64 0,.str [],.int .i64 0])] [])
 | 0,i,h=>by
  have hi:i=s.length:=by omega
  have a:¬ (i:Int)<s.length:=by omega
  rw[aa6 (by omega),I0,rh];rw[aB w8 rfl];simp only[go_sem,a,SJ]
 | k+1,i,h=>by
  have a:(i:Int)<s.length:=by omega
  have c:0<=(i:Int):=by omega
  have b:=wI (n:=i) (by omega)
  have d:s[i]?=some s[i]:=ii (by omega);have hd:s.drop i=s[i]::s.drop (i+1):=je (by omega);have e:=Ou s j k (i+1) (by omega);simp only[SJ] at e ⊢;by_cases c1:s[i]=32
  ·have f:(s[i].toNat:Int)=32:=by rw[i32];exact c1
   rw[aB w8 rfl];simp only[go_sem,a,c,d,f,b];rw[hd,BA (.inl c1),<- La,am2];exact e
  ·have f:¬ (s[i].toNat:Int)=32:=by rw[i32];exact c1
   by_cases c2:s[i]=9
   ·have g:(s[i].toNat:Int)=9:=by rw[i9];exact c2
    rw[aB w8 rfl];simp only[go_sem,a,c,d,g,b];rw[hd,BA (.inr c2),<- La,am2];exact e
   ·have g:¬ (s[i].toNat:Int)=9:=by rw[i9];exact c2
    rw[aB w8 rfl];simp only[go_sem,a,c,d,f,g];rw[hd,PB c1 c2,rh]
def Xc(c:UInt8)(bc:Bs)(H:bc.length<=1000000):G9 239 [.str (c::bc)] []=some (elV (elR (c::bc)),[]):=by
 have h:(c::bc)[0]?=some c:=rfl;have b:(c::bc)[(0:Int).toNat]?=some c:=rfl
 have e:elR (c::bc)=if c=10 then none else if c=123 then slR bc else if c=92 then (match bc with
   | []=>none
   | d::u=>match kN d with
    | some v=>some ((1,[v],0),2)
    | none=>if d=10 then some ((0,[],0),2+sX u) else none) else some ((1,[c],0),1):=by cases bc<;>rfl
 refine aA JN ?_;rw[e];by_cases c1:c=10
 ·subst c1
  have f:((10:UInt8).toNat:Int)=10:=rfl;rw[iw rfl];simp only[JN,go_sem,h,b,f,elV]
 have J:¬ (c.toNat:Int)=10:=by rw[i10];exact c1
 rw[ie c1];by_cases c2:c=123
 ·subst c2
  have g:=yn 123 bc (by omega);have f:((123:UInt8).toNat:Int)=123:=rfl;rw[iw rfl];cases E:slR bc with
  | none=>rw[E] at g;simp only[elV] at g;simp only[JN,go_sem,h,b,f,g,elV]
  | some p =>
   obtain⟨⟨k,s,i⟩,n⟩:=p;rw[E] at g;simp only[elV,tkR] at g;simp only[JN,go_sem,h,b,f,g,elV,tkR]
 have K:¬ (c.toNat:Int)=123:=by rw[xZ];exact c2
 rw[ie c2];by_cases c3:c=92
 ·subst c3
  have f:((92:UInt8).toNat:Int)=92:=rfl;rw[iw rfl]
  cases bc with
  | nil =>
   have o:((92::([]:Bs)).length:Int)=1:=rfl;simp only[JN,go_sem,h,b,f,o,elV]
  | cons d u =>
   have o:¬ ((u.length+1+1:Nat):Int)<2:=by omega
   have a:(92::d::u)[1]?=some d:=rfl;have R:((110:UInt8).toNat:Int)=110:=rfl;have S:((116:UInt8).toNat:Int)=116:=rfl;have T:((115:UInt8).toNat:Int)=115:=rfl;have U:((114:UInt8).toNat:Int)=114:=rfl;have V:((123:UInt8).toNat:Int)=123:=rfl;have M:=rX 10;have N:=rX 9;have O:=rX 32;have P:=rX 13;have Q:=rX 92;have t5:=rX 123;simp only[];simp only[JN,go_sem,h,b,f,o];by_cases w:d=110
   ·subst w
    rw[aB dL rfl];simp only[go_sem,a,M,elV,tkR,kN]
    try rfl
   have j:¬ (d.toNat:Int)=((110:UInt8).toNat:Int):=by rw[tIx d 110 _ rfl];exact w
   by_cases x:d=116
   ·subst x
    rw[aB dL rfl];simp only[go_sem,a,j];rw[aB dL rfl];simp only[go_sem,a,N,elV,tkR,kN]
    try rfl
   have l:¬ (d.toNat:Int)=((116:UInt8).toNat:Int):=by rw[tIx d 116 _ rfl];exact x
   by_cases y:d=115
   ·subst y
    rw[aB dL rfl];simp only[go_sem,a,j];rw[aB dL rfl];simp only[go_sem,a,l];rw[aB dL rfl];simp only[go_sem,a,O,elV,tkR,kN]
    try rfl
   have m2:¬ (d.toNat:Int)=((115:UInt8).toNat:Int):=by rw[tIx d 115 _ rfl];exact y
   by_cases A:d=114
   ·subst A
    rw[aB dL rfl];simp only[go_sem,a,j];rw[aB dL rfl];simp only[go_sem,a,l];rw[aB dL rfl];simp only[go_sem,a,m2];rw[aB dL rfl];simp only[go_sem,a,P,elV,tkR,kN]
    try rfl
   have q:¬ (d.toNat:Int)=((114:UInt8).toNat:Int):=by rw[tIx d 114 _ rfl];exact A
   by_cases B:d=92
   ·subst B
    rw[aB dL rfl];simp only[go_sem,a,j];rw[aB dL rfl];simp only[go_sem,a,l];rw[aB dL rfl];simp only[go_sem,a,m2];rw[aB dL rfl];simp only[go_sem,a,q];rw[aB dL rfl];simp only[go_sem,a,Q,elV,tkR,kN]
    try rfl
   have F:¬ (d.toNat:Int)=((92:UInt8).toNat:Int):=by rw[tIx d 92 _ rfl];exact B
   by_cases C:d=123
   ·subst C
    rw[aB dL rfl];simp only[go_sem,a,j];rw[aB dL rfl];simp only[go_sem,a,l];rw[aB dL rfl];simp only[go_sem,a,m2];rw[aB dL rfl];simp only[go_sem,a,q];rw[aB dL rfl];simp only[go_sem,a,F];rw[aB dL rfl];simp only[go_sem,a,t5,elV,tkR,kN]
    try rfl
   have I:¬ (d.toNat:Int)=((123:UInt8).toNat:Int):=by rw[tIx d 123 _ rfl];exact C
   rw[aB dL rfl];simp only[go_sem,a,j];rw[aB dL rfl];simp only[go_sem,a,l];rw[aB dL rfl];simp only[go_sem,a,m2];rw[aB dL rfl];simp only[go_sem,a,q];rw[aB dL rfl];simp only[go_sem,a,F];rw[aB dL rfl];simp only[go_sem,a,I];have D:kN d=none:=by
    unfold kN;rw[ie w,ie x,ie y,ie A,ie B,ie C]
   rw[aB dL rfl];by_cases m:d=10
   ·have r:(d.toNat:Int)=10:=by rw[i10];exact m
    have:=Ou (92::d::u) (by simp at H ⊢;omega) u.length 2 (by simp;omega)
    rw[show ((2:Nat):Int)=2 from rfl,show (92::d::u).drop 2=u from rfl] at this;simp only[SJ] at this;simp only[go_sem,a,r,this,D,iw m,elV,tkR]
   ·have r:¬ (d.toNat:Int)=10:=by rw[i10];exact m
    simp only[go_sem,a,r,D,ie m,elV]
 have L:¬ (c.toNat:Int)=92:=by rw[i92];exact c3
 rw[ie c3];have G:=rX c;simp only[JN,go_sem,h,b,J,K,L,G,elV,tkR]
 try rfl
def J0(fm:Int)(c:UInt8)(t:Bs)(h:t.length<=1000000):G9 219 [.int .i64 fm,.str (c::t)] []=some (elV (el fm (c::t)),[]):=by
 have b:=Xd (c:=c) t h;have d:=Xc c t h;have e:=Xb (c:=c) t h;refine aA JO ?_;unfold el;by_cases f:fm=1
 ·subst f
  rw[iw rfl];cases a:elM (c::t) with
  | none=>rw[a] at b;simp only[elV] at b;simp only[JO,go_sem,b,elV]
  | some p =>
   obtain⟨⟨k,s,i⟩,n⟩:=p;rw[a] at b;simp only[elV,tkR] at b;simp only[JO,go_sem,b,elV,tkR]
 rw[ie f];by_cases g:fm=2
 ·subst g
  rw[iw rfl];cases a:elR (c::t) with
  | none=>rw[a] at d;simp only[elV] at d;simp only[JO,go_sem,d,elV]
  | some p =>
   obtain⟨⟨k,s,i⟩,n⟩:=p;rw[a] at d;simp only[elV,tkR] at d;simp only[JO,go_sem,d,elV,tkR]
 rw[ie g];cases a:elS (c::t) with
 | none=>rw[a] at e;simp only[elV] at e;simp only[JO,go_sem,f,g,e,elV]
 | some p =>
  obtain⟨⟨k,s,i⟩,n⟩:=p;rw[a] at e;simp only[elV,tkR] at e;simp only[JO,go_sem,f,g,e,elV,tkR]
def fI(c:List Nat):List (List AV):=c.map λa:Nat=>[AV.int .i64 a]
def aW:(fI r).length=r.length:=zt ..
def cK:fI r++[[.int .i64 n]]=fI (r++[n]):=by simp [fI]
def Stk(v:AV)(sh:LL)(op:List Tk):Prop:=
 (op=[]/\v=.sl .full 3 []/\sh=[])\/(∃ D,v=.ss D.length 0 op.length 3/\sh=D++[fl op])
def Mod(v w:AV)(f:List Tk)(cs:List Nat):Prop:=
 (f=[]/\cs=[]/\v=.sl .full 3 []/\w=.sl .full 1 [])\/(v=.sl .no 3 (tks f)/\w=.sl .own 1 (fI cs))
def au(h:n<=b.length):D5 3 (c++[fl b]) (.ss c.length 0 b.length 3) (.int .i64 n)=some (.ss c.length 0 n 3,c++[fl (b.take n)]):=by
 have a:(fl b).take (n*3)=fl (b.take n):=by
  conv=>lhs;rw[<- ye n b,i5]
  rw[take_append_of_le_length (by rw[fH];simp;omega),Ty (by rw[fH];simp;omega)]
 have d:n*3<=(fl b).length:=by rw[fH];omega
 unfold D5 rB cZ;simp only[uO,gD,km,lv,tn,d,g9,Nat.sub_zero,ai8,jk,jq,ah8,kp,a,sD,ab3,show (1:Nat)<3 from by decide]
def sQ(h:el k i=some (de,n)):de.2.1.length<=n:=by
 have g:∀ {t:Bs} {de:It} {n:Nat},slR t=some (de,n)->de.2.1.length<=n:=by
  intro t de n h;unfold slR at h;cases f:cut 125 t with
  | none=>rw[f] at h;cases h
  | some p=>obtain⟨b,r⟩:=p;rw[f] at h;simp only[] at h;split at h<;>cases h;show b.length<=b.length+2;omega
 have j:∀ {t:Bs} {de:It} {n:Nat},tgR t=some (de,n)->de.2.1.length<=n:=by
  intro t de n h;unfold tgR at h;cases f:cut 62 t with
  | none=>rw[f] at h;cases h
  | some p =>
   obtain⟨b,r⟩:=p;rw[f] at h;simp only[] at h
   split at h<;>cases h
   have:(rtK b).2.length<=b.length:=by unfold rtK;split<;>(try split)<;>simp
   show (rtK b).2.length<=b.length+2;omega
 cases i with
 | nil=>have:=(lQ h).2;simp at this;omega
 | cons c t =>
  unfold el at h
  split at h
  ·rw[elM] at h
   split at h
   ·cases a:tgR t with
    | none=>rw[a] at h;cases h
    | some p =>
     obtain⟨y,m⟩:=p;rw[a] at h;simp only[] at h
     split at h<;>cases h
     exact j a
   split at h
   ·unfold rfR at h
    repeat' split at h
    all_goals (cases h;try decide)
   split at h
   ·exact g h
   ·cases h;simp
  split at h
  ·have e:elR (c::t)=if c=10 then none else if c=123 then slR t else if c=92 then (match t with
    | []=>none
    | d::u=>match kN d with
     | some v=>some ((1,[v],0),2)
     | none=>if d=10 then some ((0,[],0),2+sX u) else none) else some ((1,[c],0),1):=by cases t<;>rfl
   rw[e] at h
   split at h
   ·cases h
   split at h
   ·exact g h
   split at h
   ·cases t with
    | nil=>cases h
    | cons d u =>
     simp only[] at h;cases a:kN d with
     | some v=>rw[a] at h;cases h;simp
     | none=>rw[a] at h;simp only[] at h;split at h<;>cases h;simp
   ·cases h;simp
  ·rw[elS] at h
   split at h
   ·split at h<;>cases h;simp
   split at h
   ·split at h
    ·cases h;simp
    ·exact g h
   ·cases h;simp
def SD(fm:Int)(s:Bs)(d e b:AV)(a c:Nat)(id:Int)(sh:LL):AS:=ST [(0,.int .i64 fm),(1,.str s),(8,d),(9,e),(10,b),(11,.int .i64 a),(12,.int .i64 c),(13,.int .i64 id)] [] sh
def F2(r:Option (AX×AS)):Prop:=∃ a b sh' c e,r=some (.ret,ST a b sh')/\aF .any a 4=.sl .full 3 []/\aF .any a 5=.sl .full 1 []/\aF .any a 6=.int .i64 c/\aF .any a 7=.int .i64 e/\e≠0
def jV(h:fu=some (.ret,ST dz ik c))(h4:aF .any dz 4=.sl .full 3 [])(h5:aF .any dz 5=.sl .full 1 [])(h6:aF .any dz 6=.int .i64 k)(h7:aF .any dz 7=.int .i64 D)(hne:D≠0):F2 fu:=⟨dz,ik,c,k,D,h,h4,h5,h6,h7,hne⟩
def Fa(fm:Int)(s:Bs)(r:Option (AX×AS))(d:Option (List It×List Nat)):Prop:=
 (d=none->F2 r\/∃ f b a,∃ e:Nat,∃ id sh op,op≠[]/\Stk b sh op/\r=some (.ex 0,ST [(0,.int .i64 fm),(1,.str s),(8,f),(9,b),(10,a),(11,.int .i64 s.length),(12,.int .i64 e),(13,.int .i64 id),(21,.bool false)] [] sh)) /\
 (∀ g c,d=some (g,c)->∃ f b a sh id cs,∃ e:Nat,Mod f a g cs/\Stk b sh []/\c=cs++[e]/\cs.length<=1024/\r=some (.ex 0,ST [(0,.int .i64 fm),(1,.str s),(8,f),(9,b),(10,a),(11,.int .i64 s.length),(12,.int .i64 e),(13,.int .i64 id),(21,.bool false)] [] sh))
structure InD (s:Bs) (f op:List It) (id:Int) (cs:List Nat) (a:Nat):Prop where
 fv:FV f op id
 idl:id<=((tg f).length:Int)
 fl:f.length<=512
 cl:cs.length<=1024
 tl:tot f<=a
 opl:op.length<=cs.length
 ol:∀ t∈op,t.2.1.length<=50000
def Qs(fm:Int)(s:Bs)(b c a:AV)(f op:List It)(d:Nat)(id:Int)(sh:LL)(g:Mod b a f r)(e:Stk c sh op):
  aC G9 cE (SD fm s b c a s.length d id sh)=some (.ex 0,ST [(0,.int .i64 fm),(1,.str s),(8,b),(9,c),(10,a),(11,.int .i64 s.length),(12,.int .i64 d),(13,.int .i64 id),(21,.bool false)] [] sh):=by
 have h:¬ (s.length:Int)<s.length:=by omega
 unfold SD;rcases g with ⟨rfl,rfl,rfl,rfl⟩ | ⟨rfl,rfl⟩<;>rcases e with ⟨rfl,rfl,rfl⟩ | ⟨D,rfl,rfl⟩<;>rw[aB cE rfl]<;>simp only[go_sem,h]
def Nb(f g bv:AV)(a n:Nat)(o:Mod f bv e r)(m:Stk g c V)(j:a<i.length)(q:i.length<=50000)(l:el k (i.drop a)=none):
  F2 (aC G9 cE (SD k i f g bv a n iy c)):=by
 have p:(a:Int)<i.length:=by omega
 have hd:i.drop a=i[a]::i.drop (a+1):=je j;have b:=J0 k i[a] (i.drop (a+1)) (by simp;omega);rw[<- hd,l] at b;simp only[elV] at b;have d:=ss1 i a (by omega);unfold SD;rcases o with ⟨rfl,rfl,rfl,rfl⟩ | ⟨rfl,rfl⟩<;>rcases m with ⟨rfl,rfl,rfl⟩ | ⟨D,rfl,rfl⟩
 all_goals
  apply jV
  case h =>
   rw[aB cE rfl];simp only[go_sem,p,d,b];rfl
  all_goals first | rfl | decide
def Rt(g l h:AV)(a j:Nat)(w:Mod g h e r)(v:Stk l c V)(s:a<u.length)(A:u.length<=50000)(p:el iy (u.drop a)=some (de,n))(m:de.1=0):
  aC G9 cE (SD iy u g l h a j id c)=aC G9 cE (SD iy u g l h (a+n) j id c):=by
 have x:(a:Int)<u.length:=by omega
 have hd:u.drop a=u[a]::u.drop (a+1):=je s;have b:=J0 iy u[a] (u.drop (a+1)) (by simp;omega);have o:=lQ p;rw[<- hd,p] at b;have q:=o.2.2;rw[kl] at q;obtain⟨k,t,i⟩:=de;simp only at m;subst m;simp only[elV,tkR] at b;have f:=ss1 u a (by omega);have y:IntKind.i64.wrap ((a:Int)+(n:Int))=(a+n:Nat):=by rw[w6 (by omega)];rfl
 have d:¬ (n:Int)=0:=by have:=o.2.1;omega
 unfold SD;rcases w with ⟨rfl,rfl,rfl,rfl⟩ | ⟨rfl,rfl⟩<;>rcases v with ⟨rfl,rfl,rfl⟩ | ⟨D,rfl,rfl⟩
 all_goals
  conv=>lhs;rw[aB cE rfl]
  simp only[go_sem,x,f,b,d,y]
def Ki(I J bv:AV)(a j:Nat)(O:Mod I bv e r)(N:Stk J c V)(S:a<u.length)(Z:u.length<=50000)(H:el iy (u.drop a)=some (de,n))(hi:InD u e V id r a)(Q:de.1=1\/de.1=5):
  (512<(pn e de).length\/1024<=r.length->F2 (aC G9 cE (SD iy u I J bv a j id c))) /\
  (¬ (512<(pn e de).length\/1024<=r.length)->∃ E F p sh',Mod E p (pn e de) (r++[j])/\Stk F sh' V/\aC G9 cE (SD iy u I J bv a j id c)=aC G9 cE (SD iy u E F p (a+n) (a+n) id sh')):=by
 have v:(a:Int)<u.length:=by omega
 have hd:u.drop a=u[a]::u.drop (a+1):=je S;have o:=J0 iy u[a] (u.drop (a+1)) (by simp;omega);have L:=lQ H;have G:=sQ H;rw[<- hd,H] at o;have R:=L.2.2;rw[kl] at R;have m:=ss1 u a (by omega);have w:IntKind.i64.wrap ((a:Int)+(n:Int))=(a+n:Nat):=by rw[w6 (by omega)];rfl
 have l:¬ (n:Int)=0:=by have:=L.2.1;omega
 have hid:id<=512:=by have:=hi.idl;have:=xF e;have:=hi.fl;omega
 have M:=hi.fv.i0;have U:=hi.fl;have T:=hi.cl;have X:=hi.tl;have P:=hi.opl;have d:=up (qu hi.fv.vl de (by omega) (by omega)) rfl;have s:=(o9 e de).2;generalize pn e de=g at d s ⊢;obtain⟨k,t,i⟩:=de;simp only at Q d G s;simp only[elV,tkR] at o;have x:¬ k=0:=by omega
 have y:¬ k=2:=by omega
 have B:¬ k=4:=by omega
 have A:¬ k=3:=by omega
 have K:aU 8 (r.length+1)=true:=aL (by decide) (by omega);have C:aU 8 1=true:=by decide
 unfold SD;constructor
 ·intro q
  rcases O with ⟨rfl,rfl,rfl,rfl⟩ | ⟨rfl,rfl⟩
  ·simp only[jz] at q s;omega
  rcases N with ⟨rfl,rfl,rfl⟩ | ⟨D,rfl,rfl⟩
  ·apply jV
   case h =>
    rw[aB cE rfl];by_cases Y:512<g.length
    ·have b:512<(g.length:Int):=by omega
     simp only[go_sem,b,v,m,o,l,x,y,A,B,w,d,aD,aW,cK]
     try rfl
    ·have b:¬ 512<(g.length:Int):=by omega
     have f:1024<=(r.length:Int):=by omega
     simp only[go_sem,b,f,v,m,o,l,x,y,A,B,w,d,aD,aW,cK]
     try rfl
   case h4=>rfl
   case h5=>rfl
   case h6=>rfl
   case h7=>rfl
   case hne=>decide
  ·apply jV
   case h =>
    rw[aB cE rfl];by_cases Y:512<g.length
    ·have b:512<(g.length:Int):=by omega
     simp only[go_sem,b,v,m,o,l,x,y,A,B,w,d,aD,aW,cK]
     try rfl
    ·have b:¬ 512<(g.length:Int):=by omega
     have f:1024<=(r.length:Int):=by omega
     simp only[go_sem,b,f,v,m,o,l,x,y,A,B,w,d,aD,aW,cK]
     try rfl
   case h4=>rfl
   case h5=>rfl
   case h6=>rfl
   case h7=>rfl
   case hne=>decide
 ·intro q
  have b:¬ 512<(g.length:Int):=by omega
  have f:¬ 1024<=(r.length:Int):=by omega
  rcases O with ⟨rfl,rfl,rfl,rfl⟩ | ⟨rfl,rfl⟩
  all_goals
   try simp only[cW,jz] at d f
   rcases N with ⟨rfl,rfl,rfl⟩ | ⟨D,rfl,rfl⟩
   ·refine⟨_,_,_,_,.inr ⟨rfl,rfl⟩,.inl ⟨rfl,rfl,rfl⟩,?_⟩
    conv=>lhs;rw[aB cE rfl]
    simp only[go_sem,b,f,K,C,v,m,o,l,x,y,A,B,w,d,aD,aW,cK]
    try rfl
   ·refine⟨_,_,_,_,.inr ⟨rfl,rfl⟩,.inr ⟨D,rfl,rfl⟩,?_⟩
    conv=>lhs;rw[aB cE rfl]
    simp only[go_sem,b,f,K,C,v,m,o,l,x,y,A,B,w,d,aD,aW,cK]
    try rfl
def Kz(F G bv:AV)(a j:Nat)(M:Mod F bv e r)(L:Stk G c V)(P:a<u.length)(U:u.length<=50000)(E:el iy (u.drop a)=some (de,n))(hi:InD u e V id r a)(H:de.1=4):
  (512<(pn e (4,de.2.1,id+1)).length\/1024<=r.length->F2 (aC G9 cE (SD iy u F G bv a j id c))) /\
  (¬ (512<(pn e (4,de.2.1,id+1)).length\/1024<=r.length)->∃ A B s sh',Mod A s (pn e (4,de.2.1,id+1)) (r++[j])/\Stk B sh' V/\aC G9 cE (SD iy u F G bv a j id c)=aC G9 cE (SD iy u A B s (a+n) (a+n) (id+1) sh')):=by
 have w:(a:Int)<u.length:=by omega
 have hd:u.drop a=u[a]::u.drop (a+1):=je P;have p:=J0 iy u[a] (u.drop (a+1)) (by simp;omega);have J:=lQ E;have C:=sQ E;rw[<- hd,E] at p;have O:=J.2.2;rw[kl] at O;have m:=ss1 u a (by omega);have x:IntKind.i64.wrap ((a:Int)+(n:Int))=(a+n:Nat):=by rw[w6 (by omega)];rfl
 have l:¬ (n:Int)=0:=by have:=J.2.1;omega
 have hid:id<=512:=by have:=hi.idl;have:=xF e;have:=hi.fl;omega
 have K:=hi.fv.i0;have R:=hi.fl;have Q:=hi.cl;have S:=hi.tl;have N:=hi.opl;have d:=up (qu hi.fv.vl (4,de.2.1,id+1) (by omega) (by show _+de.2.1.length<=_;omega)) rfl;have v:=(o9 e (4,de.2.1,id+1)).2;generalize pn e (4,de.2.1,id+1)=g at d v ⊢;obtain⟨k,t,i⟩:=de;simp only at H d C v;subst H;simp only[elV,tkR] at p;have o:IntKind.i64.wrap (id+1)=id+1:=w6 (by omega);have I:aU 8 (r.length+1)=true:=aL (by decide) (by omega);have y:aU 8 1=true:=by decide
 unfold SD;constructor
 ·intro q
  rcases M with ⟨rfl,rfl,rfl,rfl⟩ | ⟨rfl,rfl⟩
  ·simp only[jz] at q v;omega
  rcases L with ⟨rfl,rfl,rfl⟩ | ⟨D,rfl,rfl⟩
  ·apply jV
   case h =>
    rw[aB cE rfl];by_cases T:512<g.length
    ·have b:512<(g.length:Int):=by omega
     simp only[go_sem,b,w,m,p,l,o,x,d,aD,aW,cK]
     try rfl
    ·have b:¬ 512<(g.length:Int):=by omega
     have f:1024<=(r.length:Int):=by omega
     simp only[go_sem,b,f,w,m,p,l,o,x,d,aD,aW,cK]
     try rfl
   case h4=>rfl
   case h5=>rfl
   case h6=>rfl
   case h7=>rfl
   case hne=>decide
  ·apply jV
   case h =>
    rw[aB cE rfl];by_cases T:512<g.length
    ·have b:512<(g.length:Int):=by omega
     simp only[go_sem,b,w,m,p,l,o,x,d,aD,aW,cK]
     try rfl
    ·have b:¬ 512<(g.length:Int):=by omega
     have f:1024<=(r.length:Int):=by omega
     simp only[go_sem,b,f,w,m,p,l,o,x,d,aD,aW,cK]
     try rfl
   case h4=>rfl
   case h5=>rfl
   case h6=>rfl
   case h7=>rfl
   case hne=>decide
 ·intro q
  have b:¬ 512<(g.length:Int):=by omega
  have f:¬ 1024<=(r.length:Int):=by omega
  rcases M with ⟨rfl,rfl,rfl,rfl⟩ | ⟨rfl,rfl⟩
  all_goals
   try simp only[cW,jz] at d f
   rcases L with ⟨rfl,rfl,rfl⟩ | ⟨D,rfl,rfl⟩
   ·refine⟨_,_,_,_,.inr ⟨rfl,rfl⟩,.inl ⟨rfl,rfl,rfl⟩,?_⟩
    conv=>lhs;rw[aB cE rfl]
    simp only[go_sem,b,f,I,y,w,m,p,l,o,x,d,aD,aW,cK]
    try rfl
   ·refine⟨_,_,_,_,.inr ⟨rfl,rfl⟩,.inr ⟨D,rfl,rfl⟩,?_⟩
    conv=>lhs;rw[aB cE rfl]
    simp only[go_sem,b,f,I,y,w,m,p,l,o,x,d,aD,aW,cK]
    try rfl
def Ml(J K bv:AV)(a j:Nat)(P:Mod J bv e r)(O:Stk K c V)(U:a<u.length)(hs:u.length<=50000)(I:el iy (u.drop a)=some (de,n))(hi:InD u e V id r a)(L:de.1=2):
  (512<(pn e (2,de.2.1,id+1)).length\/1024<=r.length->F2 (aC G9 cE (SD iy u J K bv a j id c))) /\
  (¬ (512<(pn e (2,de.2.1,id+1)).length\/1024<=r.length)->∃ F G s sh',Mod F s (pn e (2,de.2.1,id+1)) (r++[j])/\Stk G sh' (V++[(2,de.2.1,id+1)])/\aC G9 cE (SD iy u J K bv a j id c)=aC G9 cE (SD iy u F G s (a+n) (a+n) (id+1) sh')):=by
 have B:(a:Int)<u.length:=by omega
 have hd:u.drop a=u[a]::u.drop (a+1):=je U;have p:=J0 iy u[a] (u.drop (a+1)) (by simp;omega);have A:=lQ I;have H:=sQ I;rw[<- hd,I] at p;have T:=A.2.2;rw[kl] at T;have m:=ss1 u a (by omega);have C:IntKind.i64.wrap ((a:Int)+(n:Int))=(a+n:Nat):=by rw[w6 (by omega)];rfl
 have l:¬ (n:Int)=0:=by have:=A.2.1;omega
 have hid:id<=512:=by have:=hi.idl;have:=xF e;have:=hi.fl;omega
 have N:=hi.fv.i0;have Y:=hi.fl;have X:=hi.cl;have Z:=hi.tl;have Q:=hi.opl;have d:=up (qu hi.fv.vl (2,de.2.1,id+1) (by omega) (by show _+de.2.1.length<=_;omega)) rfl;have y:=(o9 e (2,de.2.1,id+1)).2;generalize pn e (2,de.2.1,id+1)=g at d y ⊢;obtain⟨k,t,i⟩:=de;simp only at L d H y;subst L;simp only[elV,tkR] at p;have o:IntKind.i64.wrap (id+1)=id+1:=w6 (by omega);have v:aU 32 1=true:=by decide
 have w:aU 32 (V.length+1)=true:=aL (by decide) (by omega);have A:=g9 V;have x:=kV V;have h6:V.length*3=(fl V).length:=(fH V).symm;have S:∀ D:LL,(D++[fl V]).length=(D++[aO]).length:=λD=>by simp
 have R:fl V++[[AV.int .i64 2,.str t,.int .i64 (id+1)]].flatten=fl (V++[(2,t,id+1)]):=by rw[i5];rfl
 have M:aU 8 (r.length+1)=true:=aL (by decide) (by omega);have E:aU 8 1=true:=by decide
 unfold SD;constructor
 ·intro q
  rcases P with ⟨rfl,rfl,rfl,rfl⟩ | ⟨rfl,rfl⟩
  ·simp only[jz] at q y;omega
  rcases O with ⟨rfl,rfl,rfl⟩ | ⟨D,rfl,rfl⟩
  ·apply jV
   case h =>
    rw[aB cE rfl];by_cases p1:512<g.length
    ·have b:512<(g.length:Int):=by omega
     simp only[go_sem,b,B,m,p,l,o,C,d,aD,aW,cK,v]
     try rfl
    ·have b:¬ 512<(g.length:Int):=by omega
     have f:1024<=(r.length:Int):=by omega
     simp only[go_sem,b,f,B,m,p,l,o,C,d,aD,aW,cK,v]
     try rfl
   case h4=>rfl
   case h5=>rfl
   case h6=>rfl
   case h7=>rfl
   case hne=>decide
  ·apply jV
   case h =>
    rw[aB cE rfl];by_cases p1:512<g.length
    ·have b:512<(g.length:Int):=by omega
     simp only[go_sem,b,B,m,p,l,o,C,d,aD,aW,cK,w,gD,sD,A,x,h6]
     try rfl
    ·have b:¬ 512<(g.length:Int):=by omega
     have f:1024<=(r.length:Int):=by omega
     simp only[go_sem,b,f,B,m,p,l,o,C,d,aD,aW,cK,w,gD,sD,A,x,h6]
     try rfl
   case h4=>rfl
   case h5=>rfl
   case h6=>rfl
   case h7=>rfl
   case hne=>decide
 ·intro q
  have b:¬ 512<(g.length:Int):=by omega
  have f:¬ 1024<=(r.length:Int):=by omega
  rcases P with ⟨rfl,rfl,rfl,rfl⟩ | ⟨rfl,rfl⟩
  all_goals
   try simp only[cW,jz] at d f
   rcases O with ⟨rfl,rfl,rfl⟩ | ⟨D,rfl,rfl⟩
   ·refine⟨_,_,_,_,.inr ⟨rfl,rfl⟩,.inr ⟨[],rfl,rfl⟩,?_⟩
    conv=>lhs;rw[aB cE rfl]
    simp only[go_sem,b,f,M,E,B,m,p,l,o,C,d,aD,aW,cK,v]
    try rfl
   ·refine⟨_,.ss (D++[aO]).length 0 (V.length+1) 3,_,(D++[aO])++[fl (V++[(2,t,id+1)])],.inr ⟨rfl,rfl⟩,.inr ⟨D++[aO],by simp,rfl⟩,?_⟩
    conv=>lhs;rw[aB cE rfl]
    simp only[go_sem,b,f,M,E,B,m,p,l,o,C,d,aD,aW,cK,w,gD,sD,A,x,h6];rw[S,R];try rfl
def Eb(T U bv:AV)(a j:Nat)(hm:Mod T bv e r)(Z:Stk U c V)(ha:a<u.length)(hs:u.length<=50000)(Q:el iy (u.drop a)=some (de,n))(hi:InD u e V id r a)(fh:List It)(f:It)(X:de.1=3)(d:V=fh++[f])(L:aH f.2.1=de.2.1):
  (512<(pn e (3,de.2.1,f.2.2)).length\/1024<=r.length->F2 (aC G9 cE (SD iy u T U bv a j id c))) /\
  (¬ (512<(pn e (3,de.2.1,f.2.2)).length\/1024<=r.length)->∃ M N x sh',Mod M x (pn e (3,de.2.1,f.2.2)) (r++[j])/\Stk N sh' fh/\aC G9 cE (SD iy u T U bv a j id c)=aC G9 cE (SD iy u M N x (a+n) (a+n) id sh')):=by
 have R:(a:Int)<u.length:=by omega
 have hd:u.drop a=u[a]::u.drop (a+1):=je ha;have K:=J0 iy u[a] (u.drop (a+1)) (by simp;omega);have J:=lQ Q;have P:=sQ Q;rw[<- hd,Q] at K;have h2:=J.2.2;rw[kl] at h2;have E:=ss1 u a (by omega);have S:IntKind.i64.wrap ((a:Int)+(n:Int))=(a+n:Nat):=by rw[w6 (by omega)];rfl
 have A:¬ (n:Int)=0:=by have:=J.2.1;omega
 have hid:id<=512:=by have:=hi.idl;have:=xF e;have:=hi.fl;omega
 have Y:=hi.fv.i0;have ap:=hi.fl;have ar:=hi.cl;have a0:=hi.tl;have av:=hi.opl;have l:=up (qu hi.fv.vl (3,de.2.1,f.2.2) (by omega) (by show _+de.2.1.length<=_;omega)) rfl;have C:=(o9 e (3,de.2.1,f.2.2)).2;generalize pn e (3,de.2.1,f.2.2)=g at l C ⊢;obtain⟨k,t,i⟩:=de;simp only at X l P C L;subst X;simp only[elV,tkR] at K;have w:¬ V=[]:=by rw[d];simp
 have ag:V.length=fh.length+1:=by rw[d];simp
 have ab:=hi.ol f (by rw[d];simp);have s:=up (c64 f.2.1 (by omega)) rfl;rw[L] at s;have hne:(t==t)=true:=by simp
 have m:(fl V)[fh.length*3+1]?=some (.str f.2.1):=by rw[d];exact rK fh f 1
 have o:(fl V)[fh.length*3+2]?=some (.int .i64 f.2.2):=by rw[d];exact rK fh f 2
 have F:IntKind.i64.wrap ((V.length:Int)-1)=(fh.length:Nat):=by rw[w6 (by omega)];omega
 have G:¬ ((fh.length:Nat):Int)<0:=by omega
 have H:((fh.length:Nat):Int)<(V.length:Int):=by omega
 have I:(0:Int)<=((fh.length:Nat):Int):=by omega
 have J:=g9 V;have y:∀ D,D5 3 (D++[fl V]) (.ss D.length 0 V.length 3) (.int .i64 fh.length)=some (.ss D.length 0 fh.length 3,D++[fl fh]):=by
  intro D;rw[au (c:=D) (b:=V) (n:=fh.length) (by omega)];rw[d];simp
 have hA:aU 8 (r.length+1)=true:=aL (by decide) (by omega);have O:aU 8 1=true:=by decide
 unfold SD;constructor
 ·intro q
  rcases hm with ⟨rfl,rfl,rfl,rfl⟩ | ⟨rfl,rfl⟩
  ·simp only[jz] at q C;omega
  rcases Z with ⟨B,rfl,rfl⟩ | ⟨D,rfl,rfl⟩
  ·exact absurd B w
  ·apply jV
   case h =>
    rw[aB cE rfl];by_cases p1:512<g.length
    ·have p:512<(g.length:Int):=by omega
     simp only[go_sem,p,R,E,K,A,F,G,H,I,gD,m,o,s,hne,y,J,S,l,aD,aW,cK]
     try rfl
    ·have p:¬ 512<(g.length:Int):=by omega
     have v:1024<=(r.length:Int):=by omega
     simp only[go_sem,p,v,R,E,K,A,F,G,H,I,gD,m,o,s,hne,y,J,S,l,aD,aW,cK]
     try rfl
   case h4=>rfl
   case h5=>rfl
   case h6=>rfl
   case h7=>rfl
   case hne=>decide
 ·intro q
  have p:¬ 512<(g.length:Int):=by omega
  have v:¬ 1024<=(r.length:Int):=by omega
  rcases hm with ⟨rfl,rfl,rfl,rfl⟩ | ⟨rfl,rfl⟩
  all_goals
   try simp only[cW,jz] at l v
   rcases Z with ⟨B,rfl,rfl⟩ | ⟨D,rfl,rfl⟩
   ·exact absurd B w
   ·refine⟨_,_,_,_,.inr ⟨rfl,rfl⟩,.inr ⟨D,rfl,rfl⟩,?_⟩
    conv=>lhs;rw[aB cE rfl]
    simp only[go_sem,p,v,hA,O,R,E,K,A,F,G,H,I,gD,m,o,s,hne,y,J,S,l,aD,aW,cK]
    try rfl
def xj(fm:Int)(s:Bs)(N G l:AV)(f op:List It)(a O:Nat)(id:Int)(sh:LL)(x:It)(n:Nat)(L:Mod N l f r)(J:Stk G sh op)(P:a<s.length)(U:s.length<=50000)(I:el fm (s.drop a)=some (x,n))(hi:InD s f op id r a)(H:x.1=3)
  (e:op=[]\/∃ o b,op=o++[b]/\aH b.2.1≠x.2.1):F2 (aC G9 cE (SD fm s N G l a O id sh)):=by
 have M:(a:Int)<s.length:=by omega
 have hd:s.drop a=s[a]::s.drop (a+1):=je P;have m:=J0 fm s[a] (s.drop (a+1)) (by simp;omega);have p:=lQ I;rw[<- hd,I] at m;have j:=ss1 s a (by omega);have d:¬ (n:Int)=0:=by have:=p.2.1;omega
 obtain⟨k,t,i⟩:=x;simp only at H e;subst H;simp only[elV,tkR] at m;have y:=hi.ol;have g:=hi.opl;have R:=hi.cl
 clear hi
 unfold SD;rcases e with rfl | ⟨o,b,rfl,w⟩
 ·have B:IntKind.i64.wrap ((0:Int)-1) = -1:=rfl
  rcases L with ⟨rfl,rfl,rfl,rfl⟩ | ⟨rfl,rfl⟩<;>rcases J with ⟨-,rfl,rfl⟩ | ⟨D,rfl,rfl⟩
  all_goals
   apply jV
   case h =>
    rw[aB cE rfl];simp only[go_sem,M,j,m,d,B,jz]
    try rfl
   case h4=>rfl
   case h5=>rfl
   case h6=>rfl
   case h7=>rfl
   case hne=>decide
 ·have Q:=y b (by simp)
  have v:=up (c64 b.2.1 (by omega)) rfl;have hne:(aH b.2.1 != t)=true:=by simpa using w
  have K:(o++[b]).length=o.length+1:=by simp
  rw[K] at g;have c:(fl (o++[b]))[o.length*3+1]?=some (.str b.2.1):=rK o b 1;have A:IntKind.i64.wrap (((o.length+1:Nat):Int)-1)=(o.length:Nat):=by rw[w6 (by omega)];omega
  have C:¬ ((o.length:Nat):Int)<0:=by omega
  have E:((o.length:Nat):Int)<((o.length+1:Nat):Int):=by omega
  have F:(0:Int)<=((o.length:Nat):Int):=by omega
  have p:=g9 (o++[b]);have u:∃ D,G=.ss D.length 0 (o.length+1) 3/\sh=D++[fl (o++[b])]:=by
   rcases J with ⟨q,_⟩ | ⟨D,S,T⟩
   ·simp at q
   ·exact⟨D,by rw[S,K],T⟩
  obtain⟨D,rfl,rfl⟩:=u;rcases L with ⟨rfl,rfl,rfl,rfl⟩ | ⟨rfl,rfl⟩
  all_goals
   apply jV
   case h =>
    rw[aB cE rfl];simp only[go_sem,M,j,m,d,A,C,E,F,gD,c,v,hne,p]
    try rfl
   case h4=>rfl
   case h5=>rfl
   case h6=>rfl
   case h7=>rfl
   case hne=>decide
def U7(fm:Int)(s:Bs)(D:s.length<=50000):∀ (k:Nat) (j l b:AV) (f op:List It) (cs:List Nat) (a d:Nat) (id:Int) (sh:LL),Mod j b f cs->Stk l sh op->InD s f op id cs a->s.length<=a+k->a<=s.length ->
  Fa fm s (aC G9 cE (SD fm s j l b a d id sh)) (dcs fm k f op id cs a d (s.drop a))
 | 0,j,l,b,f,op,cs,a,d,id,sh,v,m,hi,U,X=>by
  have:a=s.length:=by omega
  subst this;have e:=Qs fm s j l b f op (r:=cs) d id sh v m;rw[lb];unfold dcs;by_cases q:op=[]
  ·rw[iw ⟨rfl,q⟩]
   subst q;exact⟨λq=>(by cases q),λg c q=>by cases q;exact⟨j,l,b,sh,id,cs,d,v,m,rfl,hi.cl,e⟩⟩
  ·rw[ie (λz=>q z.2)]
   exact⟨λ_=>.inr ⟨j,l,b,d,id,sh,op,q,m,e⟩,λg c q=>(by cases q)⟩
 | k+1,j,l,b,f,op,cs,a,d,id,sh,v,m,hi,U,X=>by
  by_cases B:a=s.length
  ·subst B
   have e:=Qs fm s j l b f op (r:=cs) d id sh v m;rw[lb];unfold dcs;rw[iw rfl];by_cases q:op=[]
   ·rw[iw q]
    subst q;exact⟨λq=>(by cases q),λg c q=>by cases q;exact⟨j,l,b,sh,id,cs,d,v,m,rfl,hi.cl,e⟩⟩
   ·rw[ie q]
    exact⟨λ_=>.inr ⟨j,l,b,d,id,sh,op,q,m,e⟩,λg c q=>(by cases q)⟩
  have B:a<s.length:=by omega
  have S:¬ s.drop a=[]:=by rw[al2];omega
  unfold dcs;rw[ie S];cases C:el fm (s.drop a) with
  | none =>
   exact⟨λ_=>.inl (Nb (k:=fm) (i:=s) j l b (e:=f) (V:=op) (r:=cs) a d (iy:=id) (c:=sh) v m B D C),λg c q=>(by cases q)⟩
  | some p =>
   obtain⟨x,n⟩:=p;have N:=lQ C;have E:=sQ C;have Y:=N.2.2;rw[kl] at Y;have Z:=N.2.1;simp only[];by_cases J:x.1=0
   ·rw[iw J,Rt (iy:=fm) (u:=s) j l b (e:=f) (V:=op) (r:=cs) a d (id:=id) (c:=sh) (de:=x) (n:=n) v m B D C J,ah2]
    exact U7 fm s D k j l b f op cs (a+n) d id sh v m ⟨hi.fv,hi.idl,hi.fl,hi.cl,by have:=hi.tl;omega,hi.opl,hi.ol⟩ (by omega) (by omega)
   rw[ie J,ah2];have key:∀ (y:It) (op':List It) (A:Int),stp x op id=some (y,op',A)->y.2.1.length<=n->op'.length<=op.length+1->(∀ t∈op',t∈op\/t=y) ->
     (512<(pn f y).length\/1024<=cs.length->F2 (aC G9 cE (SD fm s j l b a d id sh))) /\
     (¬ (512<(pn f y).length\/1024<=cs.length)->∃ F G w sh',Mod F w (pn f y) (cs++[d])/\Stk G sh' op'/\aC G9 cE (SD fm s j l b a d id sh)=aC G9 cE (SD fm s F G w (a+n) (a+n) A sh')) ->
     Fa fm s (aC G9 cE (SD fm s j l b a d id sh)) (match stp x op id with
      | none=>none
      | some (y,op',A)=>if 512<(pn f y).length\/1024<=cs.length then none else dcs fm k (pn f y) op' A (cs++[d]) (a+n) (a+n) (s.drop (a+n))):=by
    intro y op' A L ar av K ⟨c1,c2⟩;rw[L];simp only[];by_cases q:512<(pn f y).length\/1024<=cs.length
    ·rw[iw q]
     exact⟨λ_=>.inl (c1 q),λg c q=>(by cases q)⟩
    ·rw[ie q]
     obtain⟨F,G,w,sh',R,Q,e⟩:=c2 q;rw[e];obtain⟨i1,i2,i3⟩:=LD hi.fv N.1 J hi.idl (by have:=xF f;have:=hi.fl;omega) L
     have:=(o9 f y).1
     refine U7 fm s D k F G w _ _ _ _ _ _ _ R Q ⟨i1,i3,by omega,?_,by have:=hi.tl;omega,?_,?_⟩ (by omega) (by omega)
     ·rw[jb,jy];omega
     ·rw[jb,jy];have:=hi.opl;omega
     ·intro t ht
      rcases K t ht with h | h
      ·exact hi.ol t h
      ·subst h;omega
   have ex:=N.1;by_cases T:x.1=1\/x.1=5
   ·exact key x op id (by unfold stp;rw[ie (by omega),ie (by omega),ie (by omega)]) E (by omega) (λt h=>.inl h) (Ki (iy:=fm) (u:=s) j l b (e:=f) (V:=op) (r:=cs) a d (id:=id) (c:=sh) (de:=x) (n:=n) v m B D C hi T)
   by_cases P:x.1=4
   ·exact key (4,x.2.1,id+1) op (id+1) (by unfold stp;rw[ie (by omega),iw P]) E (by omega) (λt h=>.inl h) (Kz (iy:=fm) (u:=s) j l b (e:=f) (V:=op) (r:=cs) a d (id:=id) (c:=sh) (de:=x) (n:=n) v m B D C hi P)
   by_cases O:x.1=2
   ·exact key (2,x.2.1,id+1) (op++[(2,x.2.1,id+1)]) (id+1) (by unfold stp;rw[iw O]) E (by simp) (λt h=>by simpa using h) (Ml (iy:=fm) (u:=s) j l b (e:=f) (V:=op) (r:=cs) a d (id:=id) (c:=sh) (de:=x) (n:=n) v m B D C hi O)
   have M:x.1=3:=by
    rcases ex with rfl | ⟨c,rfl⟩ | ⟨k,_⟩ | ⟨k,_⟩ | ⟨k,_⟩
    ·exact absurd rfl J
    ·exact absurd (.inl rfl) T
    ·exact absurd (.inr k) T
    ·rcases k with k | k<;>contradiction
    ·exact k
   rcases dS op with H | ⟨o,I,H⟩
   ·have:=xj fm s j l b f op (r:=cs) a d id sh x n v m B D C hi M (.inl H)
    have e:stp x op id=none:=by unfold stp;rw[ie O,ie P,iw M,H];rfl
    rw[e];exact⟨λ_=>.inl this,λg c q=>(by cases q)⟩
   ·have e:stp x op id=if aH I.2.1=x.2.1 then some ((3,x.2.1,I.2.2),o,id) else none:=by unfold stp;rw[ie O,ie P,iw M,H];simp
    by_cases q:aH I.2.1=x.2.1
    ·rw[iw q] at e
     exact key (3,x.2.1,I.2.2) o id e E (by rw[H];simp;omega) (λt h=>.inl (by rw[H];simp [h])) (Eb (iy:=fm) (u:=s) j l b (e:=f) (V:=op) (r:=cs) a d (id:=id) (c:=sh) (de:=x) (n:=n) v m B D C hi o I M H q)
    ·rw[ie q] at e
     have:=xj fm s j l b f op (r:=cs) a d id sh x n v m B D C hi M (.inr ⟨o,I,H,q⟩)
     rw[e];exact⟨λ_=>.inl this,λg c q=>(by cases q)⟩
def J1(fm:Int)(s:Bs)(A:s.length<=50000):
  (∀ g c,dcd fm s=some (g,c)->G9 180 [.int .i64 fm,.str s] []=some (.tup [.sl .no 3 (tks g),.sl .no 1 (fI c),.int .i64 0,.int .i64 0],[])) /\
  (dcd fm s=none->∃ a e,e≠0/\G9 180 [.int .i64 fm,.str s] []=some (.tup [.sl .no 3 [],.sl .no 1 [],.int .i64 a,.int .i64 e],[])):=by
 have h:=U7 fm s A s.length (.sl .full 3 []) (.sl .full 3 []) (.sl .full 1 []) [] [] [] 0 0 0 [] (.inl ⟨rfl,rfl,rfl,rfl⟩) (.inl ⟨rfl,rfl,rfl⟩) ⟨E5,by decide,by simp,by simp,by decide,by simp,by simp⟩ (by omega) (by omega);rw[kc] at h
 change Fa fm s _ (dcd fm s) at h
 obtain⟨i,j⟩:=h;unfold SD at i j;rw[show ((0:Nat):Int)=0 from rfl] at i j;constructor
 ·intro g c q
  obtain⟨B,C,o,sh,id,cs,r,x,m,rfl,w,e⟩:=j g c q
  clear i j
  refine aA L9 ?_;have v:aU 8 (cs.length+1)=true:=aL (by decide) (by omega);have l:aU 8 1=true:=by decide
  rcases x with ⟨rfl,rfl,rfl,rfl⟩ | ⟨rfl,rfl⟩<;>rcases m with ⟨-,rfl,rfl⟩ | ⟨D,rfl,rfl⟩
  all_goals
   have f:∀ D:LL,dW [] (D++[fl []])=true:=λD=>rfl
   have d:∀ D:LL,fF false 0 (D++[fl []])=true:=λD=>rfl
   simp only[L9,go_sem,e,v,l,aW,cK,jz,f,d]
   try rfl
 ·intro q
  rcases i q with ⟨J,I,sh',p,u,e,E,F,G,H,n⟩ | ⟨B,C,o,r,id,sh,op,k,m,e⟩
  ·refine⟨p,u,n,?_⟩
   clear i j
   have f:dW [] sh'=true:=rfl;have d:fF false 0 sh'=true:=rfl;refine aA L9 ?_;simp only[L9,go_sem,e,E,F,G,H,f,d]
  ·refine⟨(s.length:Int),7,by decide,?_⟩
   clear i j
   rcases m with ⟨rfl,_⟩ | ⟨D,rfl,rfl⟩
   ·exact absurd rfl k
   have y:0<(op.length:Int):=by cases op with | nil=>exact absurd rfl k | cons a b=>simp only[jd];omega
   have f:dW [] (D++[fl op])=true:=rfl;have d:fF false 0 (D++[fl op])=true:=rfl;refine aA L9 ?_;simp only[L9,go_sem,e,y,f,d]
set_option maxHeartbeats 8000000
def bcl(b:Bs):List AV:=b.map λc=>.int .u8 (c.toNat:Int)
def QqQ:(bcl i).length=i.length:=by simp [bcl]
def ru:bcl (i++u)=bcl i++bcl u:=by simp [bcl]
def I2:∀ b:Bs,(bcl b).all iE=true
 | []=>rfl
 | c::b=>by
  show (iE _&&(bcl b).all iE)=true;rw[I2 b];rfl
def rt:∀ b:Bs,bX (bcl b)=true
 | []=>rfl
 | c::b=>rfl
def GM:(aE i).flatten=bcl i:=by
 induction i with
 | nil=>rfl
 | cons c i a =>
  show [AV.int .u8 (c.toNat:Int)]++(aE i).flatten=AV.int .u8 (c.toNat:Int)::bcl i;rw[a];rfl
def aK:(aE i).length=i.length:=by simp [aE]
def BSt(v:AV)(sh:LL)(b:Bs):Prop:=
 (b=[]/\v=.sl .full 1 []/\sh=[])\/(∃ D:LL,v=.ss D.length 0 b.length 1/\sh=D++[bcl b])
def BSt.scrub(h:BSt bv c i)(k:List Nat):cA k bv=bv:=by
 rcases h with ⟨_,rfl,_⟩ | ⟨D,rfl,_⟩<;>rfl
def BSt.dem(h:BSt bv c i):aJ bv=bv:=by
 rcases h with ⟨_,rfl,_⟩ | ⟨D,rfl,_⟩<;>rfl
def BSt.arg(h:BSt bv c i):hH true bv=true:=by
 rcases h with ⟨_,rfl,_⟩ | ⟨D,rfl,_⟩<;>rfl
def XR(h:BSt bv bd i)(r:Bs)(f:r≠[])(g:i.length+r.length<=1000000):∃ d sh',BSt d sh' (i++r)/\gV 1 1 bd (some (aE r)) bv=some (d,sh'):=by
 have a:aU 1 (i.length+r.length)=true:=aL (by decide) (by omega);rcases h with ⟨rfl,rfl,rfl⟩ | ⟨D,rfl,rfl⟩
 ·cases r with
  | nil=>exact absurd rfl f
  | cons c r =>
   refine⟨.ss 0 0 (c::r).length 1,[bcl (c::r)],.inr ⟨[],by simp,by simp⟩,?_⟩;have e:aE (c::r)=[AV.int .u8 (c.toNat:Int)]::aE r:=rfl;have b:=GM (i:=(c::r));rw[e] at b ⊢;simp only[jz,jd,km] at a;rw[lC 1 1 1 (by decide),aK,iw a,b];rfl
 ·refine⟨.ss (D++[aO]).length 0 (i++r).length 1,(D++[aO])++[bcl (i++r)],.inr ⟨D++[aO],rfl,rfl⟩,?_⟩
  rw[i8 D.length i.length 1 1 (by decide),aK,iw a,gD];simp only[jk];rw[iw ⟨rt i,by rw[QqQ];omega,I2 i⟩,GM,sD,ru,jb,jb,jb];rfl
def fU:∀ b:Bs,bH (aE b)=some b
 | []=>rfl
 | c::b=>by
  have e:aE (c::b)=[AV.int .u8 (c.toNat:Int)]::aE b:=rfl;rw[e];simp only[bH,sS,fU b,jp];simp
def QD:dE 0 i.length 1 (bcl i)=some (aE i):=by
 have b:∀ i:Bs,(bcl i).all (λx=>aQ (aJ x))=true:=by
  intro i
  induction i with
  | nil=>rfl
  | cons c i a =>
   show (aQ _&&(bcl i).all _)=true;rw[a];rfl
 have d:∀ i:Bs,(bcl i).map aJ=bcl i:=by
  intro i
  induction i with
  | nil=>rfl
  | cons c i a =>
   show aJ _::(bcl i).map aJ=_;rw[a];rfl
 have f:∀ i:Bs,cP 1 i.length (bcl i)=aE i:=by
  intro i
  induction i with
  | nil=>rfl
  | cons c i a =>
   show (bcl (c::i)).take 1::cP 1 i.length ((bcl (c::i)).drop 1)=_;have e:(bcl (c::i)).drop 1=bcl i:=rfl;rw[e,a];rfl
 unfold dE;have g:((bcl i).drop 0).take (i.length*1)=bcl i:=by rw[kc];exact Ty (by rw[QqQ];omega)
 rw[g,d,f,iw ⟨by decide,by rw[QqQ];omega,b i⟩]
def BSt.str(h:BSt bv c i):RG c bv=some (.str i):=by
 rcases h with ⟨rfl,rfl,rfl⟩ | ⟨D,rfl,rfl⟩
 ·rfl
 ·rw[rz,gD]
  simp only[jk,QD,fU,jq]
def MD(c:UInt8):(wrt c).length<=4:=by
 have:=fA (λc=>decide ((wrt c).length<=4)) (by decide) c
 simpa using this
def RV:(i.flatMap wrt).length<=4*i.length:=by
 induction i with
 | nil=>simp
 | cons c i a=>rw[sb,jb,jd];have:=MD c;omega
theorem HJ:gX 1 [.int .u8 0] 2 [0,1] [.int .u8 k,.int .u8 D]=some (.sl .full 1 [[.int .u8 k],[.int .u8 D]]):=rfl
theorem Nf(t:Int):gX 1 [.int .u8 0] 4 [0,1,2,3] [.int .u8 k,.int .u8 D,.int .u8 iy,.int .u8 t]=some (.sl .full 1 [[.int .u8 k],[.int .u8 D],[.int .u8 iy],[.int .u8 t]]):=rfl
def l51(s:Bs)(hs:s.length<=100000):∀ (r p b:Bs) (v:AV) (sh:LL),s=p++r->BSt v sh b->b.length+4*r.length<=1000000 ->
  ∃ G sh',BSt G sh' (b++r.flatMap wrt)/\aC G0 mZ (ST [(0,v),(1,.str s),(5,.int .i64 p.length)] [] sh)=some (.ex 0,ST [(0,G),(1,.str s),(5,.int .i64 s.length),(10,.bool false)] [] sh')
 | [],p,b,v,sh,h,l,T=>by
  have h:s=p:=by simp [h]
  subst h;refine⟨v,sh,by simpa using l,?_⟩;have d:=l.scrub;rw[aB mZ rfl];simp only[go_sem,d,jm]
 | c::r,p,b,v,sh,h,l,T=>by
  have av:s.length=p.length+1+r.length:=by simp [h];omega
  have x:(p.length:Int)<s.length:=by omega
  have w:0<=(p.length:Int):=by omega
  have y:s[p.length]?=some c:=by rw[h];simp
  have A:=wI (n:=p.length) (by omega)
  simp only[jd] at T;have ap:=MD c;obtain⟨B,m,Q,a⟩:=XR l (wrt c) (yj (p:=c)) (by omega);obtain⟨G,sh',q3,u⟩:=l51 s hs r (p++[c]) (b++wrt c) B m (by simp [h]) Q (by rw[jb];omega);refine⟨G,sh',by rw[sb,<- kb];exact q3,?_⟩;have Y:((p++[c]).length:Int)=(p.length+1:Nat):=by simp
  rw[Y] at u;have j:=l.scrub;have d:=Q.scrub;have g:=l.dem;have i:=Q.dem;have c77:=Ru (p:=c);cases F:plain c with
  | true =>
   rw[F] at c77;rw[nC c F] at a;have a:gV 1 1 sh (some [[AV.int .u8 (c.toNat:Int)]]) v=some (B,m):=a;rw[aB mZ rfl];simp only[go_sem,x,w,y,A,c77,j,d,g,i,NR,a];exact u
  | false =>
   rw[F] at c77;have H:(c.toNat:Int)=10↔c=10:=by rw[<- Lc];show _↔c.toNat=10;omega
   have e9:(c.toNat:Int)=9↔c=9:=by rw[<- Lc];show _↔c.toNat=9;omega
   have D:(c.toNat:Int)=92↔c=92:=by rw[<- Lc];show _↔c.toNat=92;omega
   have C:(c.toNat:Int)=60↔c=60:=by rw[<- Lc];show _↔c.toNat=60;omega
   have o:(c.toNat:Int)=123↔c=123:=by rw[<- Lc];show _↔c.toNat=123;omega
   by_cases K:c=10
   ·subst K
    have E:(((10:UInt8).toNat:Nat):Int)=10:=rfl;have a:gV 1 1 sh (some [[AV.int .u8 92],[AV.int .u8 110]]) v=some (B,m):=a;rw[aB mZ rfl];rw[E] at c77;simp only[go_sem,x,w,y,A,E,c77,j,d,g,i,HJ,a];exact u
   have L:¬ (c.toNat:Int)=10:=λq=>K (H.1 q)
   by_cases M:c=9
   ·subst M
    have E:(((9:UInt8).toNat:Nat):Int)=9:=rfl;have a:gV 1 1 sh (some [[AV.int .u8 92],[AV.int .u8 116]]) v=some (B,m):=a;rw[aB mZ rfl];rw[E] at c77;simp only[go_sem,x,w,y,A,E,c77,j,d,g,i,HJ,a];exact u
   have N:¬ (c.toNat:Int)=9:=λq=>M (e9.1 q)
   by_cases k:c=92\/c=60\/c=123
   ·have I:wrt c=[92,c]:=by unfold wrt;rw[iw k]
    rw[I] at a;have a:gV 1 1 sh (some [[AV.int .u8 92],[AV.int .u8 (c.toNat:Int)]]) v=some (B,m):=a;rcases k with k | k | k
    ·have f:=D.2 k
     rw[f] at a c77;rw[aB mZ rfl];simp only[go_sem,x,w,y,A,c77,f,j,d,g,i,HJ,a];exact u
    ·have f:=C.2 k
     rw[f] at a c77;rw[aB mZ rfl];simp only[go_sem,x,w,y,A,c77,f,j,d,g,i,HJ,a];exact u
    ·have f:=o.2 k
     rw[f] at a c77;rw[aB mZ rfl];simp only[go_sem,x,w,y,A,c77,f,j,d,g,i,HJ,a];exact u
   ·have k31:¬ (c.toNat:Int)=92:=λq=>k (.inl (D.1 q))
    have O:¬ (c.toNat:Int)=60:=λq=>k (.inr (.inl (C.1 q)))
    have P:¬ (c.toNat:Int)=123:=λq=>k (.inr (.inr (o.1 q)))
    have J:c=13\/ctl c=true:=by
     have:=fA (λc=>plain c||decide (c=92)||decide (c=60)||decide (c=123)||decide (c=10)||decide (c=9)||decide (c=13)||ctl c) (by decide) c
     simp only[F,ys,yb,jo] at this;rcases this with (((((h | h) | h) | h) | h) | h) | h
     ·exact absurd (.inl h) k
     ·exact absurd (.inr (.inl h)) k
     ·exact absurd (.inr (.inr h)) k
     ·exact absurd h K
     ·exact absurd h M
     ·exact .inl h
     ·exact .inr h
    have I:=WS (p:=c) J;rw[I] at a;have a:gV 1 1 sh (some [[AV.int .u8 92],[AV.int .u8 120],[AV.int .u8 ((sM (c.toNat / 16)).toNat:Int)],[AV.int .u8 ((sM (c.toNat % 16)).toNat:Int)]]) v=some (B,m):=a;have ar:=c.toNat_lt;have U:((c.toNat:Int)).fdiv (2 ^ (min 4 8))=(c.toNat / 16:Nat):=by
     have:(2:Int) ^ (min 4 8)=16:=rfl
     rw[this,af9 _ (by omega)];omega
    have V:IntKind.u8.wrap ((((c.toNat:Int) % 2 ^ 8).toNat &&& ((15:Int) % 2 ^ 8).toNat:Nat):Int)=(c.toNat % 16:Nat):=by
     have e:(2:Int) ^ 8=256:=rfl;have Z:((15:Int) % 256).toNat=2 ^ 4-1:=rfl;have e3:((c.toNat:Int) % 256).toNat=c.toNat:=by omega
     rw[e,Z,e3,Nat.and_two_pow_sub_one_eq_mod,wu8 (by omega) (by omega)]
    have X:(0:Int)<=((c.toNat / 16:Nat):Int):=by omega
    have b1:(0:Int)<=((c.toNat % 16:Nat):Int):=by omega
    have R:=OJ (n:=c.toNat / 16) (by omega);have S:=OJ (n:=c.toNat % 16) (by omega);simp only[Cz] at R S;rw[aB mZ rfl];simp only[go_sem,x,w,y,A,c77,L,N,k31,O,P,j,d,g,i,U,V,X,b1,R,S,Nf,a];exact u
def c51(h:BSt bv c i)(m:u.length<=100000)(l:i.length+4*u.length<=1000000):∃ b sh',BSt b sh' (i++u.flatMap wrt)/\G0 114 [bv,.str u] c=some (b,sh'):=by
 obtain⟨b,sh',a,j⟩:=l51 u m u [] i bv c rfl h l;have k:((([]:Bs).length:Nat):Int)=0:=rfl;rw[k] at j;refine⟨b,sh',a,?_⟩;refine aA Gj ?_;have f:=h.scrub;have g:=a.scrub;have e:=a.dem;have d:=h.dem;simp only[Gj,go_sem,f,d,j,g,e];rcases a with ⟨_,rfl,rfl⟩ | ⟨D,rfl,rfl⟩
 ·simp only[go_sem]
 ·simp only[go_sem]
def vN(a b:Bs)(h:a.length+b.length<=140737488355328):gF .add (.str a) (.str b)=some (.str (a++b)):=by rw[XN,iw h]
def OX(n:Nat):(Nt.dec n).length<=3:=by unfold Nt.dec;split;simp;split<;>simp
def ov(h:isC i=true):i.length<=64:=by
 unfold isC at h;simp only[ir,jo] at h;exact h.1.1.1.1
def A3(h:chk b (k,u,D)=0):(k=1/\D=0)\/(u.length<=64/\0<=D/\D<=999/\(k=2\/k=3\/k=4\/k=5)):=by
 by_cases f:k=1
 ·subst f;exact .inl ⟨rfl,((dY (s:=(1,u,D)) rfl).1 h).2.1⟩
 ·rcases FL h f with ⟨a,_⟩ | ⟨a,c,d⟩ | ⟨a,c,d,e⟩ | ⟨a,c,d,e⟩
  ·exact absurd a f
  ·simp only[] at a c d
   have:=(nJ c).2.1
   exact .inr ⟨by omega,by omega,by omega,.inr (.inr (.inr a))⟩
  ·simp only[] at a c d e
   have:=ov c
   exact .inr ⟨by omega,by omega,by omega,by rcases a with a | a<;>simp [a]⟩
  ·simp only[] at a c d e
   have:=(nJ c).2.1
   exact .inr ⟨by omega,by omega,by omega,.inr (.inl a)⟩
def OW(h:chk b N=0):(elt N).length<=4*wid N+80:=by
 obtain⟨k,s,i⟩:=N;have hd:=OX i.toNat;rcases A3 h with ⟨rfl,rfl⟩ | ⟨c,_,_,a⟩
 ·have:=RV (i:=s)
  show (s.flatMap wrt).length<=4*s.length+80;omega
 ·rcases a with rfl | rfl | rfl | rfl
  ·simp [elt];omega
  ·simp [elt];omega
  ·simp [elt];omega
  ·simp [elt];omega
def ph(h:VL bu):(fmt bu).length<=4*len bu+80*bu.length:=by
 suffices ∀ (n:Nat) (bu:List Tk),bu.length=n->VL bu->(fmt bu).length<=4*len bu+80*bu.length from this _ bu rfl h
 intro n
 induction n with
 | zero=>intro bu c _;rw[js c];simp [fmt]
 | succ n e =>
  intro bu c d;rcases dS bu with rfl | ⟨g,y,rfl⟩
  ·simp [fmt]
  ·obtain⟨a,b⟩:=(cY g y).1 d
   have f:=e g (by simp at c;exact c) a;have i:=OW b;rw[qS,qR,fX,gH,jb,jb,jy];omega
def MH(h:vld b=0):(fmt b).length<=50000:=by
 obtain⟨a,c,d⟩:=(cG b).1 h
 have:=ph a
 omega
def XY(h:VL b)(hi:b[n]?=some N):chk (b.take n) N=0:=by
 have a:=zL hi;unfold VL at h;rw[a,show b.take n++N::b.drop (n+1)=(b.take n++[N])++b.drop (n+1) by simp,A2] at h;by_cases q:dV [] (b.take n++[N])=0
 ·exact ((cY _ _).1 q).2
 ·rw[iw q] at h;exact absurd h q
def WK(hi:b[n]?=some N):fmt (b.drop n)=elt N++fmt (b.drop (n+1)):=by
 have h:n<b.length:=by
  by_cases q:n<b.length
  ·exact q
  ·rw[ls (by omega)] at hi;cases hi
 rw[je h];rw[ii h] at hi;simp only[jc] at hi;rw[hi];simp [fmt]
def l32(f:List Tk)(hl:f.length<=1000)(X:VL f):∀ (k i:Nat) (b:Bs) (v:AV) (sh:LL),i+k=f.length->BSt v sh b->b.length+(fmt (f.drop i)).length<=500000->len f<=100000 ->
  ∃ l sh',BSt l sh' (b++fmt (f.drop i))/\aC G0 vR (ST [(4,.int .i64 0),(5,v),(12,.bool false),(14,.sl .no 3 (tks f)),(15,.int .i64 f.length),(16,.int .i64 i)] [] sh)=some (.ex 0,ST [(4,.int .i64 0),(5,l),(12,.bool false),(14,.sl .no 3 (tks f)),(15,.int .i64 f.length),(16,.int .i64 f.length),(17,.bool false)] [] sh')
 | 0,i,b,v,sh,h,e,R,U=>by
  have:i=f.length:=by omega
  subst this;refine⟨v,sh,by simpa [fmt] using e,?_⟩;have c:=e.scrub;rw[aB vR rfl];simp only[go_sem,c,jm]
 | k+1,i,b,v,sh,h,e,R,U=>by
  have hi:i<f.length:=by omega
  have N:(i:Int)<f.length:=by omega
  have M:0<=(i:Int):=by omega
  have Q:=wI (n:=i) (by omega)
  have hg:f[i]?=some f[i]:=ii hi;generalize f[i]=T at hg;have I:=cQ hg;have V:=XY X hg;have he:=OW V;rw[WK hg] at R ⊢;rw[jb] at R;have ar:wid T<=len f:=by
   have:=zL hg
   rw[this,fX,AH];omega
  obtain⟨kk,s,id⟩:=T;simp only[] at I;have r:=e.scrub;have p:=e.dem;have o:=e.arg;have fin:∀ m a,BSt m a (b++elt (kk,s,id))->∃ l sh',BSt l sh' (b++(elt (kk,s,id)++fmt (f.drop (i+1))))/\aC G0 vR (ST [(4,.int .i64 0),(5,m),(12,.bool false),(14,.sl .no 3 (tks f)),(15,.int .i64 f.length),(16,.int .i64 (i+1:Nat))] [] a)=some (.ex 0,ST [(4,.int .i64 0),(5,l),(12,.bool false),(14,.sl .no 3 (tks f)),(15,.int .i64 f.length),(16,.int .i64 f.length),(17,.bool false)] [] sh'):=by
   intro m a q;obtain⟨l,sh',w,x⟩:=l32 f hl X k (i+1) _ m a (by omega) q (by rw[jb];omega) U;exact⟨l,sh',by rw[<- kb];exact w,x⟩
  rcases A3 V with ⟨rfl,rfl⟩ | ⟨Z,i0,i1,hk⟩
  ·have av:wid (1,s,0)=s.length:=rfl
   have A:elt (1,s,0)=s.flatMap wrt:=rfl;obtain⟨m,a,j,y⟩:=c51 e (u:=s) (by omega) (by omega);obtain⟨l,sh',w,x⟩:=fin m a j;refine⟨l,sh',w,?_⟩;have c:=j.scrub;have g:=j.dem;have h50:=c50 0 (by omega);have Y:((0:Nat):Int)=0:=rfl;rw[Y] at h50;rw[aB vR rfl];simp only[go_sem,N,M,I,Q,h50,y,r,p,o,c,g];exact x
  ·obtain⟨n,rfl⟩:=ae4 i0
   have h50:=c50 n (by omega);have hd:=OX n;generalize G:Nt.dec n=d at hd h50;rcases hk with rfl | rfl | rfl | rfl
   ·have A:elt (2,s,(n:Int))=[60]++d++[58]++s++[62]:=by simp [elt,G]
    obtain⟨m,a,j,y⟩:=XR e ([60]++d++[58]++s++[62]) (by simp) (by simp;omega);obtain⟨l,sh',w,x⟩:=fin m a (by rw[A];exact j);refine⟨l,sh',w,?_⟩;have c:=j.scrub;have g:=j.dem;have C:=vN [60] d (by simp;omega);have D:=vN ([60]++d) [58] (by simp;omega);have K:=vN ([60]++d++[58]) s (by simp;omega);have L:=vN ([60]++d++[58]++s) [62] (by simp;omega);generalize E:([60]++d:Bs)=B at *;generalize F:(B++[58]:Bs)=H at *;generalize O:(H++s:Bs)=J at *;generalize P:(J++[62]:Bs)=S at *;rw[aB vR rfl];simp only[C,D,K,L,go_sem,N,M,I,Q,h50,y,r,p,o,c,g];exact x
   ·have A:elt (3,s,(n:Int))=[60,47]++d++[58]++s++[62]:=by simp [elt,G]
    obtain⟨m,a,j,y⟩:=XR e ([60,47]++d++[58]++s++[62]) (by simp) (by simp;omega);obtain⟨l,sh',w,x⟩:=fin m a (by rw[A];exact j);refine⟨l,sh',w,?_⟩;have c:=j.scrub;have g:=j.dem;have C:=vN [60,47] d (by simp;omega);have D:=vN ([60,47]++d) [58] (by simp;omega);have K:=vN ([60,47]++d++[58]) s (by simp;omega);have L:=vN ([60,47]++d++[58]++s) [62] (by simp;omega);generalize E:([60,47]++d:Bs)=B at *;generalize F:(B++[58]:Bs)=H at *;generalize O:(H++s:Bs)=J at *;generalize P:(J++[62]:Bs)=S at *;rw[aB vR rfl];simp only[C,D,K,L,go_sem,N,M,I,Q,h50,y,r,p,o,c,g];exact x
   ·have A:elt (4,s,(n:Int))=[60]++d++[58]++s++[47,62]:=by simp [elt,G]
    obtain⟨m,a,j,y⟩:=XR e ([60]++d++[58]++s++[47,62]) (by simp) (by simp;omega);obtain⟨l,sh',w,x⟩:=fin m a (by rw[A];exact j);refine⟨l,sh',w,?_⟩;have c:=j.scrub;have g:=j.dem;have C:=vN [60] d (by simp;omega);have D:=vN ([60]++d) [58] (by simp;omega);have K:=vN ([60]++d++[58]) s (by simp;omega);have L:=vN ([60]++d++[58]++s) [47,62] (by simp;omega);generalize E:([60]++d:Bs)=B at *;generalize F:(B++[58]:Bs)=H at *;generalize O:(H++s:Bs)=J at *;generalize P:(J++[47,62]:Bs)=S at *;rw[aB vR rfl];simp only[C,D,K,L,go_sem,N,M,I,Q,h50,y,r,p,o,c,g];exact x
   ·have A:elt (5,s,(n:Int))=[123]++s++[125]:=by simp [elt]
    obtain⟨m,a,j,y⟩:=XR e ([123]++s++[125]) (by simp) (by simp;omega);obtain⟨l,sh',w,x⟩:=fin m a (by rw[A];exact j);refine⟨l,sh',w,?_⟩;have c:=j.scrub;have g:=j.dem;have C:=vN [123] s (by simp;omega);have D:=vN ([123]++s) [125] (by simp;omega);generalize E:([123]++s:Bs)=B at *;generalize F:(B++[125]:Bs)=H at *;rw[aB vR rfl];simp only[C,D,go_sem,N,M,I,Q,h50,y,r,p,o,c,g];exact x
def Dd(f:List Tk):Bs:=if vld f=0 then fmt f else []
def c32(l:b.length<=1000000)(k:∀ t∈b,t.2.1.length<=eZ):G0 69 [.sl .no 3 (tks b)] []=some (.tup [.str (Dd b),.int .i64 (vld b)],[]):=by
 refine aA F69 ?_;have a:=c46 b l k;unfold Dd;by_cases h:vld b=0
 ·rw[iw h,h]
  rw[h] at a;obtain⟨j,n,o⟩:=(cG b).1 h;have p:=MH h;obtain⟨q,sh',c,g⟩:=l32 b (by omega) j b.length 0 [] (.sl .full 1 []) [] (by omega) (.inl ⟨rfl,rfl,rfl⟩) (by rw[kc];simp only[jz];omega) (by omega);have i:((0:Nat):Int)=0:=rfl;rw[kc,kg] at c;rw[i] at g;have e:=c.scrub;have d:=c.dem;have m:=c.str;have f:dW [] sh'=true:=rfl;simp only[F69,go_sem,a,aD,g,e,d,m,f]
 ·rw[ie h]
  simp only[F69,go_sem,a,h]
def md(b:Bool):Own:=if b then .own else .full
def mdn(b:Bool):Own:=if b then .no else .full
def pM(b:Bool):md b≠.no:=by cases b<;>decide
def bV:ldV (.sl (md d) n c)=some (.sl (mdn d) n c):=by cases d<;>rfl
def cC:aJ (.sl (md d) n c)=.sl (mdn d) n c:=by cases d<;>rfl
def dQ:aJ (.sl (mdn d) n c)=.sl (mdn d) n c:=by cases d<;>rfl
def tmr(m:Tm):List (List AV):=m.map λp=>[.int .i64 p.1,.agg (tkR p.2)]
def Rr(b1:Bool)(fl:List Tk)(b2:Bool)(tx:Bs)(n:Nat):List AV:=[.sl (md b1) 3 (tks fl),.sl (md b2) 1 (aE tx),.int .i64 n,.mp 0]
def KY(i:Int):∀ m:Tm,lkA [0] (.int .i64 i) (tmr m)=some ((mT m i).map λy=>.agg (tkR y))
 | []=>rfl
 | (k,y)::r=>by
  have a:=KY i r;have e:tmr ((k,y)::r)=[.int .i64 k,.agg (tkR y)]::tmr r:=rfl;rw[e];simp only[lkA,oT,eqL,kp,jq,kv,mT];by_cases h:i=k
  ·subst h;simp
  ·have:(i==k)=false:=by simpa using h
   simp only[this,h,kz,a]
def UX(i:Int)(x:Tk):∀ m:Tm,muA [0] (.int .i64 i) (.agg (tkR x)) (tmr m)=some (tmr (rE m i x))
 | []=>rfl
 | (k,y)::r=>by
  have a:=UX i x r;have e:tmr ((k,y)::r)=[.int .i64 k,.agg (tkR y)]::tmr r:=rfl;rw[e];simp only[muA,oT,eqL,kp,jq,kv,rE];by_cases h:i=k
  ·subst h;simp [tmr]
  ·have:(i==k)=false:=by simpa using h
   simp only[this,h,kz,a,jq];rfl
def N4(a:List AV)(b1 b2:Bool)(fl:List Tk)(tx:Bs)(x y:AV):EV (sh:=[a,[.sl (md b1) 3 (tks fl),.sl (md b2) 1 (aE tx),x,y]]) 1 0 [.sl (md b1) 3 (tks fl),.sl (md b2) 1 (aE tx),x,y] (.sl (md b1) 3 (tks fl))=some (.sl (md b1) 3 (tks fl),[a,[.sl (mdn b1) 3 (tks fl),.sl (md b2) 1 (aE tx),x,y]]):=by
 cases b1<;>rfl
def ws(a:List AV)(b1 b2:Bool)(fl:List Tk)(tx:Bs)(x y:AV):EV (sh:=[a,[.sl (md b1) 3 (tks fl),.sl (md b2) 1 (aE tx),x,y]]) 1 1 [.sl (md b1) 3 (tks fl),.sl (md b2) 1 (aE tx),x,y] (.sl (md b2) 1 (aE tx))=some (.sl (md b2) 1 (aE tx),[a,[.sl (md b1) 3 (tks fl),.sl (mdn b2) 1 (aE tx),x,y]]):=by
 cases b2<;>rfl
def XP(b2:Bool)(tx r:Bs)(h:tx.length+r.length<=1000000):iN true 1 1 (.sl (md b2) 1 (aE tx)) (.str r)=some (.sl .own 1 (aE (tx++r))):=by
 unfold iN;have e:jZ true 1 (.str r)=some (aE r):=rfl;simp only[e,jk];rw[iw]
 ·simp [aE]
 ·refine⟨.inl trivial,pM b2,by decide,?_,?_⟩
  ·rw[aK,aK];omega
  ·rw[aK,aK];omega
def PF(b1:Bool)(fl:List Tk)(x:Tk)(h:fl.length<=1000000):iN false 3 32 (.sl (md b1) 3 (tks fl)) (.sl .full 3 [[.int .i64 x.1,.str x.2.1,.int .i64 x.2.2]])=some (.sl .own 3 (tks (fl++[x]))):=by
 have a:aU 32 (fl.length+1)=true:=aL (by decide) (by omega);rw[bJ (md b1) .full (pM b1) 3 32 (by decide),aD,jy,iw a,<- iV];rfl
theorem cJ:fF false 2 [[.mapv c],[.sl bf 3 bd,.sl m2 1 bw,.int .i64 k,.mp 0]]=true:=rfl
def c55(a:LL)(b1 b2:Bool)(fl:List Tk)(tx:Bs)(n:Nat)(j:fl.length<=1000000):∃ b d,G0 111 [.ptr 1 0] [[.mapv a],Rr b1 fl b2 tx n]=some (.tup [],[[.mapv a],Rr b (fin fl tx) d [] n]):=by
 by_cases h:tx=[]
 ·subst h
  refine⟨b1,b2,?_⟩;rw[iI];refine aA YT ?_;have e:aE []=[]:=rfl;simp only[YT,go_sem,Rr,bV,e,jm,cJ]
 ·have m:0<(tx.length:Int):=by
   cases tx with
   | nil=>exact absurd rfl h
   | cons c r=>simp only[jd];omega
  refine⟨true,false,?_⟩;have i:fin fl tx=fl++[(1,tx,0)]:=by unfold fin;rw[ie h]
  rw[i];have k:=PF b1 fl (1,tx,0) j;have l:=fU tx;have e:aE []=[]:=rfl;have f:md true=.own:=rfl;have g:md false=.full:=rfl;refine aA YT ?_;simp only[YT,go_sem,Rr,bV,aK,m,N4,l,k,cC,dQ,f,g,e,cJ]
def qK(h:i≠[]):0<(i.length:Int):=by
 cases i with
 | nil=>exact absurd rfl h
 | cons c r=>simp only[jd];omega
def c54t(q:b.length<=2000)(r:u.length<=2000)(s:n<=2000):
  (512<b.length+1\/1024<n+1->G0 110 [.ptr 1 0,.agg [.int .i64 1,.str [p],.int .i64 0]] [[.mapv bd],Rr d b U u n]=some (.int .i64 3,[[.mapv bd],Rr d b U u n])) /\
  (¬ (512<b.length+1\/1024<n+1)->G0 110 [.ptr 1 0,.agg [.int .i64 1,.str [p],.int .i64 0]] [[.mapv bd],Rr d b U u n]=some (.int .i64 0,[[.mapv bd],Rr d b true (u++[p]) (n+1)])):=by
 have f:IntKind.i64.wrap ((b.length:Int)+1)=(b.length:Int)+1:=w6 (by omega);have j:=wI (n:=n) (by omega)
 have k:=XP U u [p] (by simp;omega);have m:md true=.own:=rfl;by_cases o:u=[]
 ·subst o
  have i:aE []=[]:=rfl;rw[i] at k;constructor
  ·intro h
   refine aA eB ?_;by_cases a:512<(b.length:Int)+1
   ·simp only[eB,go_sem,Rr,bV,aD,i,jm,f,a,cJ]
   ·have c:(1024:Int)<((n+1:Nat):Int):=by omega
    simp only[eB,go_sem,Rr,bV,aD,i,jm,f,j,a,c,cJ]
  ·intro h
   have a:¬ 512<(b.length:Int)+1:=by omega
   have c:¬ (1024:Int)<((n+1:Nat):Int):=by omega
   refine aA eB ?_;have g:=ws [.mapv bd] d U b [];rw[i] at g;simp only[eB,go_sem,Rr,bV,aD,i,jm,f,j,a,c,cJ,g,k,cC,dQ,m]
 ·have l:=qK o
  have e:¬ (u.length:Int)=0:=by omega
  constructor
  ·intro h
   refine aA eB ?_;by_cases a:512<(b.length:Int)+1
   ·simp only[eB,go_sem,Rr,bV,aD,aK,l,e,f,a,cJ]
   ·have c:(1024:Int)<((n+1:Nat):Int):=by omega
    simp only[eB,go_sem,Rr,bV,aD,aK,l,e,f,j,a,c,cJ]
  ·intro h
   have a:¬ 512<(b.length:Int)+1:=by omega
   have c:¬ (1024:Int)<((n+1:Nat):Int):=by omega
   refine aA eB ?_;simp only[eB,go_sem,Rr,bV,aD,aK,l,e,f,j,a,c,cJ,ws,k,cC,dQ,m]
def c54s(bc:Bs)(x:b.length<=2000)(y:u.length<=2000)(A:n<=2000):
  (512<(fin b u).length+1\/1024<n+1->G0 110 [.ptr 1 0,.agg [.int .i64 5,.str bc,.int .i64 0]] [[.mapv c],Rr d b U u n]=some (.int .i64 3,[[.mapv c],Rr d b U u n])) /\
  (¬ (512<(fin b u).length+1\/1024<n+1)->∃ p,G0 110 [.ptr 1 0,.agg [.int .i64 5,.str bc,.int .i64 0]] [[.mapv c],Rr d b U u n]=some (.int .i64 0,[[.mapv c],Rr true (fin b u++[(5,bc,0)]) p [] (n+1)])):=by
 have l:IntKind.i64.wrap ((b.length:Int)+1)=(b.length:Int)+1:=w6 (by omega);have k:IntKind.i64.wrap ((b.length:Int)+1+1)=(b.length:Int)+1+1:=w6 (by omega);have o:=wI (n:=n) (by omega)
 have s:md true=.own:=rfl;have a:=fZ b u;obtain⟨c1,c2,f⟩:=c55 c d U b u (n+1) (by omega);have j:aE []=[]:=rfl;have m:(fin b u).length<=1000000:=by rw[a];split<;>omega
 have v:=PF c1 (fin b u) (5,bc,0) m;simp only[Rr,j] at f;have i:=N4 [.mapv c] c1 c2 (fin b u) [];rw[j] at i;by_cases w:u=[]
 ·subst w
  simp only[jz,Nat.lt_irrefl,kz,rh] at a;rw[a];rw[j] at f;constructor
  ·intro h
   refine aA eB ?_;by_cases e:512<(b.length:Int)+1
   ·simp only[eB,go_sem,Rr,bV,aD,j,jm,l,e,cJ]
   ·have g:(1024:Int)<((n+1:Nat):Int):=by omega
    simp only[eB,go_sem,Rr,bV,aD,j,jm,l,o,e,g,cJ]
  ·intro h
   have e:¬ 512<(b.length:Int)+1:=by omega
   have g:¬ (1024:Int)<((n+1:Nat):Int):=by omega
   refine⟨c2,?_⟩;refine aA eB ?_;simp only[eB,go_sem,Rr,bV,aD,j,jm,l,o,e,g,cJ,f,i,v,cC,dQ,s]
 ·have q:=qK w
  have r:0<u.length:=by omega
  rw[iw r] at a;rw[a];constructor
  ·intro h
   refine aA eB ?_;by_cases e:512<(b.length:Int)+1+1
   ·simp only[eB,go_sem,Rr,bV,aD,aK,q,l,k,e,cJ]
   ·have g:(1024:Int)<((n+1:Nat):Int):=by omega
    simp only[eB,go_sem,Rr,bV,aD,aK,q,l,k,o,e,g,cJ]
  ·intro h
   have e:¬ 512<(b.length:Int)+1+1:=by omega
   have g:¬ (1024:Int)<((n+1:Nat):Int):=by omega
   refine⟨c2,?_⟩;refine aA eB ?_;simp only[eB,go_sem,Rr,bV,aD,aK,j,q,l,k,o,e,g,cJ,f,i,v,cC,dQ,s]
def nq(h:mT ch k=none):lkA [0] (.int .i64 k) (tmr ch)=some none:=by rw[KY,h];rfl
def NZ(h:mT ch k=some N):lkA [0] (.int .i64 k) (tmr ch)=some (some (.agg [.int .i64 N.1,.str N.2.1,.int .i64 N.2.2])):=by rw[KY,h];rfl
def Nc(m:Tm)(k:Int)(s:Bs)(i:Int):muA [0] (.int .i64 i) (.agg [.int .i64 k,.str s,.int .i64 i]) (tmr m)=some (tmr (rE m i (k,s,i))):=UX i (k,s,i) m
theorem rG(h:AV):lkR true d f (some h)=some (.tup [h,.bool true]):=rfl
theorem xY:lkR true true f none=some (.tup [.agg f,.bool false]):=rfl
theorem MW:([AV.int .i64 k,AV.str i,AV.int .i64 D]:List AV).all bY=true:=rfl
theorem gY:mF [[.mapv c],f] 0=some c:=rfl
def c54b(bc:Bs)(j:k=2\/k=3\/k=4)(l:∀ y,mT ch D=some y->y.1=2->y.2.1.length<=1000000)(c:GA ch (k,bc,D)=true):G0 110 [.ptr 1 0,.agg [.int .i64 k,.str bc,.int .i64 D]] [[.mapv (tmr ch)],Rr d b U u n]=some (.int .i64 7,[[.mapv (tmr ch)],Rr d b U u n]):=by
 unfold GA at c;cases i:mT ch D with
 | none=>rw[i] at c;cases c
 | some y =>
  rw[i] at c;have g:=NZ i;have a:=λh=>c84 y.2.1 (l y i h)
  refine aA eB ?_;rcases j with rfl | rfl | rfl
  ·simp only[eB,go_sem,Rr,bV,g,gY,rG,cJ]
  ·by_cases f:y.1=2
   ·have a:=a f
    simp only[f,ms,jx,aa8,aa4,ad6] at c;have e:(aH y.2.1 != bc)=true:=by simp [c]
    simp only[eB,go_sem,Rr,bV,g,gY,rG,f,a,e,cJ]
   ·simp only[eB,go_sem,Rr,bV,g,gY,rG,f,cJ]
  ·simp only[eB,go_sem,Rr,bV,g,gY,rG,cJ]
def c54n(bc:Bs)(l:k=2\/k=3\/k=4)(B:mT ch D=none)(C:b.length<=2000)(E:u.length<=2000)(F:n<=2000):
  (512<(fin b u).length+1\/1024<n+1->G0 110 [.ptr 1 0,.agg [.int .i64 k,.str bc,.int .i64 D]] [[.mapv (tmr ch)],Rr d b U u n]=some (.int .i64 3,[[.mapv (tmr ch)],Rr d b U u n])) /\
  (¬ (512<(fin b u).length+1\/1024<n+1)->∃ s,G0 110 [.ptr 1 0,.agg [.int .i64 k,.str bc,.int .i64 D]] [[.mapv (tmr ch)],Rr d b U u n]=some (.int .i64 0,[[.mapv (tmr (rE ch D (k,bc,D)))],Rr true (fin b u++[(k,bc,D)]) s [] (n+1)])):=by
 have m:=nq B;have o:IntKind.i64.wrap ((b.length:Int)+1)=(b.length:Int)+1:=w6 (by omega);have j:IntKind.i64.wrap ((b.length:Int)+1+1)=(b.length:Int)+1+1:=w6 (by omega);have r:=wI (n:=n) (by omega)
 have x:md true=.own:=rfl;have a:=fZ b u;obtain⟨c1,c2,e⟩:=c55 (tmr (rE ch D (k,bc,D))) d U b u (n+1) (by omega);have i:aE []=[]:=rfl;have p:(fin b u).length<=1000000:=by rw[a];split<;>omega
 have y:=PF c1 (fin b u) (k,bc,D) p;simp only[Rr,i] at e;have g:=N4 [.mapv (tmr (rE ch D (k,bc,D)))] c1 c2 (fin b u) [];rw[i] at g;have q:=Nc ch k bc D;by_cases A:u=[]
 ·subst A
  simp only[jz,Nat.lt_irrefl,kz,rh] at a;rw[a];rw[i] at e;constructor
  ·intro h
   by_cases c:512<(b.length:Int)+1
   ·rcases l with rfl | rfl | rfl
    all_goals
     refine aA eB ?_;simp only[eB,go_sem,Rr,bV,aD,i,jm,o,c,cJ,gY,rG,xY,m]
   ·have f:(1024:Int)<((n+1:Nat):Int):=by omega
    rcases l with rfl | rfl | rfl
    all_goals
     refine aA eB ?_;simp only[eB,go_sem,Rr,bV,aD,i,jm,o,r,c,f,cJ,gY,rG,xY,m]
  ·intro h
   have c:¬ 512<(b.length:Int)+1:=by omega
   have f:¬ (1024:Int)<((n+1:Nat):Int):=by omega
   refine⟨c2,?_⟩;rcases l with rfl | rfl | rfl
   all_goals
    refine aA eB ?_;simp only[eB,go_sem,Rr,bV,aD,i,jm,o,r,c,f,cJ,gY,rG,xY,MW,q,e,g,y,cC,dQ,x,m]
 ·have v:=qK A
  have w:0<u.length:=by omega
  rw[iw w] at a;rw[a];constructor
  ·intro h
   by_cases c:512<(b.length:Int)+1+1
   ·rcases l with rfl | rfl | rfl
    all_goals
     refine aA eB ?_;simp only[eB,go_sem,Rr,bV,aD,aK,v,o,j,c,cJ,gY,rG,xY,m]
   ·have f:(1024:Int)<((n+1:Nat):Int):=by omega
    rcases l with rfl | rfl | rfl
    all_goals
     refine aA eB ?_;simp only[eB,go_sem,Rr,bV,aD,aK,v,o,j,r,c,f,cJ,gY,rG,xY,m]
  ·intro h
   have c:¬ 512<(b.length:Int)+1+1:=by omega
   have f:¬ (1024:Int)<((n+1:Nat):Int):=by omega
   refine⟨c2,?_⟩;rcases l with rfl | rfl | rfl
   all_goals
    refine aA eB ?_;simp only[eB,go_sem,Rr,bV,aD,aK,i,v,o,j,r,c,f,cJ,gY,rG,xY,MW,q,e,g,y,cC,dQ,x,m]
def c54c(bc:Bs)(G:k=3)(H:mT ch D=some N)(c:N.1=2)(A:aH N.2.1=bc)(B:N.2.1.length<=1000000)(I:b.length<=2000)(J:u.length<=2000)(K:n<=2000):
  (512<(fin b u).length+1\/1024<n+1->G0 110 [.ptr 1 0,.agg [.int .i64 k,.str bc,.int .i64 D]] [[.mapv (tmr ch)],Rr d b U u n]=some (.int .i64 3,[[.mapv (tmr ch)],Rr d b U u n])) /\
  (¬ (512<(fin b u).length+1\/1024<n+1)->∃ w,G0 110 [.ptr 1 0,.agg [.int .i64 k,.str bc,.int .i64 D]] [[.mapv (tmr ch)],Rr d b U u n]=some (.int .i64 0,[[.mapv (tmr (rE ch D (k,bc,D)))],Rr true (fin b u++[(k,bc,D)]) w [] (n+1)])):=by
 subst G;have p:=NZ H;have a:=c84 N.2.1 B;rw[A] at a;have e:(bc != bc)=false:=by simp
 have q:IntKind.i64.wrap ((b.length:Int)+1)=(b.length:Int)+1:=w6 (by omega);have o:IntKind.i64.wrap ((b.length:Int)+1+1)=(b.length:Int)+1+1:=w6 (by omega);have v:=wI (n:=n) (by omega)
 have C:md true=.own:=rfl;have f:=fZ b u;obtain⟨c1,c2,i⟩:=c55 (tmr (rE ch D (3,bc,D))) d U b u (n+1) (by omega);have m:aE []=[]:=rfl;have r:(fin b u).length<=1000000:=by rw[f];split<;>omega
 have E:=PF c1 (fin b u) (3,bc,D) r;simp only[Rr,m] at i;have l:=N4 [.mapv (tmr (rE ch D (3,bc,D)))] c1 c2 (fin b u) [];rw[m] at l;have s:=Nc ch 3 bc D;by_cases F:u=[]
 ·subst F
  simp only[jz,Nat.lt_irrefl,kz,rh] at f;rw[f];rw[m] at i;constructor
  ·intro h
   by_cases g:512<(b.length:Int)+1
   ·refine aA eB ?_
    simp only[eB,go_sem,Rr,bV,aD,m,jm,q,g,cJ,gY,rG,xY,p,c,a,e]
   ·have j:(1024:Int)<((n+1:Nat):Int):=by omega
    refine aA eB ?_;simp only[eB,go_sem,Rr,bV,aD,m,jm,q,v,g,j,cJ,gY,rG,xY,p,c,a,e]
  ·intro h
   have g:¬ 512<(b.length:Int)+1:=by omega
   have j:¬ (1024:Int)<((n+1:Nat):Int):=by omega
   refine⟨c2,?_⟩;refine aA eB ?_;simp only[eB,go_sem,Rr,bV,aD,m,jm,q,v,g,j,cJ,gY,rG,xY,MW,s,i,l,E,cC,dQ,C,p,c,a,e]
 ·have x:=qK F
  have y:0<u.length:=by omega
  rw[iw y] at f;rw[f];constructor
  ·intro h
   by_cases g:512<(b.length:Int)+1+1
   ·refine aA eB ?_
    simp only[eB,go_sem,Rr,bV,aD,aK,x,q,o,g,cJ,gY,rG,xY,p,c,a,e]
   ·have j:(1024:Int)<((n+1:Nat):Int):=by omega
    refine aA eB ?_;simp only[eB,go_sem,Rr,bV,aD,aK,x,q,o,v,g,j,cJ,gY,rG,xY,p,c,a,e]
  ·intro h
   have g:¬ 512<(b.length:Int)+1+1:=by omega
   have j:¬ (1024:Int)<((n+1:Nat):Int):=by omega
   refine⟨c2,?_⟩;refine aA eB ?_;simp only[eB,go_sem,Rr,bV,aD,aK,m,x,q,o,v,g,j,cJ,gY,rG,xY,MW,s,i,l,E,cC,dQ,C,p,c,a,e]
def yz(h:N∈tg b):N∈b:=(ag9.1 h).1
def SG:tg (fin b i)=tg b:=by
 unfold fin;split
 ·rfl
 ·rw[gW,zE (l7 rfl),ka]
def LG:i.length<=len (fin b i):=by
 unfold fin;split
 ·rename_i h;subst h;simp
 ·rw[fX,gH]
  have:wid (1,i,0)=i.length:=rfl
  omega
def WQ(tx:Bs):b.length<=(fin b tx).length:=by rw[fZ];omega
structure RI (fl:List Tk) (tx:Bs) (m:Tm) (n:Nat):Prop where
 vl:VL (fin fl tx)
 tm:TM (fin fl tx) m
 lk:cX fl≠1
 nn:n=len (fin fl tx)
 l1:(fin fl tx).length<=512
 l2:n<=1024
def lm(h:RI b u ch n):∀ y,mT ch k=some y->y.1=2->y.2.1.length<=1000000:=λy c a=>LY h.vl y (yz (h.tm.yes k y c).1) a
def lj(h:RI b i ch n)(e:¬ (512<b.length+1\/1024<n+1)):RI b (i++[p]) ch (n+1)/\Nt.put (fin b i) (1,[p],0)=fin b (i++[p]):=by
 have a:Nt.put (fin b i) (1,[p],0)=fin b (i++[p]):=uY h.lk (by simp);obtain⟨c,d,_⟩:=KO (s:=(1,[p],0)) h.vl (DV p) (by simp) h.nn;rw[a] at c d;refine⟨⟨c,va h.tm (by rw[SG,SG]),h.lk,d.symm,?_,by omega⟩,a⟩;rw[fZ]
 have:0<(i++[p]).length:=by simp
 rw[iw this];omega
def M0{m':Tm}(h:RI b i ch n)(g:wfX N)(a:N.1≠1)(e:chk (fin b i) N=0)(f:TM (fin b i++[N]) m')(j:¬ (512<(fin b i).length+1\/1024<n+1)):RI (fin b i++[N]) [] m' (n+1):=by
 obtain⟨c,d,_⟩:=KO (s:=N) h.vl g (λq=>q.2 e) h.nn;rw[yJ a] at c d;refine⟨by rw[iI];exact c,by rw[iI];exact f,by rw[dB];exact a,by rw[iI];exact d.symm,by rw[iI];simp;omega,by omega⟩
def qe(f:wfX (k,u,D))(g:k=2\/k=3\/k=4):chk b (k,u,D)=nY b (k,u,D):=by
 rcases f with ⟨a,_⟩ | ⟨a,_⟩ | ⟨a,c,d,e⟩ | ⟨a,c,d,e⟩
 ·simp only[] at a;omega
 ·simp only[] at a;omega
 ·simp only[] at a c d e
  rcases a with rfl | rfl<;>simp [chk,c,d,e]
 ·simp only[] at a c d e
  subst a;simp [chk,c,d,e]
def oq(a:k=2\/k=3\/k=4):bC (k,u,D)=true:=by rcases a with rfl | rfl | rfl<;>rfl
def c54(h:RI b u ch n)(r:wfX N):
  (N.1≠1/\chk (fin b u) N≠0->G0 110 [.ptr 1 0,.agg [.int .i64 N.1,.str N.2.1,.int .i64 N.2.2]] [[.mapv (tmr ch)],Rr d b U u n]=some (.int .i64 (chk (fin b u) N),[[.mapv (tmr ch)],Rr d b U u n])) /\
  (¬ (N.1≠1/\chk (fin b u) N≠0)->512<(Nt.put (fin b u) N).length\/1024<n+1->G0 110 [.ptr 1 0,.agg [.int .i64 N.1,.str N.2.1,.int .i64 N.2.2]] [[.mapv (tmr ch)],Rr d b U u n]=some (.int .i64 3,[[.mapv (tmr ch)],Rr d b U u n])) /\
  (¬ (N.1≠1/\chk (fin b u) N≠0)->¬ (512<(Nt.put (fin b u) N).length\/1024<n+1)->∃ m' B f j m,RI j m m' (n+1)/\fin j m=Nt.put (fin b u) N/\G0 110 [.ptr 1 0,.agg [.int .i64 N.1,.str N.2.1,.int .i64 N.2.2]] [[.mapv (tmr ch)],Rr d b U u n]=some (.int .i64 0,[[.mapv (tmr m')],Rr B j f m (n+1)])):=by
 have M:=h.l1;have O:=h.l2;have L:=WQ (b:=b) u;have S:=LG (b:=b) (i:=u);have P:=h.nn;obtain⟨k,s,i⟩:=N;simp only[];by_cases v:k=1
 ·subst v
  have o:∃ c,s=[c]/\i=0:=by
   rcases r with ⟨_,⟨c,o⟩,hi⟩ | ⟨a,_⟩ | ⟨a,_⟩ | ⟨a,_⟩
   ·exact⟨c,o,hi⟩
   ·simp at a
   ·simp at a
   ·simp at a
  obtain⟨c,rfl,rfl⟩:=o;obtain⟨E,F⟩:=c54t (bd:=tmr ch) (d:=d) (U:=U) (b:=b) (u:=u) (n:=n) (p:=c) (by omega) (by omega) (by omega);have l:(Nt.put (fin b u) (1,[c],0)).length=b.length+1:=xP h.lk (by simp);rw[l];refine⟨λq=>absurd rfl q.1,λ_ q=>E q,λ_ q=>?_⟩;obtain⟨T,V⟩:=lj h (p:=c) q;exact⟨ch,d,true,b,u++[c],T,V.symm,F q⟩
 ·have Q:Nt.put (fin b u) (k,s,i)=fin b u++[(k,s,i)]:=yJ v
  have l:(fin b u++[(k,s,i)]).length=(fin b u).length+1:=by simp
  rw[Q,l];by_cases J:k=5
  ·subst J
   have hi:i=0/\cU s=true:=by
    rcases r with ⟨a,_⟩ | ⟨_,a,K⟩ | ⟨a,_⟩ | ⟨a,_⟩
    ·simp at a
    ·exact⟨K,a⟩
    ·simp at a
    ·simp at a
   obtain⟨rfl,C⟩:=hi;have o:chk (fin b u) (5,s,0)=0:=by simp [chk,C]
   obtain⟨E,F⟩:=c54s (c:=tmr ch) (d:=d) (U:=U) (b:=b) (u:=u) (n:=n) s (by omega) (by omega) (by omega);refine⟨λq=>absurd o q.2,λ_ q=>E q,λ_ q=>?_⟩;obtain⟨f,G⟩:=F q;have R:TM (fin b u++[(5,s,0)]) ch:=va h.tm (by rw[gW,zE (by rfl),ka]);exact⟨ch,true,f,_,[],M0 h r (by simp) o R q,iI,G⟩
  ·have x:k=2\/k=3\/k=4:=by
    rcases r with ⟨a,_⟩ | ⟨a,_⟩ | ⟨a,_⟩ | ⟨a,_⟩
    ·exact absurd a v
    ·exact absurd a J
    ·simp only[] at a;omega
    ·simp only[] at a;omega
   have w:chk (fin b u) (k,s,i)=nY (fin b u) (k,s,i):=qe r x;have e:=yt h.tm (s:=(k,s,i));rw[w];have I:=lm h (k:=i);cases g:GA ch (k,s,i) with
   | true =>
    rw[g] at e;simp only[kp] at e;rw[e];have q:=c54b (ch:=ch) (d:=d) (U:=U) (b:=b) (u:=u) (n:=n) (k:=k) s (D:=i) x I g;exact⟨λ_=>q,λq=>absurd ⟨v,by decide⟩ q,λq=>absurd ⟨v,by decide⟩ q⟩
   | false =>
    rw[g] at e;simp only[jl,kz] at e;rw[e];have H:(512<(fin b u).length+1\/1024<n+1->G0 110 [.ptr 1 0,.agg [.int .i64 k,.str s,.int .i64 i]] [[.mapv (tmr ch)],Rr d b U u n]=some (.int .i64 3,[[.mapv (tmr ch)],Rr d b U u n])) /\
     (¬ (512<(fin b u).length+1\/1024<n+1)->∃ f,G0 110 [.ptr 1 0,.agg [.int .i64 k,.str s,.int .i64 i]] [[.mapv (tmr ch)],Rr d b U u n]=some (.int .i64 0,[[.mapv (tmr (rE ch i (k,s,i)))],Rr true (fin b u++[(k,s,i)]) f [] (n+1)])):=by
     unfold GA at g;cases A:mT ch i with
     | none=>exact c54n (ch:=ch) (d:=d) (U:=U) (b:=b) (u:=u) (n:=n) (k:=k) s (D:=i) x A (by omega) (by omega) (by omega)
     | some y =>
      rw[A] at g;simp only[ah0,ir,jo,Lh] at g;exact c54c (ch:=ch) (d:=d) (U:=U) (b:=b) (u:=u) (n:=n) (k:=k) s (D:=i) g.1.1 (N:=y) A g.1.2 g.2 (I y A g.1.2) (by omega) (by omega) (by omega)
    refine⟨λq=>absurd rfl q.2,λ_ q=>H.1 q,λ_ q=>?_⟩;obtain⟨f,G⟩:=H.2 q;exact⟨_,true,f,_,[],M0 h r v (by rw[w];exact e) (yw h.tm (oq x) e) q,iI,G⟩
def l35(s:Bs)(Q:s.length<=100000):∀ (k a:Nat) (fl:List Tk) (tx:Bs) (m:Tm) (n:Nat) (b1 b2:Bool),s.length<=a+k->a<=s.length->RI fl tx m n ->
  ((prS (fin fl tx) a n (s.drop a)).2.2=0->∃ m' i j g h n',fin g h=(prS (fin fl tx) a n (s.drop a)).1/\g.length<=512/\aC G0 rR (ST [(0,.str s),(3,.int .i64 a),(5,.ptr 1 0)] [] [[.mapv (tmr m)],Rr b1 fl b2 tx n])=some (.ex 0,ST [(0,.str s),(3,.int .i64 s.length),(5,.ptr 1 0),(15,.bool false)] [] [[.mapv (tmr m')],Rr i g j h n'])) /\
  ((prS (fin fl tx) a n (s.drop a)).2.2≠0->∃ E m' sh',aC G0 rR (ST [(0,.str s),(3,.int .i64 a),(5,.ptr 1 0)] [] [[.mapv (tmr m)],Rr b1 fl b2 tx n])=some (.ret,ST E m' sh')/\aF .any E 2=.sl .full 3 []/\aF .any E 3=.int .i64 ((prS (fin fl tx) a n (s.drop a)).2.1:Nat)/\aF .any E 4=.int .i64 (prS (fin fl tx) a n (s.drop a)).2.2)
 | k,a,fl,tx,m,n,b1,b2,T,V,K=>by
  by_cases O:a=s.length
  ·subst O
   rw[lb,yK];refine⟨λ_=>⟨m,b1,b2,fl,tx,n,rfl,by have:=K.l1;have:=WQ (b:=fl) tx;omega,?_⟩,λq=>absurd rfl q⟩;rw[aB rR rfl];simp only[go_sem,jm]
  cases k with
  | zero=>omega
  | succ k =>
  have C:(a:Int)<s.length:=by omega
  have l:aZ true 0 (.str s) (some (.int .i64 a)) none=some (.str (s.drop a)):=by
   rw[yE (by omega) (by omega),jp]
  obtain⟨c,r,w⟩:∃ c r,s.drop a=c::r:=by
   cases hd:s.drop a with
   | nil=>have:=pz List.length hd;rw[kl] at this;simp at this;omega
   | cons c r=>exact⟨c,r,rfl⟩
  have P:r.length+1=s.length-a:=by
   have:=pz List.length w;rw[kl] at this;simp at this;omega
  obtain⟨kk,t,id,nn,b,A,o,L⟩:=c53 c (u:=r) (by omega);rw[<- w] at A o L;cases f:rd (s.drop a) with
  | none =>
   rw[f] at o;have o:b=false:=o;subst o;rw[zZ (by rw[w];simp) f];refine⟨λq=>(by simp at q),λ_=>?_⟩;refine Exists.intro ?_ (Exists.intro ?_ (Exists.intro ?_ (And.intro ?_ ?_)))
   rotate_left 3
   ·rw[aB rR rfl]
    simp only[go_sem,C,l,A];rfl
   ·exact⟨rfl,rfl,rfl⟩
  | some p =>
   obtain⟨x,mm⟩:=p;rw[f] at o;have o:b=true:=o;subst o;obtain⟨M,N⟩:=L x mm f;subst N;obtain⟨R,_,_,_⟩:=yI f;obtain⟨X,m2,_,_⟩:=t7 f;rw[kl] at m2;obtain⟨B,F,G⟩:=c54 K (d:=b1) (U:=b2) R;rw[lJ f];subst M;simp only[] at B F G;by_cases v:kk≠1/\chk (fin fl tx) (kk,t,id)≠0
   ·rw[iw v]
    have B:=B v;have y:=v.2;refine⟨λq=>absurd q v.2,λ_=>?_⟩;generalize chk (fin fl tx) (kk,t,id)=e at B y;refine Exists.intro ?_ (Exists.intro ?_ (Exists.intro ?_ (And.intro ?_ ?_)))
    rotate_left 3
    ·rw[aB rR rfl]
     simp only[go_sem,C,l,A,B,y];rfl
    ·exact⟨rfl,rfl,rfl⟩
   ·rw[ie v]
    by_cases D:512<(Nt.put (fin fl tx) (kk,t,id)).length\/1024<n+1
    ·rw[iw D]
     have F:=F v D;refine⟨λq=>(by simp at q),λ_=>?_⟩;refine Exists.intro ?_ (Exists.intro ?_ (Exists.intro ?_ (And.intro ?_ ?_)))
     rotate_left 3
     ·rw[aB rR rfl]
      simp only[go_sem,C,l,A,F];rfl
     ·exact⟨rfl,rfl,rfl⟩
    ·rw[ie D]
     obtain⟨m',i,j,g,h,H,I,G⟩:=G v D;have J:IntKind.i64.wrap ((a:Int)+(mm:Int))=(a+mm:Nat):=by rw[w6 (by omega)];rfl
     have S:=l35 s Q k (a+mm) g h m' (n+1) i j (by omega) (by omega) H;rw[ah2,<- I];have step:aC G0 rR (ST [(0,.str s),(3,.int .i64 a),(5,.ptr 1 0)] [] [[.mapv (tmr m)],Rr b1 fl b2 tx n])=aC G0 rR (ST [(0,.str s),(3,.int .i64 (a+mm:Nat)),(5,.ptr 1 0)] [] [[.mapv (tmr m')],Rr i g j h (n+1)]):=by
      conv=>lhs;rw[aB rR rfl]
      simp only[go_sem,C,l,A,G,J]
     rw[step];exact S
def c35(s:Bs)(y:s.length<=100000):G0 65 [.str s] []=some (.tup [.sl .no 3 (tks (eV s).1),.int .i64 ((eV s).2.1:Nat),.int .i64 (eV s).2.2],[]):=by
 have w:RI [] [] [] 0:=⟨rfl,yu,by simp [cX],rfl,by simp [fin],by omega⟩
 obtain⟨d,f⟩:=l35 s y s.length 0 [] [] [] 0 false false (by omega) (by omega) w;rw[kc] at d f;have r:prS (fin [] []) 0 0 s=eV s:=rfl;rw[r] at d f;have v:((0:Nat):Int)=0:=rfl;have u:Rr false [] false [] 0=[.sl .full 3 [],.sl .full 1 [],.int .i64 0,.mp 0]:=rfl;have em:tmr []=[]:=rfl;rw[v,u,em] at d f;refine aA F65 ?_;by_cases h:(eV s).2.2=0
 ·obtain⟨m',i,j,k,m,n',n,p,o⟩:=d h
  obtain⟨c1,c2,c⟩:=c55 (tmr m') i j k m n' (by omega);rw[n] at c;have x:(eV s).2.1=0:=by
   obtain⟨g,b,e⟩:∃ g b,eV s=(g,b,0):=⟨(eV s).1,(eV s).2.1,by rw[<- h]⟩
   have:=(xI e).2.2
   rw[e];exact this
  rw[h,x];have A:aE []=[]:=rfl;simp only[Rr,A] at c;have a:∀ q,dW [] q=true:=λ_=>rfl
  simp only[F65,go_sem,o,Rr,c,bV,a]
 ·obtain⟨B,m',sh',n,p,o,c⟩:=f h
  have hg:(eV s).1=[]:=by
   obtain⟨g,b,e,l⟩:∃ g b e,eV s=(g,b,e):=⟨(eV s).1,(eV s).2.1,(eV s).2.2,rfl⟩
   have:=(QM l (by rw[l] at h;exact h)).2.1
   rw[l];exact this
  rw[hg];have a:dW [] sh'=true:=rfl;simp only[F65,go_sem,n,p,o,c,a,cW]
def BoT(b1:Bool)(fl:List Tk)(b2:Bool)(tx:Bs)(a:Bool)(cs:List Nat)(T:List AV):List AV:=
 .sl (md b1) 3 (tks fl)::.sl (md b2) 1 (aE tx)::.sl (md a) 1 (fI cs)::T
def tl0(n:Nat):0<n+1+1+1:=by omega
def tl1:1<n+1+1+1:=by omega
def tl2:2<n+1+1+1:=by omega
def ROT(T:List AV)(R:LL):Prop:=(T.all (fP (R.length+1)))=true/\(R.all λc=>c.all (fP (R.length+1)))=true
def j5(h:ROT f c)(b m2 d:Own)(l1 l2 a:LL):fF false (c.length+1) ((.sl b 3 l1::.sl m2 1 l2::.sl d 1 a::f)::c)=true:=by
 unfold fF;rw[qb,Ut];simp only[ys,ad0,h.1,h.2,kv];rfl
def Nw(bm:Bool):EV (sh:=(.sl (md d) 3 c::.sl (md U) 1 bd::.sl (md bm) 1 bw::f)::R) 0 0 (.sl (md d) 3 c::.sl (md U) 1 bd::.sl (md bm) 1 bw::f) (.sl (md d) 3 c)=some (.sl (md d) 3 c,(.sl (mdn d) 3 c::.sl (md U) 1 bd::.sl (md bm) 1 bw::f)::R):=by
 cases d<;>rfl
def Zv:EV (sh:=(.sl bf 3 c::.sl (md d) 1 bd::.sl (md U) 1 bw::f)::R) 0 1 (.sl bf 3 c::.sl (md d) 1 bd::.sl (md U) 1 bw::f) (.sl (md d) 1 bd)=some (.sl (md d) 1 bd,(.sl bf 3 c::.sl (mdn d) 1 bd::.sl (md U) 1 bw::f)::R):=by
 cases d<;>rfl
def Bx:EV (sh:=(.sl bf 3 c::.sl m2 1 bd::.sl (md d) 1 bw::f)::R) 0 2 (.sl bf 3 c::.sl m2 1 bd::.sl (md d) 1 bw::f) (.sl (md d) 1 bw)=some (.sl (md d) 1 bw,(.sl bf 3 c::.sl m2 1 bd::.sl (mdn d) 1 bw::f)::R):=by
 cases d<;>rfl
def RL(b:Bool)(cs:List Nat)(a:Nat)(o:Own)(h:cs.length<=1000000):iN false 1 8 (.sl (md b) 1 (fI cs)) (.sl o 1 [[.int .i64 a]])=some (.sl .own 1 (fI (cs++[a]))):=by
 have c:aU 8 (cs.length+1)=true:=aL (by decide) (by omega);rw[bJ (md b) o (pM b) 1 8 (by decide),aW,jy,iw c,cK]
def Sz(b2:Bool)(tx:Bs)(c:UInt8)(o:Own)(h:tx.length<=1000000):iN false 1 1 (.sl (md b2) 1 (aE tx)) (.sl o 1 [[.int .u8 (bI c)]])=some (.sl .own 1 (aE (tx++[c]))):=by
 have a:aU 1 (tx.length+1)=true:=aL (by decide) (by omega);rw[bJ (md b2) o (pM b2) 1 1 (by decide),aK,jy,iw a];simp [aE,bI]
def RK(b1:Bool)(fl:List Tk)(x:Tk)(o:Own)(h:fl.length<=1000000):iN false 3 32 (.sl (md b1) 3 (tks fl)) (.sl o 3 [[.int .i64 x.1,.str x.2.1,.int .i64 x.2.2]])=some (.sl .own 3 (tks (fl++[x]))):=by
 have a:aU 32 (fl.length+1)=true:=aL (by decide) (by omega);rw[bJ (md b1) o (pM b1) 3 32 (by decide),aD,jy,iw a,<- iV];rfl
def jX:(f::c).take (c.length+1)=f::c:=by rw[qb,Ut]
def nN(fl:List Tk)(tx:Bs)(cs:List Nat)(t:Bool):Bool:=decide (512<(if t then fl.length else (fin fl tx).length)+1\/1024<cs.length+1)
def ul(b1 b2 p t:Bool)(tx:Bs)(R:LL)(g:ROT f R)(s:b.length<=2000)(u:r.length<=2000):
  G9 231 [.ptr 0 0,.bool t] (BoT b1 b b2 tx p r f::R)=some (.bool (nN b tx r t),BoT b1 b b2 tx p r f::R):=by
 have h:=wI (n:=b.length) (by omega)
 have o:IntKind.i64.wrap (((b.length+1:Nat):Int)+1)=(b.length+2:Nat):=by rw[w6 (by omega)];rfl
 have j:=wI (n:=r.length) (by omega)
 refine aA BS ?_;unfold BoT;by_cases q:tx=[]
 ·subst q
  have m:aE []=[]:=rfl;have e:nN b [] r t=decide (512<b.length+1\/1024<r.length+1):=by unfold nN;rw[iI];cases t<;>rfl
  rw[e];by_cases k:512<b.length+1
  ·have a:(512:Int)<((b.length+1:Nat):Int):=by omega
   rw[jv (Or.inl k)]
   cases t<;>simp only[BS,go_sem,bV,aD,m,jm,h,a,tl0,tl1,tl2,j5 g,jX]
  ·have a:¬ (512:Int)<((b.length+1:Nat):Int):=by omega
   by_cases l:1024<r.length+1
   ·have c:(1024:Int)<((r.length+1:Nat):Int):=by omega
    rw[jv (Or.inr l)]
    cases t<;>simp only[BS,go_sem,bV,aD,aW,m,jm,h,j,a,c,tl0,tl1,tl2,j5 g,jX]
   ·have c:¬ (1024:Int)<((r.length+1:Nat):Int):=by omega
    rw[jr (by omega)]
    cases t<;>simp only[BS,go_sem,bV,aD,aW,m,jm,h,j,a,c,tl0,tl1,tl2,j5 g,jX]
 ·have i:=qK q
  have d:¬ (tx.length:Int)=0:=by omega
  cases t
  ·have e:nN b tx r false=decide (512<b.length+2\/1024<r.length+1):=by unfold nN;rw[ie (by decide),fZ,iw (by omega)]
   rw[e];by_cases k:512<b.length+2
   ·have a:(512:Int)<((b.length+2:Nat):Int):=by omega
    rw[jv (Or.inl k)];simp only[BS,go_sem,bV,aD,aK,i,d,h,o,a,tl0,tl1,tl2,j5 g,jX]
   ·have a:¬ (512:Int)<((b.length+2:Nat):Int):=by omega
    by_cases l:1024<r.length+1
    ·have c:(1024:Int)<((r.length+1:Nat):Int):=by omega
     rw[jv (Or.inr l)];simp only[BS,go_sem,bV,aD,aW,aK,i,d,h,o,j,a,c,tl0,tl1,tl2,j5 g,jX]
    ·have c:¬ (1024:Int)<((r.length+1:Nat):Int):=by omega
     rw[jr (by omega)];simp only[BS,go_sem,bV,aD,aW,aK,i,d,h,o,j,a,c,tl0,tl1,tl2,j5 g,jX]
  ·have e:nN b tx r true=decide (512<b.length+1\/1024<r.length+1):=rfl
   rw[e];by_cases k:512<b.length+1
   ·have a:(512:Int)<((b.length+1:Nat):Int):=by omega
    rw[jv (Or.inl k)];simp only[BS,go_sem,bV,aD,aK,i,d,h,a,tl0,tl1,tl2,j5 g,jX]
   ·have a:¬ (512:Int)<((b.length+1:Nat):Int):=by omega
    by_cases l:1024<r.length+1
    ·have c:(1024:Int)<((r.length+1:Nat):Int):=by omega
     rw[jv (Or.inr l)];simp only[BS,go_sem,bV,aD,aW,aK,i,d,h,j,a,c,tl0,tl1,tl2,j5 g,jX]
    ·have c:¬ (1024:Int)<((r.length+1:Nat):Int):=by omega
     rw[jr (by omega)];simp only[BS,go_sem,bV,aD,aW,aK,i,d,h,j,a,c,tl0,tl1,tl2,j5 g,jX]
def ur(b1 b2 e:Bool)(tx:Bs)(R:LL)(g:ROT f R)(o:b.length<=2000):
  ∃ a c,G9 170 [.ptr 0 0] (BoT b1 b b2 tx e r f::R)=some (.tup [],BoT a (fin b tx) c [] e r f::R):=by
 by_cases h:tx=[]
 ·subst h
  refine⟨b1,b2,?_⟩;rw[iI];refine aA YI ?_;have d:aE []=[]:=rfl;simp only[YI,go_sem,BoT,bV,d,jm,tl0,tl1,tl2,j5 g,jX]
 ·have n:=qK h
  refine⟨true,false,?_⟩;have k:fin b tx=b++[(1,tx,0)]:=by unfold fin;rw[ie h]
  rw[k];have l:=RK b1 b (1,tx,0) .full (by omega);have m:=fU tx;have d:aE []=[]:=rfl;have i:md true=.own:=rfl;have j:md false=.full:=rfl;refine aA YI ?_;simp only[YI,go_sem,BoT,bV,aK,n,Nw,m,l,cC,dQ,i,j,d,tl0,tl1,tl2,j5 g,jX]
def uo(b1 b2 e:Bool)(tx:Bs)(T:List AV)(R:LL)(c:UInt8)(a:Nat)(g:ROT T R)(i:b.length<=2000)(j:tx.length<=1000000)(k:r.length<=2000):
  (nN b tx r true=true->G9 210 [.ptr 0 0,.int .u8 (bI c),.int .i64 a] (BoT b1 b b2 tx e r T::R)=some (.bool false,BoT b1 b b2 tx e r T::R)) /\
  (nN b tx r true=false->G9 210 [.ptr 0 0,.int .u8 (bI c),.int .i64 a] (BoT b1 b b2 tx e r T::R)=some (.bool true,BoT b1 b true (tx++[c]) true (r++[a]) T::R)):=by
 have d:=ul b1 b2 e true (b:=b) tx (r:=r) (f:=T) R g i k;constructor
 ·intro q
  rw[q] at d;unfold BoT at d ⊢;refine aA YE ?_;simp only[YE,go_sem,d,tl0,tl1,tl2,j5 g,jX]
 ·intro q
  rw[q] at d;unfold BoT at d ⊢;have l:=λo=>Sz b2 tx c o j
  have m:=λo=>RL e r a o (by omega)
  have h:md true=.own:=rfl;refine aA YE ?_;simp only[YE,go_sem,d,Zv,Bx,l,m,cC,dQ,h,tl0,tl1,tl2,j5 g,jX]
def um(b1 b2 d:Bool)(tx:Bs)(T:List AV)(R:LL)(x:Tk)(a:Nat)(g:ROT T R)(j:b.length<=2000)(s:tx.length<=1000000)(m:r.length<=2000):
  (nN b tx r false=true->G9 211 [.ptr 0 0,.agg [.int .i64 x.1,.str x.2.1,.int .i64 x.2.2],.int .i64 a] (BoT b1 b b2 tx d r T::R)=some (.bool false,BoT b1 b b2 tx d r T::R)) /\
  (nN b tx r false=false->∃ c,G9 211 [.ptr 0 0,.agg [.int .i64 x.1,.str x.2.1,.int .i64 x.2.2],.int .i64 a] (BoT b1 b b2 tx d r T::R)=some (.bool true,BoT true (fin b tx++[x]) c [] true (r++[a]) T::R)):=by
 have e:=ul b1 b2 d false (b:=b) tx (r:=r) (f:=T) R g j m;constructor
 ·intro q
  rw[q] at e;unfold BoT at e ⊢;refine aA YD ?_;simp only[YD,go_sem,e,tl0,tl1,tl2,j5 g,jX]
 ·intro q
  rw[q] at e;obtain⟨h,c,hg⟩:=ur b1 b2 d (b:=b) tx (r:=r) (f:=T) R g j;refine⟨c,?_⟩;unfold BoT at e hg ⊢;have i:(fin b tx).length<=1000000:=by rw[fZ];split<;>omega
  have n:=λo=>RK h (fin b tx) x o i
  have p:=λo=>RL d r a o (by omega)
  have k:aE []=[]:=rfl;rw[k] at hg;have l:md true=.own:=rfl;refine aA YD ?_;simp only[YD,go_sem,e,hg,Nw,Bx,n,p,cC,dQ,l,k,tl0,tl1,tl2,j5 g,jX]
def R8(b1 b2 d:Bool)(fl:List Tk)(tx:Bs)(cs:List Nat)(T:List AV)(R:LL)(e:ROT T R)(h:fl.length<=2000):
  ∃ a c,G9 128 [.ptr 0 0] (BoT b1 fl b2 tx d cs T::R)=some (.sl .no 3 (tks (fin fl tx)),BoT a (fin fl tx) c [] d cs T::R):=by
 obtain⟨a,c,hg⟩:=ur b1 b2 d (b:=fl) tx (r:=cs) (f:=T) R e h;refine⟨a,c,?_⟩;unfold BoT at hg ⊢;have g:aE []=[]:=rfl;rw[g] at hg;refine aA Gd ?_;simp only[Gd,go_sem,hg,bV,cC,dQ,g,tl0,tl1,tl2,j5 e,jX]
def Jy(d U bm:Bool)(T:List AV)(R:LL)(a:Nat)(c:ROT T R)(f:r.length<=2000):
  G9 134 [.ptr 0 0,.int .i64 a] (BoT d b U i bm r T::R)=some (.sl .no 1 (fI (r++[a])),(.sl (md d) 3 (tks b)::.sl (md U) 1 (aE i)::.sl (mdn bm) 1 (fI r)::T)::R):=by
 unfold BoT;have e:=λo=>RL bm r a o (by omega)
 refine aA Ga ?_;simp only[Ga,go_sem,Bx,e,cC,dQ,tl0,tl1,tl2,j5 c,jX]
def Bo(b1:Bool)(fl:List Tk)(b2:Bool)(tx:Bs)(a:Bool)(cs:List Nat)(v:AV)(id:Int):List AV:=
 [.sl (md b1) 3 (tks fl),.sl (md b2) 1 (aE tx),.sl (md a) 1 (fI cs),v,.int .i64 id]
def RO(v:AV)(R:LL):Prop:=fP (R.length+1) v=true/\(R.all λc=>c.all (fP (R.length+1)))=true
def RO.t(h:RO bv c)(id:Int):ROT [bv,.int .i64 id] c:=⟨by simp only[ad0,all_nil,h.1,kv];rfl,h.2⟩
def Xh(d U bm:Bool)(h:AV)(f:RO h bd)(a:b.length<=2000)(c:i.length<=1000000)(e:r.length<=2000):
  (nN b i r true=true->G9 210 [.ptr 0 0,.int .u8 (bI p),.int .i64 n] (Bo d b U i bm r h k::bd)=some (.bool false,Bo d b U i bm r h k::bd)) /\
  (nN b i r true=false->G9 210 [.ptr 0 0,.int .u8 (bI p),.int .i64 n] (Bo d b U i bm r h k::bd)=some (.bool true,Bo d b true (i++[p]) true (r++[n]) h k::bd)):=uo d U bm (b:=b) i (r:=r) [h,.int .i64 k] bd p n (f.t k) a c e
def R4(b1 b2 c:Bool)(fl:List Tk)(tx:Bs)(cs:List Nat)(v:AV)(id:Int)(R:LL)(x:Tk)(a:Nat)(h:RO v R)(e:fl.length<=2000)(f:tx.length<=1000000)(g:cs.length<=2000):
  (nN fl tx cs false=true->G9 211 [.ptr 0 0,.agg [.int .i64 x.1,.str x.2.1,.int .i64 x.2.2],.int .i64 a] (Bo b1 fl b2 tx c cs v id::R)=some (.bool false,Bo b1 fl b2 tx c cs v id::R)) /\
  (nN fl tx cs false=false->∃ d,G9 211 [.ptr 0 0,.agg [.int .i64 x.1,.str x.2.1,.int .i64 x.2.2],.int .i64 a] (Bo b1 fl b2 tx c cs v id::R)=some (.bool true,Bo true (fin fl tx++[x]) d [] true (cs++[a]) v id::R)):=um b1 b2 c (b:=fl) tx (r:=cs) [v,.int .i64 id] R x a (h.t id) e f g
def Ya(d U bm:Bool)(h:AV)(g:RO h c)(f:b.length<=2000):
  ∃ a e,G9 128 [.ptr 0 0] (Bo d b U i bm r h k::c)=some (.sl .no 3 (tks (fin b i)),Bo a (fin b i) e [] bm r h k::c):=R8 d U bm b i r [h,.int .i64 k] c (g.t k) f
def Xv(d U bm:Bool)(h:AV)(e:RO h c)(a:r.length<=2000):
  G9 134 [.ptr 0 0,.int .i64 n] (Bo d b U i bm r h k::c)=some (.sl .no 1 (fI (r++[n])),(.sl (md d) 3 (tks b)::.sl (md U) 1 (aE i)::.sl (mdn bm) 1 (fI r)::[h,.int .i64 k])::c):=Jy d U bm (b:=b) (i:=i) (r:=r) [h,.int .i64 k] c n (e.t k) a
def Rv:G0 198 [.str i,.str u] []=some (.bool (decide (u <+: i)),[]):=by
 refine aA L6 ?_;by_cases h:u.length<=i.length
 ·have a:(u.length:Int)<=i.length:=by omega
  have e:(i.take u.length==u)=decide (u <+: i):=by
   rw[ai6];simp [lI,h]
  have q:=ss2 i u.length h;simp only[L6,go_sem,a,q,e]
 ·have a:¬ (u.length:Int)<=i.length:=by omega
  have e:decide (u <+: i)=false:=by
   rw[ac7,lI];exact λq=>h q.2
  simp only[L6,go_sem,a,e]
def BV(s t:Bs):G9 161 [.str s,.str t] []=some (.bool (decide (t <+: s)),[]):=by
 refine up ?_ rfl;refine aA YK ?_;simp only[YK,go_sem,Rv]
def R7(s:Bs)(b:s.length<=1000000):G9 138 [.str s] []=some (.str (aH s),[]):=by
 refine aA uc ?_;cases h:cut 32 s with
 | none=>rw[j7 h];simp only[uc,go_sem,up (A9 h) rfl]
 | some p =>
  obtain⟨a,r⟩:=p;rw[mE h];simp only[uc,go_sem,up (DD b h) rfl]
def yp(s:Bs):G9 137 [.str s] []=some (.bool (eD s),[]):=by
 refine aA JU ?_;unfold eD;cases a:(s==[112])
 ·cases b:(s==[104])
  ·cases c:(s==[108,105])
   ·cases d:(s==[116,100])
    ·cases e:(s==[116,105,116,108,101])
     ·simp only[JU,go_sem,a,b,c,d,e,ys]
     ·simp only[JU,go_sem,a,b,c,d,e,ys]
    ·simp only[JU,go_sem,a,b,c,d,ys,aa3]
   ·simp only[JU,go_sem,a,b,c,ys,aa3]
  ·simp only[JU,go_sem,a,b,ys,aa3]
 ·simp only[JU,go_sem,a,aa3]
def Jw(c:p≠62)(h:cut 62 i=none):G9 162 [.str (p::i)] []=some (.tup [.agg [.int .i64 0,.str [],.int .i64 0],.int .i64 0,.bool false],[]):=by
 have b:cut 62 (p::i)=none:=by simp [cut,c,h]
 have a:G9 155 [.str (p::i),.int .u8 62] []=some (.int .i64 (Lib.indexByte (p::i) 62),[]):=up (B7 (p::i) 62) rfl;rw[kU b] at a;refine aA MB ?_;simp only[MB,go_sem,a]
def R6(c:UInt8)(t a r:Bs)(B:c≠62)(C:t.length<=1000000)(h:cut 62 t=some (a,r)):G9 162 [.str (c::t)] []=some (.tup [.agg [.int .i64 (rtK a).1,.str (rtK a).2,.int .i64 0],.int .i64 (a.length+2:Nat),.bool (rtV (rtK a).1 (rtK a).2)],[]):=by
 have v:=(bP.1 h).1;have A:a.length<=t.length:=by rw[v];simp
 have y:cut 62 (c::t)=some (c::a,r):=by simp [cut,B,h]
 have n:G9 155 [.str (c::t),.int .u8 62] []=some (.int .i64 (Lib.indexByte (c::t) 62),[]):=up (B7 (c::t) 62) rfl;rw[mH y,jd] at n;have p:¬ ((a.length+1:Nat):Int)<1:=by omega
 have w:IntKind.i64.wrap (((a.length+1:Nat):Int)+1)=(a.length+2:Nat):=by rw[w6 (by omega)];rfl
 have e:(((c::t):Bs).take (a.length+1)).drop 1=a:=by rw[v];simp
 have b:=ss3 (c::t) 1 (a.length+1) (by omega) (by rw[v];simp);rw[e,show ((1:Nat):Int)=1 from rfl] at b;have j:=up (Sc a 47) rfl;have o:=up (qv a 47 (by omega)) rfl;refine aA MB ?_;unfold rtK rtV;by_cases q:a.head?=some 47
 ·rw[iw q]
  have s:(a.head? == some 47)=true:=by simp [q]
  rw[s] at j;have f:1<=a.length:=by cases a with | nil=>simp at q | cons d u=>simp
  have k:=ss1 a 1 f;rw[show ((1:Nat):Int)=1 from rfl] at k;have i:=up (c83 (a.drop 1)) rfl;simp only[MB,go_sem,n,p,b,j,k,w,i]
  try rfl
 ·rw[ie q]
  have s:(a.head? == some 47)=false:=by simp [q]
  rw[s] at j;by_cases m:a.getLast?=some 47
  ·rw[iw m]
   have g:(a.getLast? == some 47)=true:=by simp [m]
   rw[g] at o;have f:1<=a.length:=by cases a with | nil=>simp at m | cons d u=>simp
   have x:IntKind.i64.wrap ((a.length:Int)-1)=(a.length-1:Nat):=by rw[w6 (by omega)];omega
   have l:=ss2 a (a.length-1) (by omega);rw[<- an6] at l;have i:=up (c97 a.dropLast) rfl;simp only[MB,go_sem,n,p,b,j,o,x,l,w,i]
   try rfl
  ·rw[ie m]
   have g:(a.getLast? == some 47)=false:=by simp [m]
   rw[g] at o;have i:=up (c97 a) rfl;simp only[MB,go_sem,n,p,b,j,o,w,i]
   try rfl
def Xi(p:UInt8):G9 208 [.str (38::i)] []=some ((match rfR i with
  | some (x,n)=>match x.2.1 with
   | [d]=>.tup [.int .u8 (bI d),.int .i64 n,.bool true]
   | _=>.tup [.int .u8 0,.int .i64 0,.bool false]
  | none=>.tup [.int .u8 0,.int .i64 0,.bool false]),[]):=by
 have a:=BV (38::i) [38,108,116,59];have b:=BV (38::i) [38,103,116,59];have c:=BV (38::i) [38,97,109,112,59];have e:=BV (38::i) [38,108,98,59];have f:=BV (38::i) [38,114,98,59];rw[NA] at a b c e f;refine aA JR ?_;unfold rfR;by_cases g:[108,116,59] <+: i
 ·rw[jv g] at a
  rw[iw g];simp only[JR,go_sem,a]
  try rfl
 rw[jr g] at a;rw[ie g];by_cases h:[103,116,59] <+: i
 ·rw[jv h] at b
  rw[iw h];simp only[JR,go_sem,a,b]
  try rfl
 rw[jr h] at b;rw[ie h];by_cases j:[97,109,112,59] <+: i
 ·rw[jv j] at c
  rw[iw j];simp only[JR,go_sem,a,b,c]
  try rfl
 rw[jr j] at c;rw[ie j];by_cases k:[108,98,59] <+: i
 ·rw[jv k] at e
  rw[iw k];simp only[JR,go_sem,a,b,c,e]
  try rfl
 rw[jr k] at e;rw[ie k];by_cases l:[114,98,59] <+: i
 ·rw[jv l] at f
  rw[iw l];simp only[JR,go_sem,a,b,c,e,f]
  try rfl
 rw[jr l] at f;rw[ie l];simp only[JR,go_sem,a,b,c,e,f]
def F4(b:Bool):G9 209 [.bool b] []=some (.int .i64 (if b then 0 else 3),[]):=by
 refine aA Fm ?_
 cases b<;>simp only[Fm,go_sem,kr,jt]<;>rfl
end Go.Av
