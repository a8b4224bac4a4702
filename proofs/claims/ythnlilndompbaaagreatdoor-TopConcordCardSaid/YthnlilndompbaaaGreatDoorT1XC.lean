/- Functions walked, and plain facts. No conditions. -/
import Derived.Test.YthnlilndompbaaaGreatDoorT1Sm
import Derived.Test.YthnlilndompbaaaGreatDoorT1XB
import Derived.IntWalk
open List
set_option linter.all false
set_option maxRecDepth 100000
set_option maxHeartbeats 16000000
def je:=@List.drop_eq_getElem_cons
def jm:=@Int.lt_irrefl
def jr:=@decide_eq_false
def jv:=@decide_eq_true
def wa:=@List.mem_cons_self
def af8:=@Int.tmod_eq_emod_of_nonneg
def af9:=@Int.fdiv_eq_ediv_of_nonneg
def ag5:=@decide_eq_decide
def an1:=@List.takeWhile_prefix
def an6:=@List.dropLast_eq_take
def ao7:=@Int.tdiv_eq_ediv_of_nonneg
namespace Go.Av
open Go.Nt
set_option maxHeartbeats 4000000
variable{bc i u:Bs}{c:LL}{k:Int}{n:Nat}{p:UInt8}
variable [Mx]
abbrev bI(c:UInt8):Int:=(c.toNat:Int)
def wu8(a:0<=k)(b:k<=255):IntKind.u8.wrap k=k:=by
 unfold IntKind.wrap;have e:IntKind.u8.bits=8:=rfl;simp only[e,IntKind.signed,kn,jl,kz];omega
def gJ(x:Int):Int:=if x=9\/x=10\/x=13\/x=32 then 2 else if x<32\/x=127 then 1 else if 48<=x/\x<=57 then 3 else if 97<=x/\x<=122\/65<=x/\x<=90\/128<=x then 4 else 5
def RD:G0 73 [.int .u8 k] []=some (.int .i64 (gJ k),[]):=by
 refine aA F73 ?_;by_cases a:k=9
 ·subst a;simp only[F73,go_sem,gJ,ah8,ah9]
 by_cases b:k=10
 ·subst b;simp only[F73,go_sem,gJ,ah8,ah9]
 by_cases c:k=13
 ·subst c;simp only[F73,go_sem,gJ,ah8,ah9]
 by_cases d:k=32
 ·subst d;simp only[F73,go_sem,gJ,ah8,ah9]
 by_cases e:k<32
 ·simp only[F73,go_sem,gJ,a,b,c,d,e,ah8,ah9,ao1]
 by_cases f:k=127
 ·subst f;simp only[F73,go_sem,gJ,ah8,ah9,ao1]
 by_cases g:48<=k<;>by_cases h:k<=57<;>by_cases i:97<=k<;>by_cases j:k<=122<;>by_cases a5:65<=k<;>by_cases l:k<=90<;>by_cases m:128<=k<;>first | (exfalso;omega) | simp only[F73,go_sem,gJ,a,b,c,d,e,f,g,h,i,j,a5,l,m,ah8,ah9,ao1,ak3,false_or]
def mQ(x:Int):Bool:=if x=92 then false else if x=60 then false else if x=123 then false else if x=9 then false else if x=10 then false else if x=13 then false else !decide (gJ x=1)
def mq:plain p=mQ (bI p):=by
 have:=fA (λp=>plain p==mQ (bI p)) (by decide +kernel) p
 simpa using this
def Rs:ctl p=decide (gJ (bI p)=1):=by
 have:=fA (λp=>ctl p==decide (gJ (bI p)=1)) (by decide +kernel) p
 simpa using this
def c77(c:UInt8):G0 157 [.int .u8 (bI c)] []=some (.bool (plain c),[]):=by
 refine aA CB ?_;rw[mq];generalize bI c=x;by_cases a:x=92
 ·simp only[CB,go_sem,mQ,a]
 by_cases b:x=60
 ·simp only[CB,go_sem,mQ,a,b]
 by_cases d:x=123
 ·simp only[CB,go_sem,mQ,a,b,d]
 by_cases e:x=9
 ·simp only[CB,go_sem,mQ,a,b,d,e]
 by_cases f:x=10
 ·simp only[CB,go_sem,mQ,a,b,d,e,f]
 by_cases g:x=13
 ·simp only[CB,go_sem,mQ,a,b,d,e,f,g]
 by_cases h:gJ x=1
 ·simp only[CB,go_sem,mQ,a,b,d,e,f,g,RD,h]
 ·simp only[CB,go_sem,mQ,a,b,d,e,f,g,RD,h]
def wi(c:UInt8):nmB c=true↔(97<=bI c/\bI c<=122)\/(48<=bI c/\bI c<=57)\/bI c=45:=by
 unfold nmB rF bI;simp only[yb,ir,jo];omega
def U5(c:UInt8):rF c=true↔(97<=bI c/\bI c<=122):=by
 unfold rF bI;simp only[ir,jo];omega
def SN(h:n<u.length):∃ c,u[n]?=some c/\u.drop n=c::u.drop (n+1):=⟨u[n],ii h,je h⟩
def OF:cU i=(decide (1<=i.length)&&decide (i.length<=24)&&rF (i.headD 0)&&(i.drop 1).all nmB):=by
 cases i with
 | nil=>rfl
 | cons c r =>
  simp only[cU,jd,headD_cons,ab8,kc];have a:decide (1<=r.length+1)=true:=jv (by omega);have b:decide (r.length+1<=24)=decide (r.length<24):=by rw[ag5];omega
  rw[a,b,jx]
def l83(s:Bs)(y:s.length<=24):∀ (k i:Nat),i+k=s.length->1<=i ->
  ((s.drop i).all nmB=true->aC G0 rQ (ST [(0,.str s),(3,.int .i64 i),(22,.bool false)] [] [])=some (.ex 0,ST [(0,.str s),(3,.int .i64 s.length),(22,.bool false),(26,.bool false)] [] [])) /\
  ((s.drop i).all nmB=false->∃ v,aC G0 rQ (ST [(0,.str s),(3,.int .i64 i),(22,.bool false)] [] [])=some (.ret,ST v [] [])/\aF .any v 2=.bool false)
 | 0,i,w,x=>by
  have:i=s.length:=by omega
  subst this;refine⟨λ_=>?_,λh=>(by simp at h)⟩;rw[aB rQ rfl];simp only[go_sem,jm]
 | k+1,i,w,x=>by
  have e:(i:Int)<s.length:=by omega
  obtain⟨c,f,hd⟩:=SN (u:=s) (n:=i) (by omega);have d:0<=(i:Int):=by omega
  have g:0<(i:Int):=by omega
  have p:=wI (n:=i) (by omega)
  have A:=l83 s y k (i+1) (by omega) (by omega);rw[hd,ad0];have l:=wi c;unfold bI at l;cases r:nmB c with
  | true =>
   rw[jx];have l:=l.1 r;have step:aC G0 rQ (ST [(0,.str s),(3,.int .i64 i),(22,.bool false)] [] [])=aC G0 rQ (ST [(0,.str s),(3,.int .i64 (i+1:Nat)),(22,.bool false)] [] []):=by
    conv=>lhs;rw[aB rQ rfl]
    rcases l with ⟨a,m⟩ | ⟨b,j⟩ | a5
    ·simp only[go_sem,e,f,d,g,p,a,m]
    ·have a:¬ 97<=(c.toNat:Int):=by omega
     simp only[go_sem,e,f,d,g,p,a,b,j]
    ·simp only[go_sem,e,f,d,g,p,a5]
   rw[step];exact A
  | false =>
   rw[kn];refine⟨λh=>(by cases h),λ_=>?_⟩;have o:=λq=>Bool.false_ne_true (r.symm.trans (l.2 q))
   have a5:¬ (c.toNat:Int)=45:=λq=>o (.inr (.inr q))
   by_cases a:97<=(c.toNat:Int)
   ·have m:¬ (c.toNat:Int)<=122:=λq=>o (.inl ⟨a,q⟩)
    have b:48<=(c.toNat:Int):=by omega
    have j:¬ (c.toNat:Int)<=57:=by omega
    refine Exists.intro ?_ (And.intro ?_ ?_)
    rotate_left 1
    ·rw[aB rQ rfl]
     simp only[go_sem,e,f,d,g,a,m,b,j,a5];rfl
    ·rfl
   ·by_cases b:48<=(c.toNat:Int)
    ·have j:¬ (c.toNat:Int)<=57:=λq=>o (.inr (.inl ⟨b,q⟩))
     refine Exists.intro ?_ (And.intro ?_ ?_)
     rotate_left 1
     ·rw[aB rQ rfl]
      simp only[go_sem,e,f,d,g,a,b,j,a5];rfl
     ·rfl
    ·refine Exists.intro ?_ (And.intro ?_ ?_)
     rotate_left 1
     ·rw[aB rQ rfl]
      simp only[go_sem,e,f,d,g,a,b,a5];rfl
     ·rfl
def l74(s:Bs)(y:s.length<=24):∀ (k i:Nat),i+k=s.length->1<=i ->
  ((s.drop i).all nmB=true->aC G0 gP (ST [(0,.str s),(3,.int .i64 i),(12,.bool false)] [] [])=some (.ex 0,ST [(0,.str s),(3,.int .i64 s.length),(12,.bool false),(16,.bool false)] [] [])) /\
  ((s.drop i).all nmB=false->∃ v,aC G0 gP (ST [(0,.str s),(3,.int .i64 i),(12,.bool false)] [] [])=some (.ret,ST v [] [])/\aF .any v 2=.bool false)
 | 0,i,w,x=>by
  have:i=s.length:=by omega
  subst this;refine⟨λ_=>?_,λh=>(by simp at h)⟩;rw[aB gP rfl];simp only[go_sem,jm]
 | k+1,i,w,x=>by
  have e:(i:Int)<s.length:=by omega
  obtain⟨c,f,hd⟩:=SN (u:=s) (n:=i) (by omega);have d:0<=(i:Int):=by omega
  have g:0<(i:Int):=by omega
  have p:=wI (n:=i) (by omega)
  have A:=l74 s y k (i+1) (by omega) (by omega);rw[hd,ad0];have l:=wi c;unfold bI at l;cases r:nmB c with
  | true =>
   rw[jx];have l:=l.1 r;have step:aC G0 gP (ST [(0,.str s),(3,.int .i64 i),(12,.bool false)] [] [])=aC G0 gP (ST [(0,.str s),(3,.int .i64 (i+1:Nat)),(12,.bool false)] [] []):=by
    conv=>lhs;rw[aB gP rfl]
    rcases l with ⟨a,m⟩ | ⟨b,j⟩ | a5
    ·simp only[go_sem,e,f,d,g,p,a,m]
    ·have a:¬ 97<=(c.toNat:Int):=by omega
     simp only[go_sem,e,f,d,g,p,a,b,j]
    ·simp only[go_sem,e,f,d,g,p,a5]
   rw[step];exact A
  | false =>
   rw[kn];refine⟨λh=>(by cases h),λ_=>?_⟩;have o:=λq=>Bool.false_ne_true (r.symm.trans (l.2 q))
   have a5:¬ (c.toNat:Int)=45:=λq=>o (.inr (.inr q))
   by_cases a:97<=(c.toNat:Int)
   ·have m:¬ (c.toNat:Int)<=122:=λq=>o (.inl ⟨a,q⟩)
    have b:48<=(c.toNat:Int):=by omega
    have j:¬ (c.toNat:Int)<=57:=by omega
    refine Exists.intro ?_ (And.intro ?_ ?_)
    rotate_left 1
    ·rw[aB gP rfl]
     simp only[go_sem,e,f,d,g,a,m,b,j,a5];rfl
    ·rfl
   ·by_cases b:48<=(c.toNat:Int)
    ·have j:¬ (c.toNat:Int)<=57:=λq=>o (.inr (.inl ⟨b,q⟩))
     refine Exists.intro ?_ (And.intro ?_ ?_)
     rotate_left 1
     ·rw[aB gP rfl]
      simp only[go_sem,e,f,d,g,a,b,j,a5];rfl
     ·rfl
    ·refine Exists.intro ?_ (And.intro ?_ ?_)
     rotate_left 1
     ·rw[aB gP rfl]
      simp only[go_sem,e,f,d,g,a,b,a5];rfl
     ·rfl
def OK(h:1<=i.length):i[0]?=some (i.headD 0):=by
 cases i with
 | nil=>simp at h
 | cons c r=>rfl
def c83(s:Bs):G0 66 [.str s] []=some (.bool (cU s),[]):=by
 refine aA F66 ?_;rw[OF];by_cases u:s.length<1
 ·have a:(s.length:Int)<1:=by omega
  have e:decide (1<=s.length)=false:=jr (by omega);simp only[F66,go_sem,a,e]
 have a:¬ (s.length:Int)<1:=by omega
 have d:decide (1<=s.length)=true:=jv (by omega);by_cases v:24<s.length
 ·have b:24<(s.length:Int):=by omega
  have e:decide (s.length<=24)=false:=jr (by omega);simp only[F66,go_sem,a,b,d,e]
 have b:¬ 24<(s.length:Int):=by omega
 have g:decide (s.length<=24)=true:=jv (by omega);have f:=OK (i:=s) (by omega);generalize s.headD 0=c at f ⊢;have k:=U5 c;unfold bI at k;by_cases j:(c.toNat:Int)<97
 ·have e:rF c=false:=by cases h:rF c with | false=>rfl | true=>have:=k.1 h;omega
  simp only[F66,go_sem,a,b,f,j,d,g,e]
 by_cases l:122<(c.toNat:Int)
 ·have e:rF c=false:=by cases h:rF c with | false=>rfl | true=>have:=k.1 h;omega
  simp only[F66,go_sem,a,b,f,j,l,d,g,e]
 have e:rF c=true:=k.2 ⟨by omega,by omega⟩;obtain⟨n,o⟩:=l83 s (by omega) (s.length-1) 1 (by omega) (by omega);have p:((1:Nat):Int)=1:=rfl;rw[p] at n o;cases m:(s.drop 1).all nmB with
 | true=>simp only[F66,go_sem,a,b,f,j,l,d,g,e,n m]
 | false =>
  obtain⟨w,q,r⟩:=o m;simp only[F66,go_sem,a,b,f,j,l,d,g,e,q,r]
def c74(s:Bs):G0 217 [.str s] []=some (.bool (cU s),[]):=by
 refine aA JQ ?_;rw[OF];by_cases w:s.length<1
 ·have a:(s.length:Int)<1:=by omega
  have e:decide (1<=s.length)=false:=jr (by omega);simp only[JQ,go_sem,a,e]
 have a:¬ (s.length:Int)<1:=by omega
 have f:decide (1<=s.length)=true:=jv (by omega);by_cases x:24<s.length
 ·have b:24<(s.length:Int):=by omega
  have e:decide (s.length<=24)=false:=jr (by omega);simp only[JQ,go_sem,a,b,f,e]
 have b:¬ 24<(s.length:Int):=by omega
 have k:decide (s.length<=24)=true:=jv (by omega);have l:=OK (i:=s) (by omega);generalize s.headD 0=c at l ⊢;have n:=U5 c;unfold bI at n;have p:0<(s.length:Int):=by omega
 obtain⟨r,u⟩:=l74 s (by omega) (s.length-1) 1 (by omega) (by omega);have v:((1:Nat):Int)=1:=rfl;rw[v] at r u;by_cases m:97<=(c.toNat:Int)
 ·by_cases o:(c.toNat:Int)<=122
  ·have e:rF c=true:=n.2 ⟨m,o⟩
   have step:aC G0 gP (ST [(0,.str s),(3,.int .i64 0),(12,.bool false)] [] [])=aC G0 gP (ST [(0,.str s),(3,.int .i64 1),(12,.bool false)] [] []):=by
    conv=>lhs;rw[aB gP rfl]
    simp only[go_sem,p,l,m,o]
   cases q:(s.drop 1).all nmB with
   | true=>simp only[JQ,go_sem,a,b,step,f,k,e,r q]
   | false =>
    obtain⟨d,g,j⟩:=u q;simp only[JQ,go_sem,a,b,step,f,k,e,g,j]
  ·have e:rF c=false:=by cases h:rF c with | false=>rfl | true=>have:=n.1 h;omega
   have step:∃ d,aC G0 gP (ST [(0,.str s),(3,.int .i64 0),(12,.bool false)] [] [])=some (.ret,ST d [] [])/\aF .any d 2=.bool false:=by
    refine Exists.intro ?_ (And.intro ?_ ?_)
    rotate_left 1
    ·rw[aB gP rfl]
     simp only[go_sem,p,l,m,o,jm];rfl
    ·rfl
   obtain⟨d,g,j⟩:=step;simp only[JQ,go_sem,a,b,f,k,e,g,j]
 ·have e:rF c=false:=by cases h:rF c with | false=>rfl | true=>have:=n.1 h;omega
  have step:∃ d,aC G0 gP (ST [(0,.str s),(3,.int .i64 0),(12,.bool false)] [] [])=some (.ret,ST d [] [])/\aF .any d 2=.bool false:=by
   refine Exists.intro ?_ (And.intro ?_ ?_)
   rotate_left 1
   ·rw[aB gP rfl]
    simp only[go_sem,p,l,m,jm];rfl
   ·rfl
  obtain⟨d,g,j⟩:=step;simp only[JQ,go_sem,a,b,f,k,e,g,j]
def bR:bH ([.int .u8 k]::c)=(bH c).map λt=>UInt8.ofNat k.toNat::t:=by
 simp only[bH,sS]
 cases bH c<;>rfl
theorem NR:gX 1 [.int .u8 0] 1 [0] [.int .u8 k]=some (.sl .full 1 [[.int .u8 k]]):=rfl
def Cz:Bs:=[48,49,50,51,52,53,54,55,56,57,97,98,99,100,101,102]
def OJ(h:n<16):Cz[n]?=some (sM n):=by
 have:∀ n:Fin 16,Cz[n.1]?=some (sM n.1):=by decide
 exact this ⟨n,h⟩
def Se(c:UInt8):G0 193 [.int .u8 (bI c)] []=some (.tup [.int .u8 (match x7 c with | some n=>(n:Int) | none=>0),.bool (x7 c).isSome],[]):=by
 refine aA L7 ?_;have h:=c.toNat_lt;unfold x7;by_cases b:48<=bI c
 ·by_cases d:bI c<=57
  ·have e:IntKind.u8.wrap (bI c-48)=(c.toNat-48:Nat):=by rw[wu8 (by omega) (by unfold bI;omega)];unfold bI at b ⊢;omega
   rw[iw (by unfold bI at b d;omega)];simp only[L7,go_sem,b,d,e,ab2]
  ·by_cases a:97<=bI c
   ·by_cases f:bI c<=102
    ·have e:IntKind.u8.wrap (bI c-97)=bI c-97:=wu8 (by omega) (by omega)
     have g:IntKind.u8.wrap (bI c-97+10)=(c.toNat-87:Nat):=by rw[wu8 (by omega) (by omega)];unfold bI at a ⊢;omega
     rw[ie (by unfold bI at d;omega),iw (by unfold bI at a f;omega)];simp only[L7,go_sem,b,d,a,f,e,g,ab2]
    ·rw[ie (by unfold bI at d;omega),ie (by unfold bI at f;omega)]
     simp only[L7,go_sem,b,d,a,f,ab6]
   ·rw[ie (by unfold bI at d;omega),ie (by unfold bI at a;omega)]
    simp only[L7,go_sem,b,d,a,ab6]
 ·have a:¬ 97<=bI c:=by omega
  rw[ie (by unfold bI at b;omega),ie (by unfold bI at a;omega)];simp only[L7,go_sem,b,a,ab6]
def orI(a b:Nat)(c:a<16)(d:b<16):((((a:Int)*16 % 256).toNat ||| ((b:Int) % 256).toNat:Nat):Int)=(a*16+b:Nat):=by
 have:∀ (a b:Fin 16),((((a.1:Int)*16 % 256).toNat ||| ((b.1:Int) % 256).toNat:Nat):Int)=(a.1*16+b.1:Nat):=by decide +kernel
 exact this ⟨a,c⟩ ⟨b,d⟩
def c80(Q:i.length<=1000000):∃ (x n:Int) (b:Bool),G0 154 [.str (92::i)] []=some (.tup [.int .u8 x,.int .i64 n,.bool b],[])/\(∀ c m,rdE i=some (c,m)->x=bI c/\n=(m:Int)/\b=true)/\(rdE i=none->b=false):=by
 cases i with
 | nil =>
  refine⟨0,0,false,?_,λc m h=>(by cases h),λ_=>rfl⟩;refine aA jC ?_;simp only[jC,go_sem]
 | cons d i =>
  have o:¬ (((i.length+1+1:Nat):Nat):Int)<2:=by omega
  have j:(92::d::i)[1]?=some d:=rfl;have key:∀ k:UInt8,bI d=(k.toNat:Int)->d=k:=λk h=>by
   rw[<- Lc];unfold bI at h;omega
  by_cases F:d=92
  ·subst F
   refine⟨92,2,true,?_,λc m h=>?_,λh=>by cases h⟩
   ·refine aA jC ?_
    simp only[jC,go_sem,o,j];rfl
   ·cases h;exact⟨rfl,rfl,rfl⟩
  by_cases G:d=60
  ·subst G
   refine⟨60,2,true,?_,λc m h=>?_,λh=>by cases h⟩
   ·refine aA jC ?_
    simp only[jC,go_sem,o,j];rfl
   ·cases h;exact⟨rfl,rfl,rfl⟩
  by_cases H:d=123
  ·subst H
   refine⟨123,2,true,?_,λc m h=>?_,λh=>by cases h⟩
   ·refine aA jC ?_
    simp only[jC,go_sem,o,j];rfl
   ·cases h;exact⟨rfl,rfl,rfl⟩
  by_cases I:d=110
  ·subst I
   refine⟨10,2,true,?_,λc m h=>?_,λh=>by cases h⟩
   ·refine aA jC ?_
    simp only[jC,go_sem,o,j];rfl
   ·cases h;exact⟨rfl,rfl,rfl⟩
  by_cases J:d=116
  ·subst J
   refine⟨9,2,true,?_,λc m h=>?_,λh=>by cases h⟩
   ·refine aA jC ?_
    simp only[jC,go_sem,o,j];rfl
   ·cases h;exact⟨rfl,rfl,rfl⟩
  have S:¬ bI d=92:=λq=>F (key 92 q)
  have T:¬ bI d=60:=λq=>G (key 60 q)
  have U:¬ bI d=123:=λq=>H (key 123 q)
  have V:¬ bI d=110:=λq=>I (key 110 q)
  have a5:¬ bI d=116:=λq=>J (key 116 q)
  by_cases K:d=120
  ·subst K
   match i,Q with
   | [],_ =>
    refine⟨0,0,false,?_,λc m h=>?_,λh=>rfl⟩
    ·refine aA jC ?_
     simp only[jC,go_sem,j];rfl
    ·cases h
   | [h],_ =>
    refine⟨0,0,false,?_,λc m h=>?_,λh=>rfl⟩
    ·refine aA jC ?_
     simp only[jC,go_sem,j];rfl
    ·cases h
   | h::l::i,Q =>
    have r:¬ (((i.length+1+1+1+1:Nat):Nat):Int)<4:=by omega
    have g:¬ (((i.length+1+1+1+1:Nat):Nat):Int)<2:=by omega
    have w:(92::120::h::l::i)[2]?=some h:=rfl;have y:(92::120::h::l::i)[3]?=some l:=rfl;have c1:=Se h;have c2:=Se l
    have f:rdE (120::h::l::i)=(match x7 h,x7 l with
     | some a,some b=>if UInt8.ofNat (a*16+b)=13\/ctl (UInt8.ofNat (a*16+b))=true then some (UInt8.ofNat (a*16+b),4) else none
     | _,_=>none):=rfl
    cases B:x7 h with
    | none =>
     rw[B] at c1 f;refine Exists.intro ?_ (Exists.intro 4 (Exists.intro false ⟨?_,λc m h=>(by rw[f] at h;cases h),λh=>rfl⟩))
     rotate_left 1
     refine aA jC ?_;simp only[jC,go_sem,j,w,y,r,g,c1,c2,ab6];rfl
    | some a =>
     obtain⟨O,_⟩:=yU B;cases L:x7 l with
     | none =>
      rw[B] at c1 f;rw[L] at c2 f;refine Exists.intro ?_ (Exists.intro 4 (Exists.intro false ⟨?_,λc m h=>(by rw[f] at h;cases h),λh=>rfl⟩))
      rotate_left 1
      refine aA jC ?_;simp only[jC,go_sem,j,w,y,r,g,c1,c2,ab6,ab2];rfl
     | some b =>
      obtain⟨P,_⟩:=yU L;rw[B] at c1 f;rw[L] at c2 f;simp only[] at f;have M:IntKind.u8.wrap ((a:Int)*2 ^ (min 4 8))=(a:Int)*16:=by
       have e:(2:Int) ^ (min 4 8)=16:=rfl;rw[e,wu8 (by omega) (by omega)]
      have s:((UInt8.toNat 120:Nat):Int)=120:=rfl;have C:IntKind.u8.wrap (((((a:Int)*16) % 2 ^ 8).toNat ||| ((b:Int) % 2 ^ 8).toNat:Nat):Int)=bI (UInt8.ofNat (a*16+b)):=by
       have e:(2:Int) ^ 8=256:=rfl;rw[e,orI a b O P,wu8 (by omega) (by omega)];unfold bI;rw[ofN a b O P]
      generalize UInt8.ofNat (a*16+b)=v at C f;have A:=Rs (p:=v);have R:bI v=13↔v=13:=by unfold bI;rw[<- Lc];show _↔v.toNat=13;omega
      by_cases D:v=13
      ·have u:bI v=13:=R.2 D
       rw[iw (.inl D)] at f;refine⟨bI v,4,true,?_,λc m h=>?_,λh=>(by rw[f] at h;cases h)⟩
       ·refine aA jC ?_
        simp only[jC,go_sem,j,w,y,r,g,c1,c2,ab2,s,M,C,u]
       ·rw[f] at h;cases h;exact⟨rfl,rfl,rfl⟩
      ·have u:¬ bI v=13:=λq=>D (R.1 q)
       cases E:ctl v with
       | true =>
        rw[E] at A;have N:gJ (bI v)=1:=ah3 A.symm;rw[iw (.inr E)] at f;refine⟨bI v,4,true,?_,λc m h=>?_,λh=>(by rw[f] at h;cases h)⟩
        ·refine aA jC ?_
         simp only[jC,go_sem,j,w,y,r,g,c1,c2,ab2,s,M,C,u,RD,N]
        ·rw[f] at h;cases h;exact⟨rfl,rfl,rfl⟩
       | false =>
        rw[E] at A;have N:¬ gJ (bI v)=1:=of_decide_eq_false A.symm;rw[ie (by rintro (q | q);exact D q;rw[E] at q;cases q)] at f;refine⟨bI v,4,false,?_,λc m h=>(by rw[f] at h;cases h),λh=>rfl⟩;refine aA jC ?_;simp only[jC,go_sem,j,w,y,r,g,c1,c2,ab2,s,M,C,u,RD,N]
  ·have X:¬ bI d=120:=λq=>K (key 120 q)
   have f:rdE (d::i)=none:=by
    simp only[rdE];rw[ie (by rintro (q | q | q);exact F q;exact G q;exact H q),ie I,ie J,ie K]
   refine⟨0,0,false,?_,λc m h=>(by rw[f] at h;cases h),λh=>rfl⟩;refine aA jC ?_;simp only[jC,go_sem,o,j,S,T,U,V,a5,X]
def Kh:((n:Int)).tmod 10=((n % 10:Nat):Int):=by rw[af8 (by omega)];omega
def Kl:((n:Int)).tdiv 10=((n / 10:Nat):Int):=by rw[ao7 (by omega)];omega
def Rc:UInt8.ofNat (48+(n:Int)).toNat=dig n:=by
 unfold dig
 congr 1
def QW(n:Nat)(i:n<=1000000)(t:Bs)(j:t.length<=1000):
  (n<10->∃ g,aC G0 xA (ST [(0,.int .i64 n),(3,.str t)] [] [])=some (.ret,ST g [] [])/\aF .any g 2=.str (dig n::t)) /\
  (10<=n->aC G0 xA (ST [(0,.int .i64 n),(3,.str t)] [] [])=aC G0 xA (ST [(0,.int .i64 (n / 10:Nat)),(3,.str (dig (n % 10)::t))] [] [])):=by
 have b:IntKind.i64.wrap (48+((n % 10:Nat):Int))=48+((n % 10:Nat):Int):=w6 (by omega);have c:IntKind.u8.wrap (48+((n % 10:Nat):Int))=48+((n % 10:Nat):Int):=wu8 (by omega) (by omega);have d:IntKind.i64.wrap ((n / 10:Nat):Int)=(n / 10:Nat):=w6 (by omega);have f:1+t.length<=140737488355328:=by omega
 refine⟨λh=>?_,λh=>?_⟩
 ·have e:n % 10=n:=by omega
  rw[e] at b c;have a:((n / 10:Nat):Int)=0:=by omega
  rw[a] at d;refine Exists.intro ?_ (And.intro ?_ ?_)
  rotate_left 1
  ·rw[aB xA rfl]
   simp only[go_sem,Kh,Kl,e,a,b,c,d,NR,bR,Rc,f];rfl
  ·rfl
 ·have a:¬ ((n / 10:Nat):Int)=0:=by omega
  conv=>lhs;rw[aB xA rfl]
  simp only[go_sem,Kh,Kl,a,b,c,d,NR,bR,Rc,f]
def c103(g:n<=999):G0 151 [.int .i64 n] []=some (.str (Nt.dec n),[]):=by
 refine aA YL ?_;unfold Nt.dec;by_cases c:n<10
 ·rw[iw c]
  obtain⟨f,a,b⟩:=(QW n (by omega) [] (by simp)).1 c;simp only[YL,go_sem,a,b]
 rw[ie c];by_cases d:n<100
 ·rw[iw d]
  obtain⟨f,a,b⟩:=(QW (n / 10) (by omega) [dig (n % 10)] (by simp)).1 (by omega);simp only[YL,go_sem,(QW n (by omega) [] (by simp)).2 (by omega),a,b]
 ·rw[ie d]
  obtain⟨f,a,b⟩:=(QW (n / 10 / 10) (by omega) [dig (n / 10 % 10),dig (n % 10)] (by simp)).1 (by omega);have e:n / 10 / 10=n / 100:=by omega
  rw[e] at a b;simp only[YL,go_sem,(QW n (by omega) [] (by simp)).2 (by omega),(QW (n / 10) (by omega) [dig (n % 10)] (by simp)).2 (by omega),e,a,b]
def c79(n:Nat)(c:n<=999):G0 106 [.int .i64 n] []=some (.str (Nt.dec n),[]):=by
 refine aA Gm ?_;have a:¬ (n:Int)<0:=by omega
 have b:max (n:Int) 0=(n:Int):=by omega
 simp only[Gm,go_sem,a,b,c103 (n:=n) c]
def Wu(a:0<=k)(b:k<=1000000):IntKind.u64.wrap k=k:=by
 unfold IntKind.wrap;have e:IntKind.u64.bits=64:=rfl;simp only[e,IntKind.signed,kn,jl,kz];omega
def RS(a:0<=k)(b:k<=1000000):IntKind.u32.wrap k=k:=by
 unfold IntKind.wrap;have e:IntKind.u32.bits=32:=rfl;simp only[e,IntKind.signed,kn,jl,kz];omega
def Rx(d:Bool):G0 243 [.bool d] []=some (.int .i64 (if d then 1 else 0),[]):=by
 refine aA tc ?_
 cases d with
 | true=>simp only[tc,go_sem]
 | false=>simp only[tc,go_sem]
def Rz(n:Int)(b:0<=n)(c:n<=64):G0 241 [.int .i64 n] []=some (.int .i64 (n*78913 / 262144),[]):=by
 refine aA Fk ?_;have a:IntKind.i64.wrap (n*78913)=n*78913:=w6 (by omega);have e:(n*78913).fdiv (2 ^ (min 18 64))=n*78913 / 262144:=by
  have:(2:Int) ^ (min 18 64)=262144:=rfl
  rw[this,af9 _ (by omega)]
 simp only[Fk,go_sem,a,e]
set_option maxHeartbeats 8000000
def AI:Bs:=[0,1,2,2,3,3,3,3,4,4,4,4,4,4,4,4,5,5,5,5,5,5,5,5,5,5,5,5,5,5,5,5,6,6,6,6,6,6,6,6,6,6,6,6,6,6,6,6,6,6,6,6,6,6,6,6,6,6,6,6,6,6,6,6,7,7,7,7,7,7,7,7,7,7,7,7,7,7,7,7,7,7,7,7,7,7,7,7,7,7,7,7,7,7,7,7,7,7,7,7,7,7,7,7,7,7,7,7,7,7,7,7,7,7,7,7,7,7,7,7,7,7,7,7,7,7,7,7,8,8,8,8,8,8,8,8,8,8,8,8,8,8,8,8,8,8,8,8,8,8,8,8,8,8,8,8,8,8,8,8,8,8,8,8,8,8,8,8,8,8,8,8,8,8,8,8,8,8,8,8,8,8,8,8,8,8,8,8,8,8,8,8,8,8,8,8,8,8,8,8,8,8,8,8,8,8,8,8,8,8,8,8,8,8,8,8,8,8,8,8,8,8,8,8,8,8,8,8,8,8,8,8,8,8,8,8,8,8,8,8,8,8,8,8,8,8,8,8,8,8,8,8,8,8,8,8]
def W1:Bs:=[48,49,50,51,52,53,54,55,56,57,97,98,99,100,101,102,103,104,105,106,107,108,109,110,111,112,113,114,115,116,117,118,119,120,121,122]
def smS:Bs:=[48,48,48,49,48,50,48,51,48,52,48,53,48,54,48,55,48,56,48,57,49,48,49,49,49,50,49,51,49,52,49,53,49,54,49,55,49,56,49,57,50,48,50,49,50,50,50,51,50,52,50,53,50,54,50,55,50,56,50,57,51,48,51,49,51,50,51,51,51,52,51,53,51,54,51,55,51,56,51,57,52,48,52,49,52,50,52,51,52,52,52,53,52,54,52,55,52,56,52,57,53,48,53,49,53,50,53,51,53,52,53,53,53,54,53,55,53,56,53,57,54,48,54,49,54,50,54,51,54,52,54,53,54,54,54,55,54,56,54,57,55,48,55,49,55,50,55,51,55,52,55,53,55,54,55,55,55,56,55,57,56,48,56,49,56,50,56,51,56,52,56,53,56,54,56,55,56,56,56,57,57,48,57,49,57,50,57,51,57,52,57,53,57,54,57,55,57,56,57,57]
def Bv(a:64<=n)(b:n<128):AI[n]?=some 7:=by
 have:∀ n:Fin 128,64<=n.1->AI[n.1]?=some 7:=by decide +kernel
 exact this ⟨n,b⟩ a
def Bu(a:128<=n)(b:n<256):AI[n]?=some 8:=by
 have:∀ n:Fin 256,128<=n.1->AI[n.1]?=some 8:=by decide +kernel
 exact this ⟨n,b⟩ a
def Bt(a:2<=n)(b:n<4):AI[n]?=some 2:=by
 have:∀ n:Fin 4,2<=n.1->AI[n.1]?=some 2:=by decide +kernel
 exact this ⟨n,b⟩ a
def lnD:W1.length=36:=by decide +kernel
def lnS:smS.length=200:=by decide +kernel
def Dv(h:n<10):(W1.take (n+1)).drop n=Nt.dec n:=by
 have:∀ n:Fin 10,(W1.take (n.1+1)).drop n.1=Nt.dec n.1:=by decide +kernel
 exact this ⟨n,h⟩
def Le(a:10<=n)(h:n<100):(smS.take (n*2+2)).drop (n*2)=Nt.dec n:=by
 have:∀ n:Fin 100,10<=n.1->(smS.take (n.1*2+2)).drop (n.1*2)=Nt.dec n.1:=by decide +kernel
 exact this ⟨n,h⟩ a
def Lg(h:n<100):smS[n*2]?=some (dig (n / 10)):=by
 have:∀ n:Fin 100,smS[n.1*2]?=some (dig (n.1 / 10)):=by decide +kernel
 exact this ⟨n,h⟩
def Lf(h:n<100):smS[n*2+1]?=some (dig (n % 10)):=by
 have:∀ n:Fin 100,smS[n.1*2+1]?=some (dig (n.1 % 10)):=by decide +kernel
 exact this ⟨n,h⟩
def Ry(n:Nat)(i:100<=n)(j:n<=999):G0 242 [.int .u64 n] []=some (.int .i64 (if n<128 then 7 else if n<256 then 8 else if n<512 then 9 else 10),[]):=by
 refine aA RN ?_;have d:¬ 4294967296<=(n:Int):=by omega
 have f:¬ 65536<=(n:Int):=by omega
 by_cases g:n<256
 ·have c:¬ 256<=(n:Int):=by omega
  have w:IntKind.u8.wrap (n:Int)=n:=wu8 (by omega) (by omega);have a:0<=(n:Int):=by omega
  by_cases b:n<128
  ·have q:=Bv (n:=n) (by omega) b
   simp only[AI] at q;rw[iw b];simp only[RN,go_sem,d,f,c,w,a,q];rfl
  ·have q:=Bu (n:=n) (by omega) g
   simp only[AI] at q;rw[ie b,iw g];simp only[RN,go_sem,d,f,c,w,a,q];rfl
 ·have c:256<=(n:Int):=by omega
  have e:(n:Int).fdiv (2 ^ (min 8 64))=(n / 256:Nat):=by
   have:(2:Int) ^ (min 8 64)=256:=rfl
   rw[this,af9 _ (by omega)];omega
  have w:IntKind.u8.wrap ((n / 256:Nat):Int)=(n / 256:Nat):=wu8 (by omega) (by omega);have a:(0:Int)<=((n / 256:Nat):Int):=by omega
  rw[ie (by omega),ie g];by_cases b:n<512
  ·have h:n / 256=1:=by omega
   have q:AI[1]?=some 1:=rfl;simp only[AI] at q;rw[iw b];rw[h] at e w a;simp only[RN,go_sem,d,f,c,e,w,a,q];rfl
  ·have q:=Bt (n:=n / 256) (by omega) (by omega)
   simp only[AI] at q;rw[ie b];simp only[RN,go_sem,d,f,c,e,w,a,q];rfl
def c123(c:100<=n)(d:n<=999):G0 224 [.int .u64 n] []=some (.int .i64 3,[]):=by
 refine aA te ?_;by_cases f:n<512
 ·have a:100<=(n:Int):=by omega
  have e:∃ L:Int,7<=L/\L<=9/\(if n<128 then (7:Int) else if n<256 then 8 else if n<512 then 9 else 10)=L:=⟨_,by split<;>(try split)<;>(try split)<;>omega,by split<;>(try split)<;>(try split)<;>omega,rfl⟩
  obtain⟨L,l1,l2,e⟩:=e;have c1:=Ry n c d;rw[e] at c1;have c2:=Rz L (by omega) (by omega);have b:L*78913 / 262144=2:=by omega
  rw[b] at c2;simp only[te,go_sem,c1,c2,a,Rx]
 ·have a:¬ 1000<=(n:Int):=by omega
  have c1:=Ry n c d;rw[ie (by omega),ie (by omega),ie f] at c1;have c2:=Rz 10 (by omega) (by omega);have b:(10:Int)*78913 / 262144=3:=by omega
  rw[b] at c2;simp only[te,go_sem,c1,c2,a,Rx]
def c122(h:n<100):G0 223 [.int .i64 n] []=some (.str (Nt.dec n),[]):=by
 refine aA tf ?_;have c:0<=(n:Int):=by omega
 by_cases f:n<10
 ·have a:(n:Int)<10:=by omega
  have w:=wI (n:=n) (by omega)
  have b:(n:Int)<=(n+1:Nat):=by omega
  have d:((n+1:Nat):Int)<=36:=by omega
  have q:aZ true 0 (.str W1) (some (.int .i64 n)) (some (.int .i64 (n+1:Nat)))=some (.str (Nt.dec n)):=by
   rw[wA c b (by rw[lnD];omega),jp,jp,Dv f]
  simp only[W1] at q;simp only[tf,go_sem,a,w,q]
 ·have a:¬ (n:Int)<10:=by omega
  have g:IntKind.i64.wrap ((n:Int)*2)=(n*2:Nat):=by rw[w6 (by omega)];omega
  have i:IntKind.i64.wrap (((n*2:Nat):Int)+2)=(n*2+2:Nat):=by rw[w6 (by omega)];rfl
  have e:(0:Int)<=((n*2:Nat):Int):=by omega
  have b:((n*2:Nat):Int)<=((n*2+2:Nat):Int):=by omega
  have d:((n*2+2:Nat):Int)<=256:=by omega
  have q:aZ true 0 (.str smS) (some (.int .i64 (n*2:Nat))) (some (.int .i64 (n*2+2:Nat)))=some (.str (Nt.dec n)):=by
   rw[wA e b (by rw[lnS];omega),jp,jp,Le (by omega) h]
  simp only[smS] at q;simp only[tf,go_sem,a,g,i,q]
def l124:aC G0 L4 (ST [(0,.ss 0 1 3 1),(1,.int .u64 k),(4,.int .i64 3)] [] c)=some (.ex 0,ST [(0,.ss 0 1 3 1),(1,.int .u64 k),(4,.int .i64 3),(20,.bool false)] [] c):=by
 rw[aB L4 rfl];simp only[go_sem]
def tq(n m:Nat):((n:Int)).tdiv (m:Int)=(n / m:Nat):=by rw[ao7 (by omega)];rfl
def tm(n m:Nat):((n:Int)).tmod (m:Int)=(n % m:Nat):=by rw[af8 (by omega)];rfl
def c124(o:100<=n)(p:n<=999):G0 225 [.ss 0 1 3 1,.int .u64 n] [[.int .u8 0,.int .u8 0,.int .u8 0,.int .u8 0,.int .u8 0,.int .u8 0,.int .u8 0,.int .u8 0,.int .u8 0,.int .u8 0,.int .u8 0,.int .u8 0,.int .u8 0,.int .u8 0,.int .u8 0,.int .u8 0,.int .u8 0,.int .u8 0,.int .u8 0,.int .u8 0,.int .u8 0,.int .u8 0,.int .u8 0,.int .u8 0]]=some (.tup [],[[.int .u8 0,.int .u8 (bI (dig (n / 100))),.int .u8 (bI (dig (n / 10 % 10))),.int .u8 (bI (dig (n % 10))),.int .u8 0,.int .u8 0,.int .u8 0,.int .u8 0,.int .u8 0,.int .u8 0,.int .u8 0,.int .u8 0,.int .u8 0,.int .u8 0,.int .u8 0,.int .u8 0,.int .u8 0,.int .u8 0,.int .u8 0,.int .u8 0,.int .u8 0,.int .u8 0,.int .u8 0,.int .u8 0]]):=by
 refine aA Fl ?_;have w0:IntKind.u32.wrap (n:Int)=n:=RS (by omega) (by omega);have e:((n:Int)).tmod 100=((n % 100:Nat):Int):=tm n 100;have f:((n:Int)).tdiv 100=((n / 100:Nat):Int):=tq n 100;have i:IntKind.u32.wrap (((n % 100:Nat):Int)*2)=(n % 100*2:Nat):=by rw[RS (by omega) (by omega)];omega
 have j:IntKind.u32.wrap (((n % 100*2:Nat):Int)+1)=(n % 100*2+1:Nat):=by rw[RS (by omega) (by omega)];rfl
 have k:IntKind.u32.wrap ((n / 100:Nat):Int)=(n / 100:Nat):=RS (by omega) (by omega);have l:IntKind.u32.wrap (48+((n / 100:Nat):Int))=48+((n / 100:Nat):Int):=RS (by omega) (by omega);have m:IntKind.u8.wrap (48+((n / 100:Nat):Int))=bI (dig (n / 100)):=by
  rw[wu8 (by omega) (by omega)];unfold bI dig;simp only[UInt8.toNat_ofNat'];omega
 have a:=Lg (n:=n % 100) (by omega);have b:=Lf (n:=n % 100) (by omega);have g:n % 100 / 10=n / 10 % 10:=by omega
 have h:n % 100 % 10=n % 10:=by omega
 rw[g] at a;rw[h] at b;simp only[smS] at a b;have c:(0:Int)<=((n % 100*2:Nat):Int):=by omega
 have d:(0:Int)<=((n % 100*2+1:Nat):Int):=by omega
 simp only[Fl,go_sem,l124,w0,e,f,i,j,k,l,m,c,d,a,b];rfl
def c100(g:n<=999):G0 197 [.int .i64 n,.int .i64 10] []=some (.str (Nt.dec n),[]):=by
 refine aA ti ?_;have e:0<=(n:Int):=by omega
 by_cases f:n<100
 ·have d:(n:Int)<100:=by omega
  simp only[ti,go_sem,e,d,c122 (n:=n) f]
 ·have d:¬ (n:Int)<100:=by omega
  have h:¬ (n:Int)<0:=by omega
  have w:IntKind.u64.wrap (n:Int)=n:=Wu (by omega) (by omega);have i:Nt.dec n=[dig (n / 100),dig (n / 10 % 10),dig (n % 10)]:=by
   unfold Nt.dec;rw[ie (by omega),ie f]
  rw[i];have j:∀ a b c:Int,dE 1 3 1 [.int .u8 0,.int .u8 a,.int .u8 b,.int .u8 c,.int .u8 0,.int .u8 0,.int .u8 0,.int .u8 0,.int .u8 0,.int .u8 0,.int .u8 0,.int .u8 0,.int .u8 0,.int .u8 0,.int .u8 0,.int .u8 0,.int .u8 0,.int .u8 0,.int .u8 0,.int .u8 0,.int .u8 0,.int .u8 0,.int .u8 0,.int .u8 0]=some [[.int .u8 a],[.int .u8 b],[.int .u8 c]]:=λ_ _ _=>rfl
  simp only[ti,go_sem,e,d,h,w,c123 (n:=n) (by omega) g,c124 (n:=n) (by omega) g,j,bR,UInt8.ofNat_toNat]
def c76(a:n<=999):G0 159 [.int .i64 n] []=some (.str (Nt.dec n),[]):=by
 refine aA Fu ?_;simp only[Fu,go_sem,c100 (n:=n) a]
def c50(n:Nat)(a:n<=999):G0 113 [.int .i64 n] []=some (.str (Nt.dec n),[]):=by
 refine aA Gk ?_;simp only[Gk,go_sem,c76 (n:=n) a]
def mH{b:UInt8}:∀ {s a r:Bs},cut b s=some (a,r)->Lib.indexByte s b=(a.length:Int)
 | [],a,r,h=>by cases h
 | c::s,a,r,h=>by
  simp only[cut] at h;unfold Lib.indexByte;by_cases d:c=b
  ·rw[iw d] at h
   simp only[jc,jg] at h;obtain⟨rfl,rfl⟩:=h;rw[iw (by simp [d])];rfl
  ·rw[ie d] at h
   obtain⟨⟨p,q⟩,f,e⟩:=jf.1 h;simp only[jg] at e;obtain⟨rfl,rfl⟩:=e;have g:=mH f;rw[ie (by simp [d]),g,ie (by simp)];rfl
def kU{b:UInt8}:∀ {s:Bs},cut b s=none->Lib.indexByte s b = -1
 | [],h=>rfl
 | c::s,h=>by
  simp only[cut] at h;unfold Lib.indexByte;by_cases a:c=b
  ·rw[iw a] at h;cases h
  ·rw[ie a] at h
   have d:=kU (Option.map_eq_none_iff.1 h);rw[ie (by simp [a]),d];rfl
def toB:(bI p).toNat.toUInt8=p:=by unfold bI;simp
def c126:G0 221 [.str i,.int .u8 (bI p)] []=some (.int .i64 (Lib.indexByte i p),[]):=
 f9 (by
  have e:∀ args sh,B0 221 args sh=ibB 221 221 args sh:=λ_ _=>rfl
  rw[e];unfold ibB;rw[iw rfl]
  simp only[toB])
def Sd:G0 194 [.str i,.int .u8 (bI p)] []=some (.int .i64 (Lib.indexByte i p),[]):=by
 refine aA Fo ?_;simp only[Fo,go_sem,c126]
def c81(s:Bs)(c:UInt8):G0 155 [.str s,.int .u8 (bI c)] []=some (.int .i64 (Lib.indexByte s c),[]):=by
 refine aA Fv ?_;simp only[Fv,go_sem,Sd]
def Rw:G0 163 [.str i,.str [p]] []=some (.int .i64 (Lib.indexByte i p),[]):=by
 refine aA tv ?_;have g:([p]:Bs)[0]?=some p:=rfl;by_cases h:i=[p]
 ·subst h
  have e:Lib.indexByte [p] p=0:=by simp [Lib.indexByte]
  rw[e];simp only[tv,go_sem,g]
 ·have a:(([p]:Bs)==i)=false:=by simp [ad9 h]
  simp only[tv,go_sem,g,a,Sd]
def Sa{cy:Bs}(b:u.length<=1000000)(h:cut p u=some (bc,cy)):G0 202 [.str u,.str [p]] []=some (.tup [.str bc,.str cy,.bool true],[]):=by
 refine aA YF ?_;have hi:=mH h;obtain⟨rfl,_⟩:=bP.1 h;simp only[jb,jd] at b;have w:=wI (n:=bc.length) (by omega)
 have a:0<=(bc.length:Int):=by omega
 have c:aZ true 0 (.str (bc++p::cy)) none (some (.int .i64 bc.length))=some (.str bc):=by
  rw[D7 a (by simp only[jb];omega),jp,ah1]
 have d:aZ true 0 (.str (bc++p::cy)) (some (.int .i64 (bc.length+1:Nat))) none=some (.str cy):=by
  rw[yE (by omega) (by simp only[jb,jd];omega),jp]
  have:bc++p::cy=(bc++[p])++cy:=by simp
  rw[this,af6 (by simp)]
 simp only[YF,go_sem,Rw,hi,a,w,c,d]
def Sb(h:cut p i=none):G0 202 [.str i,.str [p]] []=some (.tup [.str i,.str [],.bool false],[]):=by
 refine aA YF ?_;simp only[YF,go_sem,Rw,kU h]
def DD(a:i.length<=1000000)(h:cut p i=some (u,bc)):G0 164 [.str i,.str [p]] []=some (.tup [.str u,.str bc,.bool true],[]):=by
 refine aA YJ ?_;simp only[YJ,go_sem,Sa a h]
def A9(h:cut p i=none):G0 164 [.str i,.str [p]] []=some (.tup [.str i,.str [],.bool false],[]):=by
 refine aA YJ ?_;simp only[YJ,go_sem,Sb h]
def c127:G0 198 [.str i,.str [p]] []=some (.bool (i.head? == some p),[]):=by
 refine aA L6 ?_
 cases i with
 | nil=>simp only[L6,go_sem,head?_nil];rfl
 | cons d r =>
  have a:(1:Int)<=((r.length+1:Nat):Int):=by omega
  have e:(([d]:Bs)==[p])=(some d==some p):=by simp
  simp only[L6,go_sem,a,am1,e]
def Sc(s:Bs)(c:UInt8):G0 161 [.str s,.str [c]] []=some (.bool (s.head? == some c),[]):=by
 refine aA YK ?_;simp only[YK,go_sem,c127]
def c129(a:i.length<=1000000):G0 222 [.str i,.str [p]] []=some (.bool (i.getLast? == some p),[]):=by
 refine aA th ?_;rcases an5 i with rfl | ⟨r,d,rfl⟩
 ·simp only[th,go_sem,getLast?_nil];rfl
 ·simp only[concat_eq_append] at a ⊢
  rw[jb] at a;simp only[jd,jz] at a;have b:((r++[d]).length:Int)=(r.length+1:Nat):=by simp
  have c:(1:Int)<=((r.length+1:Nat):Int):=by omega
  have w:IntKind.i64.wrap (((r.length+1:Nat):Int)-1)=(r.length:Int):=by rw[w6 (by omega)];omega
  have q:aZ true 0 (.str (r++[d])) (some (.int .i64 r.length)) none=some (.str [d]):=by
   rw[yE (by omega) (by rw[b];omega),jp,ae3]
  have e:(([d]:Bs)==[p])=(some d==some p):=by simp
  simp only[th,go_sem,b,c,w,q,getLast?_concat,e]
def qv(s:Bs)(c:UInt8)(a:s.length<=1000000):G0 195 [.str s,.str [c]] []=some (.bool (s.getLast? == some c),[]):=by
 refine aA Fn ?_;simp only[Fn,go_sem,c129 (i:=s) (p:=c) a]
def mE(h:cut 32 i=some (u,bc)):aH i=u:=by
 obtain⟨rfl,a⟩:=bP.1 h;unfold aH;rw[takeWhile_append_of_pos (λc b=>by simp only[ao5,ad6];rintro rfl;exact a b)];simp
def j7(h:cut 32 i=none):aH i=i:=by
 have:=kE.1 h
 have key:∀ l:Bs,32 ∉ l->l.takeWhile (λc=>c != 32)=l:=by
  intro l
  induction l with
  | nil=>intro _;rfl
  | cons c l b =>
   intro a;simp only[la,not_or] at a;rw[takeWhile_cons,iw (by simpa using ad9 a.1),b a.2]
 exact key i this
def c84(s:Bs)(b:s.length<=1000000):G0 158 [.str s] []=some (.str (aH s),[]):=by
 refine aA tw ?_;cases h:cut 32 s with
 | none=>rw[j7 h];simp only[tw,go_sem,A9 h]
 | some p =>
  obtain⟨a,r⟩:=p;rw[mE h];simp only[tw,go_sem,DD b h]
def c98(s:Bs)(b:s.length<=1000000):G0 153 [.str s] []=some (.str (aH s),[]):=by
 refine aA tz ?_;cases h:cut 32 s with
 | none=>rw[j7 h];simp only[tz,go_sem,A9 h]
 | some p =>
  obtain⟨a,r⟩:=p;rw[mE h];simp only[tz,go_sem,DD b h]
def B7(s:Bs)(c:UInt8):G0 155 [.str s,.int .u8 (c.toNat:Int)] []=some (.int .i64 (Lib.indexByte s c),[]):=c81 s c
def fW{d:UInt8}(h:p≠d):¬ (p.toNat:Int)=d.toNat:=λq=>h (Lc.1 (by omega))
def l64(s:Bs)(o:s.length<=1000000):∀ (r p:Bs),s=p++r ->
  (32 ∉ r->aC G0 qD (ST [(0,.str s),(3,.int .i64 p.length)] [] [])=some (.ex 0,ST [(0,.str s),(3,.int .i64 s.length),(7,.bool false)] [] [])) /\
  (32∈r->∃ j,aC G0 qD (ST [(0,.str s),(3,.int .i64 p.length)] [] [])=some (.ret,ST j [] [])/\aF .any j 2=.str (p++aH r))
 | [],p,h=>by
  have h:s=p:=by simp [h]
  subst h;refine⟨λ_=>?_,λh=>(by simp at h)⟩;rw[aB qD rfl];simp only[go_sem,jm]
 | c::r,p,h=>by
  have i:=l64 s o r (p++[c]) (by simp [h]);have v:s.length=p.length+1+r.length:=by simp [h];omega
  have k:((p++[c]).length:Int)=(p.length+1:Nat):=by simp
  rw[k] at i;have f:(p.length:Int)<s.length:=by omega
  have e:0<=(p.length:Int):=by omega
  have g:s[p.length]?=some c:=by rw[h];simp
  have u:=wI (n:=p.length) (by omega)
  have m:s.take p.length=p:=by rw[h];simp
  have d:(p.length:Int)<=s.length:=by omega
  by_cases b:c=32
  ·subst b
   refine⟨λq=>absurd (wa ..) q,λ_=>?_⟩;have b:(((32:UInt8).toNat:Nat):Int)=32:=rfl;refine Exists.intro ?_ (And.intro ?_ ?_)
   rotate_left 1
   ·rw[aB qD rfl]
    simp only[go_sem,f,e,g,b,d,m];rfl
   ·simp only[go_sem,aH,takeWhile_cons,sv,jl,ka]
  ·have a:¬ (c.toNat:Int)=32:=fW b
   have em:(32∈c::r)↔32∈r:=by simp [ad9 b]
   have l:aH (c::r)=c::aH r:=by simp [aH,b]
   rw[em,l];have step:aC G0 qD (ST [(0,.str s),(3,.int .i64 p.length)] [] [])=aC G0 qD (ST [(0,.str s),(3,.int .i64 (p.length+1:Nat))] [] []):=by
    conv=>lhs;rw[aB qD rfl]
    simp only[go_sem,f,e,g,a,u]
   rw[step];simpa using i
def QQ(h:32 ∉ i):aH i=i:=by
 have:=kE.2 h
 exact j7 this
def c64(s:Bs)(e:s.length<=1000000):G0 149 [.str s] []=some (.str (aH s),[]):=by
 refine aA ua ?_;obtain⟨a,b⟩:=l64 s e s [] rfl;have d:((([]:Bs).length:Nat):Int)=0:=rfl;rw[d] at a b;by_cases h:32∈s
 ·obtain⟨g,f,c⟩:=b h
  rw[kg] at c;simp only[ua,go_sem,f,c]
 ·rw[QQ h]
  simp only[ua,go_sem,a h]
def Dw:sR p=true↔48<=(p.toNat:Int)/\(p.toNat:Int)<=57:=by
 unfold sR;simp only[ir,jo];omega
def Ci(s:Bs)(u:s.length<=3):∀ (r p:Bs) (n:Nat),s=p++r->n<10 ^ p.length ->
  (r.all sR=true->aC G0 oN (ST [(0,.str s),(4,.int .i64 n),(5,.int .i64 p.length),(18,.bool false)] [] [])=some (.ex 0,ST [(0,.str s),(4,.int .i64 (HE r n:Nat)),(5,.int .i64 s.length),(18,.bool false),(22,.bool false)] [] [])/\HE r n<10 ^ s.length) /\
  (r.all sR=false->∃ g,aC G0 oN (ST [(0,.str s),(4,.int .i64 n),(5,.int .i64 p.length),(18,.bool false)] [] [])=some (.ret,ST g [] [])/\aF .any g 2=.int .i64 0/\aF .any g 3=.bool false)
 | [],p,n,h,k=>by
  have h:s=p:=by simp [h]
  subst h;refine⟨λ_=>⟨?_,k⟩,λh=>(by simp at h)⟩;rw[aB oN rfl];simp only[go_sem,jm];rfl
 | c::r,p,n,h,k=>by
  have B:s.length=p.length+1+r.length:=by simp [h];omega
  have d:(p.length:Int)<s.length:=by omega
  have b:0<=(p.length:Int):=by omega
  have e:s[p.length]?=some c:=by rw[h];simp
  have v:=wI (n:=p.length) (by omega)
  have j:=Dw (p:=c);have m:((p++[c]).length:Int)=(p.length+1:Nat):=by simp
  have o:10 ^ p.length<=10 ^ 3:=Nat.pow_le_pow_right (by decide) (by omega);rw[ad0];cases f:sR c with
  | true =>
   obtain⟨a,i⟩:=j.1 f;have l:=Ci s u r (p++[c]) (10*n+(c.toNat-48)) (by simp [h]) (by rw[jb,jy,Nat.pow_succ];omega);rw[m] at l;have b1:¬ (c.toNat:Int)<48:=by omega
   have b2:¬ 57<(c.toNat:Int):=by omega
   have w:IntKind.i64.wrap (10*(n:Int))=10*(n:Int):=w6 (by omega);have x:IntKind.u8.wrap ((c.toNat:Int)-48)=(c.toNat:Int)-48:=wu8 (by omega) (by omega);have y:IntKind.i64.wrap ((c.toNat:Int)-48)=(c.toNat:Int)-48:=w6 (by omega);have A:IntKind.i64.wrap (10*(n:Int)+((c.toNat:Int)-48))=((10*n+(c.toNat-48):Nat):Int):=by rw[w6 (by omega)];omega
   have step:aC G0 oN (ST [(0,.str s),(4,.int .i64 n),(5,.int .i64 p.length),(18,.bool false)] [] [])=aC G0 oN (ST [(0,.str s),(4,.int .i64 ((10*n+(c.toNat-48):Nat):Int)),(5,.int .i64 (p.length+1:Nat)),(18,.bool false)] [] []):=by
    conv=>lhs;rw[aB oN rfl]
    simp only[go_sem,d,e,b,b1,b2,w,x,y,A,v]
   rw[step,jx];exact l
  | false =>
   refine⟨λq=>(by simp at q),λ_=>?_⟩;by_cases a:(c.toNat:Int)<48
   ·refine Exists.intro ?_ (And.intro ?_ ?_)
    rotate_left 1
    ·rw[aB oN rfl]
     simp only[go_sem,d,e,b,a];rfl
    ·exact⟨rfl,rfl⟩
   ·have i:57<(c.toNat:Int):=by
     by_cases q:57<(c.toNat:Int)
     ·exact q
     ·rw[j.2 ⟨by omega,by omega⟩] at f;cases f
    refine Exists.intro ?_ (And.intro ?_ ?_)
    rotate_left 1
    ·rw[aB oN rfl]
     simp only[go_sem,d,e,b,a,i];rfl
    ·exact⟨rfl,rfl⟩
def XJ(s:Bs)(h:rdN s=none):G0 196 [.str s] []=some (.tup [.int .i64 0,.bool false],[]):=by
 refine aA JS ?_;by_cases m:s.length<1
 ·have a:(s.length:Int)<1:=by omega
  simp only[JS,go_sem,a]
 have a:¬ (s.length:Int)<1:=by omega
 by_cases r:3<s.length
 ·have b:3<(s.length:Int):=by omega
  simp only[JS,go_sem,a,b]
 have b:¬ 3<(s.length:Int):=by omega
 have e:=OK (i:=s) (by omega);have j:s.head?=some (s.headD 0):=by cases s with | nil=>simp at m | cons=>rfl
 generalize s.headD 0=c at e j;by_cases f:c=48
 ·have d:(c.toNat:Int)=48:=by rw[f];rfl
  simp only[JS,go_sem,a,b,e,d]
 have d:¬ (c.toNat:Int)=48:=fW f;have n:s.all sR=false:=by
  cases q:s.all sR with
  | false=>rfl
  | true =>
   unfold rdN at h;rw[iw ⟨by omega,by omega,by rw[j];simpa using f,q⟩] at h;cases h
 obtain⟨u,g,o,p⟩:=(Ci s (by omega) s [] 0 rfl (by simp)).2 n;have l:((([]:Bs).length:Nat):Int)=0:=rfl;rw[l] at g;have k:((0:Nat):Int)=0:=rfl;rw[k] at g;simp only[JS,go_sem,a,b,e,d,g,o,p]
def Eh(s:Bs)(n:Nat)(h:rdN s=some n):G0 196 [.str s] []=some (.tup [.int .i64 n,.bool true],[])/\n<=999:=by
 unfold rdN at h
 split at h
 case isFalse=>cases h
 rename_i p;obtain⟨o,u,j,r⟩:=p;cases h;have a:¬ (s.length:Int)<1:=by omega
 have b:¬ 3<(s.length:Int):=by omega
 have g:=OK (i:=s) (by omega);have k:s.head?=some (s.headD 0):=by cases s with | nil=>simp at o | cons=>rfl
 generalize s.headD 0=c at g k;have d:¬ (c.toNat:Int)=48:=fW (by rw[k] at j;simpa using j);obtain⟨f,v⟩:=(Ci s (by omega) s [] 0 rfl (by simp)).1 r;have q:10 ^ s.length<=10 ^ 3:=Nat.pow_le_pow_right (by decide) (by omega);refine⟨?_,by omega⟩;refine aA JS ?_;have m:((([]:Bs).length:Nat):Int)=0:=rfl;rw[m] at f;have l:((0:Nat):Int)=0:=rfl;rw[l] at f;have e:((HE s 0:Nat):Int)<=999:=by omega
 simp only[JS,go_sem,a,b,g,d,f,e]
def wc(c:UInt8):okB c=true↔32<=(c.toNat:Int)/\(c.toNat:Int)<=126/\c≠60/\c≠62/\c≠123/\c≠125:=by
 unfold okB;simp only[ir,jo,ao5,ad6,and_assoc];exact⟨λ⟨a,b,c⟩=>⟨by omega,by omega,c⟩,λ⟨a,b,c⟩=>⟨by omega,by omega,c⟩⟩
def ib4y(h:p=60\/p=62\/p=123\/p=125):0<=Lib.indexByte [60,62,123,125] p:=by
 rcases h with rfl | rfl | rfl | rfl<;>decide
def Pw(a:p≠60)(b:p≠62)(c:p≠123)(d:p≠125):¬ 0<=Lib.indexByte [60,62,123,125] p:=by
 have:cut p [60,62,123,125]=none:=kE.2 (by simp [a,b,c,d])
 rw[kU this]
 decide
def l97(s:Bs)(B:s.length<=64):∀ (r p:Bs),s=p++r ->
  (r.all okB=true->aC G0 mV (ST [(0,.str s),(3,.int .i64 p.length),(22,.bool false)] [] [])=some (.ex 0,ST [(0,.str s),(3,.int .i64 s.length),(22,.bool false),(26,.bool false)] [] [])) /\
  (r.all okB=false->∃ o,aC G0 mV (ST [(0,.str s),(3,.int .i64 p.length),(22,.bool false)] [] [])=some (.ret,ST o [] [])/\aF .any o 2=.bool false)
 | [],p,h=>by
  have h:s=p:=by simp [h]
  subst h;refine⟨λ_=>?_,λh=>(by simp at h)⟩;rw[aB mV rfl];simp only[go_sem,jm]
 | c::r,p,h=>by
  have H:s.length=p.length+1+r.length:=by simp [h];omega
  have f:(p.length:Int)<s.length:=by omega
  have e:0<=(p.length:Int):=by omega
  have g:s[p.length]?=some c:=by rw[h];simp
  have C:=wI (n:=p.length) (by omega)
  have l:=wc c;have A:((p++[c]).length:Int)=(p.length+1:Nat):=by simp
  have m:=l97 s B r (p++[c]) (by simp [h]);rw[A] at m;rw[ad0];cases j:okB c with
  | true =>
   obtain⟨a,i,b,d,a5,k⟩:=l.1 j;have b1:¬ (c.toNat:Int)<32:=by omega
   have b2:¬ 126<(c.toNat:Int):=by omega
   have D:¬ (c.toNat:Int)=60:=fW b;have E:¬ (c.toNat:Int)=62:=fW d;have F:¬ (c.toNat:Int)=123:=fW a5;have G:¬ (c.toNat:Int)=125:=fW k;have y:=Pw b d a5 k;have step:aC G0 mV (ST [(0,.str s),(3,.int .i64 p.length),(22,.bool false)] [] [])=aC G0 mV (ST [(0,.str s),(3,.int .i64 (p.length+1:Nat)),(22,.bool false)] [] []):=by
    conv=>lhs;rw[aB mV rfl]
    simp only[go_sem,f,g,e,C,b1,b2,y,B7]
   rw[step,jx];exact m
  | false =>
   refine⟨λq=>(by simp at q),λ_=>?_⟩;by_cases a:(c.toNat:Int)<32
   ·refine Exists.intro ?_ (And.intro ?_ ?_)
    rotate_left 1
    ·rw[aB mV rfl]
     simp only[go_sem,f,g,e,a];rfl
    ·rfl
   by_cases i:126<(c.toNat:Int)
   ·refine Exists.intro ?_ (And.intro ?_ ?_)
    rotate_left 1
    ·rw[aB mV rfl]
     simp only[go_sem,f,g,e,a,i];rfl
    ·rfl
   have b:c=60\/c=62\/c=123\/c=125:=by
    by_cases u:c=60
    ·exact .inl u
    by_cases v:c=62
    ·exact .inr (.inl v)
    by_cases w:c=123
    ·exact .inr (.inr (.inl w))
    by_cases x:c=125
    ·exact .inr (.inr (.inr x))
    rw[l.2 ⟨by omega,by omega,u,v,w,x⟩] at j;cases j
   have d:=ib4y b;refine Exists.intro ?_ (And.intro ?_ ?_)
   rotate_left 1
   ·rw[aB mV rfl]
    simp only[go_sem,f,g,e,a,i,d,B7];rfl
   ·rfl
def l75(s:Bs)(E:s.length<=64):∀ (r p:Bs),s=p++r ->
  (r.all okB=true->aC G0 jQ (ST [(0,.str s),(3,.int .i64 p.length),(8,.bool false)] [] [])=some (.ex 0,ST [(0,.str s),(3,.int .i64 s.length),(8,.bool false),(12,.bool false)] [] [])) /\
  (r.all okB=false->∃ x,aC G0 jQ (ST [(0,.str s),(3,.int .i64 p.length),(8,.bool false)] [] [])=some (.ret,ST x [] [])/\aF .any x 2=.bool false)
 | [],p,h=>by
  have h:s=p:=by simp [h]
  subst h;refine⟨λ_=>?_,λh=>(by simp at h)⟩;rw[aB jQ rfl];simp only[go_sem,jm]
 | c::r,p,h=>by
  have H:s.length=p.length+1+r.length:=by simp [h];omega
  have f:(p.length:Int)<s.length:=by omega
  have e:0<=(p.length:Int):=by omega
  have g:s[p.length]?=some c:=by rw[h];simp
  have F:=wI (n:=p.length) (by omega)
  have v:=wc c;have D:((p++[c]).length:Int)=(p.length+1:Nat):=by simp
  have w:=l75 s E r (p++[c]) (by simp [h]);rw[D] at w;rw[ad0];cases l:okB c with
  | true =>
   obtain⟨b,i,a,d,a5,j⟩:=v.1 l;have b1:¬ (c.toNat:Int)<32:=by omega
   have b2:¬ 126<(c.toNat:Int):=by omega
   have y:¬ (c.toNat:Int)=60:=fW a;have A:¬ (c.toNat:Int)=62:=fW d;have B:¬ (c.toNat:Int)=123:=fW a5;have C:¬ (c.toNat:Int)=125:=fW j;have G:=Pw a d a5 j;have step:aC G0 jQ (ST [(0,.str s),(3,.int .i64 p.length),(8,.bool false)] [] [])=aC G0 jQ (ST [(0,.str s),(3,.int .i64 (p.length+1:Nat)),(8,.bool false)] [] []):=by
    conv=>lhs;rw[aB jQ rfl]
    simp only[go_sem,f,g,e,F,b1,b2,y,A,B,C]
   rw[step,jx];exact w
  | false =>
   refine⟨λq=>(by simp at q),λ_=>?_⟩;by_cases b:(c.toNat:Int)<32
   ·refine Exists.intro ?_ (And.intro ?_ ?_)
    rotate_left 1
    ·rw[aB jQ rfl]
     simp only[go_sem,f,g,e,b];rfl
    ·rfl
   by_cases i:126<(c.toNat:Int)
   ·refine Exists.intro ?_ (And.intro ?_ ?_)
    rotate_left 1
    ·rw[aB jQ rfl]
     simp only[go_sem,f,g,e,b,i];rfl
    ·rfl
   by_cases m:c=60
   ·have a:(c.toNat:Int)=60:=by rw[m];rfl
    refine Exists.intro ?_ (And.intro ?_ ?_)
    rotate_left 1
    ·rw[aB jQ rfl]
     simp only[go_sem,f,g,e,b,i,a];rfl
    ·rfl
   have a:¬ (c.toNat:Int)=60:=fW m;by_cases o:c=62
   ·have d:(c.toNat:Int)=62:=by rw[o];rfl
    refine Exists.intro ?_ (And.intro ?_ ?_)
    rotate_left 1
    ·rw[aB jQ rfl]
     simp only[go_sem,f,g,e,b,i,a,d];rfl
    ·rfl
   have d:¬ (c.toNat:Int)=62:=fW o;by_cases u:c=123
   ·have a5:(c.toNat:Int)=123:=by rw[u];rfl
    refine Exists.intro ?_ (And.intro ?_ ?_)
    rotate_left 1
    ·rw[aB jQ rfl]
     simp only[go_sem,f,g,e,b,i,a,d,a5];rfl
    ·rfl
   have a5:¬ (c.toNat:Int)=123:=fW u;have k:c=125:=by
    by_cases k:c=125
    ·exact k
    rw[v.2 ⟨by omega,by omega,m,o,u,k⟩] at l;cases l
   have j:(c.toNat:Int)=125:=by rw[k];rfl
   refine Exists.intro ?_ (And.intro ?_ ?_)
   rotate_left 1
   ·rw[aB jQ rfl]
    simp only[go_sem,f,g,e,b,i,a,d,a5,j];rfl
   ·rfl
def N9(h:1<=i.length):∃ c,i[i.length-1]?=some c/\i.getLast?=some c:=by
 rcases an5 i with rfl | ⟨r,d,rfl⟩
 ·simp at h
 ·exact⟨d,by simp,by simp⟩
def VV:isC i=(decide (i.length<=64)&&(i.all okB&&(cU (aH i)&&((decide ((aH i).length=i.length)||decide ((aH i).length+1<i.length))&&!(i.getLast? == some 47))))):=by
 unfold isC;simp only[Bool.and_assoc]
def qN(s:Bs):(aH s).length<=s.length:=by
 unfold aH;exact (an1 _).length_le
def c75(s:Bs):G0 218 [.str s] []=some (.bool (isC s),[]):=by
 refine aA JP ?_;rw[VV];by_cases I:64<s.length
 ·have d:64<(s.length:Int):=by omega
  have e:decide (s.length<=64)=false:=jr (by omega);simp only[JP,go_sem,d,e,kn]
 have d:¬ 64<(s.length:Int):=by omega
 have k:decide (s.length<=64)=true:=jv (by omega);obtain⟨B,C⟩:=l75 s (by omega) s [] rfl;have E:((([]:Bs).length:Nat):Int)=0:=rfl;rw[E] at B C;cases y:s.all okB with
 | false =>
  obtain⟨J,j,H⟩:=C y;simp only[JP,go_sem,d,k,j,H,kn,rk]
 | true =>
  have j:=B y;have q:=c64 s (by omega);cases i:cU (aH s) with
  | false=>simp only[JP,go_sem,d,k,j,q,c74,i,kn,rk,jx]
  | true =>
   have G:1<=s.length:=by
    have:=qN s
    cases h:aH s with
    | nil=>rw[h] at i;cases i
    | cons a b=>rw[h] at this;simp at this;omega
   obtain⟨c,o,F⟩:=N9 G;have n:(s.length:Int)-1=((s.length-1:Nat):Int):=by omega
   have v:IntKind.i64.wrap (((s.length-1:Nat):Int))=(s.length-1:Nat):=w6 (by omega);have p:(0:Int)<=((s.length-1:Nat):Int):=by omega
   have A:IntKind.i64.wrap (((aH s).length:Int)+1)=((aH s).length:Int)+1:=w64 (by omega) (by have:=qN s;omega);rw[F];have D:(!(some c==some 47))=!decide ((c.toNat:Int)=47):=by
    by_cases u:c=47
    ·subst u;rfl
    ·have:¬ (c.toNat:Int)=47:=fW u
     simp [u,this]
   rw[D];by_cases w:(aH s).length=s.length
   ·have f:((aH s).length:Int)=(s.length:Int):=by omega
    have l:decide ((aH s).length=s.length)=true:=jv w;by_cases r:(c.toNat:Int)=47 <;>
    simp only[JP,go_sem,d,k,j,q,c74,i,f,l,n,v,p,o,r,jx,aa3,ms,qa,jt,kr]
   ·have f:¬ ((aH s).length:Int)=(s.length:Int):=by omega
    have l:decide ((aH s).length=s.length)=false:=jr w;by_cases x:(aH s).length+1<s.length
    ·have g:((aH s).length:Int)+1<(s.length:Int):=by omega
     have m:decide ((aH s).length+1<s.length)=true:=jv x;by_cases r:(c.toNat:Int)=47 <;>
     simp only[JP,go_sem,d,k,j,q,c74,i,f,l,m,g,A,n,v,p,o,r,jx,am9,ms,qa,jt,kr]
    ·have g:¬ ((aH s).length:Int)+1<(s.length:Int):=by omega
     have m:decide ((aH s).length+1<s.length)=false:=jr x;simp only[JP,go_sem,d,k,j,q,c74,i,f,l,m,g,A,n,v,p,o,jx,kn,ak2]
def c97(s:Bs):G0 152 [.str s] []=some (.bool (isC s),[]):=by
 refine aA CC ?_;rw[VV];by_cases I:64<s.length
 ·have d:64<(s.length:Int):=by omega
  have e:decide (s.length<=64)=false:=jr (by omega);simp only[CC,go_sem,d,e,kn]
 have d:¬ 64<(s.length:Int):=by omega
 have o:decide (s.length<=64)=true:=jv (by omega);by_cases F:s.length=0
 ·have:s=[]:=length_eq_zero_iff.1 F
  subst this;rfl
 have g:¬ (s.length:Int)=0:=by omega
 obtain⟨c,j,E⟩:=N9 (i:=s) (by omega);have h:(s.length:Int)-1=((s.length-1:Nat):Int):=by omega
 have m:IntKind.i64.wrap (((s.length-1:Nat):Int))=(s.length-1:Nat):=w6 (by omega);have k:(0:Int)<=((s.length-1:Nat):Int):=by omega
 rw[E];by_cases w:c=47
 ·subst w
  have f:(((47:UInt8).toNat:Nat):Int)=47:=rfl;simp only[CC,go_sem,d,g,h,m,k,j,f,pk,jt,rk]
 have f:¬ (c.toNat:Int)=47:=fW w;have v:(!(some c==some 47))=true:=by simp [w]
 obtain⟨A,B⟩:=l97 s (by omega) s [] rfl;have D:((([]:Bs).length:Nat):Int)=0:=rfl;rw[D] at A B;cases y:s.all okB with
 | false =>
  obtain⟨L,n,H⟩:=B y;simp only[CC,go_sem,d,g,h,m,k,j,f,o,n,H,kn,rk]
 | true =>
  have n:=A y;cases r:cut 32 s with
  | none =>
   rw[j7 r];have q:=A9 r;cases p:cU s with
   | false=>simp only[CC,go_sem,d,g,h,m,k,j,f,o,n,q,c83,p,jx,kn]
   | true=>simp only[CC,go_sem,d,g,h,m,k,j,f,o,v,n,q,c83,p,jx,kv,ms,aa3]
  | some C =>
   obtain⟨a,b⟩:=C;rw[mE r];have q:=DD (by omega) r;obtain⟨G,_⟩:=bP.1 r;have K:s.length=a.length+1+b.length:=by rw[G];simp;omega
   have x:decide (a.length=s.length)=false:=jr (by omega);cases p:cU a with
   | false=>simp only[CC,go_sem,d,g,h,m,k,j,f,o,n,q,c83,p,jx,kn]
   | true =>
    by_cases J:0<b.length
    ·have l:0<(b.length:Int):=by omega
     have u:decide (a.length+1<s.length)=true:=jv (by omega);simp only[CC,go_sem,d,g,h,m,k,j,f,o,x,u,v,n,q,c83,p,l,jx,kv,am9]
    ·have l:¬ 0<(b.length:Int):=by omega
     have u:decide (a.length+1<s.length)=false:=jr (by omega);simp only[CC,go_sem,d,g,h,m,k,j,f,o,x,u,v,n,q,c83,p,l,jx,kv,ak2,kn]
theorem OE(D:Int):bC (k,u,D)=(decide (k=2)||decide (k=3)||decide (k=4)):=rfl
def c65(k:Int)(s:Bs)(i:Int):G0 188 [.agg [.int .i64 k,.str s,.int .i64 i]] []=some (.bool (bC (k,s,i)),[]):=by
 refine aA RP ?_;rw[OE];by_cases a:k=2
 ·simp only[RP,go_sem,a]
  rfl
 by_cases b:k=3
 ·simp only[RP,go_sem,a,b]
  rfl
 by_cases c:k=4
 ·simp only[RP,go_sem,a,b,c]
  rfl
 ·simp only[RP,go_sem,a,b,c]
  rfl
def c69(k:Int)(s:Bs)(i:Int):G0 61 [.agg [.int .i64 k,.str s,.int .i64 i]] []=some (.bool (bC (k,s,i)),[]):=by
 refine aA F61 ?_;rw[OE];by_cases a:k=2
 ·simp only[F61,go_sem,a]
  rfl
 by_cases b:k=3
 ·simp only[F61,go_sem,a,b]
  rfl
 by_cases c:k=4
 ·simp only[F61,go_sem,a,b,c]
  rfl
 ·simp only[F61,go_sem,a,b,c]
  rfl
def c96(k:Int)(s:Bs)(i:Int):G0 60 [.agg [.int .i64 k,.str s,.int .i64 i]] []=some (.int .i64 (wid (k,s,i):Nat),[]):=by
 refine aA F60 ?_;have e:wid (k,s,i)=if k=1 then s.length else 1:=rfl
 rw[e];by_cases a:k=1
 ·simp only[F60,go_sem,a]
 ·simp only[F60,go_sem,a]
def wG(a:Bs):∃ (n:Int) (b:Bool),G0 196 [.str a] []=some (.tup [.int .i64 n,.bool b],[])/\b=(rdN a).isSome/\∀ m,rdN a=some m->n=(m:Int):=by
 cases h:rdN a with
 | none=>exact⟨0,false,XJ a h,rfl,λm q=>(by cases q)⟩
 | some m=>exact⟨m,true,(Eh a m h).1,rfl,λm' q=>(by cases q;rfl)⟩
def Db:((p::i).head? == some 47)=decide (p=47):=by
 by_cases h:p=47<;>simp [h]
def lo1:aZ true 0 (.str (p::i)) (some (.int .i64 1)) none=some (.str i):=by
 rw[yE (by decide) (by simp only[jd];omega)];rfl
def WE(b:Bs)(h:1<=b.length):aZ true 0 (.str b) none (some (.int .i64 (b.length-1:Nat)))=some (.str b.dropLast):=by
 rw[D7 (by omega) (by omega),jp,an6]
def c82(I:u.length<=1000000):∃ (k:Int) (s:Bs) (i:Int) (b:Bool),G0 156 [.str u] []=some (.tup [.agg [.int .i64 k,.str s,.int .i64 i],.bool b],[])/\b=(rdT u).isSome/\∀ x,rdT u=some x->(k,s,i)=x:=by
 have d:=Sc u 47
 cases u with
 | nil =>
  have g:cut 58 ([]:Bs)=none:=rfl;have q:=A9 g;have f:=qv [] 47 (by decide);obtain⟨n,b,j,F,G⟩:=wG [];refine⟨0,[],0,false,?_,rfl,λx h=>(by cases h)⟩;refine aA o7 ?_;simp only[head?_nil,getLast?_nil] at d f;have y:((none:Option UInt8)==some 47)=false:=rfl;rw[y] at d f;simp only[o7,go_sem,d,q,f,j]
 | cons c r =>
  rw[Db] at d;simp only[jd] at I;by_cases l:c=47
  ·subst l
   simp only[ms] at d;have D:=lo1 (p:=47) (i:=r);cases g:cut 58 r with
   | none =>
    have q:=A9 g;obtain⟨n,b,j,F,G⟩:=wG r;have e:rdT (47::r)=none:=by simp [rdT,g]
    refine⟨0,[],0,false,?_,by rw[e];rfl,λx h=>(by rw[e] at h;cases h)⟩;refine aA o7 ?_;simp only[o7,go_sem,d,D,q,j]
   | some w =>
    obtain⟨a,b⟩:=w;have q:=DD (by omega) g;cases m:rdN a with
    | none =>
     have j:=XJ a m;have e:rdT (47::r)=none:=by simp [rdT,g,m]
     refine⟨0,[],0,false,?_,by rw[e];rfl,λx h=>(by rw[e] at h;cases h)⟩;refine aA o7 ?_;simp only[o7,go_sem,d,D,q,j]
    | some n =>
     have j:=(Eh a n m).1;have e:rdT (47::r)=if cU b=true then some (3,b,(n:Int)) else none:=by simp [rdT,g,m]
     refine⟨3,b,n,cU b,?_,by rw[e];cases cU b<;>rfl,λx h=>(by rw[e] at h;split at h;cases h;rfl;cases h)⟩;refine aA o7 ?_;simp only[o7,go_sem,d,D,q,j,c83]
  ·rw[jr l] at d
   cases g:cut 58 (c::r) with
   | none =>
    have q:=A9 g;have f:=qv [] 47 (by decide);simp only[getLast?_nil] at f;have y:((none:Option UInt8)==some 47)=false:=rfl;rw[y] at f;obtain⟨n,b,j,F,G⟩:=wG (c::r);have e:rdT (c::r)=none:=by simp only[rdT];rw[ie l,g]
    refine⟨0,[],0,false,?_,by rw[e];rfl,λx h=>(by rw[e] at h;cases h)⟩;refine aA o7 ?_;simp only[o7,go_sem,d,q,f,j]
   | some w =>
    obtain⟨a,b⟩:=w;have q:=DD (by simp only[jd];omega) g;obtain⟨H,_⟩:=bP.1 g;have C:b.length<=1000000:=by have:=pz List.length H;simp at this;omega
    have f:=qv b 47 C;cases m:rdN a with
    | none =>
     have j:=XJ a m;have e:rdT (c::r)=none:=by simp only[rdT];rw[ie l,g];simp only[m]
     refine⟨0,[],0,false,?_,by rw[e];rfl,λx h=>(by rw[e] at h;cases h)⟩;refine aA o7 ?_;by_cases o:b.getLast?=some 47
     ·rw[o,pk] at f
      have v:1<=b.length:=by cases b with | nil=>cases o | cons=>simp
      have B:(b.length:Int)-1=((b.length-1:Nat):Int):=by omega
      have E:IntKind.i64.wrap (((b.length-1:Nat):Int))=(b.length-1:Nat):=w6 (by omega);simp only[o7,go_sem,d,q,f,j,B,E,WE b v]
     ·have A:(b.getLast? == some 47)=false:=by simpa using o
      rw[A] at f;simp only[o7,go_sem,d,q,f,j]
    | some n =>
     have j:=(Eh a n m).1;by_cases o:b.getLast?=some 47
     ·rw[o,pk] at f
      have v:1<=b.length:=by cases b with | nil=>cases o | cons=>simp
      have B:(b.length:Int)-1=((b.length-1:Nat):Int):=by omega
      have E:IntKind.i64.wrap (((b.length-1:Nat):Int))=(b.length-1:Nat):=w6 (by omega);have e:rdT (c::r)=if isC b.dropLast=true then some (4,b.dropLast,(n:Int)) else none:=by simp only[rdT];rw[ie l,g];simp only[m];rw[iw o]
      refine⟨4,b.dropLast,n,isC b.dropLast,?_,by rw[e];cases isC b.dropLast<;>rfl,λx h=>(by rw[e] at h;split at h;cases h;rfl;cases h)⟩;refine aA o7 ?_;simp only[o7,go_sem,d,q,f,j,B,E,WE b v,c97]
     ·have A:(b.getLast? == some 47)=false:=by simpa using o
      rw[A] at f;have e:rdT (c::r)=if isC b=true then some (2,b,(n:Int)) else none:=by simp only[rdT];rw[ie l,g];simp only[m];rw[ie o]
      refine⟨2,b,n,isC b,?_,by rw[e];cases isC b<;>rfl,λx h=>(by rw[e] at h;split at h;cases h;rfl;cases h)⟩;refine aA o7 ?_;simp only[o7,go_sem,d,q,f,j,c97]
def Ru:G0 157 [.int .u8 (p.toNat:Int)] []=some (.bool (plain p),[]):=c77 p
def IT{b c:UInt8}(h:c≠b)(r:Bs):cut b (c::r)=(cut b r).map λp=>(c::p.1,p.2):=by simp [cut,h]
def sl1(c:UInt8)(t r:Bs):aZ true 0 (.str (c::(t++r))) (some (.int .i64 1)) (some (.int .i64 (t.length+1:Nat)))=some (.str t):=by
 rw[wA (by decide) (by omega) (by simp only[jd,jb];omega),jp];have e:(1:Int).toNat=1:=rfl;rw[e,qb,ab8,kc,ah1]
def hi1(c:UInt8)(r:Bs):aZ true 0 (.str (c::r)) none (some (.int .i64 1))=some (.str [c]):=by
 rw[D7 (by decide) (by simp only[jd];omega)];rfl
def c53(c:UInt8)(O:u.length<=100000):∃ (k:Int) (s:Bs) (i:Int) (n:Int) (b:Bool),G0 109 [.str (c::u)] []=some (.tup [.agg [.int .i64 k,.str s,.int .i64 i],.int .i64 n,.bool b],[])/\b=(rd (c::u)).isSome/\∀ x m,rd (c::u)=some (x,m)->(k,s,i)=x/\n=(m:Int):=by
 have j:(c::u)[0]?=some c:=rfl;by_cases D:c=92
 ·subst D
  have l:(((92:UInt8).toNat:Nat):Int)=92:=rfl;obtain⟨x,n,b,I,C,J⟩:=c80 (i:=u) (by omega);have e:rd (92::u)=(rdE u).map λp=>((1,[p.1],0),p.2):=rfl
  refine⟨1,[UInt8.ofNat x.toNat],0,n,b,?_,?_,?_⟩
  ·refine aA tK ?_
   simp only[tK,go_sem,j,l,I,NR,bR]
  ·rw[e]
   cases h:rdE u with
   | none=>rw[J h];rfl
   | some p=>rw[(C p.1 p.2 h).2.2];rfl
  ·intro z m r
   rw[e] at r;cases h:rdE u with
   | none=>rw[h] at r;cases r
   | some p =>
    obtain⟨L,M,_⟩:=C p.1 p.2 h;rw[h] at r;simp only[jq,jc,jg] at r;obtain⟨rfl,rfl⟩:=r;refine⟨?_,M⟩;rw[L];simp [bI]
 have l:¬ (c.toNat:Int)=92:=fW D;by_cases E:c=60
 ·subst E
  have g:(((60:UInt8).toNat:Nat):Int)=60:=rfl
  have e:rd (60::u)=(match cut 62 u with
   | some (t,_)=>(rdT t).map λx=>(x,t.length+2)
   | none=>none):=rfl
  have f:=IT (b:=62) (c:=60) (by decide) u;cases o:cut 62 u with
  | none =>
   rw[o] at e f;have q:=kU f;refine⟨0,[],0,0,false,?_,by rw[e];rfl,λx m h=>(by rw[e] at h;cases h)⟩;refine aA tK ?_;have d:=c81 (60::u) 62;rw[q] at d;have q:G0 155 [.str (60::u),.int .u8 62] []=some (.int .i64 (-1),[]):=d;simp only[tK,go_sem,j,g,q]
  | some p =>
   obtain⟨t,w⟩:=p;rw[o] at e f;have q:=mH f;have d:=c81 (60::u) 62;rw[q] at d;have q:G0 155 [.str (60::u),.int .u8 62] []=some (.int .i64 (t.length+1:Nat),[]):=d;obtain⟨v,_⟩:=bP.1 o;have N:t.length<=100000:=by have:=pz List.length v;simp at this;omega
   obtain⟨k,s,i,b,I,C,J⟩:=c82 (u:=t) (by omega);have sl:=sl1 60 t (62::w);rw[<- v] at sl;have B:¬ ((t.length+1:Nat):Int)<0:=by omega
   have H:IntKind.i64.wrap (((t.length+1:Nat):Int)+1)=(t.length+2:Nat):=by rw[w6 (by omega)];omega
   refine⟨k,s,i,((t.length+2:Nat):Int),b,?_,?_,?_⟩
   ·refine aA tK ?_
    simp only[tK,go_sem,j,g,q,B,sl,I,H]
   ·have e:rd (60::u)=(rdT t).map λx=>(x,t.length+2):=e
    rw[e,C,Option.isSome_map]
   ·intro x m K
    rw[e] at K;obtain⟨x',G,y⟩:=jf.1 K;simp only[jg] at y;obtain⟨rfl,rfl⟩:=y;exact⟨J _ G,rfl⟩
 have g:¬ (c.toNat:Int)=60:=fW E;by_cases F:c=123
 ·subst F
  have a:(((123:UInt8).toNat:Nat):Int)=123:=rfl
  have e:rd (123::u)=(match cut 125 u with
   | some (t,_)=>if cU t=true then some ((5,t,0),t.length+2) else none
   | none=>none):=rfl
  have f:=IT (b:=125) (c:=123) (by decide) u;cases o:cut 125 u with
  | none =>
   rw[o] at e f;have q:=kU f;refine⟨0,[],0,0,false,?_,by rw[e];rfl,λx m h=>(by rw[e] at h;cases h)⟩;refine aA tK ?_;have d:=c81 (123::u) 125;rw[q] at d;have q:G0 155 [.str (123::u),.int .u8 125] []=some (.int .i64 (-1),[]):=d;simp only[tK,go_sem,j,a,q]
  | some p =>
   obtain⟨t,w⟩:=p;rw[o] at e f;have q:=mH f;have d:=c81 (123::u) 125;rw[q] at d;have q:G0 155 [.str (123::u),.int .u8 125] []=some (.int .i64 (t.length+1:Nat),[]):=d;obtain⟨v,_⟩:=bP.1 o;have N:t.length<=100000:=by have:=pz List.length v;simp at this;omega
   have sl:=sl1 123 t (125::w);rw[<- v] at sl;have B:¬ ((t.length+1:Nat):Int)<0:=by omega
   have H:IntKind.i64.wrap (((t.length+1:Nat):Int)+1)=(t.length+2:Nat):=by rw[w6 (by omega)];omega
   have e:rd (123::u)=if cU t=true then some ((5,t,0),t.length+2) else none:=e
   cases A:cU t with
   | false =>
    rw[A,ie (by simp)] at e;refine⟨0,[],0,0,false,?_,by rw[e];rfl,λx m h=>(by rw[e] at h;cases h)⟩;refine aA tK ?_;simp only[tK,go_sem,j,a,q,B,sl,c83,A]
   | true =>
    rw[A,iw rfl] at e;refine⟨5,t,0,((t.length+2:Nat):Int),true,?_,by rw[e];rfl,λx m h=>(by rw[e] at h;cases h;exact⟨rfl,rfl⟩)⟩;refine aA tK ?_;simp only[tK,go_sem,j,a,q,B,sl,c83,A,H]
 have a:¬ (c.toNat:Int)=123:=fW F;have e:rd (c::u)=if plain c=true then some ((1,[c],0),1) else none:=by
  simp only[rd];rw[ie D,ie E,ie F]
 refine⟨1,[c],0,1,plain c,?_,by rw[e];cases plain c<;>rfl,λx m h=>(by rw[e] at h;split at h;cases h;exact⟨rfl,rfl⟩;cases h)⟩;refine aA tK ?_;simp only[tK,go_sem,j,l,g,a,hi1,Ru]
end Go.Av
