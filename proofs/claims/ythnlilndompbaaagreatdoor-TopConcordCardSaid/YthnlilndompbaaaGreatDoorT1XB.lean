/- Functions walked, and plain facts. No conditions. -/
import Derived.Test.YthnlilndompbaaaGreatDoorT1Ev1to3
open List
set_option linter.all false
set_option maxRecDepth 100000
set_option maxHeartbeats 16000000
def sb:=@List.flatMap_cons
def ys:=@Bool.false_or
def Lc:=@UInt8.toNat_inj
def aa4:=@beq_eq_false_iff_ne
def ah0:=@Bool.not_eq_false'
def ak7:=@List.nodup_append
def ak8:=@List.foldl_append
theorem am1:type_of% @List.head?_cons:=rfl
def an5:=@List.eq_nil_or_concat
def an8:=@List.take_append
def an9:=@List.any_eq_true
namespace Go.Nt
variable{D k:Int}{j n:Nat}{p:UInt8}
abbrev Bs:=List UInt8
variable{i u:Bs}
abbrev It:=Int×Bs×Int
variable{V e fh:List It}{de s:It}
def fA(p:UInt8->Bool)(h:∀ n:Fin 256,p (UInt8.ofNat n.1)=true)(c:UInt8):p c=true:=by
 have:=h ⟨c.toNat,c.toNat_lt⟩
 simpa using this
def rF(c:UInt8):Bool:=decide (97<=c.toNat)&&decide (c.toNat<=122)
def nmB(c:UInt8):Bool:=rF c||(decide (48<=c.toNat)&&decide (c.toNat<=57))||decide (c.toNat=45)
def cU:Bs->Bool
 | []=>false
 | c::r=>decide (r.length<24)&&rF c&&r.all nmB
def aH(s:Bs):Bs:=s.takeWhile λc=>c != 32
def okB(c:UInt8):Bool:=decide (32<=c.toNat)&&decide (c.toNat<=126)&&c != 60&&c != 62&&c != 123&&c != 125
def isC(s:Bs):Bool:=
 decide (s.length<=64)&&s.all okB&&cU (aH s)&&(decide ((aH s).length=s.length)||decide ((aH s).length+1<s.length))&&!(s.getLast? == some 47)
def bC(x:It):Bool:=decide (x.1=2)||decide (x.1=3)||decide (x.1=4)
def dU(x y:It):Bool:=bC y&&decide (y.2.2=x.2.2)&&!(decide (x.1=3)&&decide (y.1=2)&&(aH y.2.1==x.2.1))
def cX(f:List It):Int:=match f.getLast? with
 | some y=>y.1
 | none=>0
def nY(f:List It)(x:It):Int:=if f.any (dU x)=true then 7 else 0
def chk(f:List It)(x:It):Int:=
 if x.1=1 then (if x.2.1=[]\/x.2.2≠0\/cX f=1 then 1 else 0)
 else if x.1=5 then (if cU x.2.1=true/\x.2.2=0 then 0 else 1)
 else if x.1=2\/x.1=4 then (if isC x.2.1=true/\1<=x.2.2/\x.2.2<=999 then nY f x else 1)
 else if x.1=3 then (if cU x.2.1=true/\1<=x.2.2/\x.2.2<=999 then nY f x else 1)
 else 1
def wid(x:It):Nat:=if x.1=1 then x.2.1.length else 1
def len(f:List It):Nat:=(f.map wid).sum
def dV(f:List It):List It->Int
 | []=>0
 | x::r=>if chk f x≠0 then chk f x else dV (f++[x]) r
def vld(f:List It):Int:=if 512<f.length\/1024<len f then 3 else dV [] f
def dig(n:Nat):UInt8:=UInt8.ofNat (48+n)
def dec(n:Nat):Bs:=if n<10 then [dig n] else if n<100 then [dig (n / 10),dig (n % 10)] else [dig (n / 100),dig (n / 10 % 10),dig (n % 10)]
def sM(n:Nat):UInt8:=if n<10 then UInt8.ofNat (48+n) else UInt8.ofNat (87+n)
def ctl(c:UInt8):Bool:=(decide (c.toNat<32)&&c != 9&&c != 10&&c != 13)||c==127
def plain(c:UInt8):Bool:=c != 92&&c != 60&&c != 123&&c != 9&&c != 10&&c != 13&&!ctl c
def wrt(c:UInt8):Bs:=
 if c=92\/c=60\/c=123 then [92,c]
 else if c=10 then [92,110]
 else if c=9 then [92,116]
 else if c=13\/ctl c=true then [92,120,sM (c.toNat / 16),sM (c.toNat % 16)]
 else [c]
def elt(x:It):Bs:=
 if x.1=1 then x.2.1.flatMap wrt
 else if x.1=2 then 60::(dec x.2.2.toNat++58::(x.2.1++[62]))
 else if x.1=3 then 60::47::(dec x.2.2.toNat++58::(x.2.1++[62]))
 else if x.1=4 then 60::(dec x.2.2.toNat++58::(x.2.1++[47,62]))
 else 123::(x.2.1++[125])
def fmt(f:List It):Bs:=f.flatMap elt
def x7(c:UInt8):Option Nat:=if 48<=c.toNat/\c.toNat<=57 then some (c.toNat-48) else if 97<=c.toNat/\c.toNat<=102 then some (c.toNat-87) else none
def rdE:Bs->Option (UInt8×Nat)
 | []=>none
 | c::r=>if c=92\/c=60\/c=123 then some (c,2) else if c=110 then some (10,2) else if c=116 then some (9,2) else if c=120 then (match r with
  | h::l::_=>match x7 h,x7 l with
   | some a,some b=>if UInt8.ofNat (a*16+b)=13\/ctl (UInt8.ofNat (a*16+b))=true then some (UInt8.ofNat (a*16+b),4) else none
   | _,_=>none
  | _=>none) else none
def sR(c:UInt8):Bool:=decide (48<=c.toNat)&&decide (c.toNat<=57)
def HE:Bs->Nat->Nat
 | [],n=>n
 | c::r,n=>HE r (10*n+(c.toNat-48))
def rdN(s:Bs):Option Nat:=if 1<=s.length/\s.length<=3/\s.head?≠some 48/\s.all sR=true then some (HE s 0) else none
def cut(b:UInt8)(s:Bs):Option (Bs×Bs):=match s with
 | []=>none
 | c::r=>if c=b then some ([],r) else (cut b r).map λp=>(c::p.1,p.2)
def rdT(t:Bs):Option It:=match t with
 | []=>none
 | c::r=>if c=47 then (match cut 58 r with
   | some (a,b)=>match rdN a with
    | some n=>if cU b=true then some (3,b,(n:Int)) else none
    | none=>none
   | none=>none)
  else match cut 58 (c::r) with
   | some (a,b)=>match rdN a with
    | some n=>if b.getLast?=some 47 then (if isC b.dropLast=true then some (4,b.dropLast,(n:Int)) else none) else (if isC b=true then some (2,b,(n:Int)) else none)
    | none=>none
   | none=>none
def rd(s:Bs):Option (It×Nat):=match s with
 | []=>none
 | c::r =>
  if c=92 then (rdE r).map λp=>((1,[p.1],0),p.2)
  else if c=60 then (match cut 62 r with
   | some (t,_)=>(rdT t).map λx=>(x,t.length+2)
   | none=>none)
  else if c=123 then (match cut 125 r with
   | some (t,_)=>if cU t=true then some ((5,t,0),t.length+2) else none
   | none=>none)
  else if plain c=true then some ((1,[c],0),1) else none
def put(f:List It)(x:It):List It:=
 if x.1=1 then (match f.getLast? with
  | some y=>if y.1=1 then f.dropLast++[(1,y.2.1++x.2.1,0)] else f++[x]
  | none=>[x])
 else f++[x]
def prs:Nat->List It->Nat->Nat->Bs->List It×Nat×Int
 | 0,f,_,_,_=>(f,0,0)
 | k+1,f,a,n,s=>match s with
  | []=>(f,0,0)
  | _=>match rd s with
   | none=>([],a,2)
   | some (x,m)=>if x.1≠1/\chk f x≠0 then ([],a,chk f x) else if 512<(put f x).length\/1024<n+1 then ([],a,3) else prs k (put f x) (a+m) (n+1) (s.drop m)
def eV(s:Bs):List It×Nat×Int:=prs s.length [] 0 0 s
def bP{b:UInt8}:∀ {s:Bs} {a r:Bs},cut b s=some (a,r)↔s=a++b::r/\b ∉ a
 | [],a,r=>by simp [cut]
 | c::s,a,r=>by
  simp only[cut];by_cases h:c=b
  ·subst h
   rw[iw rfl];constructor
   ·intro h;simp only[jc,jg] at h;obtain⟨rfl,rfl⟩:=h;simp
   ·rintro ⟨d,e⟩
    cases a with
    | nil=>simp at d;simp [d]
    | cons x a=>simp at d;simp [d.1] at e
  ·rw[ie h]
   simp only[jf,Prod.exists,jg];constructor
   ·rintro ⟨p,q,d,rfl,rfl⟩
    obtain⟨e,f⟩:=bP.1 d;exact⟨by rw[e];rfl,by simp [f,ad9 h]⟩
   ·rintro ⟨d,e⟩
    cases a with
    | nil=>simp at d;exact absurd d.1 h
    | cons x a =>
     simp at d e;obtain⟨rfl,d⟩:=d;exact⟨a,r,bP.2 ⟨d,e.2⟩,rfl,rfl⟩
def kY(h:p ∉ i)(r:Bs):cut p (i++p::r)=some (i,r):=bP.2 ⟨rfl,h⟩
def kE{b:UInt8}:∀ {s:Bs},cut b s=none↔b ∉ s
 | []=>by simp [cut]
 | c::s=>by
  simp only[cut];by_cases h:c=b
  ·simp [h]
  ·rw[ie h,Option.map_eq_none_iff,kE];simp [ad9 h]
def nC(c:UInt8)(h:plain c=true):wrt c=[c]:=by
 have:=fA (λc=>!plain c||decide (wrt c=[c])) (by decide) c
 simpa [h] using this
def AB(c:UInt8)(h:plain c=false):∃ w,wrt c=92::w:=by
 have:=fA (λc=>plain c||decide ((wrt c).head?=some 92)) (by decide) c
 simp [h] at this;cases b:wrt c with
 | nil=>rw[b] at this;cases this
 | cons a w=>rw[b] at this;simp at this;exact⟨w,by rw[this]⟩
def yj:wrt p≠[]:=by
 cases h:plain p with
 | true=>rw[nC p h];simp
 | false=>obtain⟨w,a⟩:=AB p h;rw[a];simp
def yU(e:x7 p=some n):n<16/\sM n=p:=by
 have:=fA (λc=>match x7 c with
  | none=>true
  | some n=>decide (n<16)&&(sM n==c)) (by decide) p
 rw[e] at this;simpa using this
def C3(n:Fin 16):x7 (sM n.1)=some n.1:=by revert n;decide
def WS(h:p=13\/ctl p=true):wrt p=[92,120,sM (p.toNat / 16),sM (p.toNat % 16)]:=by
 have:=fA (λp=>!(decide (p=13)||ctl p)||decide (wrt p=[92,120,sM (p.toNat / 16),sM (p.toNat % 16)])) (by decide) p
 rcases h with h | h
 ·simpa [h] using this
 ·simpa [h] using this
def ofN(a b:Nat)(c:a<16)(d:b<16):(UInt8.ofNat (a*16+b)).toNat=a*16+b:=by
 simp only[UInt8.toNat_ofNat'];omega
def T5(h:rdE i=some (p,n)):plain p=false/\(wrt p).length=n/\∃ rest,92::i=wrt p++rest:=by
 cases i with
 | nil=>cases h
 | cons d i =>
  simp only[rdE] at h
  split at h
  ·rename_i hd
   simp only[jc,jg] at h;obtain⟨rfl,rfl⟩:=h;rcases hd with rfl | rfl | rfl
   ·exact⟨by decide,by decide,i,rfl⟩
   ·exact⟨by decide,by decide,i,rfl⟩
   ·exact⟨by decide,by decide,i,rfl⟩
  split at h
  ·rename_i hd;subst hd
   simp only[jc,jg] at h;obtain⟨rfl,rfl⟩:=h;exact⟨by decide,by decide,i,rfl⟩
  split at h
  ·rename_i hd;subst hd
   simp only[jc,jg] at h;obtain⟨rfl,rfl⟩:=h;exact⟨by decide,by decide,i,rfl⟩
  split at h
  ·rename_i hd;subst hd
   split at h
   ·rename_i x l rest
    split at h
    ·rename_i a b g j
     split at h
     ·rename_i k
      simp only[jc,jg] at h;obtain⟨rfl,rfl⟩:=h;obtain⟨e,f⟩:=yU g;obtain⟨b1,b2⟩:=yU j;have c:=WS k;rw[ofN a b e b1,show (a*16+b) / 16=a by omega,show (a*16+b) % 16=b by omega,f,b2] at c;refine⟨?_,by rw[c];rfl,rest,by rw[c];rfl⟩;cases m:plain (UInt8.ofNat (a*16+b)) with
      | false=>rfl
      | true=>rw[nC _ m] at c;simp at c
     ·cases h
    ·cases h
   ·cases h
  ·cases h
def ma(m:plain p=false)(a:wrt p=92::i):rdE (i++u)=some (p,(wrt p).length):=by
 by_cases b:p=92\/p=60\/p=123
 ·have e:wrt p=[92,p]:=by unfold wrt;rw[iw b]
  rw[e] at a ⊢;simp only[aa1,tn] at a;subst a;show rdE (p::u)=_;simp only[rdE];rw[iw b];rfl
 by_cases f:p=10
 ·subst f
  have e:wrt 10=[92,110]:=by decide
  rw[e] at a ⊢;simp only[aa1,tn] at a;subst a;rfl
 by_cases g:p=9
 ·subst g
  have e:wrt 9=[92,116]:=by decide
  rw[e] at a ⊢;simp only[aa1,tn] at a;subst a;rfl
 ·have j:p=13\/ctl p=true:=by
   have:=fA (λp=>plain p||decide (p=92)||decide (p=60)||decide (p=123)||decide (p=10)||decide (p=9)||decide (p=13)||ctl p) (by decide) p
   simp only[m,ys,yb,jo] at this;rcases this with (((((h | h) | h) | h) | h) | h) | h
   ·exact absurd (.inl h) b
   ·exact absurd (.inr (.inl h)) b
   ·exact absurd (.inr (.inr h)) b
   ·exact absurd h f
   ·exact absurd h g
   ·exact .inl h
   ·exact .inr h
  have e:=WS (p:=p) j;rw[e] at a ⊢;simp only[aa1,tn] at a;subst a;have l:=p.toNat_lt;have c:=C3 ⟨p.toNat / 16,by omega⟩;have d:=C3 ⟨p.toNat % 16,by omega⟩;simp only[] at c d;have k:UInt8.ofNat (p.toNat / 16*16+p.toNat % 16)=p:=by
   rw[show p.toNat / 16*16+p.toNat % 16=p.toNat by omega];simp
  show rdE (120::sM (p.toNat / 16)::sM (p.toNat % 16)::u)=_;simp only[rdE,c,d,k];rw[ie (by decide),ie (by decide),ie (by decide),iw trivial,iw j];rfl
def pw:∀ n:Fin 1000,1<=n.1->rdN (dec n.1)=some n.1:=by decide +kernel
def pu:∀ n:Fin 1000,(dec n.1).all sR=true:=by decide +kernel
def lz(a:1<=n)(b:n<=999):rdN (dec n)=some n:=pw ⟨n,by omega⟩ a
def vA(a:n<=999):∀ c∈dec n,sR c=true:=kx.1 (pu ⟨n,by omega⟩)
def wU(h:sR p=true):dig (p.toNat-48)=p/\p.toNat-48<10/\(p≠48->1<=p.toNat-48):=by
 unfold sR at h;simp only[ir,jo] at h;refine⟨?_,by omega,λa=>?_⟩
 ·unfold dig
  rw[show 48+(p.toNat-48)=p.toNat by omega];simp
 ·have:p.toNat≠48:=λe=>a (by rw[<- Lc,e];rfl)
  omega
def GS(h:rdN i=some n):i=dec n/\1<=n/\n<=999:=by
 unfold rdN at h
 split at h
 ·rename_i m
  obtain⟨l,k,e,d⟩:=m;simp only[jc] at h;subst h
  match i,l,k,e,d with
  | [a],_,_,e,d =>
   simp only[ad0,all_nil,kv] at d;simp only[am1,ad6,jc] at e;obtain⟨g,j,f⟩:=wU d;have f:=f e;simp only[HE,Nat.mul_zero,km];unfold dec;rw[iw j,g];exact⟨rfl,f,by omega⟩
  | [a,b],_,_,e,d =>
   simp only[ad0,all_nil,kv,ir] at d;simp only[am1,ad6,jc] at e;obtain⟨g,j,f⟩:=wU d.1;obtain⟨b1,b2,_⟩:=wU d.2;have f:=f e;simp only[HE,Nat.mul_zero,km];unfold dec;rw[ie (by omega),iw (by omega),show (10*(a.toNat-48)+(b.toNat-48)) / 10=a.toNat-48 by omega,show (10*(a.toNat-48)+(b.toNat-48)) % 10=b.toNat-48 by omega,g,b1];exact⟨rfl,by omega,by omega⟩
  | [a,b,c],_,_,e,d =>
   simp only[ad0,all_nil,kv,ir] at d;simp only[am1,ad6,jc] at e;obtain⟨g,j,f⟩:=wU d.1;obtain⟨b1,b2,_⟩:=wU d.2.1;obtain⟨c1,c2,_⟩:=wU d.2.2;have f:=f e;simp only[HE,Nat.mul_zero,km];unfold dec;rw[ie (by omega),ie (by omega),show (10*(10*(a.toNat-48)+(b.toNat-48))+(c.toNat-48)) / 100=a.toNat-48 by omega,show (10*(10*(a.toNat-48)+(b.toNat-48))+(c.toNat-48)) / 10 % 10=b.toNat-48 by omega,show (10*(10*(a.toNat-48)+(b.toNat-48))+(c.toNat-48)) % 10=c.toNat-48 by omega,g,b1,c1];exact⟨rfl,by omega,by omega⟩
  | _::_::_::_::_,_,k,_,_=>simp at k
 ·cases h
def nJ(h:cU i=true):i≠[]/\i.length<=24/\∀ c∈i,nmB c=true:=by
 cases i with
 | nil=>cases h
 | cons a i =>
  simp only[cU,ir,jo,kx] at h;refine⟨by simp,by simp;omega,λc b=>?_⟩;rcases la.1 b with rfl | b
  ·unfold nmB;rw[h.1.2];rfl
  ·exact h.2 c b
def UV(h:nmB p=true):okB p=true/\p≠125/\p≠62/\p≠47:=by
 have:=fA (λp=>!nmB p||(okB p&&decide (p≠125)&&decide (p≠62)&&decide (p≠47))) (by decide) p
 simpa [h,and_assoc] using this
def Ba(h:okB p=true):p≠62/\p≠125:=by
 have:=fA (λp=>!okB p||(decide (p≠62)&&decide (p≠125))) (by decide) p
 simpa [h] using this
def FF(h:sR p=true):p≠58/\p≠62/\p≠47:=by
 have:=fA (λp=>!sR p||(decide (p≠58)&&decide (p≠62)&&decide (p≠47))) (by decide) p
 simpa [h,and_assoc] using this
def EY(h:isC i=true):(∀ c∈i,okB c=true)/\i.getLast?≠some 47/\i≠[]:=by
 unfold isC at h;simp only[ir,kx,aa8,aa4] at h;refine⟨h.1.1.1.2,h.2,?_⟩
 rintro rfl
 have:=h.1.1.2
 simp [aH,cU] at this
def wfX(x:It):Prop:=(x.1=1/\(∃ c,x.2.1=[c])/\x.2.2=0)\/(x.1=5/\cU x.2.1=true/\x.2.2=0)\/((x.1=2\/x.1=4)/\isC x.2.1=true/\1<=x.2.2/\x.2.2<=999)\/(x.1=3/\cU x.2.1=true/\1<=x.2.2/\x.2.2<=999)
def body(x:It):Bs:=if x.1=2 then dec x.2.2.toNat++58::x.2.1 else if x.1=3 then 47::(dec x.2.2.toNat++58::x.2.1) else dec x.2.2.toNat++58::(x.2.1++[47])
def T3(h:rdT i=some s):i=body s/\(((s.1=2\/s.1=4)/\isC s.2.1=true)\/(s.1=3/\cU s.2.1=true))/\1<=s.2.2/\s.2.2<=999:=by
 cases i with
 | nil=>cases h
 | cons c r =>
  simp only[rdT] at h
  split at h
  ·rename_i p
   subst p
   split at h
   ·rename_i a b d
    split at h
    ·rename_i n l
     split at h
     ·rename_i e
      cases h;obtain⟨g,_⟩:=bP.1 d;obtain⟨j,m,o⟩:=GS l;refine⟨?_,.inr ⟨rfl,e⟩,by simp only[];omega,by simp only[];omega⟩;simp only[body,jp];rw[ie (by decide),iw trivial,g,j]
     ·cases h
    ·cases h
   ·cases h
  ·split at h
   ·rename_i a b d
    split at h
    ·rename_i n l
     obtain⟨g,_⟩:=bP.1 d;obtain⟨j,m,o⟩:=GS l
     split at h
     ·rename_i k
      split at h
      ·rename_i e
       cases h;refine⟨?_,.inl ⟨.inr rfl,e⟩,by simp only[];omega,by simp only[];omega⟩;simp only[body,jp];rw[ie (by decide),ie (by decide),g,<- j];have f:b≠[]:=by rintro rfl;simp at k
       have:=dropLast_concat_getLast f
       rw[getLast?_eq_some_getLast f] at k;simp only[jc] at k;rw[k] at this;rw[this]
      ·cases h
     ·split at h
      ·rename_i e
       cases h;refine⟨?_,.inl ⟨.inl rfl,e⟩,by simp only[];omega,by simp only[];omega⟩;simp only[body,jp];rw[iw trivial,g,<- j]
      ·cases h
    ·cases h
   ·cases h
def W2(h:n<=999):∃ d r,dec n=d::r/\sR d=true:=by
 have a:=vA h;cases hd:dec n with
 | nil =>
  exfalso;unfold dec at hd
  split at hd
  ·cases hd
  ·split at hd<;>cases hd
 | cons d r=>rw[hd] at a;exact⟨d,r,rfl,a d (by simp)⟩
def T4(h:((de.1=2\/de.1=4)/\isC de.2.1=true)\/(de.1=3/\cU de.2.1=true))(j:1<=de.2.2)(l:de.2.2<=999):rdT (body de)=some de:=by
 obtain⟨k,s,i⟩:=de;simp only[] at h j l;obtain⟨n,rfl⟩:=ae4 (show 0<=i by omega);have g:=lz (n:=n) (by omega) (by omega);have hd:(58:UInt8) ∉ dec n:=λm=>(FF (vA (by omega) _ m)).1 rfl
 obtain⟨d,r,e,f⟩:=W2 (n:=n) (by omega);have b:¬ d=47:=(FF (p:=d) f).2.2;rcases h with ⟨rfl | rfl,c⟩ | ⟨rfl,c⟩
 ·simp only[body,jp,iw]
  have a:cut 58 (d::(r++58::s))=some (dec n,s):=by
   have:=kY hd s
   rw[e] at this ⊢;exact this
  rw[e];show rdT (d::(r++58::s))=_;simp only[rdT];rw[ie b,a];simp only[g];rw[ie (EY c).2.1,iw c]
 ·simp only[body,jp]
  rw[ie (by decide),ie (by decide)];have a:cut 58 (d::(r++58::(s++[47])))=some (dec n,s++[47]):=by
   have:=kY hd (s++[47])
   rw[e] at this ⊢;exact this
  rw[e];show rdT (d::(r++58::(s++[47])))=_;simp only[rdT];rw[ie b,a];simp only[g,getLast?_concat,dropLast_concat,kp];rw[iw c]
 ·simp only[body,jp]
  rw[ie (by decide),iw trivial];simp only[rdT,kp,kY hd s,g];rw[iw c]
def rp(d:((s.1=2\/s.1=4)/\isC s.2.1=true)\/(s.1=3/\cU s.2.1=true))(e:1<=s.2.2)(f:s.2.2<=999):(62:UInt8) ∉ body s:=by
 have hd:(62:UInt8) ∉ dec s.2.2.toNat:=λa=>(FF (vA (by omega) _ a)).2.1 rfl
 have c:(62:UInt8) ∉ s.2.1:=λa=>by
  rcases d with ⟨_,b⟩ | ⟨_,b⟩
  ·exact (Ba ((EY b).1 _ a)).1 rfl
  ·exact (UV ((nJ b).2.2 _ a)).2.2.1 rfl
 unfold body;split
 ·simp [hd,c]
 ·split
  ·simp [hd,c]
  ·simp [hd,c]
def IP(a:de.1=2\/de.1=4\/de.1=3):elt de=60::(body de++[62]):=by
 obtain⟨k,s,i⟩:=de;simp only[] at a;rcases a with rfl | rfl | rfl<;>simp [elt,body]
def zU(h:wfX de)(r:Bs):rd (elt de++r)=some (de,(elt de).length):=by
 obtain⟨k,s,i⟩:=de;rcases h with ⟨g,⟨c,f⟩,j⟩ | ⟨g,f,j⟩ | h
 ·simp only[] at g f j
  subst g f j;have e:elt (1,[c],0)=wrt c:=by simp [elt]
  rw[e];cases l:plain c with
  | true =>
   rw[nC c l];have d:c≠92/\c≠60/\c≠123:=by
    have:=fA (λc=>!plain c||(decide (c≠92)&&decide (c≠60)&&decide (c≠123))) (by decide) c
    simpa [l,and_assoc] using this
   show rd (c::r)=_;simp only[rd];rw[ie d.1,ie d.2.1,ie d.2.2,iw l];rfl
  | false =>
   obtain⟨w,o⟩:=AB c l
   have:=ma l o (u:=r)
   rw[o];show rd (92::(w++r))=_;simp only[rd,kp,this,o,jq]
 ·simp only[] at g f j
  subst g j;have e:elt (5,s,0)=123::(s++[125]):=by simp [elt]
  have n:(125:UInt8) ∉ s:=λq=>(UV ((nJ f).2.2 _ q)).2.1 rfl
  rw[e];show rd (123::(s++[125]++r))=_;rw[kb];simp only[rd];rw[ie (by decide),ie (by decide),iw trivial]
  show (match cut 125 (s++125::r) with
   | some (t,_)=>if cU t=true then some (((5:Int),t,(0:Int)),t.length+2) else none
   | none=>none)=_
  rw[kY n];simp only[f,kp,jd,jb,jz]
 ·have m:((k=2\/k=4)/\isC s=true)\/(k=3/\cU s=true):=by
   rcases h with ⟨a,b,_⟩ | ⟨a,b,_⟩
   ·exact .inl ⟨a,b⟩
   ·exact .inr ⟨a,b⟩
  have hi:1<=i/\i<=999:=by
   rcases h with ⟨_,_,a⟩ | ⟨_,_,a⟩
   ·exact a
   ·exact a
  have e:=IP (de:=(k,s,i)) (by rcases m with ⟨a | a,_⟩ | ⟨a,_⟩<;>simp [a]);have p:=T4 (de:=(k,s,i)) m hi.1 hi.2;have n:=rp (s:=(k,s,i)) m hi.1 hi.2;rw[e];show rd (60::(body (k,s,i)++[62]++r))=_;rw[kb];simp only[rd];rw[ie (by decide),iw trivial]
  show (match cut 62 (body (k,s,i)++62::r) with
   | some (t,_)=>(rdT t).map λde=>(de,t.length+2)
   | none=>none)=_
  rw[kY n];simp only[p,jq,jd,jb,jz]
def yI(h:rd i=some (de,j)):wfX de/\j=(elt de).length/\∃ r,i=elt de++r:=by
 cases i with
 | nil=>cases h
 | cons c r =>
  simp only[rd] at h
  split at h
  ·rename_i k;subst k
   obtain⟨⟨d,n⟩,s,g⟩:=jf.1 h;simp only[jg] at g;obtain⟨rfl,rfl⟩:=g;obtain⟨o,l,rest,m⟩:=T5 s;have e:elt (1,[d],0)=wrt d:=by simp [elt]
   exact⟨.inl ⟨rfl,⟨d,rfl⟩,rfl⟩,by rw[e,l],rest,by rw[e,m]⟩
  split at h
  ·rename_i k;subst k
   split at h
   ·rename_i t q f
    obtain⟨y,s,g⟩:=jf.1 h;simp only[jg] at g;obtain⟨rfl,rfl⟩:=g;obtain⟨o,l,m,u⟩:=T3 s;obtain⟨p,_⟩:=bP.1 f;have e:=IP (de:=y) (by rcases l with ⟨a | a,_⟩ | ⟨a,_⟩<;>simp [a]);refine⟨?_,by rw[e,o];simp,q,by rw[e,p,<- o];simp⟩;rcases l with ⟨a,b⟩ | ⟨a,b⟩
    ·exact .inr (.inr (.inl ⟨a,b,m,u⟩))
    ·exact .inr (.inr (.inr ⟨a,b,m,u⟩))
   ·cases h
  split at h
  ·rename_i k;subst k
   split at h
   ·rename_i t q f
    split at h
    ·rename_i v
     cases h;obtain⟨p,_⟩:=bP.1 f;have e:elt (5,t,0)=123::(t++[125]):=by simp [elt]
     exact⟨.inr (.inl ⟨rfl,v,rfl⟩),by rw[e];simp,q,by rw[e,p];simp⟩
    ·cases h
   ·cases h
  split at h
  ·rename_i w
   cases h;have e:elt (1,[c],0)=[c]:=by simp [elt,nC c w]
   exact⟨.inl ⟨rfl,⟨c,rfl⟩,rfl⟩,by rw[e];rfl,r,by rw[e];rfl⟩
  ·cases h
def t7(h:rd i=some (de,n)):1<=n/\n<=i.length/\i=elt de++i.drop n/\∀ r,rd (elt de++r)=some (de,n):=by
 obtain⟨b,c,r,d⟩:=yI h;have f:1<=(elt de).length:=by
  have:=zU b []
  rw[ka] at this;cases e:elt de with
  | nil=>rw[e] at this;cases this
  | cons a l=>simp
 refine⟨by omega,by rw[d,jb];omega,?_,λr=>by rw[zU b,c]⟩;rw[d,c,ae3]
def GW:∀ (k k':Nat) (f:List It) (a n:Nat) (s:Bs),s.length<=k->s.length<=k'->prs k f a n s=prs k' f a n s
 | 0,k',f,a,n,s,b,d=>by
  have:s=[]:=js (by omega)
  subst this;cases k'<;>rfl
 | k+1,0,f,a,n,s,b,d=>by
  have:s=[]:=js (by omega)
  subst this;rfl
 | k+1,k'+1,f,a,n,s,b,d=>by
  cases s with
  | nil=>rfl
  | cons c s =>
   simp only[prs];cases h:rd (c::s) with
   | none=>rfl
   | some p =>
    obtain⟨x,m⟩:=p;obtain⟨i,m2,_,_⟩:=t7 h;simp only[];have g:((c::s).drop m).length<=k:=by rw[kl];simp only[jd] at b ⊢;omega
    have e:((c::s).drop m).length<=k':=by rw[kl];simp only[jd] at d ⊢;omega
    rw[GW k k' _ _ _ _ g e]
def prS(f:List It)(a n:Nat)(s:Bs):List It×Nat×Int:=prs s.length f a n s
theorem CQ:eV i=prS [] 0 0 i:=rfl
theorem yK:prS e j n []=(e,0,0):=rfl
def zZ(a:i≠[])(h:rd i=none):prS e j n i=([],j,2):=by
 cases i with
 | nil=>exact absurd rfl a
 | cons c i=>simp only[prS,jd,prs,h]
def lJ{q:Nat}(h:rd i=some (de,q)):prS V j n i=if de.1≠1/\chk V de≠0 then ([],j,chk V de) else if 512<(put V de).length\/1024<n+1 then ([],j,3) else prS (put V de) (j+q) (n+1) (i.drop q):=by
 cases i with
 | nil=>cases h
 | cons c i =>
  obtain⟨a,m2,_,_⟩:=t7 h;have e:prs i.length (put V de) (j+q) (n+1) ((c::i).drop q)=prs ((c::i).drop q).length (put V de) (j+q) (n+1) ((c::i).drop q):=
   GW _ _ _ _ _ _ (by rw[kl];simp only[jd];omega) (ji _)
  simp only[prS,jd,prs,h,e]
def A2:∀ (A B C:List It),dV A (B++C)=if dV A B≠0 then dV A B else dV (A++B) C
 | A,[],C=>by simp [dV]
 | A,x::B,C=>by
  have a:dV A (x::B++C)=if chk A x≠0 then chk A x else dV (A++[x]) (B++C):=rfl
  have b:dV A (x::B)=if chk A x≠0 then chk A x else dV (A++[x]) B:=rfl
  by_cases h:chk A x≠0
  ·rw[iw h] at a b
   rw[a,b,iw h]
  ·rw[ie h] at a b
   rw[a,b,A2 (A++[x]) B C,kb];rfl
def cY(f:List It)(x:It):dV [] (f++[x])=0↔dV [] f=0/\chk f x=0:=by
 rw[A2];by_cases h:dV [] f=0
 ·simp only[h,ad6,kt,kz,kg,dV,tn]
  by_cases a:chk f x=0
  ·simp [a]
  ·simp [a]
 ·simp [h]
def fX:len (e++V)=len e+len V:=by simp [len]
def gH:len [s]=wid s:=by simp [len]
def dB:cX (e++[s])=s.1:=by simp [cX]
def qS:fmt (e++V)=fmt e++fmt V:=by simp [fmt]
def qR:fmt [s]=elt s:=by simp [fmt]
def dY(h:s.1=1):chk e s=0↔s.2.1≠[]/\s.2.2=0/\cX e≠1:=by
 unfold chk;rw[iw h];constructor
 ·intro f
  split at f
  ·cases f
  ·rename_i d
   refine⟨λq=>d (.inl q),Classical.byContradiction λq=>d (.inr (.inl q)),λq=>d (.inr (.inr q))⟩
 ·rintro ⟨a,b,c⟩
  rw[ie]
  rintro (q | q | q)
  ·exact a q
  ·exact q b
  ·exact c q
def VL(f:List It):Prop:=dV [] f=0
def dS(f:List It):f=[]\/∃ g y,f=g++[y]:=by
 rcases an5 f with h | ⟨g,y,h⟩
 ·exact .inl h
 ·exact .inr ⟨g,y,by simpa using h⟩
def iB(a:s.1=1):(cX e≠1/\put e s=e++[s])\/∃ g y,e=g++[y]/\y.1=1/\put e s=g++[(1,y.2.1++s.2.1,0)]:=by
 rcases dS e with rfl | ⟨g,y,rfl⟩
 ·left;simp [put,a,cX]
 ·by_cases b:y.1=1
  ·right;exact⟨g,y,rfl,b,by simp [put,a,b]⟩
  ·left;simp [put,a,b,cX]
def yJ(a:s.1≠1):put e s=e++[s]:=by simp [put,a]
def KO(h:VL e)(u:wfX s)(r:¬ (s.1≠1/\chk e s≠0))(i:n=len e):VL (put e s)/\len (put e s)=n+1/\fmt (put e s)=fmt e++elt s:=by
 by_cases a:s.1=1
 ·rcases u with ⟨_,⟨c,d⟩,p⟩ | ⟨j,_⟩ | ⟨j,_⟩ | ⟨j,_⟩
  ·rcases iB (e:=e) a with ⟨b,f⟩ | ⟨g,y,rfl,b,f⟩
   ·rw[f]
    refine⟨(cY e s).2 ⟨h,(dY a).2 ⟨by simp [d],p,b⟩⟩,?_,by rw[qS,qR]⟩;rw[fX,gH,i,wid,iw a,d];rfl
   ·rw[f]
    obtain⟨k,l⟩:=(cY g y).1 h;obtain⟨b1,b2,m⟩:=(dY b).1 l;refine⟨(cY g _).2 ⟨k,(dY rfl).2 ⟨by simp [d],rfl,m⟩⟩,?_,?_⟩
    ·rw[i,fX,fX,gH,gH]
     simp only[wid,b,kp,d,jb,jd,jz];omega
    ·rw[qS,qS,qR,qR,kb]
     congr 1
     simp [elt,b,a]
  ·omega
  ·omega
  ·omega
 ·have o:chk e s=0:=Classical.byContradiction λq=>r ⟨a,q⟩
  rw[yJ a];refine⟨(cY e s).2 ⟨h,o⟩,?_,by rw[qS,qR]⟩;rw[fX,gH,i,wid,ie a]
def CO:∀ (k:Nat) (f:List It) (a n:Nat) (s:Bs) (g:List It) (b:Nat),s.length<=k->VL f->n=len f->f.length<=512->n<=1024->prS f a n s=(g,b,0)->VL g/\g.length<=512/\len g<=1024/\fmt g=fmt f++s/\b=0
 | k,f,a,n,[],g,b,_,i,o,l,q,h=>by
  rw[yK] at h;cases h;exact⟨i,l,by omega,by simp,rfl⟩
 | 0,f,a,n,c::s,g,b,j,_,_,_,_,_=>by simp at j
 | k+1,f,a,n,c::s,g,b,j,i,o,l,q,h=>by
  cases d:rd (c::s) with
  | none =>
   rw[zZ (by simp) d] at h;simp at h
  | some p =>
   obtain⟨x,m⟩:=p;obtain⟨G,m2,r,_⟩:=t7 d;obtain⟨E,_,_⟩:=yI d;rw[lJ d] at h
   split at h
   ·rename_i e
    simp only[jg] at h;exact absurd h.2.2 e.2
   ·rename_i e
    split at h
    ·simp at h
    ·rename_i F
     obtain⟨u,v,w⟩:=KO i E e o;obtain⟨y,A,B,C,D⟩:=CO k _ _ _ _ g b (by rw[kl];simp only[jd] at j m2 ⊢;omega) u v.symm (by omega) (by omega) h;exact⟨y,A,B,by rw[C,w,kb,<- r],D⟩
def cG(f:List It):vld f=0↔VL f/\f.length<=512/\len f<=1024:=by
 unfold vld VL;constructor
 ·intro h
  split at h
  ·cases h
  ·rename_i d
   exact⟨h,by omega,by omega⟩
 ·rintro ⟨a,b,c⟩
  rw[ie (by omega),a]
def xI(h:eV i=(e,n,0)):vld e=0/\fmt e=i/\n=0:=by
 rw[CQ] at h;obtain⟨a,b,c,d,f⟩:=CO _ [] 0 0 i e n (ji _) rfl rfl (by simp) (by simp) h;exact⟨(cG e).2 ⟨a,b,c⟩,by simpa [fmt] using d,f⟩
def DV(c:UInt8):wfX (1,[c],0):=.inl ⟨rfl,⟨c,rfl⟩,rfl⟩
def IN:elt (1,[p],0)=wrt p:=by simp [elt]
def CN:∀ (t p:Bs) (A:List It) (a n:Nat) (r:Bs),A.length+1<=512->n+t.length<=1024 ->
  ∃ d,prS (A++[(1,p,0)]) a n (t.flatMap wrt++r)=prS (A++[(1,p++t,0)]) d (n+t.length) r
 | [],p,A,a,n,r,e,f=>⟨a,by simp⟩
 | c::t,p,A,a,n,r,e,f=>by
  simp only[jd] at f;obtain⟨d,h⟩:=CN t (p++[c]) A (a+(wrt c).length) (n+1) r e (by omega);refine⟨d,?_⟩;have b:=zU (DV c) (t.flatMap wrt++r);rw[IN] at b;rw[sb,kb,lJ b,ie (by simp)];have g:put (A++[(1,p,0)]) (1,[c],0)=A++[(1,p++[c],0)]:=by simp [put]
  rw[g,ie (by simp only[jb,jd,jz];omega),ae3,h];simp only[kb,ko,kg,jd];rw[show n+1+t.length=n+(t.length+1) by omega]
def FL(h:chk e s=0)(c:s.1≠1):wfX s:=by
 unfold chk at h;rw[ie c] at h
 split at h
 ·rename_i a
  split at h
  ·rename_i b;exact .inr (.inl ⟨a,b⟩)
  ·cases h
 split at h
 ·rename_i a
  split at h
  ·rename_i b;exact .inr (.inr (.inl ⟨a,b⟩))
  ·cases h
 split at h
 ·rename_i a
  split at h
  ·rename_i b;exact .inr (.inr (.inr ⟨a,b⟩))
  ·cases h
 ·cases h
def EI:∀ (B A:List It) (a n:Nat),n=len A->dV A B=0->(A++B).length<=512->len (A++B)<=1024->prS A a n (fmt B)=(A++B,0,0)
 | [],A,a,n,_,_,_,_=>by simp [fmt,yK]
 | x::B,A,a,n,I,b,o,m=>by
  simp only[dV] at b;have l:chk A x=0:=by
   by_cases h:chk A x=0
   ·exact h
   ·rw[iw h] at b;exact absurd b h
  rw[ie (by simp [l])] at b;have C:A++x::B=A++[x]++B:=by simp
  rw[C] at o m ⊢;have E:fmt (x::B)=elt x++fmt B:=by simp [fmt]
  rw[E];have f:(A++[x]).length<=512:=by rw[jb] at o;omega
  have r:len (A++[x])<=1024:=by rw[fX] at m;omega
  by_cases d:x.1=1
  ·obtain⟨b1,b2,v⟩:=(dY d).1 l
   obtain⟨k,s,i⟩:=x;simp only[] at d b1 b2;subst d b2
   cases s with
   | nil=>exact absurd rfl b1
   | cons c t =>
    have j:=zU (DV c) (t.flatMap wrt++fmt B);rw[IN] at j;have D:elt (1,c::t,0)=wrt c++t.flatMap wrt:=by simp [elt]
    have p:len (A++[(1,c::t,0)])=len A+(t.length+1):=by rw[fX,gH];simp [wid]
    rw[p] at r;have F:put A (1,[c],0)=A++[(1,[c],0)]:=by
     rcases iB (e:=A) (s:=(1,[c],0)) rfl with ⟨_,h⟩ | ⟨g,y,rfl,H,_⟩
     ·exact h
     ·rw[dB] at v;exact absurd H v
    rw[D,kb,lJ j,ie (by simp),F,ie (by simp only[jb,jd,jz] at f ⊢;omega),ae3];obtain⟨w,u⟩:=CN t [c] A (a+(wrt c).length) (n+1) (fmt B) (by simpa using f) (by omega);rw[u]
    have:=EI B (A++[(1,c::t,0)]) w (n+1+t.length) (by rw[p];omega) b o m
    exact this
  ·have p:=FL l d
   rw[lJ (zU p _),ie (λq=>q.2 l),yJ d,ae3];have G:len (A++[x])=len A+1:=by rw[fX,gH,wid,ie d]
   rw[ie (by omega)];exact EI B (A++[x]) _ (n+1) (by omega) b o m
def CR(h:vld e=0):eV (fmt e)=(e,0,0):=by
 obtain⟨a,b,c⟩:=(cG e).1 h;exact EI e [] 0 0 rfl a (by simpa using b) (by simpa using c)
def pi(c:vld e=0)(hg:vld V=0)(h:fmt e=fmt V):e=V:=by
 have a:=CR c;have b:=CR hg;rw[h,b] at a;cases a;rfl
def NC:∀ (k:Nat) (f:List It) (a n:Nat) (s:Bs) (g:List It) (b:Nat) (e:Int),s.length<=k->prS f a n s=(g,b,e)->e≠0->∃ m,b=a+m/\m<s.length/\g=[]/\(prS f a n (s.take m)).2.2=0
 | k,f,a,n,[],g,b,e,_,h,j=>by
  rw[yK] at h;cases h;exact absurd rfl j
 | 0,f,a,n,c::s,g,b,e,l,_,_=>by simp at l
 | k+1,f,a,n,c::s,g,b,e,l,h,j=>by
  cases d:rd (c::s) with
  | none =>
   rw[zZ (by simp) d] at h;cases h;exact⟨0,rfl,by simp,rfl,rfl⟩
  | some p =>
   obtain⟨x,m⟩:=p;obtain⟨B,m2,v,w⟩:=t7 d;obtain⟨D,q,_,_⟩:=yI d;rw[lJ d] at h;by_cases i:x.1≠1/\chk f x≠0
   ·rw[iw i] at h
    cases h;exact⟨0,rfl,by simp,rfl,rfl⟩
   ·rw[ie i] at h
    by_cases o:512<(put f x).length\/1024<n+1
    ·rw[iw o] at h
     cases h;exact⟨0,rfl,by simp,rfl,rfl⟩
    ·rw[ie o] at h
     obtain⟨m',C,y,A,r⟩:=NC k _ _ _ _ g b e (by rw[kl];simp only[jd] at l m2 ⊢;omega) h j;rw[kl] at y;refine⟨m+m',by omega,by omega,A,?_⟩;have u:(c::s).take (m+m')=elt x++((c::s).drop m).take m':=by
      conv=>lhs;rw[v]
      rw[an8,q,Ty (by omega)]
      congr 1
      congr 1
      omega
     rw[u,lJ (w _),ie i,ie o,q,ae3];rw[q] at r;exact r
def QM(h:eV i=(V,n,k))(d:k≠0):n<i.length/\V=[]/\(eV (i.take n)).2.2=0:=by
 rw[CQ] at h;obtain⟨m,e,a,b,c⟩:=NC _ _ _ _ _ _ _ _ (ji _) h d
 have:n=m:=by omega
 subst this;exact⟨a,b,c⟩
def pn(f:List It)(x:It):List It:=if x.1=1 then (if x.2.1=[] then f else put f (1,x.2.1,0)) else f++[x]
def nrm(f:List It):List It:=f.foldl pn []
def NE(h:chk e de=0):pn e de=e++[de]:=by
 unfold pn;by_cases a:de.1=1
 ·obtain⟨d,b,c⟩:=(dY a).1 h
  rw[iw a,ie d];obtain⟨k,s,i⟩:=de;simp only[] at a b;subst a b;rcases iB (e:=e) (s:=(1,s,0)) rfl with ⟨_,h⟩ | ⟨g,y,rfl,f,_⟩
  ·exact h
  ·rw[dB] at c;exact absurd f c
 ·rw[ie a]
def E7:∀ (B A:List It),dV A B=0->B.foldl pn A=A++B
 | [],A,_=>by simp
 | x::B,A,h=>by
  simp only[dV] at h;have b:chk A x=0:=by
   by_cases a:chk A x=0
   ·exact a
   ·rw[iw a] at h;exact absurd h a
  rw[ie (by simp [b])] at h;rw[ac6,NE b,E7 B _ h];simp
def HH(h:VL e)(x:It):nrm (e++[x])=pn e x:=by
 unfold nrm;rw[ak8,E7 e [] h];rfl
def US(h:VL e):nrm e=e:=E7 e [] h
def tg(f:List It):List It:=f.filter bC
def gW:tg (e++V)=tg e++tg V:=by simp [tg]
def zE(h:bC s=false):tg [s]=[]:=by simp [tg,h]
def nX(h:bC s=true):tg [s]=[s]:=by simp [tg,h]
def l7(h:s.1=1):bC s=false:=by simp [bC,h]
def rY(h:s.1=1):tg (pn e s)=tg e:=by
 unfold pn;rw[iw h];split
 ·rfl
 ·rcases iB (e:=e) (s:=(1,s.2.1,0)) rfl with ⟨_,h⟩ | ⟨g,y,rfl,a,h⟩
  ·rw[h,gW,zE (l7 rfl),ka]
  ·rw[h,gW,gW,zE (l7 rfl),zE (l7 a)]
def LX(b:VL e)(h:s.1=1):VL (pn e s):=by
 unfold pn;rw[iw h];split
 ·exact b
 ·rename_i j
  rcases iB (e:=e) (s:=(1,s.2.1,0)) rfl with ⟨i,a⟩ | ⟨g,y,rfl,k,a⟩
  ·rw[a]
   exact (cY e _).2 ⟨b,(dY rfl).2 ⟨j,rfl,i⟩⟩
  ·rw[a]
   obtain⟨c,d⟩:=(cY g y).1 b;obtain⟨b1,b2,f⟩:=(dY k).1 d;exact (cY g _).2 ⟨c,(dY rfl).2 ⟨by simp [b1],rfl,f⟩⟩
def VG(x:It):len (pn e x)<=len e+wid x/\(pn e x).length<=e.length+1:=by
 unfold pn;by_cases h:x.1=1
 ·rw[iw h]
  split
  ·exact⟨by omega,by omega⟩
  ·rcases iB (e:=e) (s:=(1,x.2.1,0)) rfl with ⟨_,a⟩ | ⟨g,y,rfl,b,a⟩
   ·rw[a,fX,gH]
    simp [wid,h]
   ·rw[a,fX,fX,gH,gH]
    simp only[wid,b,h,kp,jb,jd,jz];omega
 ·rw[ie h,fX,gH]
  simp
def tP:nY e s=0↔∀ z∈tg e,z.2.2=s.2.2->s.1=3/\z.1=2/\aH z.2.1=s.2.1:=by
 unfold nY;constructor
 ·intro h z j hi
  obtain⟨c,a⟩:=ag9.1 j
  have:e.any (dU s)≠true:=by
   intro q;rw[iw q] at h;cases h
  have b:dU s z≠true:=λq=>this (an9.2 ⟨z,c,q⟩)
  unfold dU at b;simp only[a,hi,ms,Lb,jx,aa8,ad6,Bool.not_eq_false,ir,jo,Lh] at b;exact⟨b.1.1,b.1.2,b.2⟩
 ·intro h
  rw[ie];intro q;obtain⟨z,c,a⟩:=an9.1 q;unfold dU at a;simp only[ir,jo,aa8] at a;obtain⟨⟨f,g⟩,d⟩:=a;obtain⟨b1,b2,i⟩:=h z (ag9.2 ⟨c,f⟩) g;rw[b1,b2,i] at d;simp at d
structure FV (f op:List It) (id:Int):Prop where
 vl:VL f
 i0:0<=id
 ids:∀ z∈tg f,z.2.2<=id
 nd:(op.map λt=>t.2.2).Nodup
 opn:∀ t∈op,t.1=2/\isC t.2.1=true/\1<=t.2.2/\t.2.2<=id/\∀ z∈tg f,z.2.2=t.2.2->z=t
def E5:FV [] [] 0:=⟨rfl,by omega,by simp [tg],by simp,by simp⟩
def OL(h:FV e V k)(a:s.1=1):FV (pn e s) V k:=
 ⟨LX h.vl a,h.i0,by rw[rY a];exact h.ids,h.nd,by rw[rY a];exact h.opn⟩
def OM(h:FV V fh k)(b:cU i=true):FV (pn V (5,i,0)) fh k:=by
 have e:pn V (5,i,0)=V++[(5,i,0)]:=rfl;have a:tg (V++[((5:Int),i,(0:Int))])=tg V:=by rw[gW,zE (by rfl),ka]
 rw[e];exact⟨(cY V _).2 ⟨h.vl,by simp [chk,b]⟩,h.i0,by rw[a];exact h.ids,h.nd,by rw[a];exact h.opn⟩
def WG(h:FV e V D)(d:((k=2\/k=4)/\isC i=true)\/(k=3/\cU i=true))(hi:D<999):chk e (k,i,D+1)=0:=by
 have b:nY e (k,i,D+1)=0:=tP.2 λz f c=>by
  have:=h.ids z f
  simp only[] at c;omega
 have g:=h.i0;rcases d with ⟨rfl | rfl,a⟩ | ⟨rfl,a⟩
 ·simp only[chk]
  rw[ie (by decide),ie (by decide),iw (.inl trivial),iw ⟨a,by omega,by omega⟩,b]
 ·simp only[chk]
  rw[ie (by decide),ie (by decide),iw (.inr trivial),iw ⟨a,by omega,by omega⟩,b]
 ·simp only[chk]
  rw[ie (by decide),ie (by decide),ie (by decide),iw trivial,iw ⟨a,by omega,by omega⟩,b]
def WF(h:FV e V D)(j:(k=4/\isC i=true)\/(k=3/\cU i=true))(hi:D<999):FV (pn e (k,i,D+1)) V (D+1):=by
 have f:=WG h (k:=k) (i:=i) (by rcases j with ⟨a,b⟩ | ⟨a,b⟩;exact .inl ⟨.inr a,b⟩;exact .inr ⟨a,b⟩) hi;have c:bC (k,i,D+1)=true:=by rcases j with ⟨rfl,_⟩ | ⟨rfl,_⟩<;>rfl
 rw[NE f];refine⟨(cY e _).2 ⟨h.vl,f⟩,by have:=h.i0;omega,?_,h.nd,?_⟩
 ·intro z d
  rw[gW,nX c] at d;rcases ng.1 d with q | q
  ·have:=h.ids z q;omega
  ·simp only[kj] at q;subst q;simp
 ·intro t o
  obtain⟨l,m,n,p,a5⟩:=h.opn t o;refine⟨l,m,n,by omega,λz d g=>?_⟩;rw[gW,nX c] at d;rcases ng.1 d with q | q
  ·exact a5 z q g
  ·simp only[kj] at q;subst q;simp only[] at g;omega
def ON(h:FV e V D)(l:isC i=true)(hi:D<999):FV (pn e (2,i,D+1)) (V++[(2,i,D+1)]) (D+1):=by
 have j:=WG h (k:=2) (i:=i) (.inl ⟨.inl rfl,l⟩) hi;have d:bC ((2:Int),i,D+1)=true:=rfl;have u:=h.i0;rw[NE j];refine⟨(cY e _).2 ⟨h.vl,j⟩,by omega,?_,?_,?_⟩
 ·intro z c
  rw[gW,nX d] at c;rcases ng.1 c with q | q
  ·have:=h.ids z q;omega
  ·simp only[kj] at q;subst q;simp
 ·rw[af5,ak7]
  refine⟨h.nd,by simp,λa r b s=>?_⟩;obtain⟨t,g,rfl⟩:=yd.1 r;obtain⟨_,_,_,p,_⟩:=h.opn t g;simp only[ju,kh,kj] at s;omega
 ·intro t g
  rcases ng.1 g with q | q
  ·obtain⟨m,n,o,p,a5⟩:=h.opn t q
   refine⟨m,n,o,by omega,λz c f=>?_⟩;rw[gW,nX d] at c;rcases ng.1 c with q | q
   ·exact a5 z q f
   ·simp only[kj] at q;subst q;simp only[] at f;omega
  ·simp only[kj] at q
   subst q;refine⟨rfl,l,by simp only[];omega,by simp only[];omega,λz c f=>?_⟩;rw[gW,nX d] at c;rcases ng.1 c with q | q
   ·have:=h.ids z q;simp only[] at f;omega
   ·simpa using q
def VU(h:isC i=true):cU (aH i)=true:=by
 unfold isC at h;simp only[ir] at h;exact h.1.1.2
def AO(h:FV V fh k)(hi:k<=999){a b:List It}(j:fh=a++de::b):FV (pn V (3,aH de.2.1,de.2.2)) (a++b) k:=by
 obtain⟨C,D,E,F,t5⟩:=h.opn de (by rw[j];simp);have g:bC ((3:Int),aH de.2.1,de.2.2)=true:=rfl;have u:nY V (3,aH de.2.1,de.2.2)=0:=tP.2 λz f d=>by
  have:=t5 z f d
  subst this;exact⟨rfl,C,rfl⟩
 have m:chk V (3,aH de.2.1,de.2.2)=0:=by
  simp only[chk];rw[ie (by decide),ie (by decide),ie (by decide),iw trivial,iw ⟨VU D,E,by omega⟩,u]
 rw[NE m];have c:=h.nd;rw[j,af5,ju] at c;have l:∀ s∈a++b,s.2.2≠de.2.2:=by
  intro s i e;rw[ak7] at c;obtain⟨G,A,B⟩:=c;rcases ng.1 i with q | q
  ·exact B _ (mem_map_of_mem q) _ (by simp) e
  ·exact (nodup_cons.1 A).1 (by rw[<- e];exact mem_map_of_mem q)
 refine⟨(cY V _).2 ⟨h.vl,m⟩,h.i0,?_,?_,?_⟩
 ·intro z f
  rw[gW,nX g] at f;rcases ng.1 f with q | q
  ·exact h.ids z q
  ·simp only[kj] at q;subst q;exact F
 ·rw[af5]
  rw[ak7] at c ⊢;exact⟨c.1,(nodup_cons.1 c.2.1).2,λx v y w=>c.2.2 x v y (by simp [w])⟩
 ·intro s i
  obtain⟨n,o,p,r,a5⟩:=h.opn s (by rw[j];rcases ng.1 i with q | q<;>simp [q]);refine⟨n,o,p,r,λz f d=>?_⟩;rw[gW,nX g] at f;rcases ng.1 f with q | q
  ·exact a5 z q d
  ·simp only[kj] at q
   subst q;exact absurd d.symm (l s i)
def wfB(f:List It)(x:It):Bool:=
 if x.1=1 then !(decide (x.2.1=[])||decide (x.2.2≠0)||decide (cX f=1))
 else if x.1=5 then cU x.2.1&&decide (x.2.2=0)
 else if x.1=2\/x.1=4 then isC x.2.1&&(decide (1<=x.2.2)&&decide (x.2.2<=999))
 else if x.1=3 then cU x.2.1&&(decide (1<=x.2.2)&&decide (x.2.2<=999))
 else false
def oV(f:List It)(x:It):Bool:=!(f.any (dU x))
def qW:chk V de=if wfB V de=true then (if bC de=true then (if oV V de=true then 0 else 7) else 0) else 1:=by
 obtain⟨k,s,i⟩:=de;unfold chk wfB oV nY;simp only[];by_cases f:k=1
 ·subst f
  simp only[↓reduceIte];have e:bC ((1:Int),s,i)=false:=rfl;rw[e];by_cases a:s=[]<;>by_cases b:i=0<;>by_cases c:cX V=1<;>simp [a,b,c]
 rw[ie f,ie f];by_cases h:k=5
 ·subst h
  simp only[↓reduceIte];have e:bC ((5:Int),s,i)=false:=rfl;rw[e]
  cases cU s<;>by_cases b:i=0<;>simp [b]
 rw[ie h,ie h];by_cases d:k=2\/k=4
 ·rw[iw d,iw d]
  have e:bC (k,s,i)=true:=by rcases d with rfl | rfl<;>rfl
  rw[e]
  cases isC s<;>by_cases b:1<=i<;>by_cases c:i<=999<;>cases V.any (dU (k,s,i))<;>simp [b,c]
 rw[ie d,ie d];by_cases g:k=3
 ·subst g
  simp only[↓reduceIte];have e:bC ((3:Int),s,i)=true:=rfl;rw[e]
  cases cU s<;>by_cases b:1<=i<;>by_cases c:i<=999<;>cases V.any (dU ((3:Int),s,i))<;>simp [b,c]
 ·rw[ie g,ie g];rfl
abbrev Tm:=List (Int×It)
variable{ch:Tm}
def mT:Tm->Int->Option It
 | [],_=>none
 | (k,y)::r,i=>if i=k then some y else mT r i
def rE:Tm->Int->It->Tm
 | [],i,x=>[(i,x)]
 | (k,y)::r,i,x=>if i=k then (i,x)::r else (k,y)::rE r i x
def wH:∀ (m:Tm) (i:Int) (x:It) (j:Int),mT (rE m i x) j=if j=i then some x else mT m j
 | [],i,x,j=>by simp [rE,mT]
 | (k,y)::r,i,x,j=>by
  have b:=wH r i x j;by_cases h:i=k
  ·subst h
   simp only[rE,kp,mT];by_cases a:j=i<;>simp [a]
  ·simp only[rE,ie h,mT]
   by_cases a:j=k
   ·subst a;simp [ad9 h]
   ·simp only[a,kz,b]
structure TM (f:List It) (m:Tm):Prop where
 no:∀ i,mT m i=none->∀ z∈tg f,z.2.2≠i
 yes:∀ i y,mT m i=some y->y∈tg f/\y.2.2=i/\(y.1=2->∀ z∈tg f,z.2.2=i->z=y)
def yu:TM [] []:=⟨λi _ z a=>(by simp [tg] at a),λi y h=>(by simp [mT] at h)⟩
def GA(m:Tm)(x:It):Bool:=match mT m x.2.2 with
 | none=>false
 | some y=>!(decide (x.1=3)&&decide (y.1=2)&&(aH y.2.1==x.2.1))
def yt(h:TM e ch):nY e s=if GA ch s=true then 7 else 0:=by
 have key:nY e s=0↔GA ch s=false:=by
  rw[tP];unfold GA;cases i:mT ch s.2.2 with
  | none=>exact⟨λ_=>rfl,λ_ z g f=>absurd f (h.no _ i z g)⟩
  | some y =>
   obtain⟨a,b,c⟩:=h.yes _ y i;constructor
   ·intro q
    obtain⟨k,l,m⟩:=q y a b;simp [k,l,m]
   ·intro q z g f
    simp only[ah0,ir,jo,Lh] at q
    have:=c q.1.2 z g f
    subst this;exact⟨q.1.1,q.1.2,q.2⟩
 have j:nY e s=7\/nY e s=0:=by unfold nY;split<;>simp
 cases d:GA ch s with
 | false=>rw[key.2 d];rfl
 | true =>
  rcases j with h | h
  ·rw[h];rfl
  ·rw[key.1 h] at d;cases d
def yw(h:TM e ch)(p:bC s=true)(o:nY e s=0):TM (e++[s]) (rE ch s.2.2 s):=by
 have j:tg (e++[s])=tg e++[s]:=by rw[gW,nX p]
 have n:=tP.1 o;constructor
 ·intro i hi z d
  rw[wH] at hi
  split at hi
  ·cases hi
  ·rename_i f
   rw[j] at d;rcases ng.1 d with q | q
   ·exact h.no i hi z q
   ·simp only[kj] at q;subst q;exact ad9 f
 ·intro i y k
  rw[wH] at k
  split at k
  ·rename_i m
   cases k;refine⟨by rw[j];simp,m.symm,λl z d g=>?_⟩;rw[j] at d;rcases ng.1 d with q | q
   ·have:=(n z q (by omega)).1;omega
   ·simpa using q
  ·rename_i f
   obtain⟨a,b,c⟩:=h.yes i y k;refine⟨by rw[j];simp [a],b,λl z d g=>?_⟩;rw[j] at d;rcases ng.1 d with q | q
   ·exact c l z q g
   ·simp only[kj] at q;subst q;exact absurd g.symm f
def va(h:TM V ch)(e:tg fh=tg V):TM fh ch:=⟨by rw[e];exact h.no,by rw[e];exact h.yes⟩
def fin(f:List It)(t:Bs):List It:=if t=[] then f else f++[(1,t,0)]
def iI:fin e []=e:=by simp [fin]
def uY(b:cX e≠1)(c:u≠[]):put (fin e i) (1,u,0)=fin e (i++u):=by
 unfold fin
 have:i++u≠[]:=by simp [c]
 rw[ie this];by_cases h:i=[]
 ·subst h
  rw[iw rfl];rcases iB (e:=e) (s:=(1,u,0)) rfl with ⟨_,a⟩ | ⟨g,y,rfl,d,a⟩
  ·rw[a];rfl
  ·rw[dB] at b;exact absurd d b
 ·rw[ie h]
  simp [put]
def fZ(f:List It)(t:Bs):(fin f t).length=f.length+(if 0<t.length then 1 else 0):=by
 unfold fin;by_cases h:t=[]
 ·subst h;simp
 ·have:0<t.length:=by cases t with | nil=>exact absurd rfl h | cons=>simp
  rw[ie h,iw this];simp
def xP(b:cX e≠1)(a:u≠[]):(put (fin e i) (1,u,0)).length=e.length+1:=by
 rw[uY b a,fZ,iw (by cases u with | nil=>exact absurd rfl a | cons=>simp only[jb,jd];omega)]
def rtK(t:Bs):Int×Bs:=if t.head?=some 47 then (3,t.drop 1) else if t.getLast?=some 47 then (4,t.dropLast) else (2,t)
def rtV(k:Int)(b:Bs):Bool:=if k=3 then cU b else isC b
end Go.Nt
