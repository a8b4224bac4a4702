/- Functions walked, and plain facts. No conditions. -/
import Derived.Test.YthnlilndompbaaaGreatDoorT1XH
import Derived.Test.YthnlilndompbaaaGreatDoorT1XF
import Derived.Test.YthnlilndompbaaaGreatDoorT1XG
import Derived.Test.YthnlilndompbaaaGreatDoorT1XD
import Derived.Test.YthnlilndompbaaaGreatDoorChecked
import Derived.Deep.LoopGhost
import Derived.Deep.RegionHeld3
import Derived.Deep.DeepCutAuto
import Derived.Lib.Walk
import Derived.IntWalk
import Derived.OwnWalk
import Derived.Lib.Hide
import Derived.Laws.OwnMore
import Derived.Shelf.Spec.SlicesGrow
import Derived.Test.YthnlilndompbaaaGreatDoorT1Ev21to28
open List
set_option linter.all false
set_option maxRecDepth 100000
set_option maxHeartbeats 16000000
def ae5:=@List.flatMap_nil
theorem aj2:type_of% @List.singleton_append:=rfl
namespace Go.Av
open Go.Nt
variable{b bu:List Tk}{d:Bool}{df:List Bool}{e:List It}{iz:List (Int×Int)}{k:Int}{n:Nat}{s:It}{y:List En}
variable [Mx]
abbrev Ht:=Int×Int×Int
variable{l:List Ht}
def hts(l:List Ht):List (List AV):=l.map λt=>[.int .i64 t.1,.int .i64 t.2.1,.int .i64 t.2.2]
def oA:(hts l).length=l.length:=by simp [hts]
theorem E0:hts []=[]:=rfl
theorem OH(D iy:Int):[[AV.int .i64 k,.int .i64 D,.int .i64 iy]]=hts [(k,D,iy)]:=rfl
def E3(x y:List Ht):hts x++hts y=hts (x++y):=by simp [hts]
def Cy{t:Ht}(h:l[n]?=some t):(hts l)[n]?=some [.int .i64 t.1,.int .i64 t.2.1,.int .i64 t.2.2]:=by simp [hts,h]
def hsR(i:Int)(l:List (Int×Int)):List Ht:=l.map λp=>(i,p.1,p.2)
def pd:(hsR k iz).length=iz.length:=by simp [hsR]
def sdE(e:En)(t:Bool):List Tk:=if t=true then e.T else e.S
def hsE(w:List Bs)(i:Int)(e:En)(t:Bool):List Ht:=hsR i (AA w (eN (sdE e t)))
def Qe(p:Int)(l:List (Int×Int))(m:l.length<=1000000):∀ (k i:Nat) (md:Own) (out:List Ht),md≠.no->i+k=l.length->out.length<=i ->
  ∃ md',aC G0 BJ (ST [(1,.int .i64 p),(10,.sl md 3 (hts out)),(15,.bool true),(21,.sl .no 2 (prT l)),(22,.int .i64 l.length),(23,.int .i64 i)] [] [])=some (.ex 0,(ST [(1,.int .i64 p),(10,.sl md' 3 (hts (out++hsR p (l.drop i)))),(15,.bool true),(21,.sl .no 2 (prT l)),(22,.int .i64 l.length),(23,.int .i64 l.length),(24,.bool false)] [] []))
 | 0,i,md,out,b,f,g=>by
  have:i=l.length:=by omega
  subst this;refine⟨md,?_⟩;rw[aB BJ rfl];simp only[go_sem,jm,lb,hsR,kh,ka]
 | k+1,i,md,out,b,f,g=>by
  have a:i<l.length:=by omega
  have h:(i:Int)<l.length:=by omega
  have d:0<=(i:Int):=by omega
  have q:=wI (n:=i) (by omega)
  have o:=UE (ii a);have hd:l.drop i=l[i]::l.drop (i+1):=je a;obtain⟨md',c⟩:=Qe p l m k (i+1) .own (out++[(p,l[i].1,l[i].2)]) (by decide) (by omega) (by simp;omega);refine⟨md',?_⟩;have e:hsR p (l.drop i)=(p,l[i].1,l[i].2)::hsR p (l.drop (i+1)):=by rw[hd];rfl
  rw[e];rw[kb] at c;have j:aU 24 (out.length+1)=true:=aL (by decide) (by omega);rw[aB BJ rfl];simp only[go_sem,h,d,q,o,bJ md _ b 3 24 (by decide),oA,j,OH,E3];exact c
def Qd(p:Int)(l:List (Int×Int))(m:l.length<=1000000)(cs:List AV):∀ (k i:Nat) (md:Own) (out:List Ht),md≠.no->i+k=l.length->out.length<=i ->
  ∃ md',aC G0 BJ (ST [(1,.int .i64 p),(6,.loc 6 0),(10,.sl md 3 (hts out)),(15,.bool false),(21,.sl .no 2 (prT l)),(22,.int .i64 l.length),(23,.int .i64 i)] [(6,some cs)] [])=some (.ex 0,(ST [(1,.int .i64 p),(6,.loc 6 0),(10,.sl md' 3 (hts (out++hsR p (l.drop i)))),(15,.bool false),(21,.sl .no 2 (prT l)),(22,.int .i64 l.length),(23,.int .i64 l.length),(24,.bool false)] [(6,some cs)] []))
 | 0,i,md,out,b,f,g=>by
  have:i=l.length:=by omega
  subst this;refine⟨md,?_⟩;rw[aB BJ rfl];simp only[go_sem,jm,lb,hsR,kh,ka]
 | k+1,i,md,out,b,f,g=>by
  have a:i<l.length:=by omega
  have h:(i:Int)<l.length:=by omega
  have d:0<=(i:Int):=by omega
  have q:=wI (n:=i) (by omega)
  have o:=UE (ii a);have hd:l.drop i=l[i]::l.drop (i+1):=je a;obtain⟨md',c⟩:=Qd p l m cs k (i+1) .own (out++[(p,l[i].1,l[i].2)]) (by decide) (by omega) (by simp;omega);refine⟨md',?_⟩;have e:hsR p (l.drop i)=(p,l[i].1,l[i].2)::hsR p (l.drop (i+1)):=by rw[hd];rfl
  rw[e];rw[kb] at c;have j:aU 24 (out.length+1)=true:=aL (by decide) (by omega);rw[aB BJ rfl];simp only[go_sem,h,d,q,o,bJ md _ b 3 24 (by decide),oA,j,OH,E3];exact c
def G7(w:List (List UInt8)):∀ (T:List Tk) (p:Nat),(z8 w p T).length<=T.length
 | [],p=>by simp [z8]
 | t::T,p=>by
  have:=G7 w T (p+1)
  simp only[z8]
  split<;>simp only[jd]<;>omega
def z9(w:List Bs)(a:1<=w.length)(T:List Tk):(AA w T).length<=T.length:=by
 rw[UO w a];exact G7 w T 0
def OI(co:List Bs)(a:1<=co.length)(i:Int)(e:En)(h:BE e)(t:Bool):(hsE co i e t).length<=60000:=by
 unfold hsE sdE;rw[pd];have b:=z9 co a;have b1:=lD e.S;have b2:=lD e.T
 have:=h.S;have:=h.sT;have:=h.T;have:=h.tT
 cases t
 ·have:=b (eN e.S);simp only[jl,kz];omega
 ·have:=b (eN e.T);simp only[kp];omega
def k56(co:List Bs)(f:co.length<=1000000)(c:1<=co.length)(F:En)(h:BE F):G0 37 [.sl .no 1 (cH co),.int .i64 k,.agg (cD F),.bool d] []=some (.sl .no 3 (hts (hsE co k F d)),[]):=by
 have g:=k93 F.S h.S h.sT;have i:=k93 F.T h.T h.tT;have b1:=lD F.S;have b2:=lD F.T;have o:=z9 co c (eN F.S);have p:=z9 co c (eN F.T);have j:=h.S;have l:=h.sT;have m:=h.T;have n:=h.tT;have o1:=Ro (dt:=co) (b:=eN F.S) f (by omega) (λd e=>by have:=b1.2 d e;omega);have o2:=Ro (dt:=co) (b:=eN F.T) f (by omega) (λd e=>by have:=b2.2 d e;omega);refine aA F37 ?_
 cases d with
 | false =>
  obtain⟨md',a⟩:=Qd k (AA co (eN F.S)) (by omega) (cD F) _ 0 .full [] (by decide) (km _) (by simp);rw[kc,kg] at a;simp only[go_sem,E0,cD] at a;simp only[F37,cD,go_sem,g,o1,EH,a,hsE,sdE,jl,kz]
 | true =>
  obtain⟨md',a⟩:=Qe k (AA co (eN F.T)) (by omega) _ 0 .full [] (by decide) (km _) (by simp);rw[kc,kg] at a;simp only[go_sem,E0] at a;simp only[F37,cD,go_sem,i,o2,EH,a,hsE,sdE,kp]
def srF(w:List Bs)(t:Bool):Nat->List En->List Ht
 | _,[]=>[]
 | i,e::m=>hsE w i e t++srF w t (i+1) m
def MM(w:List Bs)(a:1<=w.length)(t:Bool):∀ (m:List En) (i:Nat),(∀ e∈m,BE e)->(srF w t i m).length<=60000*m.length
 | [],i,h=>by simp [srF]
 | e::m,i,h=>by
  have c:=OI w a i e (h e (by simp)) t;have d:=MM w a t m (i+1) (λx b=>h x (by simp [b]));simp only[srF,jb,jd];omega
def Oy(w:List Bs)(l:w.length<=1000000)(a:1<=w.length)(t:Bool)(m:List En)(v:m.length<=2000)(g:∀ e∈m,BE e):∀ (k i:Nat) (md:Own) (out:List Ht),md≠.no->i+k=m.length->out.length<=60000*i ->
  ∃ md',aC G0 PU (ST [(2,.bool t),(8,.sl .no 1 (cH w)),(9,.sl md 3 (hts out)),(21,.bool false),(22,.sl .no 8 (ens m)),(23,.int .i64 m.length),(24,.int .i64 i)] [] [])=some (.ex 0,ST [(2,.bool t),(8,.sl .no 1 (cH w)),(9,.sl md' 3 (hts (out++srF w t i (m.drop i)))),(21,.bool false),(22,.sl .no 8 (ens m)),(23,.int .i64 m.length),(24,.int .i64 m.length),(25,.bool false)] [] [])
 | 0,i,md,out,j,q,r=>by
  have:i=m.length:=by omega
  subst this;refine⟨md,?_⟩;rw[aB PU rfl];simp only[go_sem,jm,lb,srF,ka]
 | k+1,i,md,out,j,q,r=>by
  have c:i<m.length:=by omega
  have s:(i:Int)<m.length:=by omega
  have p:0<=(i:Int):=by omega
  have f:=wI (n:=i) (by omega)
  have x:=LJ (ii c);have hd:m.drop i=m[i]::m.drop (i+1):=je c;have h:=g _ (xd c);have b:=k56 w l a (k:=i) m[i] h (d:=t);have y:=OI w a i m[i] h t;obtain⟨md',o⟩:=Oy w l a t m v g k (i+1) .own (out++hsE w i m[i] t) (by decide) (by omega) (by simp;omega);refine⟨md',?_⟩;rw[hd];simp only[srF];rw[kb] at o;have u:aU 24 (out.length+(hsE w i m[i] t).length)=true:=aL (by decide) (by omega);simp only[cD] at b;rw[aB PU rfl];simp only[go_sem,s,p,f,x,b,bJ md .no j 3 24 (by decide),oA,u,E3];exact o
def Md(i:Bs)(d:i.length<=1000000):(nD i).length<=1000000:=by
 have a:=UJ (b:=pV i);have c:=pU i.length i;unfold nD pV at *;omega
def k17(g:y.length<=2000)(f:∀ e∈y,BE e)(l:okM y=true)(i:Bs)(j:i.length<=1000000)(h:nD i≠[]):G0 11 [.sl .no 8 (ens y),.str i,.bool d] []=some (.tup [.sl .no 3 (hts (srF (nD i) d 0 y)),.int .i64 0],[]):=by
 have c:=f31 (y:=y) g f;rw[l] at c;have k:=dc16 (K:=i) j;have m:1<=(nD i).length:=by have:(nD i).length≠0:=λz=>h (js z);omega
 have a:¬ ((nD i).length:Int)=0:=by omega
 obtain⟨md',b⟩:=Oy (nD i) (Md i j) m d y g f y.length 0 .full [] (by decide) (by omega) (by simp);rw[kc,kg] at b;simp only[go_sem,E0] at b;refine aA F11 ?_;simp only[F11,go_sem,c,k,jt,dG,a,kW,b]
def Ta(i:Bs)(bf:Own)(h:i.length<=1000000):iN false 1 1 (.sl (md d) 1 (aE i)) (.sl bf 1 [[.int .u8 255]])=some (.sl .own 1 (aE (i++[255]))):=Sz d i 255 bf h
def j6:aT (s::e)=plx s++aT e:=by simp [aT]
def mn:(plx s).length<=s.2.1.length+1:=by unfold plx;split<;>(try split)<;>simp
def SE{N:Tk}(h:b[n]?=some N):N.2.1.length<=tot b:=gG N (ab4 h)
def lK:∀ f:List It,(aT f).length<=tot f+f.length
 | []=>by simp [aT]
 | x::f=>by
  rw[j6,jb,aN,jd]
  have:=mn (s:=x)
  have:=lK f
  omega
def oe(f:List Tk)(p:f.length<=10000)(q:tot f<=900000):∀ (k i:Nat) (b:Bool) (o:Bs),i+k=f.length->o.length+(aT (f.drop i)).length<=1000000 ->
  ∃ a,aC G9 DK (ST [(3,.sl (md b) 1 (aE o)),(6,.sl .no 3 (tks f)),(7,.int .i64 f.length),(8,.int .i64 i)] [] [])=some (.ex 0,ST [(3,.sl (md a) 1 (aE (o++aT (f.drop i)))),(6,.sl .no 3 (tks f)),(7,.int .i64 f.length),(8,.int .i64 f.length),(9,.bool false)] [] [])
 | 0,i,b,o,h,e=>by
  have:i=f.length:=by omega
  subst this;have x:¬ (f.length:Int)<f.length:=by omega
  refine⟨b,?_⟩;rw[lb,show aT []=[] from rfl,ka];rw[aB DK rfl];simp only[go_sem,x]
 | k+1,i,b,o,h,e=>by
  have hi:i<f.length:=by omega
  have l:(i:Int)<f.length:=by omega
  have c:0<=(i:Int):=by omega
  have r:=wI (n:=i) (by omega)
  have hg:f[i]?=some f[i]:=ii hi;have hd:f.drop i=f[i]::f.drop (i+1):=je hi;generalize f[i]=T at hg hd;have j:=cQ hg;have v:=SE hg;rw[hd,j6,jb] at e;obtain⟨kk,s,id⟩:=T;simp only at j v;rw[hd,j6];have u:md true=.own:=rfl;by_cases c1:kk=1
  ·subst c1
   have g:plx (1,s,id)=s:=by simp [plx]
   rw[g] at e ⊢;obtain⟨a,w⟩:=oe f p q k (i+1) true (o++s) (by omega) (by simp;omega);refine⟨a,?_⟩;rw[<- kb,<- w,u];have m:=XP b o s (by omega)
   conv=>lhs;rw[aB DK rfl]
   simp only[go_sem,l,c,aD,j,r,m,cC]
   try rfl
  ·by_cases c5:kk=5
   ·subst c5
    have g:plx (5,s,id)=[255]:=by simp [plx]
    rw[g] at e ⊢;obtain⟨a,w⟩:=oe f p q k (i+1) true (o++[255]) (by omega) (by simp at e ⊢;omega);refine⟨a,?_⟩;rw[<- kb,<- w,u];have m:=λz=>Ta (d:=b) o z (by omega)
    conv=>lhs;rw[aB DK rfl]
    simp only[go_sem,l,c,aD,j,r,m,cC]
    try rfl
   ·have g:plx (kk,s,id)=[]:=by simp [plx,c1,c5]
    rw[g] at e ⊢;obtain⟨a,w⟩:=oe f p q k (i+1) b o (by omega) (by simp at e;omega);refine⟨a,?_⟩;rw[kg,<- w]
    conv=>lhs;rw[aB DK rfl]
    simp only[go_sem,l,c,aD,j,r,c1,c5]
    try rfl
def u43(f:List Tk)(c:f.length<=10000)(d:tot f<=900000):G9 43 [.sl .no 3 (tks f)] []=some (.str (aT f),[]):=by
 obtain⟨g,w⟩:=oe f c d f.length 0 false [] (by omega) (by have:=lK f;simp;omega);rw[kc,kg,show ((0:Nat):Int)=0 from rfl] at w;have a:md false=.full:=rfl;have e:aE []=[]:=rfl;rw[a,e] at w;have b:=fU (aT f);refine aA F43 ?_;simp only[F43,go_sem,aD,w,b]
 try rfl
def iH(l:List Bool):List (List AV):=l.map λb=>[AV.bool b]
def jP:(iH df).length=df.length:=zt ..
def RE(m:List Bool):iH (df++m)=iH df++iH m:=by simp [iH]
def Sw(b:Bool)(o:Own)(h:df.length<=1000000):iN false 1 1 (.sl (md b) 1 (iH df)) (.sl o 1 [[.bool d]])=some (.sl .own 1 (iH (df++[d]))):=by
 have a:aU 1 (df.length+1)=true:=aL (by decide) (by omega);rw[bJ (md b) o (pM b) 1 1 (by decide),jP,jy,iw a,RE];rfl
def yC(c:UInt8):decide (gJ (c.toNat:Int)=2)=spB c:=by
 have a:((c.toNat:Int)=13)=(c=13):=tIx c 13 13 rfl;unfold gJ spB;by_cases h:c=9\/c=10\/c=13\/c=32
 ·rw[iw (by rw[i9,i10,a,i32];exact h)]
  rcases h with rfl | rfl | rfl | rfl<;>rfl
 ·rw[ie (by rw[i9,i10,a,i32];exact h)]
  have b:(c==9||c==10||c==13||c==32)=false:=by
   simp only[not_or] at h;simp [h.1,h.2.1,h.2.2.1,h.2.2.2]
  rw[b];split
  ·rfl
  split
  ·rfl
  split<;>rfl
def u73(c:UInt8):G9 73 [.int .u8 (c.toNat:Int)] []=some (.int .i64 (gJ (c.toNat:Int)),[]):=up (RD) rfl
def Oo(f:List Tk)(i:Nat)(kk:Int)(s:Bs)(id:Int)(v:s.length<=900000):∀ (k j:Nat) (b:Bool) (o:List Bool),j+k=s.length->o.length+k<=1000000 ->
  ∃ a,aC G9 PO (ST [(3,.sl (md b) 1 (iH o)),(5,.loc 5 0),(6,.int .i64 j),(7,.sl .no 3 (tks f)),(8,.int .i64 f.length),(9,.int .i64 i),(10,.bool true),(15,.bool false)] [(5,some [.int .i64 kk,.str s,.int .i64 id])] [])=some (.ex 2,ST [(3,.sl (md a) 1 (iH (o++(s.drop j).map spB))),(5,.loc 5 0),(6,.int .i64 s.length),(7,.sl .no 3 (tks f)),(8,.int .i64 f.length),(9,.int .i64 i),(10,.bool true),(15,.bool false),(23,.bool false)] [(5,some [.int .i64 kk,.str s,.int .i64 id])] [])
 | 0,j,b,o,h,r=>by
  have:j=s.length:=by omega
  subst this;have u:¬ (s.length:Int)<s.length:=by omega
  refine⟨b,?_⟩;rw[lb,kh,ka];rw[aB PO rfl];simp only[go_sem,u]
 | k+1,j,b,o,h,r=>by
  have hi:j<s.length:=by omega
  have m:(j:Int)<s.length:=by omega
  have e:0<=(j:Int):=by omega
  have x:=wI (n:=j) (by omega)
  have hg:s[j]?=some s[j]:=ii hi;have hd:s.drop j=s[j]::s.drop (j+1):=je hi;generalize s[j]=c at hg hd;rw[hd,ju];have q:=u73 c;have g:=yC c;have l:md true=.own:=rfl;obtain⟨a,w⟩:=Oo f i kk s id v k (j+1) true (o++[spB c]) (by omega) (by simp;omega);refine⟨a,?_⟩;rw[kb,aj2] at w;rw[<- w,l];have p:=λz=>Sw b (df:=o) (d:=spB c) z (by omega)
  conv=>lhs;rw[aB PO rfl]
  simp only[go_sem,m,e,hg,q,g,x,p,cC]
  try rfl
def FQ(f:List It):(fJ f).length<=tot f+f.length:=by
 induction f with
 | nil=>simp [fJ]
 | cons x f a =>
  rw[gS,jb,yZ,aN,jd]
  have:wid x<=x.2.1.length+1:=by unfold wid;split<;>omega
  omega
def Cd(f:List Tk)(m:f.length<=10000)(p:tot f<=900000):∀ (k i:Nat) (b:Bool) (o:List Bool),i+k=f.length->o.length+(fJ (f.drop i)).length<=1000000 ->
  ∃ c,aC G9 JC (ST [(3,.sl (md b) 1 (iH o)),(7,.sl .no 3 (tks f)),(8,.int .i64 f.length),(9,.int .i64 i)] [] [])=some (.ex 0,ST [(3,.sl (md c) 1 (iH (o++fJ (f.drop i)))),(7,.sl .no 3 (tks f)),(8,.int .i64 f.length),(9,.int .i64 f.length),(10,.bool false)] [] [])
 | 0,i,b,o,h,a=>by
  have:i=f.length:=by omega
  subst this;have y:¬ (f.length:Int)<f.length:=by omega
  refine⟨b,?_⟩;rw[lb,show fJ []=[] from rfl,ka];rw[aB JC rfl];simp only[go_sem,y]
 | k+1,i,b,o,h,a=>by
  have hi:i<f.length:=by omega
  have l:(i:Int)<f.length:=by omega
  have e:0<=(i:Int):=by omega
  have q:=wI (n:=i) (by omega)
  have hg:f[i]?=some f[i]:=ii hi;have hd:f.drop i=f[i]::f.drop (i+1):=je hi;generalize f[i]=T at hg hd;have j:=cQ hg;have v:=SE hg;rw[hd,gS,jb] at a;obtain⟨kk,s,id⟩:=T;simp only at j v;rw[hd,gS];have u:md true=.own:=rfl;by_cases c1:kk=1
  ·subst c1
   have g:bkx (1,s,id)=s.map spB:=by simp [bkx]
   rw[g] at a ⊢;rw[zt] at a;obtain⟨b1,r⟩:=Oo f i 1 s id (by omega) s.length 0 b o (by omega) (by omega);rw[kc,show ((0:Nat):Int)=0 from rfl] at r;obtain⟨c,w⟩:=Cd f m p k (i+1) b1 (o++s.map spB) (by omega) (by simp;omega);refine⟨c,?_⟩;rw[<- kb,<- w]
   conv=>lhs;rw[aB JC rfl]
   simp only[go_sem,l,e,aD,j,q,r]
   try rfl
  ·have g:bkx (kk,s,id)=[false]:=by simp [bkx,c1]
   rw[g] at a ⊢;obtain⟨c,w⟩:=Cd f m p k (i+1) true (o++[false]) (by omega) (by simp at a ⊢;omega);refine⟨c,?_⟩;rw[<- kb,<- w,u];have x:=λz=>Sw b (df:=o) (d:=false) z (by omega)
   conv=>lhs;rw[aB JC rfl]
   simp only[go_sem,l,e,aD,j,q,c1,x,cC]
   try rfl
def u46(d:b.length<=10000)(e:tot b<=900000):G9 46 [.sl .no 3 (tks b)] []=some (.sl .no 1 (iH (fJ b)),[]):=by
 obtain⟨a,w⟩:=Cd b d e b.length 0 false [] (by omega) (by have:=FQ b;simp;omega);rw[kc,kg,show ((0:Nat):Int)=0 from rfl] at w;have c:md false=.full:=rfl;have f:iH []=[]:=rfl;rw[c,f] at w;refine aA F46 ?_;cases a
 ·simp only[F46,go_sem,aD,w,md]
  try rfl
 ·simp only[F46,go_sem,aD,w,md]
  try rfl
def mmx(a b:Nat):max (a:Int) (b:Int)=(max a b:Nat):=by omega
def mmn(a b:Nat):min (a:Int) (b:Int)=(min a b:Nat):=by omega
theorem pD(j q:Nat):slc (s::e) n j q=(if max j n<min q (n+wid s) then [if s.1=1 then (s.1,(s.2.1.take (min q (n+wid s)-n)).drop (max j n-n),s.2.2) else s] else [])++slc e (n+wid s) j q:=rfl
def l22(f:List Tk)(a b:Nat)(E:f.length<=10000)(H:tot f<=900000)(C:a<=1000000)(D:b<=1000000):∀ (k i:Nat) (c:Bool) (o:List Tk) (p:Nat),i+k=f.length->o.length<=i->p+tot (f.drop i)+k<=1000000 ->
  ∃ c' r,aC G9 DR (ST [(1,.int .i64 a),(2,.int .i64 b),(8,.sl (md c) 3 (tks o)),(9,.int .i64 p),(27,.bool false),(28,.sl .no 3 (tks f)),(29,.int .i64 f.length),(30,.int .i64 i)] [] [])=some (.ex 0,ST [(1,.int .i64 a),(2,.int .i64 b),(8,.sl (md c') 3 (tks (o++slc (f.drop i) p a b))),(9,.int .i64 r),(27,.bool false),(28,.sl .no 3 (tks f)),(29,.int .i64 f.length),(30,.int .i64 f.length),(31,.bool false)] [] [])
 | 0,i,c,o,p,h,P,F=>by
  have:i=f.length:=by omega
  subst this;have O:¬ (f.length:Int)<f.length:=by omega
  refine⟨c,p,?_⟩;rw[lb,show slc [] p a b=[] from rfl,ka];rw[aB DR rfl];simp only[go_sem,O]
 | k+1,i,c,o,p,h,P,F=>by
  have hi:i<f.length:=by omega
  have y:(i:Int)<f.length:=by omega
  have l:0<=(i:Int):=by omega
  have I:=wI (n:=i) (by omega)
  have hg:f[i]?=some f[i]:=ii hi;have hd:f.drop i=f[i]::f.drop (i+1):=je hi;generalize f[i]=T at hg hd;have v:=cQ hg;rw[hd,aN] at F;obtain⟨kk,s,id⟩:=T;simp only at v F;rw[hd,pD];have M:md true=.own:=rfl;have e:=up (c96 kk s id) rfl;have J:wid (kk,s,id)<=s.length+1:=by rw[show wid (kk,s,id)=if kk=1 then s.length else 1 from rfl];split<;>omega
  have u:kk=1->wid (kk,s,id)=s.length:=λq=>by unfold wid;rw[iw q]
  generalize wid (kk,s,id)=W at e J u ⊢;have m:IntKind.i64.wrap ((p:Int)+(W:Int))=(p+W:Nat):=by rw[w6 (by omega)];rfl
  have x:=mmx a p;have m2:=mmn b (p+W);by_cases j:max a p<min b (p+W)
  ·rw[iw j]
   have d:((max a p:Nat):Int)<((min b (p+W):Nat):Int):=by omega
   generalize Q:max a p=A at j d x ⊢;generalize R:min b (p+W)=B at j d m2 ⊢;have g:p<=A:=by omega
   have N:B<=p+W:=by omega
   by_cases c1:kk=1
   ·subst c1
    have S:=u rfl;have K:IntKind.i64.wrap ((A:Int)-(p:Int))=(A-p:Nat):=by rw[w6 (by omega)];omega
    have L:IntKind.i64.wrap ((B:Int)-(p:Int))=(B-p:Nat):=by rw[w6 (by omega)];omega
    have G:=ss3 s (A-p) (B-p) (by omega) (by omega);obtain⟨c',r,w⟩:=l22 f a b E H C D k (i+1) true (o++[(1,(s.take (B-p)).drop (A-p),id)]) (p+W) (by omega) (by simp;omega) (by omega);refine⟨c',r,?_⟩;rw[iw rfl,<- kb,<- w,M];have g:=λz=>RK c o (1,(s.take (B-p)).drop (A-p),id) z (by omega)
    conv=>lhs;rw[aB DR rfl]
    simp only[go_sem,y,l,aD,v,I,e,m,x,m2,d,K,L,G,g,cC]
    try rfl
   ·obtain⟨c',r,w⟩:=l22 f a b E H C D k (i+1) true (o++[(kk,s,id)]) (p+W) (by omega) (by simp;omega) (by omega)
    refine⟨c',r,?_⟩;rw[ie c1,<- kb,<- w,M];have g:=λz=>RK c o (kk,s,id) z (by omega)
    conv=>lhs;rw[aB DR rfl]
    simp only[go_sem,y,l,aD,v,I,e,m,x,m2,d,c1,g,cC]
    try rfl
  ·rw[ie j,kg]
   have d:¬ ((max a p:Nat):Int)<((min b (p+W):Nat):Int):=by omega
   obtain⟨c',r,w⟩:=l22 f a b E H C D k (i+1) c o (p+W) (by omega) (by omega) (by omega);refine⟨c',r,?_⟩;rw[<- w]
   conv=>lhs;rw[aB DR rfl]
   simp only[go_sem,y,l,aD,v,I,e,m,x,m2,d]
   try rfl
def uV(f:List Tk):len f<=tot f+f.length:=by rw[<- nU];exact FQ f
def u22(f:List Tk)(a b:Nat)(g:f.length<=10000)(l:tot f<=900000)(j:a<=b)(m:b<=len f):G9 22 [.sl .no 3 (tks f),.int .i64 a,.int .i64 b] []=some (.tup [.sl .no 3 (tks (slc f 0 a b)),.bool true],[]):=by
 have k:=uV f;obtain⟨c',n,w⟩:=l22 f a b g l (by omega) (by omega) f.length 0 false [] 0 (by omega) (by simp) (by rw[kc];omega);rw[kc,kg,show ((0:Nat):Int)=0 from rfl] at w;have i:md false=.full:=rfl;rw[i,cW] at w;have h:=up (c67 f g (λt q=>by have:=gG t q;unfold eZ;omega)) rfl;have c:¬ (a:Int)<0:=by omega
 have d:¬ (b:Int)<a:=by omega
 have e:¬ ((len f:Nat):Int)<(b:Int):=by omega
 refine aA F22 ?_;cases c'
 ·simp only[F22,go_sem,c,d,h,e,aD,w,md]
  try rfl
 ·simp only[F22,go_sem,c,d,h,e,aD,w,md]
  try rfl
def Xe(a b:Nat)(f:bu.length<=10000)(i:tot bu<=900000)(e:¬ (a<=b/\b<=len bu)):G9 22 [.sl .no 3 (tks bu),.int .i64 a,.int .i64 b] []=some (.tup [.sl .no 3 [],.bool false],[]):=by
 have h:=up (c67 bu f (λt q=>by have:=gG t q;unfold eZ;omega)) rfl;have c:¬ (a:Int)<0:=by omega
 refine aA F22 ?_;by_cases g:(b:Int)<a
 ·simp only[F22,go_sem,c,g]
  try rfl
 ·have d:((len bu:Nat):Int)<(b:Int):=by omega
  simp only[F22,go_sem,c,g,h,d]
  try rfl
def VK(f:List Tk)(a b:Nat)(E:f.length<=10000)(F:tot f<=900000)(C:a<=1000000)(D:b<=1000000):∀ (k i:Nat) (c:Bool) (o:List Tk) (p:Nat),i+k=f.length->o.length<=i->p+tot (f.drop i)+k<=1000000 ->
  ∃ c' m,aC G9 qE (ST [(0,.sl .no 3 (tks f)),(1,.int .i64 a),(2,.int .i64 b),(8,.sl (md c) 3 (tks o)),(9,.int .i64 p),(26,.bool false),(28,.int .i64 f.length),(29,.int .i64 i)] [] [])=some (.ex 0,ST [(0,.sl .no 3 (tks f)),(1,.int .i64 a),(2,.int .i64 b),(8,.sl (md c') 3 (tks (o++slc (f.drop i) p a b))),(9,.int .i64 m),(26,.bool false),(28,.int .i64 f.length),(29,.int .i64 f.length),(30,.bool false)] [] [])
 | 0,i,c,o,p,h,O,I=>by
  have:i=f.length:=by omega
  subst this;have N:¬ (f.length:Int)<f.length:=by omega
  refine⟨c,p,?_⟩;rw[lb,show slc [] p a b=[] from rfl,ka];rw[aB qE rfl];simp only[go_sem,N]
 | k+1,i,c,o,p,h,O,I=>by
  have hi:i<f.length:=by omega
  have r:(i:Int)<f.length:=by omega
  have e:0<=(i:Int):=by omega
  have v:=wI (n:=i) (by omega)
  have hg:f[i]?=some f[i]:=ii hi;have hd:f.drop i=f[i]::f.drop (i+1):=je hi;generalize f[i]=T at hg hd;have q:=cQ hg;rw[hd,aN] at I;obtain⟨kk,s,id⟩:=T;simp only at q I;rw[hd,pD];have L:md true=.own:=rfl;by_cases c1:kk=1
  ·subst c1
   have H:wid (1,s,id)=s.length:=by unfold wid;rw[iw rfl]
   rw[H];have d:IntKind.i64.wrap ((p:Int)+(s.length:Int))=(p+s.length:Nat):=by rw[w6 (by omega)];rfl
   have J:=mmx a p;have m2:=mmn b (p+s.length);generalize P:max a p=A at J ⊢;generalize Q:min b (p+s.length)=B at m2 ⊢;have l:p<=A:=by omega
   have M:B<=p+s.length:=by omega
   have x:IntKind.i64.wrap ((A:Int)-(p:Int))=(A-p:Nat):=by rw[w6 (by omega)];omega
   have y:IntKind.i64.wrap ((B:Int)-(p:Int))=(B:Int)-(p:Int):=by rw[w6 (by omega)]
   by_cases g:A<B
   ·rw[iw g,iw rfl]
    have j:((A-p:Nat):Int)<(B:Int)-(p:Int):=by omega
    have u:=ss3 s (A-p) (B-p) (by omega) (by omega);rw[show ((B-p:Nat):Int)=(B:Int)-(p:Int) by omega] at u;obtain⟨c',m,w⟩:=VK f a b E F C D k (i+1) true (o++[(1,(s.take (B-p)).drop (A-p),id)]) (p+s.length) (by omega) (by simp;omega) (by omega);refine⟨c',m,?_⟩;rw[<- kb,<- w,L];have l:=λz=>RK c o (1,(s.take (B-p)).drop (A-p),id) z (by omega)
    conv=>lhs;rw[aB qE rfl]
    simp only[go_sem,r,e,aD,q,v,d,J,m2,j,x,y,u,l,cC]
    try rfl
   ·rw[ie g,kg]
    have j:¬ ((A-p:Nat):Int)<(B:Int)-(p:Int):=by omega
    obtain⟨c',m,w⟩:=VK f a b E F C D k (i+1) c o (p+s.length) (by omega) (by omega) (by omega);refine⟨c',m,?_⟩;rw[<- w]
    conv=>lhs;rw[aB qE rfl]
    simp only[go_sem,r,e,aD,q,v,d,J,m2,j,x,y]
    try rfl
  ·have H:wid (kk,s,id)=1:=by unfold wid;rw[ie c1]
   rw[H];have d:=wI (n:=p) (by omega)
   by_cases g:max a p<min b (p+1)
   ·rw[iw g,ie c1]
    have G:(a:Int)<=p:=by omega
    have K:(p:Int)<b:=by omega
    obtain⟨c',m,w⟩:=VK f a b E F C D k (i+1) true (o++[(kk,s,id)]) (p+1) (by omega) (by simp;omega) (by omega);refine⟨c',m,?_⟩;rw[<- kb,<- w,L];have l:=λz=>RK c o (kk,s,id) z (by omega)
    conv=>lhs;rw[aB qE rfl]
    simp only[go_sem,r,e,aD,q,v,d,G,K,c1,l,cC]
    try rfl
   ·rw[ie g,kg]
    obtain⟨c',m,w⟩:=VK f a b E F C D k (i+1) c o (p+1) (by omega) (by omega) (by omega);refine⟨c',m,?_⟩;rw[<- w];by_cases G:(a:Int)<=p
    ·have K:¬ (p:Int)<b:=by omega
     conv=>lhs;rw[aB qE rfl]
     simp only[go_sem,r,e,aD,q,v,d,G,K,c1]
     try rfl
    ·conv=>lhs;rw[aB qE rfl]
     simp only[go_sem,r,e,aD,q,v,d,G,c1]
     try rfl
def Xs(a:Nat)(e:bu.length<=10000)(j:tot bu<=900000)(h:a<=n)(k:n<=len bu):G9 145 [.sl .no 3 (tks bu),.int .i64 a,.int .i64 n] []=some (.tup [.sl .no 3 (tks (slc bu 0 a n)),.bool true],[]):=by
 have i:=uV bu;obtain⟨c',l,w⟩:=VK bu a n e j (by omega) (by omega) bu.length 0 false [] 0 (by omega) (by simp) (by rw[kc];omega);rw[kc,kg,show ((0:Nat):Int)=0 from rfl] at w;have g:md false=.full:=rfl;rw[g,cW] at w;have f:=up (c15 bu e (λt q=>by have:=gG t q;unfold eZ;omega)) rfl;have b:¬ (a:Int)<0:=by omega
 have c:¬ (n:Int)<a:=by omega
 have d:¬ ((len bu:Nat):Int)<(n:Int):=by omega
 refine aA ub ?_;cases c'
 ·simp only[ub,go_sem,b,c,f,d,aD,w,md]
  try rfl
 ·simp only[ub,go_sem,b,c,f,d,aD,w,md]
  try rfl
end Go.Av
namespace Go.Nt
def byB(fm:Int)(c:UInt8):Bs:=
 if fm=1 then (if c=60 then [38,108,116,59] else if c=38 then [38,97,109,112,59] else if c=123 then [38,108,98,59] else [c])
 else if fm=2 then (if c=10 then [92,110] else if c=9 then [92,116] else if c=13 then [92,114] else if c=92\/c=123 then [92,c] else [c])
 else if c=34\/c=123 then [c,c] else [c]
def j9(fm:Int)(x:It):Bs:=
 if x.1=1 then x.2.1.flatMap (byB fm) else if x.1=2 then 60::(x.2.1++[62]) else if x.1=3 then 60::47::(x.2.1++[62]) else if x.1=4 then 60::(x.2.1++[47,62])
 else if x.1=5 then 123::(x.2.1++[125]) else []
def sP(fm:Int)(f:List It):Bs:=f.flatMap (j9 fm)
def I3(fm:Int)(x:It):Bool:=bC x&&(decide (fm≠1)||eD (aH x.2.1))
def FO(fm:Int)(c:UInt8):(byB fm c).length<=5:=by
 unfold byB
 repeat' split
 all_goals simp
def IH{f:UInt8->Bs}(h:∀ c,(f c).length<=5):∀ s:Bs,(s.flatMap f).length<=5*s.length
 | []=>by simp
 | c::s=>by
  rw[sb,jb,jd]
  have:=h c
  have:=IH h s
  omega
def WV(k:Int)(s:It):(j9 k s).length<=5*s.2.1.length+3:=by
 unfold j9;split
 ·have:=IH (FO k) s.2.1;omega
 repeat' split
 all_goals simp
 all_goals omega
end Go.Nt
namespace Go.Av
open Go.Nt
variable{I:Value}{Y:FuncId}{bd:LL}{bh f:List AV}{c n:Nat}{cd:List Value}{du:Nat->Nat->Prop}{dz:List (Nat×AV)}{eb:Program}{ei:Option Addr}{fc x:World}{fu:Option (AX×AS)}{gj:AV->Value->Prop}{ik:List (Nat×Option (List AV))}{ja:List (Own×LL)}{p:Value->Prop}
variable [Mx]
def Xk(k:Int)(p:UInt8):G9 189 [.int .i64 k,.int .u8 (p.toNat:Int)] []=some (.str (byB k p),[]):=by
 have e:bH [[.int .u8 (p.toNat:Int)]]=some [p]:=by
  have:UInt8.ofNat p.toNat=p:=by simp
  simp [bH,sS,this]
 have n:((p.toNat:Int)=13)=(p=13):=tIx p 13 13 rfl;refine aA tI ?_;by_cases f1:k=1
 ·subst f1
  by_cases b:p=60
  ·have h:((p.toNat:Int)=60)=True:=by rw[i60];exact ag4 b
   have c:byB 1 p=[38,108,116,59]:=by unfold byB;simp [b]
   rw[c];simp only[tI,go_sem,e,h]
   try rfl
  by_cases f:p=38
  ·have h:((p.toNat:Int)=60)=False:=by rw[i60];exact Tx b
   have l:((p.toNat:Int)=38)=True:=by rw[i38];exact ag4 f
   have c:byB 1 p=[38,97,109,112,59]:=by unfold byB;simp [b,f]
   rw[c];simp only[tI,go_sem,e,h,l]
   try rfl
  by_cases i:p=123
  ·have h:((p.toNat:Int)=60)=False:=by rw[i60];exact Tx b
   have l:((p.toNat:Int)=38)=False:=by rw[i38];exact Tx f
   have a:((p.toNat:Int)=123)=True:=by rw[xZ];exact ag4 i
   have c:byB 1 p=[38,108,98,59]:=by unfold byB;simp [b,f,i]
   rw[c];simp only[tI,go_sem,e,h,l,a]
   try rfl
  have h:((p.toNat:Int)=60)=False:=by rw[i60];exact Tx b
  have l:((p.toNat:Int)=38)=False:=by rw[i38];exact Tx f
  have a:((p.toNat:Int)=123)=False:=by rw[xZ];exact Tx i
  have c:byB 1 p=[p]:=by unfold byB;simp [b,f,i]
  rw[c];simp only[tI,go_sem,e,h,l,a]
  try rfl
 by_cases f2:k=2
 ·subst f2
  by_cases b:p=10
  ·have d:((p.toNat:Int)=10)=True:=by rw[i10];exact ag4 b
   have c:byB 2 p=[92,110]:=by unfold byB;simp [b]
   rw[c];simp only[tI,go_sem,e,d]
   try rfl
  by_cases f:p=9
  ·have d:((p.toNat:Int)=10)=False:=by rw[i10];exact Tx b
   have o:((p.toNat:Int)=9)=True:=by rw[i9];exact ag4 f
   have c:byB 2 p=[92,116]:=by unfold byB;simp [b,f]
   rw[c];simp only[tI,go_sem,e,d,o]
   try rfl
  by_cases i:p=13
  ·have d:((p.toNat:Int)=10)=False:=by rw[i10];exact Tx b
   have o:((p.toNat:Int)=9)=False:=by rw[i9];exact Tx f
   have g:((p.toNat:Int)=13)=True:=by rw[n];exact ag4 i
   have c:byB 2 p=[92,114]:=by unfold byB;simp [b,f,i]
   rw[c];simp only[tI,go_sem,e,d,o,g]
   try rfl
  by_cases q:p=92
  ·have d:((p.toNat:Int)=10)=False:=by rw[i10];exact Tx b
   have o:((p.toNat:Int)=9)=False:=by rw[i9];exact Tx f
   have g:((p.toNat:Int)=13)=False:=by rw[n];exact Tx i
   have m:((p.toNat:Int)=92)=True:=by rw[i92];exact ag4 q
   have c:byB 2 p=[92,p]:=by unfold byB;simp [b,f,i,q]
   rw[c];simp only[tI,go_sem,e,d,o,g,m]
   try rfl
  by_cases r:p=123
  ·have d:((p.toNat:Int)=10)=False:=by rw[i10];exact Tx b
   have o:((p.toNat:Int)=9)=False:=by rw[i9];exact Tx f
   have g:((p.toNat:Int)=13)=False:=by rw[n];exact Tx i
   have m:((p.toNat:Int)=92)=False:=by rw[i92];exact Tx q
   have a:((p.toNat:Int)=123)=True:=by rw[xZ];exact ag4 r
   have c:byB 2 p=[92,p]:=by unfold byB;simp [b,f,i,q,r]
   rw[c];simp only[tI,go_sem,e,d,o,g,m,a]
   try rfl
  have d:((p.toNat:Int)=10)=False:=by rw[i10];exact Tx b
  have o:((p.toNat:Int)=9)=False:=by rw[i9];exact Tx f
  have g:((p.toNat:Int)=13)=False:=by rw[n];exact Tx i
  have m:((p.toNat:Int)=92)=False:=by rw[i92];exact Tx q
  have a:((p.toNat:Int)=123)=False:=by rw[xZ];exact Tx r
  have c:byB 2 p=[p]:=by unfold byB;simp [b,f,i,q,r]
  rw[c];simp only[tI,go_sem,e,d,o,g,m,a]
  try rfl
 by_cases b:p=34
 ·have j:((p.toNat:Int)=34)=True:=by rw[i34];exact ag4 b
  have c:byB k p=[p,p]:=by unfold byB;simp [f1,f2,b]
  rw[c];simp only[tI,go_sem,e,f1,f2,j]
  try rfl
 by_cases f:p=123
 ·have j:((p.toNat:Int)=34)=False:=by rw[i34];exact Tx b
  have a:((p.toNat:Int)=123)=True:=by rw[xZ];exact ag4 f
  have c:byB k p=[p,p]:=by unfold byB;simp [f1,f2,b,f]
  rw[c];simp only[tI,go_sem,e,f1,f2,j,a]
  try rfl
 have j:((p.toNat:Int)=34)=False:=by rw[i34];exact Tx b
 have a:((p.toNat:Int)=123)=False:=by rw[xZ];exact Tx f
 have c:byB k p=[p]:=by unfold byB;simp [f1,f2,b,f]
 rw[c];simp only[tI,go_sem,e,f1,f2,j,a]
 try rfl
def wz(fm:Int)(f:List Tk)(e:Int)(n:Nat)(j:Int)(kk id:Int)(t:Bs)(b:t.length<=1000000):∀ (k i:Nat) (s:Bs),i+k=t.length->s.length+5*k<=100000000 ->
  aC G9 FY (ST [(0,.int .i64 fm),(1,.sl .no 3 (tks f)),(6,.int .i64 e),(7,.str s),(9,.loc 9 0),(10,.int .i64 i),(14,.bool false),(17,.int .i64 n),(18,.int .i64 j),(19,.bool true),(36,.bool false),(38,.int .i64 kk),(39,.bool true)] [(9,some [.int .i64 kk,.str t,.int .i64 id])] []) =
   some (.ex 3,ST [(0,.int .i64 fm),(1,.sl .no 3 (tks f)),(6,.int .i64 e),(7,.str (s++(t.drop i).flatMap (byB fm))),(9,.loc 9 0),(10,.int .i64 t.length),(14,.bool false),(17,.int .i64 n),(18,.int .i64 j),(19,.bool true),(36,.bool false),(38,.int .i64 kk),(39,.bool true),(45,.bool false)] [(9,some [.int .i64 kk,.str t,.int .i64 id])] [])
 | 0,i,s,h,p=>by
  have:i=t.length:=by omega
  subst this;have m:¬ (t.length:Int)<t.length:=by omega
  rw[lb,ae5,ka];rw[aB FY rfl];simp only[go_sem,m]
  try rfl
 | k+1,i,s,h,p=>by
  have hi:i<t.length:=by omega
  have l:(i:Int)<t.length:=by omega
  have g:0<=(i:Int):=by omega
  have d:t[i]?=some t[i]:=ii hi;have hd:t.drop i=t[i]::t.drop (i+1):=je hi;generalize t[i]=c at d hd;have q:=wI (n:=i) (by omega)
  have a:=Xk fm c;have u:=FO fm c;have o:s.length+(byB fm c).length<=140737488355328:=by omega
  have r:=wz fm f e n j kk id t b k (i+1) (s++byB fm c) (by omega) (by simp;omega);rw[hd,sb,<- kb,<- r]
  conv=>lhs;rw[aB FY rfl]
  simp only[go_sem,l,g,d,a,o,q]
  try rfl
def ErW(r:Option (AX×AS)):Prop:=∃ a b,r=some (.ret,ST a b [])/\aF .any a 4=.str []/\aF .any a 5=.int .i64 7
def YU(h:fu=some (.ret,ST dz ik []))(h4:aF .any dz 4=.str [])(h5:aF .any dz 5=.int .i64 7):ErW fu:=⟨dz,ik,h,h4,h5⟩
def wy(fm:Int)(f:List Tk)(J:f.length<=10000)(M:tot f<=900000):∀ (k i:Nat) (s:Bs),i+k=f.length->s.length+5*tot (f.drop i)+3*k<=4900000 ->
  ((∃ x∈f.drop i,I3 fm x=true)->ErW (aC G9 jB (ST [(0,.int .i64 fm),(1,.sl .no 3 (tks f)),(6,.int .i64 0),(7,.str s),(14,.bool false),(17,.int .i64 f.length),(18,.int .i64 i)] [] []))) /\
  ((∀ x∈f.drop i,I3 fm x=false)->aC G9 jB (ST [(0,.int .i64 fm),(1,.sl .no 3 (tks f)),(6,.int .i64 0),(7,.str s),(14,.bool false),(17,.int .i64 f.length),(18,.int .i64 i)] [] [])=some (.ex 0,ST [(0,.int .i64 fm),(1,.sl .no 3 (tks f)),(6,.int .i64 0),(7,.str (s++sP fm (f.drop i))),(14,.bool false),(17,.int .i64 f.length),(18,.int .i64 f.length),(19,.bool false)] [] []))
 | 0,i,s,h,C=>by
  have:i=f.length:=by omega
  subst this;have L:¬ (f.length:Int)<f.length:=by omega
  rw[lb];refine⟨(λ⟨x,r,_⟩=>by cases r),λ_=>?_⟩;rw[show sP fm []=[] from rfl,ka];rw[aB jB rfl];simp only[go_sem,L]
  try rfl
 | k+1,i,s,h,C=>by
  have hi:i<f.length:=by omega
  have o:(i:Int)<f.length:=by omega
  have c:0<=(i:Int):=by omega
  have v:=wI (n:=i) (by omega)
  have hg:f[i]?=some f[i]:=ii hi;have hd:f.drop i=f[i]::f.drop (i+1):=je hi;generalize f[i]=T at hg hd;have m:=cQ hg;rw[hd,aN] at C;obtain⟨kk,t,id⟩:=T;simp only at m C;have a:=up (c65 kk t id) rfl;have d:=up (c64 t (by omega)) rfl;have b:=R5 (aH t);have l:I3 fm (kk,t,id)=(bC (kk,t,id)&&(decide (fm≠1)||eD (aH t))):=rfl;have B:∀ P:It->Prop,(∀ x∈(kk,t,id)::f.drop (i+1),P x)↔(P (kk,t,id)/\∀ x∈f.drop (i+1),P x):=λP=>by simp
  rw[hd];by_cases j:I3 fm (kk,t,id)=true
  ·refine⟨λ_=>?_,λq=>by have:=q _ (wa);rw[j] at this;cases this⟩
   rw[l,ir] at j;obtain⟨b1,b2⟩:=j;rw[b1] at a;by_cases f1:fm=1
   ·subst f1
    have p:eD (aH t)=true:=by simpa using b2
    rw[p] at b;apply YU
    case h =>
     rw[aB jB rfl];simp only[go_sem,o,c,aD,m,a,d,b]
     try rfl
    case h4=>rfl
    case h5=>rfl
   ·apply YU
    case h =>
     rw[aB jB rfl];simp only[go_sem,o,c,aD,m,a,f1]
     try rfl
    case h4=>rfl
    case h5=>rfl
  ·have j:I3 fm (kk,t,id)=false:=by simpa using j
   have I:=WV fm (kk,t,id);simp only at I;have K:(j9 fm (kk,t,id)).length<=5*t.length+3:=I;obtain⟨D,E⟩:=wy fm f J M k (i+1) (s++j9 fm (kk,t,id)) (by omega) (by rw[jb];omega);have e:aC G9 jB (ST [(0,.int .i64 fm),(1,.sl .no 3 (tks f)),(6,.int .i64 0),(7,.str s),(14,.bool false),(17,.int .i64 f.length),(18,.int .i64 i)] [] [])=aC G9 jB (ST [(0,.int .i64 fm),(1,.sl .no 3 (tks f)),(6,.int .i64 0),(7,.str (s++j9 fm (kk,t,id))),(14,.bool false),(17,.int .i64 f.length),(18,.int .i64 (i+1:Nat))] [] []):=by
    have H:=wz fm f 0 f.length i kk id t (by omega) t.length 0 s (by omega) (by omega);rw[kc,show ((0:Nat):Int)=0 from rfl] at H;by_cases F:kk=1
    ·subst F
     have g:bC (1,t,id)=false:=rfl;rw[g] at a;rw[show j9 fm (1,t,id)=t.flatMap (byB fm) from rfl]
     conv=>lhs;rw[aB jB rfl]
     simp only[go_sem,o,c,aD,m,a,H,v]
     try rfl
    by_cases w:kk=2
    ·subst w
     have g:bC (2,t,id)=true:=rfl;rw[g] at a;rw[l,g,jx,ag0] at j;obtain⟨f1,p⟩:=j;have f1:fm=1:=by simpa using f1
     subst f1;rw[p] at b;rw[show j9 1 (2,t,id)=60::(t++[62]) from rfl]
     conv=>lhs;rw[aB jB rfl]
     simp only[go_sem,o,c,aD,m,a,d,b,v];rw[iw (show 1+t.length<=140737488355328 by omega),iw (show t.length<=140737488355326 by omega)];refine (iw ?_).trans rfl;simp only[jb,jd,jz];omega
    by_cases y:kk=3
    ·subst y
     have g:bC (3,t,id)=true:=rfl;rw[g] at a;rw[l,g,jx,ag0] at j;obtain⟨f1,p⟩:=j;have f1:fm=1:=by simpa using f1
     subst f1;rw[p] at b;rw[show j9 1 (3,t,id)=60::47::(t++[62]) from rfl]
     conv=>lhs;rw[aB jB rfl]
     simp only[go_sem,o,c,aD,m,a,d,b,v];rw[iw (show 2+t.length<=140737488355328 by omega),iw (show t.length<=140737488355325 by omega)];refine (iw ?_).trans rfl;simp only[jb,jd,jz];omega
    by_cases A:kk=4
    ·subst A
     have g:bC (4,t,id)=true:=rfl;rw[g] at a;rw[l,g,jx,ag0] at j;obtain⟨f1,p⟩:=j;have f1:fm=1:=by simpa using f1
     subst f1;rw[p] at b;rw[show j9 1 (4,t,id)=60::(t++[47,62]) from rfl]
     conv=>lhs;rw[aB jB rfl]
     simp only[go_sem,o,c,aD,m,a,d,b,v];rw[iw (show 1+t.length<=140737488355328 by omega),iw (show t.length<=140737488355325 by omega)];refine (iw ?_).trans rfl;simp only[jb,jd,jz];omega
    by_cases G:kk=5
    ·subst G
     have g:bC (5,t,id)=false:=rfl;rw[g] at a;rw[show j9 fm (5,t,id)=123::(t++[125]) from rfl]
     conv=>lhs;rw[aB jB rfl]
     simp only[go_sem,o,c,aD,m,a,v];rw[iw (show 1+t.length<=140737488355328 by omega),iw (show t.length<=140737488355326 by omega)];refine (iw ?_).trans rfl;simp only[jb,jd,jz];omega
    have g:bC (kk,t,id)=false:=by unfold bC;simp [w,y,A]
    rw[g] at a;rw[show j9 fm (kk,t,id)=[] by unfold j9;simp [F,w,y,A,G],ka]
    conv=>lhs;rw[aB jB rfl]
    simp only[go_sem,o,c,aD,m,a,v,F,w,y,A,G]
    try rfl
   refine⟨λ⟨x,r,u⟩=>?_,λq=>?_⟩
   ·rw[e]
    refine D ?_;rcases la.1 r with rfl | r
    ·rw[j] at u;cases u
    ·exact⟨x,r,u⟩
   ·rw[e,E (λx r=>q x (xa _ r))]
    rw[show sP fm ((kk,t,id)::f.drop (i+1))=j9 fm (kk,t,id)++sP fm (f.drop (i+1)) from by simp [sP],<- kb]
def Xr(k:Int)(f:List Tk)(d:f.length<=10000)(e:tot f<=900000)(g:vld f=0)(c:∀ x∈f,I3 k x=false):G9 146 [.int .i64 k,.sl .no 3 (tks f)] []=some (.tup [.str (sP k f),.int .i64 0],[]):=by
 have a:=up (c21 (b:=f) (by omega) (λt q=>by have:=gG t q;unfold eZ;omega)) rfl;rw[g] at a;have w:=(wy k f d e f.length 0 [] (by omega) (by rw[kc,jz];omega)).2;rw[kc,kg,show ((0:Nat):Int)=0 from rfl] at w;have w:=w c;refine aA Fy ?_;simp only[Fy,go_sem,a,aD,w]
 try rfl
open Go.Proofs Go.Shelf Go.RowKit Go.Nt
set_option maxHeartbeats 4000000
def rnG:Ren:=⟨λi=>match i with | 4=>175 | _=>0,λi=>match i with | 22=>34 | 25=>67 | i=>i,λi=>i⟩
def laG:Lays8.n4 Tryz.prog rnG:=by constructor<;>first | kernel_rfl | (intro w;kernel_rfl) | exact⟨"slices.Grow[[]bitext/api.Item,bitext/api.Item]",by decide,by kernel_rfl⟩
def xf:(Tryz.prog.info? 67).map (λi=>(i.zero,i.size,i.bytes))=some (some (.agg #[.int .i64 0,.string ⟨#[]⟩,.int .i64 0]),3,32):=by kernel_rfl
def uj:Tryz.prog.underlying 34=some (.slice 67):=by kernel_rfl
def TR(q:Nat)(t J e:TypeId)(bp:TypeInfo)(R:Nat)(i:eb.underlying t=some (.slice e))(hi:eb.info? e=some bp)(b:x.ownsRow q e R I n cd):(Builtin.append_ #[t,t] J #[I,.slice ei 0 c]).run eb x=.ok I x:=by
 have f:(Builtin.firstCells bp.size 0 (.slice ei 0 c)).run eb x=.ok #[] x:=by
  cases ei with
  | none=>exact run_firstCells_none x bp.size 0 0 c
  | some a=>exact run_firstCells_some x bp.size 0 a 0 c [] (by simp) (λj I h=>by simp at h)
 rcases b.2 with ⟨rfl,rfl⟩ | ⟨g,cap,k,rfl,_,_,d,_⟩
 ·simp [Builtin.append_,ke i,sizeOf,typeInfo,hi,Builtin.lenOf,f]
 ·simp [Builtin.append_,ke i,sizeOf,typeInfo,hi,Builtin.lenOf,f,d,storeCells]
structure Sg where
 a:Option Addr
 n:Nat
 c:Nat
 cs:List Value
variable{dh:List Sg}{gv:Sg}
def jD(L:List Sg):Nat:=(L.map λs=>s.n).sum
def IW(L:List Sg):List Value:=L.flatMap λs=>s.cs
def DY(h:dh[n]?=some gv):jD (dh.take (n+1))=jD (dh.take n)+gv.n:=by
 unfold jD;rw[ab7,h];simp
def SL:jD (dh.take n)<=jD dh:=by
 have:jD dh=jD (dh.take n)+jD (dh.drop n):=by
  unfold jD;rw[<- sum_append,<- af5,ye]
 omega
def Ed(h:dh[n]?=some gv):IW (dh.take (n+1))=IW (dh.take n)++gv.cs:=by
 unfold IW;rw[ab7,h];simp
structure Sg.Ok (s:Sg) (w:World):Prop where
 cap:s.n<=s.c
 len:s.cs.length=s.n*3
 one:∀ u∈s.cs,u.oneCell'=true
 at_:s.n=0\/∃ ad,s.a=some ad/\∀ W,Below w.heap.size w W->∀ j u,s.cs[j]?=some u->W.cell? (ad.add j)=some u
def TQ{j:Nat}(g:gv.Ok x)(u:Below x.heap.size x fc)(J:TypeId)(b:fc.ownsRow j 67 3 I n cd)(v:n+gv.n<=1000000)(d:j<=fc.heap.size):
  ∃ h w',(Builtin.append_ #[34,34] J #[I,.slice gv.a gv.n gv.c]).run Tryz.prog fc=.ok h w'/\w'.ownsRow j 67 3 h (n+gv.n) (cd++gv.cs)/\fc.grownBy w' I.ownBlock:=by
 obtain⟨i0,f,l,m,o⟩:=ao4 xf;rcases g.at_ with p | ⟨ad,i,e⟩
 ·have k:gv.cs=[]:=js (by rw[g.len,p])
  rw[p,k,ka];exact⟨I,fc,TR j 34 J 67 i0 3 uj f (I:=I) (n:=n) (cd:=cd) b,b,⟨rfl,rfl,rfl,ji _,λ_ _ _=>rfl⟩⟩
 ·rw[i]
  obtain⟨h,w',q,r,s,_⟩:=run_append_own (P:=Tryz.prog) fc j 34 J 67 i0 _ 3 32 uj f l m o rfl (by decide) I n cd b ad gv.n gv.c gv.cs g.len (e fc u) g.one (by simp only[maxLen];omega) (by omega) d;exact⟨h,w',q,r,s⟩
def W8(V oo c:Nat)(X:dh.length<=c)(Y:dh.length<=1000)(q:jD dh<=1000000)
  (J:∀ (i:Nat) (s:Sg),dh[i]?=some s->∀ W:World,Below x.heap.size x W->W.cell? ⟨V,oo+i,none⟩=some (.slice s.a s.n s.c))
  (K:∀ (i:Nat) (s:Sg),dh[i]?=some s->s.Ok x):
  Calls Tryz.prog 139 #[.slice (some ⟨V,oo,none⟩) dh.length c] x λe w'=>∃ v,e=.returned v/\w'.ownsRow x.heap.size 67 3 v (jD dh) (IW dh)/\Below x.heap.size x w':=by
 have r:=Mo q
 clear q
 go_enter Tryz.func139,Tryz.ntmps139
 go_wp2
 go_loopg [11,3] dh.length (λg T s3 L=>∃ i:Nat,i+g=dh.length/\T=.int .i64 (i:Int)/\s3=.int .i64 (jD (dh.take i):Int)/\Below x.heap.size x L)
 case atStart=>exact⟨0,by omega,rfl,rfl,ae9 _ _⟩
 case round =>
  obtain⟨i,hi,rfl,rfl,b⟩:=hrel
  cases gk with
  | zero =>
   obtain rfl:i=dh.length:=by omega
   rw[Ut];have q:=r.out;have av:(0:Int)<=(jD dh:Int):=by omega
   obtain⟨i0,w,Q,R,S⟩:=ao4 xf;have l:∀ W,Below x.heap.size x W->Calls Tryz.prog 175 #[.slice none 0 0,.int .i64 (jD dh:Int)] W λe w'=>∃ v,e=.returned v/\w'.ownsRow x.heap.size 67 3 v 0 []/\Below x.heap.size x w':=by
    intro W I;by_cases h0:jD dh=0
    ·rw[h0]
     refine (Any8.slices_Grow_room laG none 0 0 0 W (by omega) (by omega) (by omega) (by omega)).mono ?_
     rintro e w' ⟨rfl,rfl⟩
     exact⟨_,rfl,World.ownsRow_nil _ _ _ _,I⟩
    ·refine (Any8.slices_Grow_grow laG i0 _ w Q (by rw[R];omega) none 0 0 (jD dh) [] W (by omega) (by omega) (by rw[S];omega) (by omega) (by simp) (λ_=>rfl) (λa h=>by cases h)).mono ?_
     rintro e w' ⟨rfl,rfl⟩
     have ap:=ai0 W (0+jD dh) 0 67;have P:=grownCap_le_maxLen W (0+jD dh) 0 67 (by simp only[maxLen];omega);refine⟨_,rfl,World.ownsRow_made W.drew _ _ I.size P ?_,I.drew.alloc (by simpa using I.size) _⟩;simp only[ac9,ag2,jz,al7];show 0+(0+jD dh-0)*3+(grownCap W (0+jD dh) 0 67-(0+jD dh))*3=grownCap W (0+jD dh) 0 67*3;omega
   have M:=Mo l
   clear l
   go_wp2_with (go_at_call 175;refine (M.out _ b).mono ?_;rintro e w4 ⟨v4,rfl,A,O⟩)
   go_loopg [27,6] dh.length (λg U s6 L=>∃ i:Nat,i+g=dh.length/\U=.int .i64 (i:Int)/\L.ownsRow x.heap.size 67 3 s6 (jD (dh.take i)) (IW (dh.take i))/\Below x.heap.size x L)
   case atStart=>exact⟨0,by omega,rfl,A,O⟩
   case round =>
    obtain⟨i,hi,rfl,d,b⟩:=hrel
    cases gk with
    | zero =>
     obtain rfl:i=dh.length:=by omega
     rw[Ut] at d
     go_wp2
     go_ret
     exact⟨_,rfl,d,b⟩
    | succ g =>
     have y:i<dh.length:=by omega
     have u:∃ p,dh[i]?=some p:=⟨_,ii y⟩
     obtain⟨p,hg⟩:=u;have B:=J i _ hg wr b;have j:=K i _ hg;have o:=SL (dh:=dh) (n:=i+1);rw[DY hg] at o;have f:=j.cap;have D:=TQ j b 34 d (by have:=r.out;omega) b.size;obtain⟨v5,w5,G,m,F⟩:=D;have E:Below x.heap.size x w5:=b.grown F b.size (λk hk=>(d.lt k hk).1);obtain⟨pa,pn,pc,pcs⟩:=p;simp only at B o f;have H:=Mo hg;have N:=Mo m;have HR:=Mo G;have HB:=Mo E
     clear hg j J K d G m F E
     have w:0<=(i:Int):=by omega
     have hi1:(i:Int)<dh.length:=by omega
     have q:=r.out
     go_wp2_with (at_builtin;refine Lib.wpList_append_run _ rfl _ _ _ _ rfl _ _ rfl rfl _ _ HR.out ?_)
     go_roundg g
     case measure=>omega
     case rel =>
      refine⟨i+1,by omega,by go_num,?_,HB.out⟩;rw[DY H.out,Ed H.out];exact N.out
  | succ g =>
   have y:i<dh.length:=by omega
   have u:∃ p,dh[i]?=some p:=⟨_,ii y⟩
   obtain⟨p,hg⟩:=u;have B:=J i _ hg wr b;have j:=K i _ hg;have o:=SL (dh:=dh) (n:=i+1);rw[DY hg] at o;have f:=j.cap;obtain⟨pa,pn,pc,pcs⟩:=p;simp only at B o f;have H:=Mo hg
   clear hg j J K
   have w:0<=(i:Int):=by omega
   have hi1:(i:Int)<dh.length:=by omega
   have q:=r.out;have C:wrap64 ((jD (dh.take i):Int)+(pn:Int))=(jD (dh.take i):Int)+(pn:Int):=by unfold wrap64;omega
   have Z:¬ (wrap64 ((jD (dh.take i):Int)+(pn:Int))<0):=by rw[C];omega
   have ar:=Mo C
   clear C
   go_wp2
   go_roundg g
   case measure=>omega
   case rel =>
    refine⟨i+1,by omega,by go_num,?_,b⟩;rw[DY H.out];simp
open Go.Proofs Go.RowKit Go.Nt
def S2(S0:Nat->Nat->Prop)(w w':World)(b o:Nat):Prop:=S0 b o\/(w.heap.size<=b/\b<w'.heap.size)
def KG(x:∀ (S0:Nat->Nat->Prop) (w:World) (l:List Value) (c:Cx),c.S=S0->c.w=w->c.shn=0->Ent S0 w->aM (aV c aX) bh l->Calls Tryz.prog Y ⟨l⟩ w λe w'=>∃ v,e=.returned v/\aG (S2 S0 w w') w' (.sl .no n bd) v/\Below w.heap.size w w'):fB Tryz.prog Y bh [] (.sl .no n bd) []:=by
 intro kd β bs S0 O0 w vs g d;obtain⟨_,p,r,s,u⟩:=g;obtain⟨l⟩:=vs;have m:Ent S0 w:=⟨λb o a=>(p b o a).1,u⟩
 refine (x S0 w l _ rfl rfl rfl m d).mono ?_
 rintro e w' ⟨v,rfl,y,f⟩
 refine⟨v,λb=>if b<w.heap.size then kd b else .stab,β,bs,rfl,⟨λi hi=>absurd hi (by simp),ji _,⟨λi c hi=>(by simp at hi),λi hi=>(by simp at hi)⟩,?_,f.os,f.tape,f.output,f.size,λb q _ _=>f.block b q,λb o a=>m.cell f b o a,λb k h=>?_,λb t k h=>?_,λi _ hi=>absurd hi (by simp),λi hi=>(by simp at hi)⟩⟩
 ·show aG _ _ _ _
  refine aG.mono (λb o a=>⟨?_,rfl⟩) _ _ y;rcases a with a | ⟨a,j⟩
  ·exact .inl a
  ·refine .inr (.inl ⟨a,j,?_⟩)
   show (if b<w.heap.size then kd b else .stab)=.stab;rw[ie (by omega)]
 ·obtain⟨A,_,t,k',B,C⟩:=r b k h
  exact⟨t,k',by rw[iw A];exact B,C⟩
 ·by_cases q:b<w.heap.size
  ·rw[iw q] at h
   exact .inr (s b t k h q)
  ·exact .inl (by omega)
def aM.app{R:AV->Value->Prop}:∀ {a b:List AV} {c d:List Value},aM R a c->aM R b d->aM R (a++b) (c++d)
 | [],_,[],_,_,e=>e
 | _::_,_,_::_,_,f,e=>⟨f.1,aM.app f.2 e⟩
 | [],_,_::_,_,h,_=>by simp [aM] at h
 | _::_,_,[],_,h,_=>by simp [aM] at h
def dR.vals{S:Nat->Nat->Prop}{w:World}:∀ {l:List AV} {b o:Nat},dR S w l b o->∃ cs:List Value,aM (aG S w) l cs/\∀ j u,cs[j]?=some u->S b (o+j)/\w.cell? ⟨b,o+j,none⟩=some u
 | [],b,o,_=>⟨[],trivial,λj u h=>by simp at h⟩
 | a::tl,b,o,h=>by
  simp only[dR] at h;obtain⟨⟨d,u,e,f⟩,g⟩:=h;obtain⟨cs,i,k⟩:=dR.vals g;refine⟨u::cs,⟨f,i⟩,λj x c=>?_⟩
  cases j with
  | zero=>simp at c;subst c;exact⟨d,e⟩
  | succ j =>
   have:=k j x (by simpa using c)
   rwa [show o+1+j=o+(j+1) from by omega] at this
def fC.flat{S:Nat->Nat->Prop}{w:World}:∀ {z:Nat} {l:LL} {b o:Nat},fC S w z l b o->l.flatten.length=l.length*z/\dR S w l.flatten b o
 | z,[],b,o,_=>by simp [dR]
 | z,e::es,b,o,h=>by
  simp only[fC] at h;obtain⟨c,d,f⟩:=h;obtain⟨g,i⟩:=fC.flat f;refine⟨by simp only[ag7,jb,jd,c,g,sa];omega,?_⟩;rw[ag7];refine dR.mk λj x a=>?_
  rw[aa0] at a
  split at a
  ·exact d.get a
  ·rename_i q
   have:=i.get a
   rwa [show o+z+(j-e.length)=o+j from by omega] at this
def dR.unflat{S:Nat->Nat->Prop}{w:World}:∀ {z:Nat} {l:LL} {b o:Nat},(∀ e∈l,e.length=z)->dR S w l.flatten b o->fC S w z l b o
 | z,[],b,o,_,_=>by simp [fC]
 | z,e::es,b,o,d,h=>by
  simp only[fC];have c:=d e (by simp);rw[ag7] at h;refine⟨c,dR.mk λj x a=>h.get (by rw[aa0,iw (jh.1 a).1];exact a),dR.unflat (λx a=>d x (by simp [a])) ?_⟩
  have:=h.drop e.length
  rwa [ae3,c] at this
def aG.one{bv:AV}(h:aG du fc bv I):I.oneCell'=true:=by
 cases bv with
 | int k n=>obtain rfl:I=.int k n:=h;rfl
 | bool b=>obtain rfl:I=.bool b:=h;rfl
 | str s=>obtain⟨b,rfl,_⟩:=h;rfl
 | nilp=>obtain rfl:I=.pointer none:=h;rfl
 | sl m z l=>obtain⟨A,c,rfl,_⟩:=h;rfl
 | _=>exact absurd h (by simp [aG])
def aM.all(h:aM gj f cd)(b:∀ x u,gj x u->p u):∀ u∈cd,p u:=by
 intro u c;obtain⟨j,a⟩:=ns.1 c;obtain⟨x,_,d⟩:=h.getv a;exact b x u d
def CP{α β:Type}{Q:Nat->α->β->Prop}:∀ (l:List α),(∀ i a,l[i]?=some a->∃ b,Q i a b)->∃ L:List β,L.length=l.length/\∀ i a b,l[i]?=some a->L[i]?=some b->Q i a b
 | [],_=>⟨[],rfl,λi a b h=>by simp at h⟩
 | a::l,h=>by
  obtain⟨b,f⟩:=h 0 a rfl;obtain⟨L,e,g⟩:=CP (Q:=λi=>Q (i+1)) l (λi x c=>h (i+1) x (by simpa using c));refine⟨b::L,by simp [e],λi x y c d=>?_⟩
  cases i with
  | zero=>simp at c d;subst c d;exact f
  | succ i=>exact g i x y (by simpa using c) (by simpa using d)
def FM:LL->Option LL
 | []=>some []
 | [.sl m 3 l]::r=>if m=.own then none else (FM r).map (l++·)
 | _=>none
def O4:∀ (a:LL) {r:LL},FM a=some r->∃ b:List (Own×LL),a=b.map (λp=>[AV.sl p.1 3 p.2])/\r=b.flatMap (λp=>p.2)/\∀ p∈b,p.1≠.own
 | [],r,h=>by
  simp only[FM,jc] at h;exact⟨[],rfl,by simp [<- h],by simp⟩
 | [.sl m 3 l]::a,r,h=>by
  simp only[FM] at h;by_cases c:m=.own
  ·rw[iw c] at h;cases h
  ·rw[ie c] at h
   cases q:FM a with
   | none=>rw[q] at h;cases h
   | some i =>
    rw[q] at h;simp only[jq,jc] at h;obtain⟨b,e,f,g⟩:=O4 a q;refine⟨(m,l)::b,by simp [e],by simp [<- h,f],λp d=>?_⟩;rcases la.1 d with rfl | d
    ·exact c
    ·exact g p d
def P4:∀ {L:List Sg},L.length=ja.length->(∀ (i:Nat) p s,ja[i]?=some p->L[i]?=some s->s.n=p.2.length)->jD L=(ja.flatMap λp=>p.2).length:=by
 induction ja with
 | nil =>
  intro L a _
  have:L=[]:=js a
  subst this;rfl
 | cons p ja d =>
  intro L a h
  match L,a with
  | s::L,a =>
   have e:=h 0 p s rfl rfl
   have:=d (L:=L) (by simpa using a) (λi q t b c=>h (i+1) q t (by simpa using b) (by simpa using c))
   simp only[jD,ju,sum_cons,sb,jb] at this ⊢;omega
def XC:∀ {L:List Sg},L.length=ja.length->(∀ (i:Nat) p s,ja[i]?=some p->L[i]?=some s->aM gj p.2.flatten s.cs)->aM gj (ja.flatMap λp=>p.2).flatten (IW L):=by
 induction ja with
 | nil =>
  intro L a _
  have:L=[]:=js a
  subst this;trivial
 | cons p ja e =>
  intro L a h
  match L,a with
  | s::L,a =>
   have b:=h 0 p s rfl rfl
   have:=e (L:=L) (by simpa using a) (λi q t c d=>h (i+1) q t (by simpa using c) (by simpa using d))
   simp only[IW,sb,flatten_append] at this ⊢;exact b.app this
def qq{bw:LL}(h:FM bd=some bw)(h0:bd≠[])(h1:bd.length<=1000)(h2:bw.length<=1000000)(h3:∀ e∈bw,e.length=3):fB Tryz.prog 139 [.sl .no 1 bd] [] (.sl .no 3 bw) []:=by
 obtain⟨k,rfl,rfl,hm⟩:=O4 bd h;refine KG λS0 w l c hS hw hn J y=>?_
 match l,y with
 | [v],⟨f,_⟩ =>
  have f:aG c.S c.w (.sl .no 1 (k.map λp=>[AV.sl p.1 3 p.2])) v:=f;simp only[aG] at f;obtain⟨A,cp,q1,q2,_,_,V⟩:=f;rcases V with V | ⟨b,o,rfl,q4⟩
  ·exact absurd V h0
  ·rw[zt] at q1 q2
   rw[hS,hw] at q4;have C:∀ (i:Nat) p,k[i]?=some p->∃ s:Sg,(S0 b (o+i)/\w.cell? ⟨b,o+i,none⟩=some (.slice s.a s.n s.c))/\s.Ok w/\s.n=p.2.length/\aM (aG S0 w) p.2.flatten s.cs:=by
    intro i p hi;obtain⟨_,q5⟩:=q4.get (i:=i) (e:=[AV.sl p.1 3 p.2]) (by simp [hi]);obtain⟨s0,u,U,r0⟩:=q5.get (j:=0) (x:=.sl p.1 3 p.2) rfl;obtain⟨A',c',rfl,F,_,_,E⟩:∃ A c,u=.slice A p.2.length c/\p.2.length<=c/\(p.1=.full->c=p.2.length)/\p.1≠.own/\(p.2=[]\/∃ b o,A=some ⟨b,o,none⟩/\fC S0 w 3 p.2 b o):=r0;rw[zs,rh] at s0 U;rcases E with E | ⟨X,o',rfl,hR⟩
    ·exact⟨⟨A',p.2.length,c',[]⟩,⟨s0,U⟩,⟨F,by simp [E],by simp,.inl (by simp [E])⟩,rfl,by rw[E];trivial⟩
    ·obtain⟨f1,f2⟩:=hR.flat
     obtain⟨cs,I,g2⟩:=f2.vals;refine⟨⟨_,p.2.length,c',cs⟩,⟨s0,U⟩,⟨F,by rw[I.length,f1],I.all (λx u T=>T.one),.inr ⟨_,rfl,λW K j u hj=>?_⟩⟩,rfl,I⟩
     have:=g2 j u hj
     rw[show (Addr.add ⟨X,o',none⟩ j)=⟨X,o'+j,none⟩ from by unfold Addr.add;split<;>simp_all];exact (J.cell K _ _ this.1).trans this.2
   obtain⟨L,G,H⟩:=CP k C;have q:∀ (i:Nat) s,L[i]?=some s->∃ p,k[i]?=some p:=λi s hi=>by
    have:=(jh.1 hi).1
    exact⟨_,ii (by omega)⟩
   have r:=P4 G (λi p s B D=>(H i p s B D).2.2.1);subst q1;rw[<- G];refine (W8 (dh:=L) (x:=w) b o cp (by omega) (by rw[G];simpa using h1) (by rw[r];exact h2) (λi s hi W K=>?_) (λi s hi=>?_)).mono ?_
   ·obtain⟨p,B⟩:=q i s hi
    have:=(H i p s B hi).1
    exact (J.cell K _ _ this.1).trans this.2
   ·obtain⟨p,B⟩:=q i s hi
    exact (H i p s B hi).2.1
   ·rintro e w' ⟨v,rfl,d,Y⟩
    refine⟨v,rfl,?_,Y⟩;have m:aM (aG S0 w) (k.flatMap λp=>p.2).flatten (IW L):=XC G (λi p s B D=>(H i p s B D).2.2.2);show ∃ A c,v=.slice A (k.flatMap λp=>p.2).length c/\(k.flatMap λp=>p.2).length<=c/\(Own.no=.full->c=(k.flatMap λp=>p.2).length)/\Own.no≠.own/\((k.flatMap λp=>p.2)=[]\/∃ b o,A=some ⟨b,o,none⟩/\fC (S2 S0 w w') w' 3 (k.flatMap λp=>p.2) b o);have M:=d.1;rw[r] at d M;have Q:=d.lt;rcases d.2 with ⟨f,Z⟩ | ⟨g,cap,av,f,N,ar,O,_⟩
    ·exact⟨none,0,by rw[f,Z],by omega,by simp,by simp,.inl (js Z)⟩
    ·refine⟨_,_,f,O,by simp,by simp,.inr ⟨g,0,rfl,dR.unflat h3 (dR.mk λj x hx=>?_)⟩⟩
     obtain⟨u,T,R⟩:=m.get hx;have F:=d.cells (g:=g) (by rw[f];rfl) j u T;have P:=(Q g (by rw[f];rfl)).2;rw[show (Addr.add ⟨g,0,none⟩ j)=⟨g,0+j,none⟩ from by unfold Addr.add;split<;>simp_all] at F;exact⟨.inr ⟨N,P⟩,u,F,aG.mono (λb o D=>⟨.inl D,J.cell Y b o D⟩) _ _ R⟩
end Go.Av
namespace Go.Av
variable{T:FuncId->Option AFun}{Y:FuncId}{bh:List AV}{eb:Program}
variable [Gtab]
open Go.RowKit
def nrB:AV->Bool
 | .ptr .. | .ss .. | .mp _ | .fn .. | .tup _ | .aggR _ | .mapv _=>false
 | _=>true
def zC(g:Gh):Gh:={ g with kd:=λb=>if b=g.β 0 then .stab else g.kd b }
def oU(σ:AS)(s:Nat)(cs:List AV):AS:={ σ with lo:=upd σ.lo s (some cs),sh:=[] }
def Sim.freeze{E:Env}{g:Gh}{σ:AS}{a:Act}{w:World}(D:Sim E g σ a w)(h0:E.n0=0){cells:List AV}(M:σ.sh=[cells])(hd:cells≠aO)(P:bX cells=true){s n z:Nat}{x:AV}{l:LL}
  (V:dE 0 n z cells=some l)(hx:fP 0 x=true)(ar:σ.lo s=some [x,.ss 0 0 n z])(av:∀ t,nrB (σ.fr t)=true)(R:∀ r cs,r≠s->σ.lo r=some cs->∀ y∈cs,fP 0 y=true):
  Sim E (zC g) (oU σ s [x,.sl .no z l]) a w:=by
 obtain⟨hk,ag,_⟩:=D.shr 0 cells (by rw[M];rfl) hd;have T:E.w0.heap.size<=g.β 0:=by
  rcases D.shr1 0 (by rw[M];simp) (by omega) with h9 | ⟨j,h9,_⟩
  ·exact h9
  ·omega
 have ap:=D.shrlt 0 (by rw[M];simp);have u:∀ b k,g.kd b=k->(∀ i,k≠.shr i)->(zC g).kd b=k:=by
  intro b k d f;show (if b=g.β 0 then BK.stab else g.kd b)=k;rw[ie,d]
  rintro rfl
  rw[hk] at d;exact f 0 d.symm
 have hS:∀ b o,SS E g w b o->SS E (zC g) w b o:=by
  rintro b o (h | ⟨d,f,J⟩ | ⟨d,t,k,f,J⟩)
  ·exact .inl h
  ·exact .inr (.inl ⟨d,f,u b _ J (by simp)⟩)
  ·exact .inr (.inr ⟨d,t,k,u b _ f (by simp),J⟩)
 have e:∀ b o,(cx E g σ w).S b o->(cx E (zC g) (oU σ s [x,.sl .no z l]) w).S b o/\(cx E (zC g) (oU σ s [x,.sl .no z l]) w).w.cell? ⟨b,o,none⟩=(cx E g σ w).w.cell? ⟨b,o,none⟩:=λb o h=>⟨hS b o h,rfl⟩
 have U:∀ t v z n,d9 g.kd w t v z n->d9 (zC g).kd w t v z n:=by
  rintro t v z n ⟨A,c,d,f⟩
  refine⟨A,c,d,?_⟩;rcases f with f | ⟨b,B,Y,F,G,H,N⟩
  ·exact .inl f
  ·exact .inr ⟨b,B,Y,F,G,H,u b _ N (by simp)⟩
 have L:∀ r,(σ.lo r).isSome=true->((oU σ s [x,.sl .no z l]).lo r).isSome=true:=by
  intro r h;show (upd σ.lo s _ r).isSome=true;unfold upd;split
  ·rfl
  ·exact h
 have Q:∀ (ow:Nat->Value->Nat->Nat->Prop) (b m:Nat) (cs:List AV),(∀ j v z n,ow j v z n->ow j v z n)->(∀ y∈cs,fP 0 y=true)->o6 (cx E g σ w) ow w b m cs->o6 (cx E (zC g) (oU σ s [x,.sl .no z l]) w) ow w b m cs:=by
  rintro ow b m cs _ hr ⟨B,Y,fz,F,G,H,N⟩
  refine⟨B,Y,fz,F,G,H,λj y C=>?_⟩;obtain⟨v,d,f⟩:=N j y C;exact⟨v,d,n8 e rfl rfl rfl (hr y (ns.2 ⟨j,C⟩)) (λ_ _ _ h=>h) f⟩
 refine { D with slots:=λt=>?_,shr:=λi c hi=>?_,shr0:=λi hi=>?_,shr1:=λi hi=>?_,dd:=λi hi=>?_,shrlt:=λi hi=>?_,shrk:=λi hi=>?_,loc:=λr cs X=>?_,n0:=?_,o0:=λb k K=>?_,own0:=λb t k K=>?_ }
 ·have d:=D.slots t
  have f:=av t;show aV (cx E (zC g) (oU σ s [x,.sl .no z l]) w) (d9 (zC g).kd w (.slot t)) (σ.fr t) _;generalize a.tmps.getD t undef=v at d;cases p:σ.fr t with
  | any=>trivial
  | undef=>rw[p] at d;exact d
  | int=>rw[p] at d;exact d
  | bool=>rw[p] at d;exact d
  | str=>rw[p] at d;exact d
  | nilp=>rw[p] at d;exact d
  | loc r off =>
   rw[p] at d;exact⟨L r d.1,d.2⟩
  | ip Z =>
   rw[p] at d;obtain⟨b,o,J,h4⟩:=d;exact⟨b,o,J,dR.mono e _ _ _ h4⟩
  | sl m z' Z =>
   rw[p] at d
   cases m with
   | own=>exact⟨aG.mono e _ _ d.1,U _ _ _ _ d.2⟩
   | no=>exact aG.mono e (.sl .no z' Z) v d
   | full=>exact aG.mono e (.sl .full z' Z) v d
  | agg Z =>
   rw[p] at d;obtain⟨cs,J,h4⟩:=d;exact⟨cs,J,h4.mono (aG.mono e)⟩
  | ptr=>rw[p] at f;cases f
  | ss=>rw[p] at f;cases f
  | mp=>rw[p] at f;cases f
  | fn=>rw[p] at f;cases f
  | tup=>rw[p] at f;cases f
  | aggR=>rw[p] at f;cases f
  | mapv=>rw[p] at f;cases f
 ·simp [oU] at hi
 ·omega
 ·simp [oU] at hi
 ·omega
 ·simp [oU] at hi
 ·simp [oU] at hi
 ·have I:upd σ.lo s (some [x,.sl .no z l]) r=some cs:=X
  clear X
  unfold upd at I;by_cases q:r=s
  ·rw[iw q] at I
   subst q
   injection I with I
   subst I;obtain⟨F,G,B,Y,fz,H,N,q5,q6⟩:=D.loc r _ ar;refine⟨u _ _ F (by simp),G,B,Y,fz,H,N,q5,λj y C=>?_⟩
   match j,C with
   | 0,C =>
    simp at C;subst C;obtain⟨v,d,f⟩:=q6 0 x rfl;exact⟨v,d,n8 e rfl rfl rfl hx (λ_ _ _ h=>h) f⟩
   | 1,C =>
    simp at C;subst C;obtain⟨v,d,f⟩:=q6 1 _ rfl;refine⟨v,d,?_⟩;obtain⟨e0,O,rfl,e2,e3⟩:0<σ.sh.length/\∃ O,v=.slice (some ⟨g.β 0,0,none⟩) n O/\n<=O/\ssz 0 O z (g.bs 0):=f;show aG _ w (.sl .no z l) _;simp only[aG];obtain⟨_,r1,r2,r3,_⟩:=qI (du:=SS E (zC g) w) V (ag P) (λb' n h=>⟨hS b' n h,rfl⟩) (λ_=>.inr (.inl ⟨T,ap,by show (if g.β 0=g.β 0 then BK.stab else _)=_;rw[iw rfl]⟩));exact⟨_,O,by rw[r1],by rw[r1];exact e2,by simp,by simp,.inr ⟨_,_,rfl,r3⟩⟩
  ·rw[ie q] at I
   obtain⟨F,G,H⟩:=D.loc r _ I;exact⟨u _ _ F (by simp),G,Q _ _ _ _ (λ_ _ _ _ h=>h) (R r cs q I) H⟩
 ·rw[h0];exact lv _
 ·obtain⟨F,G,t,k',H,N⟩:=D.o0 b k K
  exact⟨F,G,t,k',u _ _ H (by simp),N⟩
 ·have K:(if b=g.β 0 then BK.stab else g.kd b)=.own t k:=K
  split at K
  ·cases K
  ·exact D.own0 b t k K
def wC:List ACode->ACode->ACode
 | [],r=>r
 | c::cs,r=>.seq c (wC cs r)
def IL{P:Program}(d:P.follows .mixedOrders=true){B:aP}{T:FuncId->Option AFun}(m:fK P B)(p:∀ f F,T f=some F->jF P f F=true){E:Env}{Q:Exit->Act->World->Prop}{rest:ACode}{σ':AS}(o:∀ D a w,cV P E.nt D rest=true->aS E σ' a w->D.wp P Q a w):
  ∀ (cs:List ACode) {C:Code} {σ:AS} {a:Act} {w:World},cV P E.nt C (wC cs rest)=true->aC (Gx B T) (wC cs .skip) σ=some (.norm,σ')->aS E σ a w->C.wp P Q a w
 | [],C,σ,a,w,b,g,k=>by
  have:σ=σ':=by
   have h:aC (Gx B T) .skip σ=some (.norm,σ):=by unfold aC;rfl
   rw[show wC [] .skip=ACode.skip from rfl,h] at g;cases g;rfl
  subst this;exact o C a w b k
 | c::cs,C,σ,a,w,b,g,k=>by
  match C,b with
  | .seq A D,b =>
   simp only[wC,cV,ir] at b;have h:aC (Gx B T) (.seq c (wC cs .skip)) σ=match aC (Gx B T) c σ with
    | some (.norm,σ1)=>aC (Gx B T) (wC cs .skip) σ1
    | r=>r:=by
    conv=>lhs;unfold aC
    rfl
   rw[show wC (c::cs) .skip=ACode.seq c (wC cs .skip) from rfl,h] at g;cases j:aC (Gx B T) c σ with
   | none=>rw[j] at g;cases g
   | some q =>
    obtain⟨e,σ1⟩:=q;rw[j] at g
    cases e with
    | ex i=>cases g
    | ret=>cases g
    | norm =>
     obtain⟨n,s⟩:=gC c σ _ j;refine ai2 (eJ d (iM d m p n) n A c σ σ1 _ a w _ b.1 (s n (ji _)) k λu v l=>?_);exact IL d m p o cs b.2 g l
def FI(c:eb.follows .mixedOrders=true){B:aP}(H:fK eb B)(I:∀ Y eq,T Y=some eq->jF eb Y eq=true){eq:AFun}(f:jF eb Y eq=true){h:AV}(cs:List ACode)(rest:ACode)(P:eq.body=wC cs rest)(u:bh.length=eq.nargs){X fb:AS}
  (M:aC (Gx B T) (wC cs .skip) (ST (sZ 0 bh) [] [])=some (.norm,X))
  (s:∀ (E:Env) (g:Gh) (a:Act) (w:World),E.n0=0->Sim E g X a w->aS E fb a w)
  (l:LH eq.keep [] eq.res (aC (Gx B T) rest fb)=some (h,[])):vO eb Y/\fB eb Y bh [] h []:=by
 unfold jF at f
 split at f
 case h_2=>cases f
 rename_i fn r;simp only[ir,jo] at f;obtain⟨⟨⟨b,x⟩,o⟩,j⟩:=f
 split at b
 case h_2=>cases b
 rename_i C N;refine LE (R:=eq.nargs) (d:=eq.keep) (fg:=eq.res) r N x o (by simpa using j) u ?_;intro E g a w p v J;rw[uX] at J;rw[<- p,P] at b;cases F:aC (Gx B T) rest fb with
 | none=>rw[F] at l;cases l
 | some q =>
  obtain⟨e,k⟩:=q;rw[F] at l;refine IL c H I (σ':=X) (rest:=rest) (λD G K O Q=>?_) cs b M ⟨g,J⟩;obtain⟨L,A⟩:=Q;have y:=s E L G K v A;obtain⟨n,u⟩:=gC rest fb _ F;refine eJ c (iM c H I n) n D rest fb k e G K _ O (u n (ji _)) y λS U m=>?_
  cases e with
  | ex i=>cases l
  | norm=>exact⟨.inr rfl,k,m,l⟩
  | ret=>exact⟨.inl rfl,k,m,l⟩
end Go.Av
