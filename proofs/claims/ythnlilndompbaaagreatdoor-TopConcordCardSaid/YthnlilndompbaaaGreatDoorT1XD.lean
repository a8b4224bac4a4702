/- Functions walked, and plain facts. No conditions. -/
import Derived.Test.YthnlilndompbaaaGreatDoorT1XC
import Derived.Test.YthnlilndompbaaaGreatDoorT1XB
import Derived.Test.YthnlilndompbaaaGreatDoorT1Su
open List
set_option linter.all false
set_option maxRecDepth 100000
set_option maxHeartbeats 16000000
def lb:=@List.drop_length
def xd:=@List.getElem_mem
def ab7:=@List.take_add_one
def ac7:=@decide_eq_false_iff_not
def af0:=@List.takeWhile_cons_of_pos
def ag0:=@Bool.or_eq_false_iff
def ai4:=@Option.some.inj
def ai6:=@Bool.eq_iff_iff
def al0:=@Nat.le_of_lt
def am3:=@Int.emod_lt_of_pos
def an4:=@List.getElem?_reverse
def ao0:=@Int.emod_nonneg
namespace Go.Av
open Go.Nt
set_option maxHeartbeats 8000000
variable{D k:Int}{K:List UInt8}{L:List Int}{bd:LL}{de:It}{dt:List (List UInt8)}{e:List It}{f:List AV}{i u:Bs}{n:Nat}
variable [Mx]
abbrev Tk:=Int×List UInt8×Int
variable{N:Tk}{b bu:List Tk}
def tkR(t:Tk):List AV:=[.int .i64 t.1,.str t.2.1,.int .i64 t.2.2]
def tks(l:List Tk):List (List AV):=l.map tkR
def aD:(tks b).length=b.length:=by simp [tks]
theorem DW:[[AV.int .i64 k,AV.str K,AV.int .i64 D]]=tks [(k,K,D)]:=rfl
def iV:tks b++tks bu=tks (b++bu):=by simp [tks]
theorem cW:tks []=[]:=rfl
def cQ(h:b[n]?=some N):(tks b)[n]?=some [.int .i64 N.1,.str N.2.1,.int .i64 N.2.2]:=by simp [tks,tkR,h]
def cH(l:List (List UInt8)):List (List AV):=l.map λs=>[.str s]
def dG:(cH dt).length=dt.length:=by simp [cH]
def gQ(h:dt[n]?=some K):(cH dt)[n]?=some [.str K]:=by simp [cH,h]
def CD(a b:Int)(g:1<=b):(if a.tmod b<0 then a.tmod b+b else a.tmod b)=a % b:=by
 have e:=Int.tmod_eq_emod (a:=a) (b:=b);have d:=ao0 a (by omega:b≠0);have f:=am3 a (by omega:0<b);have hd:¬ (0<=a\/b ∣ a)->a % b≠0:=λh c=>h (.inr (Int.dvd_of_emod_eq_zero c))
 by_cases h:0<=a\/b ∣ a
 ·rw[iw h] at e
  rw[e];rw[ie (by omega)];omega
 ·rw[ie h] at e
  have:=hd h
  rw[e];rw[iw (by omega)];omega
def Y9(a b:Int)(c:1<=b):-b<a.tmod b/\a.tmod b<b:=by
 have:=CD a b c
 have d:=ao0 a (by omega:b≠0);have e:=am3 a (by omega:0<b);have f:=Int.lt_tmod_of_pos a (by omega:0<b);have g:=Int.tmod_lt_of_pos a (by omega:0<b);omega
def c18(b:Int)(a:1<=b)(d:b<=1000000):G0 101 [.int .i64 k,.int .i64 b] []=some (.int .i64 (k % b),[]):=by
 refine aA Gq ?_;have c:¬ b=0:=by omega
 have e:=Y9 k b a;rw[<- CD k b a];simp only[Gq,go_sem,c];split
 ·rw[w6 (by omega)]
 ·rfl
def fG(l:List Int):List (List AV):=l.map λx=>[.int .i64 x]
def eE:(fG L).length=L.length:=by simp [fG]
def qQ(h:L[n]?=some k):(fG L)[n]?=some [.int .i64 k]:=by simp [fG,h]
theorem VX:fG []=[]:=rfl
def num(l:List Int)(n:Nat):List AV:=[.sl .no 1 (fG l),.int .i64 n]
def nxt(l:List Int)(n:Nat)(m:Int):Int:=(if n<l.length then l.getD n 0 else 0) % m
def jL(l:List Int)(n:Nat)(m:Int)(h:1<=m):0<=nxt l n m/\nxt l n m<m:=⟨ao0 _ (by omega),am3 _ (by omega)⟩
def c41(l:List Int)(n:Nat)(m:Int)(i:n<=1000000)(e:1<=m)(f:m<=1000000):G0 57 [.ptr 0 0,.int .i64 m] [num l n]=some (.int .i64 (nxt l n m),[num l (n+1)]):=by
 refine aA F57 ?_;have g:=wI (n:=n) (by omega)
 have d:0<=(n:Int):=by omega
 have a:fF false 1 [[.sl .no 1 (fG l),.int .i64 (n+1:Nat)]]=true:=rfl;by_cases b:n<l.length
 ·have c:(n:Int)<l.length:=by omega
  have h:=qQ (L:=l) (n:=n) (k:=l.getD n 0) (by simp [ki,b]);simp only[F57,go_sem,num,eE,c,d,h,g,c18 m e f,nxt,b,a]
 ·have c:¬ (n:Int)<l.length:=by omega
  simp only[F57,go_sem,num,eE,c,d,g,c18 m e f,nxt,b,a]
def wds:List (List UInt8):=[[114,101,100],[99,97,114],[82,101,100],[97],[99,97,114,115],[49,44,53],[50,50],[100,111,110,39,116],[46],[33],[32],[32,32],[60],[38],[123],[34],[92],[120,45,121],[10],[61],[125],[62],[9],[98]]
def wd(l:List Int)(n:Nat):List UInt8:=wds.getD (nxt l n 24).toNat []
def RY(n:Nat):(wd L n).length<=5:=by
 unfold wd
 have:∀ i,(wds.getD i []).length<=5:=by
  intro i;by_cases h:i<24
  ·have:∀ j:Fin 24,(wds.getD j.1 []).length<=5:=by decide
   exact this ⟨i,h⟩
  ·rw[ki,ls (by simp [wds];omega)];simp
 exact this _
def lnF(l:List Int):Nat->Nat->List UInt8->List UInt8×Nat
 | 0,n,out=>(out,n)
 | i+1,n,out=>if out=[] then lnF l i (n+1) (out++wd l n) else lnF l i (n+2) ((if 0<nxt l (n+1) 3 then out++[32] else out)++wd l n)
def AG(l:List Int)(n:Nat)(m:Int):List UInt8×Nat:=lnF l (nxt l n (m+1)).toNat (n+1) []
def ES(l:List Int):∀ (k n:Nat) (out:List UInt8),(lnF l k n out).1.length<=out.length+6*k
 | 0,n,out=>by simp [lnF]
 | k+1,n,out=>by
  have a:=RY (L:=l) n;simp only[lnF];split
  ·have:=ES l k (n+1) (out++wd l n);rw[jb] at this;omega
  ·have:=ES l k (n+2) ((if 0<nxt l (n+1) 3 then out++[32] else out)++wd l n)
   rw[jb] at this
   split at this
   ·rename_i h;rw[iw h];simp only[jb,jd,jz] at *;omega
   ·rename_i h;rw[ie h];omega
def fl(l:List Tk):List AV:=(tks l).flatten
def i5(x y:List Tk):fl (x++y)=fl x++fl y:=by simp [fl,tks]
theorem E9:fl [N]=[.int .i64 N.1,.str N.2.1,.int .i64 N.2.2]:=rfl
theorem mI:fl (N::b)=.int .i64 N.1::.str N.2.1::.int .i64 N.2.2::fl b:=rfl
def fH:∀ l:List Tk,(fl l).length=l.length*3
 | []=>rfl
 | t::l=>by rw[mI];simp only[jd,fH l];omega
def kV:∀ l:List Tk,(fl l).all iE=true
 | []=>rfl
 | t::l=>by rw[mI];simp only[ad0,kV l,iE,Lb]
def g9(l:List Tk):bX (fl l)=true:=by
 cases l with
 | nil=>rfl
 | cons a l=>rfl
def rK(o:List Tk)(t:Tk)(j:Nat):(fl (o++[t]))[o.length*3+j]?=[AV.int .i64 t.1,.str t.2.1,.int .i64 t.2.2][j]?:=by
 rw[i5,E9,ky (by rw[fH];omega),fH]
 congr 1;omega
def WN(t u:Tk):kL (b.length*3) [AV.int .i64 u.1,.str u.2.1,.int .i64 u.2.2] (fl (b++[t]))=some (fl (b++[u])):=by
 have:∀ (a:List AV),kL a.length [AV.int .i64 u.1,.str u.2.1,.int .i64 u.2.2] (a++[AV.int .i64 t.1,.str t.2.1,.int .i64 t.2.2])=some (a++[AV.int .i64 u.1,.str u.2.1,.int .i64 u.2.2]):=by
  intro a
  induction a with
  | nil=>rfl
  | cons x a c=>simp only[jd,ko,zV,c,jq]
 have h:=this (fl b);rw[fH] at h;rw[i5,E9,i5,E9];exact h
def zM(l:List Tk):dE 0 l.length 3 (fl l)=some (tks l):=by
 have c:∀ l:List Tk,(fl l).all (λx=>aQ (aJ x))=true:=by
  intro l
  induction l with
  | nil=>rfl
  | cons a l b=>rw[mI];simp only[ad0,ir];exact⟨rfl,rfl,rfl,b⟩
 have d:∀ l:List Tk,(fl l).map aJ=fl l:=by
  intro l
  induction l with
  | nil=>rfl
  | cons a l b=>rw[mI];simp only[ju,b,aJ]
 have e:∀ l:List Tk,cP 3 l.length (fl l)=tks l:=by
  intro l
  induction l with
  | nil=>rfl
  | cons a l b=>rw[mI];simp only[jd,cP,qb,Tv,ab8,kc,b];rfl
 unfold dE;have f:((fl l).drop 0).take (l.length*3)=fl l:=by rw[kc];exact Ty (by rw[fH];exact ji _)
 rw[f,d,e,iw ⟨by decide,by rw[fH];omega,c l⟩]
def tot(l:List Tk):Nat:=(l.map λt=>t.2.1.length).sum
theorem bZ:tot []=0:=rfl
def aN:tot (N::b)=N.2.1.length+tot b:=by simp [tot]
def cN:tot (b++bu)=tot b+tot bu:=by simp [tot]
def o9(f:List It)(x:It):tot (pn f x)<=tot f+x.2.1.length/\(pn f x).length<=f.length+1:=by
 refine⟨?_,(VG (e:=f) x).2⟩;unfold pn;by_cases h:x.1=1
 ·rw[iw h]
  split
  ·omega
  ·rcases iB (e:=f) (s:=(1,x.2.1,0)) rfl with ⟨_,a⟩ | ⟨g,y,rfl,b,a⟩
   ·rw[a,cN];simp [tot]
   ·rw[a,cN,cN];simp [tot];omega
 ·rw[ie h,cN];simp [tot]
def Stt(v:AV)(sh:LL)(out:List Tk):Prop:=
 (out=[]/\v=.sl .full 3 []/\sh=[])\/(∃ D o t,out=o++[t]/\v=.ss D.length 0 (o.length+1) 3/\sh=D++[fl (o++[t])])
def gD:(bd++[f])[bd.length]?=some f:=by simp
def sD(bh:List AV):(bd++[f]).set bd.length bh=bd++[bh]:=by
 rw[ae1 _ _ (ji _)];simp
theorem G2:pn e (1,[],k)=e:=rfl
def UG(h:¬ k=1):pn e (k,u,D)=e++[(k,u,D)]:=by unfold pn;rw[ie h]
def GZ(h:u≠[]):pn [] (1,u,k)=[(1,u,0)]:=by simp [pn,h,Nt.put]
def NF(h:u≠[])(a:de.1=1):pn (e++[de]) (1,u,k)=e++[(1,de.2.1++u,0)]:=by simp [pn,h,Nt.put,a]
def UH(h:u≠[])(a:¬ de.1=1):pn (e++[de]) (1,u,k)=e++[de]++[(1,u,0)]:=by simp [pn,h,Nt.put,a]
def l57(f:List Tk)(y:f.length<=100000):∀ (k i:Nat) (out:List Tk) (v:AV) (sh:LL),i+k=f.length->out.length<=i->tot out+tot (f.drop i)<=1000000->Stt v sh out ->
  ∃ c sh',Stt c sh' ((f.drop i).foldl pn out) /\
   aC G0 lY (ST [(0,.sl .no 3 (tks f)),(3,v),(8,.int .i64 f.length),(9,.int .i64 i)] [] sh)=some (.ex 0,ST [(0,.sl .no 3 (tks f)),(3,c),(8,.int .i64 f.length),(9,.int .i64 f.length),(10,.bool false)] [] sh')
 | 0,i,out,v,sh,J,m,x,a=>by
  have:i=f.length:=by omega
  subst this;refine⟨v,sh,by rw[af2 (ji _)];exact a,?_⟩;rcases a with ⟨rfl,rfl,rfl⟩ | ⟨D,o,t,rfl,rfl,rfl⟩
  ·rw[aB lY rfl]
   simp only[go_sem,jm]
  ·rw[aB lY rfl]
   simp only[go_sem,jm]
 | k+1,i,out,v,sh,J,m,x,a=>by
  have hi:i<f.length:=by omega
  have p:(i:Int)<f.length:=by omega
  have l:0<=(i:Int):=by omega
  have w:=wI (n:=i) (by omega)
  have hg:f[i]?=some f[i]:=ii hi;have hd:f.drop i=f[i]::f.drop (i+1):=je hi;generalize f[i]=T at hg hd;have u:=cQ hg;obtain⟨kk,s,id⟩:=T;rw[hd] at x ⊢;rw[aN] at x;simp only[ac6];simp only[] at x;by_cases c1:kk=1
  ·by_cases c2:s=[]
   ·subst c1 c2
    rw[G2];obtain⟨c,sh',e,d⟩:=l57 f y k (i+1) out v sh (by omega) (by omega) (by simp only[jz] at x;omega) a;refine⟨c,sh',e,?_⟩;rcases a with ⟨rfl,rfl,rfl⟩ | ⟨D,o,t,rfl,rfl,rfl⟩
    ·rw[aB lY rfl]
     simp only[go_sem,p,l,u,w];exact d
    ·rw[aB lY rfl]
     simp only[go_sem,p,l,u,w];exact d
   ·subst c1
    have r:(s==[])=false:=by simp [c2]
    rcases a with ⟨rfl,rfl,rfl⟩ | ⟨D,o,t,rfl,rfl,rfl⟩
    ·rw[GZ c2]
     obtain⟨c,sh',e,d⟩:=l57 f y k (i+1) [(1,s,0)] (.ss 0 0 1 3) [fl [(1,s,0)]] (by omega) (by simp) (by simp only[aN,bZ] at *;first | done | omega) (.inr ⟨[],[],(1,s,0),rfl,rfl,rfl⟩);refine⟨c,sh',e,?_⟩;have q:aU 32 1=true:=aL (by decide) (by decide);rw[aB lY rfl];simp only[go_sem,p,l,u,w,r,q,jm];exact d
    ·have j:(0:Int)<((o.length+1:Nat):Int):=by omega
     have C:((o.length:Nat):Int)<((o.length+1:Nat):Int):=by omega
     have B:(0:Int)<=((o.length:Nat):Int):=by omega
     have E:IntKind.i64.wrap (((o.length+1:Nat):Int)-1)=(o.length:Nat):=by rw[w64 (by omega) (by simp at m;omega)];omega
     have g:(fl (o++[t]))[o.length*3]?=some (.int .i64 t.1):=rK o t 0;have h:(fl (o++[t]))[o.length*3+1]?=some (.str t.2.1):=rK o t 1;by_cases c3:t.1=1
     ·rw[NF c2 c3]
      have K:t.2.1.length+s.length<=140737488355328:=by simp only[cN,aN,bZ] at x;omega
      have A:=g9 (o++[t]);have L:kL (o.length*3) [.int .i64 1,.str (t.2.1++s),.int .i64 0] (fl (o++[t]))=some (fl (o++[(1,t.2.1++s,0)])):=WN (b:=o) t (1,t.2.1++s,0);obtain⟨c,sh',e,d⟩:=l57 f y k (i+1) (o++[(1,t.2.1++s,0)]) (.ss D.length 0 (o.length+1) 3) (D++[fl (o++[(1,t.2.1++s,0)])]) (by omega) (by simp at m ⊢;omega) (by simp only[cN,aN,bZ,jb] at *;omega) (.inr ⟨D,o,_,rfl,rfl,rfl⟩);refine⟨c,sh',e,?_⟩;rw[aB lY rfl];simp only[go_sem,p,l,u,w,r,j,C,B,E,gD,sD,g,h,c3,rh,K,A,L];exact d
     ·rw[UH c2 c3]
      have H:(o.length+1)*3=(fl (o++[t])).length:=by rw[fH];simp
      have q:aU 32 (o.length+1+1)=true:=aL (by decide) (by simp at m;omega);have A:=g9 (o++[t]);have I:=kV (o++[t]);have F:fl (o++[t])++[[AV.int .i64 1,.str s,.int .i64 0]].flatten=fl (o++[t]++[(1,s,0)]):=by rw[i5 (o++[t])];rfl
      have G:(D++[fl (o++[t])]).length=(D++[aO]).length:=by simp
      obtain⟨c,sh',e,d⟩:=l57 f y k (i+1) (o++[t]++[(1,s,0)]) (.ss (D++[aO]).length 0 (o.length+1+1) 3) ((D++[aO])++[fl (o++[t]++[(1,s,0)])]) (by omega) (by simp at m ⊢;omega) (by simp only[cN,aN,bZ] at *;omega) (.inr ⟨D++[aO],o++[t],(1,s,0),rfl,by simp,rfl⟩);refine⟨c,sh',e,?_⟩;rw[aB lY rfl];simp only[go_sem,p,l,u,w,r,j,C,B,E,gD,sD,g,h,c3,rh,q,A,I,H,G];rw[F];exact d
  ·rw[UG c1]
   rcases a with ⟨rfl,rfl,rfl⟩ | ⟨D,o,t,rfl,rfl,rfl⟩
   ·rw[kg]
    obtain⟨c,sh',e,d⟩:=l57 f y k (i+1) [(kk,s,id)] (.ss 0 0 1 3) [fl [(kk,s,id)]] (by omega) (by simp) (by simp only[aN,bZ] at *;first | done | omega) (.inr ⟨[],[],(kk,s,id),rfl,rfl,rfl⟩);refine⟨c,sh',e,?_⟩;have q:aU 32 1=true:=aL (by decide) (by decide);rw[aB lY rfl];simp only[go_sem,p,l,u,w,c1,q];exact d
   ·have H:(o.length+1)*3=(fl (o++[t])).length:=by rw[fH];simp
    have q:aU 32 (o.length+1+1)=true:=aL (by decide) (by simp at m;omega);have A:=g9 (o++[t]);have I:=kV (o++[t]);have F:fl (o++[t])++[[AV.int .i64 kk,.str s,.int .i64 id]].flatten=fl (o++[t]++[(kk,s,id)]):=by rw[i5 (o++[t])];rfl
    have G:(D++[fl (o++[t])]).length=(D++[aO]).length:=by simp
    obtain⟨c,sh',e,d⟩:=l57 f y k (i+1) (o++[t]++[(kk,s,id)]) (.ss (D++[aO]).length 0 (o.length+1+1) 3) ((D++[aO])++[fl (o++[t]++[(kk,s,id)])]) (by omega) (by simp at m ⊢;omega) (by simp only[cN,aN,bZ] at *;omega) (.inr ⟨D++[aO],o++[t],(kk,s,id),rfl,by simp,rfl⟩);refine⟨c,sh',e,?_⟩;rw[aB lY rfl];simp only[go_sem,p,l,u,w,c1,gD,sD,q,A,I,H,G];rw[F];exact d
def c57(e:b.length<=100000)(i:tot b<=1000000):G0 192 [.sl .no 3 (tks b)] []=some (.sl .no 3 (tks (nrm b)),[]):=by
 obtain⟨v,sh,a,c⟩:=l57 b e b.length 0 [] (.sl .full 3 []) [] (by omega) (by simp) (by rw[kc,bZ];omega) (.inl ⟨rfl,rfl,rfl⟩);rw[kc] at a;have a:Stt v sh (nrm b):=a;generalize nrm b=g at a ⊢;refine aA tj ?_;simp only[go_sem] at c;rcases a with ⟨rfl,rfl,rfl⟩ | ⟨D,o,t,rfl,rfl,rfl⟩
 ·simp only[tj,go_sem,aD,c,cW]
 ·have d:=zM (o++[t])
  simp only[jb,jd,jz,km] at d;have h:dW [] (D++[fl (o++[t])])=true:=rfl;have f:fF false 0 (D++[fl (o++[t])])=true:=rfl;simp only[tj,go_sem,aD,c,gD,d,h,f,lv]
def c37(g:List Tk)(d:b.length+g.length<=100000)(e:tot b+tot g<=1000000):G0 150 [.sl .no 3 (tks b),.sl .no 3 (tks g)] []=some (.sl .no 3 (tks (nrm (b++g))),[]):=by
 have f:=c57 (b:=b++g) (by simpa using d) (by rw[cN];exact e);refine aA Fw ?_;have c:aU 32 b.length=true:=aL (by decide) (by omega);have a:aU 32 (b.length+g.length)=true:=aL (by decide) (by omega);simp only[Fw,go_sem,bJ .full .no (by decide) 3 32 (by decide),bJ .own .no (by decide) 3 32 (by decide),aD,c,a,iV,f]
def qu(a:VL b)(x:Tk)(c:b.length<=10000)(d:tot b+x.2.1.length<=100000):G0 150 [.sl .no 3 (tks b),.sl .no 3 [[.int .i64 x.1,.str x.2.1,.int .i64 x.2.2]]] []=some (.sl .no 3 (tks (pn b x)),[]):=by
 have:=c37 (b:=b) [x] (by simp only[jd,jz];omega) (by rw[aN,bZ];omega)
 rw[HH a] at this;exact this
def U9(l:List Int):∀ (k n:Nat) (out:List UInt8),(lnF l k n out).2<=n+2*k
 | 0,n,out=>by simp [lnF]
 | k+1,n,out=>by
  simp only[lnF];split
  ·have:=U9 l k (n+1) (out++wd l n);omega
  ·have:=U9 l k (n+2) ((if 0<nxt l (n+1) 3 then out++[32] else out)++wd l n);omega
def Nq:(AG L n 3).1.length<=18/\(AG L n 3).2<=n+10:=by
 have c:=jL L n 4 (by omega);have a:=ES L (nxt L n 4).toNat (n+1) [];have b:=U9 L (nxt L n 4).toNat (n+1) [];simp only[jz] at a;show (lnF L (nxt L n 4).toNat (n+1) []).1.length<=18/\(lnF L (nxt L n 4).toNat (n+1) []).2<=n+10;omega
def tbA:List (List UInt8):=[[110],[110,97,109,101],[120,49]]
def tbB:List (List UInt8):=[[98,114],[105,109,103,32,97]]
def tbC:List (List UInt8):=[[98],[105],[97,32,104,61,49]]
def SH(b:∀ i,(dt.getD i []).length<=5)(l:List Int)(n:Nat)(m:Int)(c:1<=m)(h:m=(dt.length:Int)):∃ x:List UInt8,x∈dt/\x.length<=5/\(cH dt)[(nxt l n m).toNat]?=some [.str x]/\0<=nxt l n m:=by
 have a:=jL l n m c;refine⟨dt.getD (nxt l n m).toNat [],?_,b _,?_,a.1⟩
 ·rw[ki,ii (by omega)];exact xd _
 apply gQ;rw[ki,ii (by omega)];rfl
def Ym:∀ i,(tbA.getD i []).length<=5
 | 0=>by decide
 | 1=>by decide
 | 2=>by decide
 | i+3=>by simp [tbA]
def Yl:∀ i,(tbB.getD i []).length<=5
 | 0=>by decide
 | 1=>by decide
 | i+2=>by simp [tbB]
def Yk:∀ i,(tbC.getD i []).length<=5
 | 0=>by decide
 | 1=>by decide
 | 2=>by decide
 | i+3=>by simp [tbC]
def zc:∀ x∈tbA,cU x=true:=by decide
def Kn:∀ x∈tbB,isC x=true:=by decide
def Km:∀ x∈tbC,isC x=true:=by decide
def zL{j:Nat}(h:b[j]?=some N):b=b.take j++N::b.drop (j+1):=by
 have a:j<b.length:=by
  by_cases q:j<b.length
  ·exact q
  ·rw[ls (by omega)] at h;cases h
 rw[ii a] at h;simp only[jc] at h
 conv=>lhs;rw[<- ye j b,je a,h]
def VH:∀ f:List Tk,len f<=tot f+f.length
 | []=>by simp [len,tot]
 | t::f=>by
  have b:=VH f;have e:len (t::f)=wid t+len f:=by simp [len]
  have a:wid t<=t.2.1.length+1:=by unfold wid;split<;>omega
  rw[e,aN,jd];omega
theorem mA:gX 1 [.str []] 3 [0,1,2] [.str [110],.str [110,97,109,101],.str [120,49]]=some (.sl .full 1 (cH tbA)):=by rfl
theorem mB:gX 1 [.str []] 2 [0,1] [.str [98,114],.str [105,109,103,32,97]]=some (.sl .full 1 (cH tbB)):=by rfl
theorem mC:gX 1 [.str []] 3 [0,1,2] [.str [98],.str [105],.str [97,32,104,61,49]]=some (.sl .full 1 (cH tbC)):=by rfl
theorem mS(l:List Int)(n:Nat):fF false 1 [num l n]=true:=rfl
def AH:len (N::b)=wid N+len b:=by simp [len]
theorem N0:len []=0:=rfl
abbrev eZ:Nat:=140737488355328
def l67(f:List Tk)(m:f.length<=10000)(b:∀ t∈f,t.2.1.length<=eZ):∀ (k i n:Nat),i+k=f.length->n<=i*eZ ->
  aC G0 PP (ST [(3,.int .i64 n),(6,.sl .no 3 (tks f)),(7,.int .i64 f.length),(8,.int .i64 i)] [] [])=some (.ex 0,ST [(3,.int .i64 ((n+len (f.drop i):Nat):Int)),(6,.sl .no 3 (tks f)),(7,.int .i64 f.length),(8,.int .i64 f.length),(9,.bool false)] [] [])
 | 0,i,n,h,o=>by
  have:i=f.length:=by omega
  subst this;rw[aB PP rfl];simp only[go_sem,jm,lb,N0,rh]
 | k+1,i,n,h,o=>by
  have hi:i<f.length:=by omega
  have l:(i:Int)<f.length:=by omega
  have j:0<=(i:Int):=by omega
  have p:=wI (n:=i) (by omega)
  have hg:f[i]?=some f[i]:=ii hi;have hd:f.drop i=f[i]::f.drop (i+1):=je hi;have c:=b _ (xd hi);generalize f[i]=T at hg hd c;have d:=cQ hg;obtain⟨kk,s,id⟩:=T;simp only[] at c d;have c96:=c96 kk s id;have q:wid (kk,s,id)<=s.length+1:=by unfold wid;split<;>(first | omega | (simp only[];omega))
  have e:wid (kk,s,id)<=eZ:=by unfold wid eZ;split<;>(first | omega | (simp only[];omega))
  rw[hd,AH];generalize wid (kk,s,id)=w at *;simp only[eZ] at *;have a:IntKind.i64.wrap ((n:Int)+(w:Int))=(n+w:Nat):=by rw[w6 (by omega)];rfl
  have g:=l67 f m b k (i+1) (n+w) (by omega) (by simp only[eZ];omega);rw[aB PP rfl];simp only[go_sem,l,j,d,p,c96,a];rw[La] at g;exact g
def c67(f:List Tk)(c:f.length<=10000)(b:∀ t∈f,t.2.1.length<=eZ):G0 45 [.sl .no 3 (tks f)] []=some (.int .i64 (len f:Nat),[]):=by
 refine aA F45 ?_;have x:=l67 f c b f.length 0 0 (by omega) (by omega);have a:((0:Nat):Int)=0:=rfl;rw[a] at x;simp only[km,kc] at x;simp only[F45,go_sem,aD,x]
def l15(f:List Tk)(m:f.length<=10000)(c:∀ t∈f,t.2.1.length<=eZ):∀ (k i n:Nat),i+k=f.length->n<=i*eZ ->
  aC G0 BO (ST [(0,.sl .no 3 (tks f)),(3,.int .i64 n),(6,.int .i64 f.length),(7,.int .i64 i)] [] [])=some (.ex 0,ST [(0,.sl .no 3 (tks f)),(3,.int .i64 ((n+len (f.drop i):Nat):Int)),(6,.int .i64 f.length),(7,.int .i64 f.length),(8,.bool false)] [] [])
 | 0,i,n,h,q=>by
  have:i=f.length:=by omega
  subst this;rw[aB BO rfl];simp only[go_sem,jm,lb,N0,rh]
 | k+1,i,n,h,q=>by
  have hi:i<f.length:=by omega
  have l:(i:Int)<f.length:=by omega
  have j:0<=(i:Int):=by omega
  have p:=wI (n:=i) (by omega)
  have hg:f[i]?=some f[i]:=ii hi;have hd:f.drop i=f[i]::f.drop (i+1):=je hi;have o:=c _ (xd hi);generalize f[i]=T at hg hd o;have g:=cQ hg;obtain⟨kk,s,id⟩:=T;simp only[] at o g;rw[hd,AH];simp only[eZ] at *;by_cases d:kk=1
  ·subst d
   have e:wid (1,s,id)=s.length:=rfl;have a:IntKind.i64.wrap ((n:Int)+(s.length:Int))=(n+s.length:Nat):=by rw[w6 (by omega)];rfl
   have b:=l15 f m c k (i+1) (n+s.length) (by omega) (by simp only[eZ];omega);rw[aB BO rfl,e];simp only[go_sem,l,j,g,p,a];rw[La] at b;exact b
  ·have e:wid (kk,s,id)=1:=by unfold wid;rw[ie d]
   have a:=wI (n:=n) (by omega)
   have b:=l15 f m c k (i+1) (n+1) (by omega) (by simp only[eZ];omega);rw[aB BO rfl,e];simp only[go_sem,l,j,g,p,d,a];rw[La] at b;exact b
def c15(f:List Tk)(c:f.length<=10000)(b:∀ t∈f,t.2.1.length<=eZ):G0 144 [.sl .no 3 (tks f)] []=some (.int .i64 (len f:Nat),[]):=by
 refine aA Fz ?_;have x:=l15 f c b f.length 0 0 (by omega) (by omega);have a:((0:Nat):Int)=0:=rfl;rw[a] at x;simp only[km,kc] at x;simp only[Fz,go_sem,aD,x]
def l70(B:List Tk)(x:B.length<=1000000)(r:∀ t∈B,t.1=2->t.2.1.length<=1000000)(a:Int)(s0:Bs)(i0:Int):∀ (k i:Nat),i+k=B.length ->
  ((B.drop i).any (dU (a,s0,i0))=false->aC G0 m7 (ST [(3,.loc 3 0),(7,.sl .no 3 (tks B)),(8,.int .i64 B.length),(9,.int .i64 i)] [(3,some [.int .i64 a,.str s0,.int .i64 i0])] [])=some (.ex 0,ST [(3,.loc 3 0),(7,.sl .no 3 (tks B)),(8,.int .i64 B.length),(9,.int .i64 B.length),(10,.bool false)] [(3,some [.int .i64 a,.str s0,.int .i64 i0])] [])) /\
  ((B.drop i).any (dU (a,s0,i0))=true->∃ v m',aC G0 m7 (ST [(3,.loc 3 0),(7,.sl .no 3 (tks B)),(8,.int .i64 B.length),(9,.int .i64 i)] [(3,some [.int .i64 a,.str s0,.int .i64 i0])] [])=some (.ret,ST v m' [])/\aF .any v 4=.bool false)
 | 0,i,h=>by
  have:i=B.length:=by omega
  subst this;refine⟨λ_=>?_,λh=>(by simp at h)⟩;rw[aB m7 rfl];simp only[go_sem,jm]
 | k+1,i,h=>by
  have hi:i<B.length:=by omega
  have f:(i:Int)<B.length:=by omega
  have d:0<=(i:Int):=by omega
  have g:=wI (n:=i) (by omega)
  have hg:B[i]?=some B[i]:=ii hi;have hd:B.drop i=B[i]::B.drop (i+1):=je hi;have l:=r _ (xd hi);generalize B[i]=T at hg hd l;have c:=cQ hg;obtain⟨kk,s,id⟩:=T;simp only[] at l c;have c69:=c69 kk s id;have y:=l70 B x r a s0 i0 k (i+1) (by omega);rw[hd,any_cons];have o:dU (a,s0,i0) (kk,s,id)=(bC (kk,s,id)&&decide (id=i0)&&!(decide (a=3)&&decide (kk=2)&&(aH s==s0))):=rfl;have step:dU (a,s0,i0) (kk,s,id)=false->aC G0 m7 (ST [(3,.loc 3 0),(7,.sl .no 3 (tks B)),(8,.int .i64 B.length),(9,.int .i64 i)] [(3,some [.int .i64 a,.str s0,.int .i64 i0])] [])=aC G0 m7 (ST [(3,.loc 3 0),(7,.sl .no 3 (tks B)),(8,.int .i64 B.length),(9,.int .i64 (i+1:Nat))] [(3,some [.int .i64 a,.str s0,.int .i64 i0])] []):=by
   intro b;rw[o] at b
   conv=>lhs;rw[aB m7 rfl]
   cases m:bC (kk,s,id) with
   | false =>
    rw[m] at c69;simp only[go_sem,f,d,c,g,c69]
   | true =>
    rw[m] at c69 b;by_cases j:id=i0
    ·subst j
     simp only[ms,jx,ah0,ir,jo,Lh] at b;obtain⟨⟨rfl,rfl⟩,w⟩:=b;have c98:=c98 s (l rfl);rw[w] at c98;have e:(s0 != s0)=false:=by simp
     simp only[go_sem,f,d,c,g,c69,c98,e]
    ·simp only[go_sem,f,d,c,g,c69,j]
  cases b:dU (a,s0,i0) (kk,s,id) with
  | false =>
   rw[step b,ys];exact y
  | true =>
   rw[aa3];refine⟨λq=>(by cases q),λ_=>?_⟩;rw[o] at b;simp only[ir,jo,aa8] at b;obtain⟨⟨m,rfl⟩,u⟩:=b;rw[m] at c69;by_cases j:a=3
   ·subst j
    by_cases p:kk=2
    ·subst p
     have c98:=c98 s (l rfl);simp only[ms,jx,aa4] at u;have e:(aH s != s0)=true:=by simp [u]
     refine Exists.intro ?_ (Exists.intro ?_ (And.intro ?_ ?_))
     rotate_left 2
     ·rw[aB m7 rfl]
      simp only[go_sem,f,d,c,g,c69,c98,e];rfl
     ·rfl
    ·refine Exists.intro ?_ (Exists.intro ?_ (And.intro ?_ ?_))
     rotate_left 2
     ·rw[aB m7 rfl]
      simp only[go_sem,f,d,c,g,c69,p];rfl
     ·rfl
   ·refine Exists.intro ?_ (Exists.intro ?_ (And.intro ?_ ?_))
    rotate_left 2
    ·rw[aB m7 rfl]
     simp only[go_sem,f,d,c,g,c69,j];rfl
    ·rfl
def c70(B:List Tk)(f:B.length<=1000000)(e:∀ t∈B,t.1=2->t.2.1.length<=1000000)(a:Int)(s0:Bs)(i0:Int):G0 108 [.sl .no 3 (tks B),.agg [.int .i64 a,.str s0,.int .i64 i0]] []=some (.bool (oV B (a,s0,i0)),[]):=by
 refine aA ue ?_;obtain⟨b,c⟩:=l70 B f e a s0 i0 B.length 0 (by omega);have d:((0:Nat):Int)=0:=rfl;rw[kc,d] at b c;unfold oV;cases h:B.any (dU (a,s0,i0)) with
 | false=>simp only[ue,go_sem,aD,b h]
 | true =>
  obtain⟨j,m',g,i⟩:=c h;simp only[ue,go_sem,aD,g,i]
def K1(h:b[n]?=some N):cX (b.take (n+1))=N.1:=by
 have hi:n<b.length:=by
  by_cases q:n<b.length
  ·exact q
  ·rw[ls (by omega)] at h;cases h
 rw[ii hi] at h;simp only[jc] at h;rw[af1 hi,h,dB]
def uN(h:i≠[]):(i != ([]:Bs))=true:=by simp [h]
def u0(h:i≠[]):(i==([]:Bs))=false:=by simp [h]
def c68(f:List Tk)(E:f.length<=1000000)(i:Nat)(k:Int)(s:Bs)(id:Int)(hi:f[i]?=some (k,s,id)):G0 107 [.sl .no 3 (tks f),.int .i64 i] []=some (.bool (wfB (f.take i) (k,s,id)),[]):=by
 refine aA oQ ?_;have c:0<=(i:Int):=by omega
 have B:i<f.length:=by
  by_cases q:i<f.length
  ·exact q
  ·rw[ls (by omega)] at hi;cases hi
 have b:=cQ hi;simp only[] at b;have D:((([]:Bs) != ([]:Bs))=false):=rfl;by_cases u:k=1
 ·subst u
  by_cases m:s=[]
  ·subst m
   have e:wfB (f.take i) (1,[],id)=false:=rfl;rw[e];simp only[oQ,go_sem,c,b,D]
  by_cases d:id=0
  ·subst d
   cases i with
   | zero =>
    have e:wfB (f.take 0) (1,s,0)=true:=by simp [wfB,m,cX]
    rw[e];have C:((0:Nat):Int)=0:=rfl;rw[C] at *;have b:(tks f)[0]?=some [.int .i64 1,.str s,.int .i64 0]:=b;simp only[oQ,go_sem,c,b,uN m]
   | succ j =>
    have hg:f[j]?=some f[j]:=ii (by omega);generalize f[j]=Y at hg;have n:=cQ hg;have x:=K1 hg;have n0:¬ ((j+1:Nat):Int)=0:=by omega
    have A:IntKind.i64.wrap (((j+1:Nat):Int)-1)=(j:Int):=by rw[w6 (by omega)];omega
    have y:0<=(j:Int):=by omega
    by_cases h:Y.1=1
    ·have e:wfB (f.take (j+1)) (1,s,0)=false:=by simp [wfB,x,h]
     rw[e];simp only[oQ,go_sem,c,b,uN m,n0,A,y,n,h]
    ·have e:wfB (f.take (j+1)) (1,s,0)=true:=by simp [wfB,x,h,m]
     rw[e];simp only[oQ,go_sem,c,b,uN m,n0,A,y,n,h]
  ·have e:wfB (f.take i) (1,s,id)=false:=by simp [wfB,d]
   rw[e];simp only[oQ,go_sem,c,b,uN m,d]
 by_cases w:k=5
 ·subst w
  have e:wfB (f.take i) (5,s,id)=(cU s&&decide (id=0)):=rfl;rw[e];have a:=c83 s;cases l:cU s with
  | false =>
   rw[l] at a;simp only[oQ,go_sem,c,b,a,kn]
  | true =>
   rw[l] at a;by_cases d:id=0
   ·simp only[oQ,go_sem,c,b,a,d,jx,ms]
   ·simp only[oQ,go_sem,c,b,a,d,jx,qa]
 by_cases r:k=2\/k=4
 ·have e:wfB (f.take i) (k,s,id)=(isC s&&(decide (1<=id)&&decide (id<=999))):=by rcases r with rfl | rfl<;>rfl
  rw[e];have g:=c97 s;rcases r with rfl | rfl
  all_goals
   cases l:isC s with
   | false =>
    rw[l] at g;simp only[oQ,go_sem,c,b,g,kn]
   | true =>
    rw[l] at g;by_cases d:1<=id
    ·by_cases h:id<=999
     ·simp only[oQ,go_sem,c,b,g,d,h,jx,ms]
     ·simp only[oQ,go_sem,c,b,g,d,h,jx,ms,qa]
    ·simp only[oQ,go_sem,c,b,g,d,jx,qa,kn]
 have o:¬ k=2:=λq=>r (.inl q)
 have p:¬ k=4:=λq=>r (.inr q)
 by_cases v:k=3
 ·subst v
  have e:wfB (f.take i) (3,s,id)=(cU s&&(decide (1<=id)&&decide (id<=999))):=rfl;rw[e];have a:=c83 s;cases l:cU s with
  | false =>
   rw[l] at a;simp only[oQ,go_sem,c,b,a,kn]
  | true =>
   rw[l] at a;by_cases d:1<=id
   ·by_cases h:id<=999
    ·simp only[oQ,go_sem,c,b,a,d,h,jx,ms]
    ·simp only[oQ,go_sem,c,b,a,d,h,jx,ms,qa]
   ·simp only[oQ,go_sem,c,b,a,d,jx,qa,kn]
 ·have e:wfB (f.take i) (k,s,id)=false:=by simp [wfB,u,w,o,p,v]
  rw[e];simp only[oQ,go_sem,c,b,u,w,o,p,v]
def Ol(B:List Tk)(x:B.length<=1000000)(r:∀ t∈B,t.1=2->t.2.1.length<=1000000)(a:Int)(s0:Bs)(i0:Int):∀ (k i:Nat),i+k=B.length ->
  ((B.drop i).any (dU (a,s0,i0))=false->aC G0 f7 (ST [(0,.sl .no 3 (tks B)),(3,.loc 3 0),(8,.int .i64 a),(9,.bool false),(34,.bool false),(45,.bool true),(61,.bool false),(79,.int .i64 B.length),(80,.int .i64 i)] [(3,some [.int .i64 a,.str s0,.int .i64 i0])] [])=some (.ex 1,ST [(0,.sl .no 3 (tks B)),(3,.loc 3 0),(8,.int .i64 a),(9,.bool false),(34,.bool false),(45,.bool true),(61,.bool false),(79,.int .i64 B.length),(80,.int .i64 B.length),(81,.bool false)] [(3,some [.int .i64 a,.str s0,.int .i64 i0])] [])) /\
  ((B.drop i).any (dU (a,s0,i0))=true->∃ v m',aC G0 f7 (ST [(0,.sl .no 3 (tks B)),(3,.loc 3 0),(8,.int .i64 a),(9,.bool false),(34,.bool false),(45,.bool true),(61,.bool false),(79,.int .i64 B.length),(80,.int .i64 i)] [(3,some [.int .i64 a,.str s0,.int .i64 i0])] [])=some (.ret,ST v m' [])/\aF .any v 4=.int .i64 7)
 | 0,i,h=>by
  have:i=B.length:=by omega
  subst this;refine⟨λ_=>?_,λh=>(by simp at h)⟩;rw[aB f7 rfl];simp only[go_sem,jm]
 | k+1,i,h=>by
  have hi:i<B.length:=by omega
  have f:(i:Int)<B.length:=by omega
  have d:0<=(i:Int):=by omega
  have g:=wI (n:=i) (by omega)
  have hg:B[i]?=some B[i]:=ii hi;have hd:B.drop i=B[i]::B.drop (i+1):=je hi;have l:=r _ (xd hi);generalize B[i]=T at hg hd l;have c:=cQ hg;obtain⟨kk,s,id⟩:=T;simp only[] at l c;have c65:=c65 kk s id;have y:=Ol B x r a s0 i0 k (i+1) (by omega);rw[hd,any_cons];have o:dU (a,s0,i0) (kk,s,id)=(bC (kk,s,id)&&decide (id=i0)&&!(decide (a=3)&&decide (kk=2)&&(aH s==s0))):=rfl;have step:dU (a,s0,i0) (kk,s,id)=false->aC G0 f7 (ST [(0,.sl .no 3 (tks B)),(3,.loc 3 0),(8,.int .i64 a),(9,.bool false),(34,.bool false),(45,.bool true),(61,.bool false),(79,.int .i64 B.length),(80,.int .i64 i)] [(3,some [.int .i64 a,.str s0,.int .i64 i0])] [])=aC G0 f7 (ST [(0,.sl .no 3 (tks B)),(3,.loc 3 0),(8,.int .i64 a),(9,.bool false),(34,.bool false),(45,.bool true),(61,.bool false),(79,.int .i64 B.length),(80,.int .i64 (i+1:Nat))] [(3,some [.int .i64 a,.str s0,.int .i64 i0])] []):=by
   intro b;rw[o] at b
   conv=>lhs;rw[aB f7 rfl]
   cases m:bC (kk,s,id) with
   | false =>
    rw[m] at c65;simp only[go_sem,f,d,c,g,c65]
   | true =>
    rw[m] at c65 b;by_cases j:id=i0
    ·subst j
     simp only[ms,jx,ah0,ir,jo,Lh] at b;obtain⟨⟨rfl,rfl⟩,w⟩:=b;have c64:=c64 s (l rfl);rw[w] at c64;have e:(s0 != s0)=false:=by simp
     simp only[go_sem,f,d,c,g,c65,c64,e]
    ·simp only[go_sem,f,d,c,g,c65,j]
  cases b:dU (a,s0,i0) (kk,s,id) with
  | false =>
   rw[step b,ys];exact y
  | true =>
   rw[aa3];refine⟨λq=>(by cases q),λ_=>?_⟩;rw[o] at b;simp only[ir,jo,aa8] at b;obtain⟨⟨m,rfl⟩,u⟩:=b;rw[m] at c65;by_cases j:a=3
   ·subst j
    by_cases p:kk=2
    ·subst p
     have c64:=c64 s (l rfl);simp only[ms,jx,aa4] at u;have e:(aH s != s0)=true:=by simp [u]
     refine Exists.intro ?_ (Exists.intro ?_ (And.intro ?_ ?_))
     rotate_left 2
     ·rw[aB f7 rfl]
      simp only[go_sem,f,d,c,g,c65,c64,e];rfl
     ·rfl
    ·refine Exists.intro ?_ (Exists.intro ?_ (And.intro ?_ ?_))
     rotate_left 2
     ·rw[aB f7 rfl]
      simp only[go_sem,f,d,c,g,c65,p];rfl
     ·rfl
   ·refine Exists.intro ?_ (Exists.intro ?_ (And.intro ?_ ?_))
    rotate_left 2
    ·rw[aB f7 rfl]
     simp only[go_sem,f,d,c,g,c65,j];rfl
    ·rfl
def Oj(B:List Tk)(x:B.length<=1000000)(r:∀ t∈B,t.1=2->t.2.1.length<=1000000)(a:Int)(s0:Bs)(i0:Int):∀ (k i:Nat),i+k=B.length ->
  ((B.drop i).any (dU (a,s0,i0))=false->aC G0 f7 (ST [(0,.sl .no 3 (tks B)),(3,.loc 3 0),(9,.bool false),(34,.bool false),(45,.bool false),(62,.bool true),(77,.bool false),(79,.int .i64 B.length),(80,.int .i64 i)] [(3,some [.int .i64 a,.str s0,.int .i64 i0])] [])=some (.ex 1,ST [(0,.sl .no 3 (tks B)),(3,.loc 3 0),(9,.bool false),(34,.bool false),(45,.bool false),(62,.bool true),(77,.bool false),(79,.int .i64 B.length),(80,.int .i64 B.length),(81,.bool false)] [(3,some [.int .i64 a,.str s0,.int .i64 i0])] [])) /\
  ((B.drop i).any (dU (a,s0,i0))=true->∃ v m',aC G0 f7 (ST [(0,.sl .no 3 (tks B)),(3,.loc 3 0),(9,.bool false),(34,.bool false),(45,.bool false),(62,.bool true),(77,.bool false),(79,.int .i64 B.length),(80,.int .i64 i)] [(3,some [.int .i64 a,.str s0,.int .i64 i0])] [])=some (.ret,ST v m' [])/\aF .any v 4=.int .i64 7)
 | 0,i,h=>by
  have:i=B.length:=by omega
  subst this;refine⟨λ_=>?_,λh=>(by simp at h)⟩;rw[aB f7 rfl];simp only[go_sem,jm]
 | k+1,i,h=>by
  have hi:i<B.length:=by omega
  have f:(i:Int)<B.length:=by omega
  have d:0<=(i:Int):=by omega
  have g:=wI (n:=i) (by omega)
  have hg:B[i]?=some B[i]:=ii hi;have hd:B.drop i=B[i]::B.drop (i+1):=je hi;have l:=r _ (xd hi);generalize B[i]=T at hg hd l;have c:=cQ hg;obtain⟨kk,s,id⟩:=T;simp only[] at l c;have c65:=c65 kk s id;have y:=Oj B x r a s0 i0 k (i+1) (by omega);rw[hd,any_cons];have o:dU (a,s0,i0) (kk,s,id)=(bC (kk,s,id)&&decide (id=i0)&&!(decide (a=3)&&decide (kk=2)&&(aH s==s0))):=rfl;have step:dU (a,s0,i0) (kk,s,id)=false->aC G0 f7 (ST [(0,.sl .no 3 (tks B)),(3,.loc 3 0),(9,.bool false),(34,.bool false),(45,.bool false),(62,.bool true),(77,.bool false),(79,.int .i64 B.length),(80,.int .i64 i)] [(3,some [.int .i64 a,.str s0,.int .i64 i0])] [])=aC G0 f7 (ST [(0,.sl .no 3 (tks B)),(3,.loc 3 0),(9,.bool false),(34,.bool false),(45,.bool false),(62,.bool true),(77,.bool false),(79,.int .i64 B.length),(80,.int .i64 (i+1:Nat))] [(3,some [.int .i64 a,.str s0,.int .i64 i0])] []):=by
   intro b;rw[o] at b
   conv=>lhs;rw[aB f7 rfl]
   cases m:bC (kk,s,id) with
   | false =>
    rw[m] at c65;simp only[go_sem,f,d,c,g,c65]
   | true =>
    rw[m] at c65 b;by_cases j:id=i0
    ·subst j
     simp only[ms,jx,ah0,ir,jo,Lh] at b;obtain⟨⟨rfl,rfl⟩,w⟩:=b;have c64:=c64 s (l rfl);rw[w] at c64;have e:(s0 != s0)=false:=by simp
     simp only[go_sem,f,d,c,g,c65,c64,e]
    ·simp only[go_sem,f,d,c,g,c65,j]
  cases b:dU (a,s0,i0) (kk,s,id) with
  | false =>
   rw[step b,ys];exact y
  | true =>
   rw[aa3];refine⟨λq=>(by cases q),λ_=>?_⟩;rw[o] at b;simp only[ir,jo,aa8] at b;obtain⟨⟨m,rfl⟩,u⟩:=b;rw[m] at c65;by_cases j:a=3
   ·subst j
    by_cases p:kk=2
    ·subst p
     have c64:=c64 s (l rfl);simp only[ms,jx,aa4] at u;have e:(aH s != s0)=true:=by simp [u]
     refine Exists.intro ?_ (Exists.intro ?_ (And.intro ?_ ?_))
     rotate_left 2
     ·rw[aB f7 rfl]
      simp only[go_sem,f,d,c,g,c65,c64,e];rfl
     ·rfl
    ·refine Exists.intro ?_ (Exists.intro ?_ (And.intro ?_ ?_))
     rotate_left 2
     ·rw[aB f7 rfl]
      simp only[go_sem,f,d,c,g,c65,p];rfl
     ·rfl
   ·refine Exists.intro ?_ (Exists.intro ?_ (And.intro ?_ ?_))
    rotate_left 2
    ·rw[aB f7 rfl]
     simp only[go_sem,f,d,c,g,c65,j];rfl
    ·rfl
def c48(B:List Tk)(u:B.length<=1000000)(G:∀ t∈B,t.1=2->t.2.1.length<=1000000)(k:Int)(s:Bs)(id:Int):G0 220 [.sl .no 3 (tks B),.agg [.int .i64 k,.str s,.int .i64 id]] []=some (.int .i64 (chk B (k,s,id)),[]):=by
 refine aA kF ?_;have N:((([]:Bs)==([]:Bs))=true):=rfl;have E:((0:Nat):Int)=0:=rfl;by_cases v:k=1
 ·subst v
  by_cases h:s=[]
  ·subst h
   have e:chk B (1,[],id)=1:=by simp [chk]
   rw[e];simp only[kF,go_sem,N]
  by_cases c:id=0
  ·subst c
   rcases dS B with rfl | ⟨A,Y,rfl⟩
   ·have e:chk [] (1,s,0)=0:=by simp [chk,h,cX]
    rw[e];simp only[kF,go_sem,u0 h,cW,jm]
   ·have j:((tks (A++[Y])).length:Int)=(A.length+1:Nat):=by rw[aD];simp
    have J:(0:Int)<((A.length+1:Nat):Int):=by omega
    have L:A.length<=1000000:=by simp at u;omega
    have K:IntKind.i64.wrap (((A.length+1:Nat):Int)-1)=(A.length:Int):=by rw[w6 (by omega)];omega
    have hg:(A++[Y])[A.length]?=some Y:=by simp
    have H:=cQ hg;have F:=dB (e:=A) (s:=Y);have I:0<=(A.length:Int):=by omega
    by_cases f:Y.1=1
    ·have e:chk (A++[Y]) (1,s,0)=1:=by simp [chk,F,f]
     rw[e];simp only[kF,go_sem,u0 h,j,J,K,I,H,f]
    ·have e:chk (A++[Y]) (1,s,0)=0:=by simp [chk,F,f,h]
     rw[e];simp only[kF,go_sem,u0 h,j,J,K,I,H,f]
  ·have e:chk B (1,s,id)=1:=by simp [chk,c]
   rw[e];simp only[kF,go_sem,u0 h,c]
 by_cases x:k=5
 ·subst x
  have a:=c74 s;cases d:cU s with
  | false =>
   rw[d] at a;have e:chk B (5,s,id)=1:=by simp [chk,d]
   rw[e];simp only[kF,go_sem,a]
  | true =>
   rw[d] at a;by_cases c:id=0
   ·have e:chk B (5,s,id)=0:=by simp [chk,d,c]
    rw[e];simp only[kF,go_sem,a,c]
   ·have e:chk B (5,s,id)=1:=by simp [chk,d,c]
    rw[e];simp only[kF,go_sem,a,c]
 by_cases g:k=2\/k=4
 ·have b:=c75 s
  obtain⟨n,o⟩:=Ol B u G k s id B.length 0 (by omega);rw[kc,E] at n o;cases d:isC s with
  | false =>
   rw[d] at b;have e:chk B (k,s,id)=1:=by rcases g with rfl | rfl<;>simp [chk,d]
   rw[e];rcases g with rfl | rfl
   ·simp only[kF,go_sem,b]
   ·simp only[kF,go_sem,b]
  | true =>
   rw[d] at b;by_cases c:id<1
   ·have e:chk B (k,s,id)=1:=by rcases g with rfl | rfl<;>(simp [chk,d];omega)
    rw[e];rcases g with rfl | rfl
    ·simp only[kF,go_sem,b,c]
    ·simp only[kF,go_sem,b,c]
   ·by_cases f:999<id
    ·have e:chk B (k,s,id)=1:=by rcases g with rfl | rfl<;>(simp [chk,d];omega)
     rw[e];rcases g with rfl | rfl
     ·simp only[kF,go_sem,b,c,f]
     ·simp only[kF,go_sem,b,c,f]
    ·have C:1<=id:=by omega
     have D:id<=999:=by omega
     have e:chk B (k,s,id)=nY B (k,s,id):=by rcases g with rfl | rfl<;>simp [chk,d,C,D]
     rw[e];unfold nY;cases i:B.any (dU (k,s,id)) with
     | false =>
      have y:=n i;rcases g with rfl | rfl
      ·simp only[kF,go_sem,b,c,f,aD,y]
      ·simp only[kF,go_sem,b,c,f,aD,y]
     | true =>
      obtain⟨M,m',p,r⟩:=o i;rcases g with rfl | rfl
      ·simp only[kF,go_sem,b,c,f,aD,p,r]
      ·simp only[kF,go_sem,b,c,f,aD,p,r]
 have l:¬ k=2:=λq=>g (.inl q)
 have m:¬ k=4:=λq=>g (.inr q)
 by_cases w:k=3
 ·subst w
  have a:=c74 s;obtain⟨n,o⟩:=Oj B u G 3 s id B.length 0 (by omega);rw[kc,E] at n o;cases d:cU s with
  | false =>
   rw[d] at a;have e:chk B (3,s,id)=1:=by simp [chk,d]
   rw[e];simp only[kF,go_sem,a]
  | true =>
   rw[d] at a;by_cases c:id<1
   ·have e:chk B (3,s,id)=1:=by simp [chk,d];omega
    rw[e];simp only[kF,go_sem,a,c]
   ·by_cases f:999<id
    ·have e:chk B (3,s,id)=1:=by simp [chk,d];omega
     rw[e];simp only[kF,go_sem,a,c,f]
    ·have C:1<=id:=by omega
     have D:id<=999:=by omega
     have e:chk B (3,s,id)=nY B (3,s,id):=by simp [chk,d,C,D]
     rw[e];unfold nY;cases i:B.any (dU (3,s,id)) with
     | false =>
      have y:=n i;simp only[kF,go_sem,a,c,f,aD,y]
     | true =>
      obtain⟨M,m',p,r⟩:=o i;simp only[kF,go_sem,a,c,f,aD,p,r]
 ·have e:chk B (k,s,id)=1:=by simp [chk,v,x,l,m,w]
  rw[e];simp only[kF,go_sem,v,x,l,m,w]
def qf(h:chk b N=0)(c:N.1=2):N.2.1.length<=1000000:=by
 obtain⟨k,s,i⟩:=N;simp only[] at c;subst c;have a:isC s=true:=by
  cases q:isC s with
  | true=>rfl
  | false=>simp [chk,q] at h
 unfold isC at a;simp only[ir,jo] at a
 have:=a.1.1.1.1
 simp only[];omega
def LY(h:VL bu):∀ t∈bu,t.1=2->t.2.1.length<=1000000:=by
 suffices ∀ (n:Nat) (bu:List Tk),bu.length=n->VL bu->∀ t∈bu,t.1=2->t.2.1.length<=1000000 from this _ bu rfl h
 intro n
 induction n with
 | zero=>intro bu d _ t c;rw[js d] at c;cases c
 | succ n i =>
  intro bu d f t c e;rcases dS bu with rfl | ⟨g,y,rfl⟩
  ·cases c
  ·obtain⟨a,b⟩:=(cY g y).1 f
   rcases ng.1 c with q | q
   ·exact i g (by simp at d;exact d) a t q e
   ·simp only[kj] at q;subst q;exact qf b e
def vZ(h:b[n]?=some N):b.take (n+1)=b.take n++[N]:=by
 have hi:n<b.length:=by
  by_cases q:n<b.length
  ·exact q
  ·rw[ls (by omega)] at h;cases h
 rw[ii hi] at h;simp only[jc] at h;rw[af1 hi,h]
def C7(h:b[n]?=some N):dV (b.take n) (b.drop n)=if chk (b.take n) N≠0 then chk (b.take n) N else dV (b.take (n+1)) (b.drop (n+1)):=by
 have hi:n<b.length:=by
  by_cases q:n<b.length
  ·exact q
  ·rw[ls (by omega)] at h;cases h
 have hd:b.drop n=b[n]::b.drop (n+1):=je hi;rw[vZ h];rw[ii hi] at h;simp only[jc] at h;rw[hd,h];rfl
def FU(h:b[n]?=some N)(c:VL (b.take n))(a:chk (b.take n) N=0):VL (b.take (n+1)):=by
 rw[vZ h];exact (cY _ _).2 ⟨c,a⟩
def SF:(tks b).take n=tks (b.take n):=by simp [tks,ao3]
def MT(i:Nat)(hi:i<=b.length):aZ false 3 (.sl .no 3 (tks b)) none (some (.int .i64 i))=some (.sl .no 3 (tks (b.take i))):=by
 unfold aZ cZ uQ;have c:0<=(i:Int):=by omega
 have a:(0:Nat)<=i/\i<=(tks b).length/\((3:Nat)=3\/tks b=[]):=⟨by omega,by rw[aD];exact hi,.inl rfl⟩
 simp only[c,kp,jp];rw[iw ⟨a.1,a.2.1,.inl trivial⟩,kc,SF]
def l46(f:List Tk)(u:f.length<=1000000):∀ (k i:Nat),i+k=f.length->VL (f.take i) ->
  (dV (f.take i) (f.drop i)=0->∃ p m',aC G0 oX (ST [(0,.sl .no 3 (tks f)),(12,.bool false),(13,.sl .no 3 (tks f)),(14,.int .i64 f.length),(15,.int .i64 i)] [] [])=some (.ex 0,ST p m' [])) /\
  (dV (f.take i) (f.drop i)≠0->∃ p m',aC G0 oX (ST [(0,.sl .no 3 (tks f)),(12,.bool false),(13,.sl .no 3 (tks f)),(14,.int .i64 f.length),(15,.int .i64 i)] [] [])=some (.ret,ST p m' [])/\aF .any p 2=.int .i64 (dV (f.take i) (f.drop i)))
 | 0,i,h,d=>by
  have:i=f.length:=by omega
  subst this;refine⟨λ_=>?_,λh=>(by simp [dV] at h)⟩;refine Exists.intro ?_ (Exists.intro ?_ ?_)
  rotate_left 2
  rw[aB oX rfl];simp only[go_sem,jm];rfl
 | k+1,i,h,d=>by
  have hi:i<f.length:=by omega
  have l:(i:Int)<f.length:=by omega
  have j:0<=(i:Int):=by omega
  have o:=wI (n:=i) (by omega)
  have hg:f[i]?=some f[i]:=ii hi;generalize f[i]=T at hg;have e:=cQ hg;obtain⟨kk,s,id⟩:=T;simp only[] at e;have c68:=c68 f u i kk s id hg;have c69:=c69 kk s id;have c70:=c70 (f.take i) (by simp;omega) (LY d) kk s id;have g:=MT (b:=f) i (by omega);have v:=λd=>l46 f u k (i+1) (by omega) d
  rw[C7 hg];rw[qW] at *;cases a:wfB (f.take i) (kk,s,id) with
  | false =>
   rw[a] at c68;simp only[jl,kz];refine⟨λq=>(by simp at q),λ_=>?_⟩;refine Exists.intro ?_ (Exists.intro ?_ (And.intro ?_ ?_))
   rotate_left 2
   ·rw[aB oX rfl]
    simp only[go_sem,l,j,e,o,c68];rfl
   ·rfl
  | true =>
   rw[a] at c68;cases m:bC (kk,s,id) with
   | false =>
    rw[m] at c69;have c:chk (f.take i) (kk,s,id)=0:=by rw[qW,a,m];rfl
    simp only[kp,jl,kz,ad6,kt];have step:aC G0 oX (ST [(0,.sl .no 3 (tks f)),(12,.bool false),(13,.sl .no 3 (tks f)),(14,.int .i64 f.length),(15,.int .i64 i)] [] [])=aC G0 oX (ST [(0,.sl .no 3 (tks f)),(12,.bool false),(13,.sl .no 3 (tks f)),(14,.int .i64 f.length),(15,.int .i64 (i+1:Nat))] [] []):=by
     conv=>lhs;rw[aB oX rfl]
     simp only[go_sem,l,j,e,o,c68,c69]
    rw[step];exact v (FU hg d c)
   | true =>
    rw[m] at c69;cases r:oV (f.take i) (kk,s,id) with
    | true =>
     rw[r] at c70;have c:chk (f.take i) (kk,s,id)=0:=by rw[qW,a,m,r];rfl
     simp only[kp,jl,kz,ad6,kt];have step:aC G0 oX (ST [(0,.sl .no 3 (tks f)),(12,.bool false),(13,.sl .no 3 (tks f)),(14,.int .i64 f.length),(15,.int .i64 i)] [] [])=aC G0 oX (ST [(0,.sl .no 3 (tks f)),(12,.bool false),(13,.sl .no 3 (tks f)),(14,.int .i64 f.length),(15,.int .i64 (i+1:Nat))] [] []):=by
      conv=>lhs;rw[aB oX rfl]
      simp only[go_sem,l,j,e,o,c68,c69,g,c70]
     rw[step];exact v (FU hg d c)
    | false =>
     rw[r] at c70;simp only[kp,jl,kz,ad6];refine⟨λq=>(by simp at q),λ_=>?_⟩;refine Exists.intro ?_ (Exists.intro ?_ (And.intro ?_ ?_))
     rotate_left 2
     ·rw[aB oX rfl]
      simp only[go_sem,l,j,e,o,c68,c69,g,c70];rfl
     ·rfl
def c46(f:List Tk)(k:f.length<=1000000)(j:∀ t∈f,t.2.1.length<=eZ):G0 64 [.sl .no 3 (tks f)] []=some (.int .i64 (vld f),[]):=by
 refine aA F64 ?_;unfold vld;by_cases g:512<f.length
 ·have a:512<(f.length:Int):=by omega
  rw[iw (.inl g)];simp only[F64,go_sem,aD,a]
 have a:¬ 512<(f.length:Int):=by omega
 have c67:=c67 f (by omega) j;by_cases i:1024<len f
 ·have b:(1024:Int)<(len f:Int):=by omega
  rw[iw (.inr i)];simp only[F64,go_sem,aD,a,c67,b]
 have b:¬ (1024:Int)<(len f:Int):=by omega
 rw[ie (by omega)];obtain⟨c,d⟩:=l46 f k f.length 0 (by omega) rfl;have e:((0:Nat):Int)=0:=rfl;rw[kc,Tv,e] at c d;by_cases h:dV [] f=0
 ·obtain⟨l,m',y⟩:=c h
  rw[h];simp only[F64,go_sem,aD,a,c67,b,y,iR,jM,ad8,kp,kz]
 ·obtain⟨l,m',m,n⟩:=d h
  simp only[F64,go_sem,aD,a,c67,b,m,n]
def l21(f:List Tk)(o:f.length<=1000000):∀ (k i:Nat),i+k=f.length->VL (f.take i) ->
  (dV (f.take i) (f.drop i)=0->∃ e m',aC G0 qC (ST [(0,.sl .no 3 (tks f)),(12,.bool false),(14,.int .i64 f.length),(15,.int .i64 i)] [] [])=some (.ex 0,ST e m' [])) /\
  (dV (f.take i) (f.drop i)≠0->∃ e m',aC G0 qC (ST [(0,.sl .no 3 (tks f)),(12,.bool false),(14,.int .i64 f.length),(15,.int .i64 i)] [] [])=some (.ret,ST e m' [])/\aF .any e 2=.int .i64 (dV (f.take i) (f.drop i)))
 | 0,i,h,d=>by
  have:i=f.length:=by omega
  subst this;refine⟨λ_=>?_,λh=>(by simp [dV] at h)⟩;refine Exists.intro ?_ (Exists.intro ?_ ?_)
  rotate_left 2
  rw[aB qC rfl];simp only[go_sem,jm];rfl
 | k+1,i,h,d=>by
  have hi:i<f.length:=by omega
  have l:(i:Int)<f.length:=by omega
  have j:0<=(i:Int):=by omega
  have m:=wI (n:=i) (by omega)
  have hg:f[i]?=some f[i]:=ii hi;generalize f[i]=T at hg;have g:=cQ hg;obtain⟨kk,s,id⟩:=T;simp only[] at g;have c48:=c48 (f.take i) (by simp;omega) (LY d) kk s id;have c:=MT (b:=f) i (by omega);have p:=λd=>l21 f o k (i+1) (by omega) d
  rw[C7 hg];by_cases a:chk (f.take i) (kk,s,id)=0
  ·simp only[a,ad6,kt,kz]
   have step:aC G0 qC (ST [(0,.sl .no 3 (tks f)),(12,.bool false),(14,.int .i64 f.length),(15,.int .i64 i)] [] [])=aC G0 qC (ST [(0,.sl .no 3 (tks f)),(12,.bool false),(14,.int .i64 f.length),(15,.int .i64 (i+1:Nat))] [] []):=by
    conv=>lhs;rw[aB qC rfl]
    rw[a] at c48;simp only[go_sem,l,j,g,m,c,c48]
   rw[step];exact p (FU hg d a)
  ·rw[iw a]
   refine⟨λq=>absurd q a,λ_=>?_⟩;refine Exists.intro ?_ (Exists.intro ?_ (And.intro ?_ ?_))
   rotate_left 2
   ·rw[aB qC rfl]
    simp only[go_sem,l,j,g,m,c,c48,a];rfl
   ·rfl
def c21(k:b.length<=1000000)(j:∀ t∈b,t.2.1.length<=eZ):G0 187 [.sl .no 3 (tks b)] []=some (.int .i64 (vld b),[]):=by
 refine aA RQ ?_;unfold vld;by_cases g:512<b.length
 ·have a:512<(b.length:Int):=by omega
  rw[iw (.inl g)];simp only[RQ,go_sem,aD,a]
 have a:¬ 512<(b.length:Int):=by omega
 have c15:=c15 b (by omega) j;by_cases i:1024<len b
 ·have c:(1024:Int)<(len b:Int):=by omega
  rw[iw (.inr i)];simp only[RQ,go_sem,aD,a,c15,c]
 have c:¬ (1024:Int)<(len b:Int):=by omega
 rw[ie (by omega)];obtain⟨d,e⟩:=l21 b k b.length 0 (by omega) rfl;have f:((0:Nat):Int)=0:=rfl;rw[kc,Tv,f] at d e;by_cases h:dV [] b=0
 ·obtain⟨l,m',y⟩:=d h
  rw[h];simp only[RQ,go_sem,aD,a,c15,c,y,iR,jM,ad8,kp,kz]
 ·obtain⟨l,m',m,n⟩:=e h
  simp only[RQ,go_sem,aD,a,c15,c,m,n]
end Go.Av
namespace Go.Nt
variable{V e op':List It}{de s:It}{df:List Bool}{i:Bs}{j n:Nat}{k:Int}{r:List Nat}
def eD(n:Bs):Bool:=n==[112]||n==[104]||n==[108,105]||n==[116,100]||n==[116,105,116,108,101]
def slR(t:Bs):Option (It×Nat):=match cut 125 t with
 | some (b,_)=>if cU b=true then some ((5,b,0),b.length+2) else none
 | none=>none
def tgR(t:Bs):Option (It×Nat):=match cut 62 t with
 | some (b,_)=>if rtV (rtK b).1 (rtK b).2=true then some (((rtK b).1,(rtK b).2,0),b.length+2) else none
 | none=>none
def rfR(t:Bs):Option (It×Nat):=
 if [108,116,59] <+: t then some ((1,[60],0),4) else if [103,116,59] <+: t then some ((1,[62],0),4) else if [97,109,112,59] <+: t then some ((1,[38],0),5)
 else if [108,98,59] <+: t then some ((1,[123],0),4) else if [114,98,59] <+: t then some ((1,[125],0),4) else none
def elM:Bs->Option (It×Nat)
 | []=>none
 | c::t=>if c=60 then (match tgR t with
   | some (x,n)=>if eD (aH x.2.1)=true then none else some (x,n)
   | none=>none)
  else if c=38 then rfR t else if c=123 then slR t else some ((1,[c],0),1)
def kN(d:UInt8):Option UInt8:=if d=110 then some 10 else if d=116 then some 9 else if d=115 then some 32 else if d=114 then some 13 else if d=92 then some 92 else if d=123 then some 123 else none
def sX(t:Bs):Nat:=(t.takeWhile λc=>c==32||c==9).length
def elR:Bs->Option (It×Nat)
 | []=>none
 | c::t=>if c=10 then none else if c=123 then slR t else if c=92 then (match t with
   | []=>none
   | d::u=>match kN d with
    | some v=>some ((1,[v],0),2)
    | none=>if d=10 then some ((0,[],0),2+sX u) else none)
  else some ((1,[c],0),1)
def elS:Bs->Option (It×Nat)
 | []=>none
 | c::t=>if c=34 then (if t.head?=some 34 then some ((1,[34],0),2) else none) else if c=123 then (if t.head?=some 123 then some ((1,[123],0),2) else slR t) else some ((1,[c],0),1)
def el(fm:Int)(s:Bs):Option (It×Nat):=if fm=1 then elM s else if fm=2 then elR s else elS s
def stp(x:It)(op:List It)(id:Int):Option (It×List It×Int):=
 if x.1=2 then some ((2,x.2.1,id+1),op++[(2,x.2.1,id+1)],id+1) else if x.1=4 then some ((4,x.2.1,id+1),op,id+1)
 else if x.1=3 then (match op.getLast? with
  | some t=>if aH t.2.1=x.2.1 then some ((3,x.2.1,t.2.2),op.dropLast,id) else none
  | none=>none)
 else some (x,op,id)
def dcs(fm:Int):Nat->List It->List It->Int->List Nat->Nat->Nat->Bs->Option (List It×List Nat)
 | 0,f,op,_,cs,_,b,s=>if s=[]/\op=[] then some (f,cs++[b]) else none
 | k+1,f,op,id,cs,a,b,s=>if s=[] then (if op=[] then some (f,cs++[b]) else none) else match el fm s with
  | none=>none
  | some (x,n)=>if x.1=0 then dcs fm k f op id cs (a+n) b (s.drop n) else match stp x op id with
   | none=>none
   | some (y,op',c)=>if 512<(pn f y).length\/1024<=cs.length then none else dcs fm k (pn f y) op' c (cs++[b]) (a+n) (a+n) (s.drop n)
def dcd(fm:Int)(s:Bs):Option (List It×List Nat):=dcs fm s.length [] [] 0 [] 0 0 s
def elX(x:It):Prop:=x=(0,[],0)\/(∃ c,x=(1,[c],0))\/(x.1=5/\cU x.2.1=true/\x.2.2=0)\/((x.1=2\/x.1=4)/\isC x.2.1=true)\/(x.1=3/\cU x.2.1=true)
def KF(h:slR i=some (s,n)):elX s/\1<=n/\n<=i.length+1:=by
 unfold slR at h;cases a:cut 125 i with
 | none=>rw[a] at h;cases h
 | some p =>
  obtain⟨b,r⟩:=p;rw[a] at h;simp only[] at h
  split at h
  ·rename_i q
   cases h
   have:=(bP.1 a).1
   exact⟨.inr (.inr (.inl ⟨rfl,q,rfl⟩)),by omega,by rw[this];simp⟩
  ·cases h
def TS(b:Bs):(rtK b).1=3\/(rtK b).1=4\/(rtK b).1=2:=by
 unfold rtK;split
 ·exact .inl rfl
 ·split
  ·exact .inr (.inl rfl)
  ·exact .inr (.inr rfl)
def rZ(h:tgR i=some (s,n)):elX s/\1<=n/\n<=i.length+1/\(s.1=2\/s.1=3\/s.1=4):=by
 unfold tgR at h;cases a:cut 62 i with
 | none=>rw[a] at h;cases h
 | some p =>
  obtain⟨b,r⟩:=p;rw[a] at h;simp only[] at h
  split at h
  ·rename_i q
   cases h
   have:=(bP.1 a).1
   refine⟨?_,by omega,by rw[this];simp,?_⟩
   ·unfold rtV at q
    rcases TS b with e | e | e
    ·rw[e,iw rfl] at q
     exact .inr (.inr (.inr (.inr ⟨e,q⟩)))
    ·rw[e,ie (by decide)] at q
     exact .inr (.inr (.inr (.inl ⟨.inr e,q⟩)))
    ·rw[e,ie (by decide)] at q
     exact .inr (.inr (.inr (.inl ⟨.inl e,q⟩)))
   ·rcases TS b with e | e | e
    ·exact .inr (.inl e)
    ·exact .inr (.inr e)
    ·exact .inl e
  ·cases h
def Al(h:rfR i=some (s,n)):elX s/\1<=n/\n<=i.length+1:=by
 have pl:∀ p:Bs,p <+: i->p.length<=i.length:=λp q=>q.length_le
 unfold rfR at h
 split at h
 ·rename_i q;have:=pl _ q;cases h;exact⟨.inr (.inl ⟨_,rfl⟩),by omega,by simpa using this⟩
 split at h
 ·rename_i q;have:=pl _ q;cases h;exact⟨.inr (.inl ⟨_,rfl⟩),by omega,by simpa using this⟩
 split at h
 ·rename_i q;have:=pl _ q;cases h;exact⟨.inr (.inl ⟨_,rfl⟩),by omega,by simpa using this⟩
 split at h
 ·rename_i q;have:=pl _ q;cases h;exact⟨.inr (.inl ⟨_,rfl⟩),by omega,by simpa using this⟩
 split at h
 ·rename_i q;have:=pl _ q;cases h;exact⟨.inr (.inl ⟨_,rfl⟩),by omega,by simpa using this⟩
 ·cases h
def Dp(h:elM i=some (de,n)):elX de/\1<=n/\n<=i.length:=by
 cases i with
 | nil=>cases h
 | cons c t =>
  rw[elM] at h;by_cases c1:c=60
  ·rw[iw c1] at h
   cases d:tgR t with
   | none=>rw[d] at h;cases h
   | some p =>
    obtain⟨y,m⟩:=p;rw[d] at h;simp only[] at h
    split at h
    ·cases h
    ·cases h
     obtain⟨a,b,c,_⟩:=rZ d;exact⟨a,b,by simpa using c⟩
  rw[ie c1] at h;by_cases c2:c=38
  ·rw[iw c2] at h
   obtain⟨a,b,c⟩:=Al h;exact⟨a,b,by simpa using c⟩
  rw[ie c2] at h;by_cases c3:c=123
  ·rw[iw c3] at h
   obtain⟨a,b,c⟩:=KF h;exact⟨a,b,by simpa using c⟩
  rw[ie c3] at h;cases h;exact⟨.inr (.inl ⟨_,rfl⟩),by omega,by simp⟩
def Do(h:elR i=some (de,n)):elX de/\1<=n/\n<=i.length:=by
 cases i with
 | nil=>cases h
 | cons c t =>
  have e:elR (c::t)=if c=10 then none else if c=123 then slR t else if c=92 then (match t with
   | []=>none
   | d::u=>match kN d with
    | some v=>some ((1,[v],0),2)
    | none=>if d=10 then some ((0,[],0),2+sX u) else none) else some ((1,[c],0),1):=by cases t<;>rfl
  rw[e] at h;by_cases c1:c=10
  ·rw[iw c1] at h;cases h
  rw[ie c1] at h;by_cases c3:c=123
  ·rw[iw c3] at h
   obtain⟨a,b,c⟩:=KF h;exact⟨a,b,by simpa using c⟩
  rw[ie c3] at h;by_cases c2:c=92
  ·rw[iw c2] at h
   cases t with
   | nil=>cases h
   | cons d u =>
    simp only[] at h;cases f:kN d with
    | some v=>rw[f] at h;cases h;exact⟨.inr (.inl ⟨_,rfl⟩),by omega,by simp⟩
    | none =>
     rw[f] at h;simp only[] at h
     split at h
     ·cases h
      have:sX u<=u.length:=(an1 _).length_le
      exact⟨.inl rfl,by omega,by simp only[jd];omega⟩
     ·cases h
  rw[ie c2] at h;cases h;exact⟨.inr (.inl ⟨_,rfl⟩),by omega,by simp⟩
def Dn(h:elS i=some (de,n)):elX de/\1<=n/\n<=i.length:=by
 cases i with
 | nil=>cases h
 | cons c t =>
  have e:∀ d:UInt8,t.head?=some d->2<=(c::t).length:=λd q=>by
   cases t with
   | nil=>simp at q
   | cons d u=>simp
  rw[elS] at h;by_cases c1:c=34
  ·rw[iw c1] at h
   by_cases q:t.head?=some 34
   ·rw[iw q] at h
    cases h;exact⟨.inr (.inl ⟨_,rfl⟩),by omega,e _ q⟩
   ·rw[ie q] at h;cases h
  rw[ie c1] at h;by_cases c3:c=123
  ·rw[iw c3] at h
   by_cases q:t.head?=some 123
   ·rw[iw q] at h
    cases h;exact⟨.inr (.inl ⟨_,rfl⟩),by omega,e _ q⟩
   ·rw[ie q] at h
    obtain⟨a,b,c⟩:=KF h;exact⟨a,b,by simpa using c⟩
  rw[ie c3] at h;cases h;exact⟨.inr (.inl ⟨_,rfl⟩),by omega,by simp⟩
def lQ(h:el k i=some (de,n)):elX de/\1<=n/\n<=i.length:=by
 unfold el at h
 split at h
 ·exact Dp h
 split at h
 ·exact Do h
 ·exact Dn h
def vY(h:bC s=true):(tg (pn e s)).length=(tg e).length+1:=by
 have a:¬ s.1=1:=λq=>by rw[l7 q] at h;cases h
 unfold pn;rw[ie a,gW,nX h];simp
def LD{fh:List It}{D:Int}{y:It}{iy:Int}(h:FV V fh D)(l:elX de)(f:¬ de.1=0)(hid:D<=((tg V).length:Int))(m:(tg V).length<=512)(a:stp de fh D=some (y,op',iy)):FV (pn V y) op' iy/\wid y=1/\iy<=((tg (pn V y)).length:Int):=by
 unfold stp at a;rcases l with rfl | ⟨c,rfl⟩ | ⟨k,s,i⟩ | ⟨k,s⟩ | ⟨k,s⟩
 ·exact absurd rfl f
 ·rw[ie (by show ¬ (1:Int)=2;decide),ie (by show ¬ (1:Int)=4;decide),ie (by show ¬ (1:Int)=3;decide)] at a
  cases a;exact⟨OL h rfl,rfl,by rw[rY rfl];exact hid⟩
 ·rw[ie (by omega),ie (by omega),ie (by omega)] at a
  cases a;obtain⟨n,d,o⟩:=de;simp only[] at k s i;subst k;subst i;have e:tg (pn V (5,d,0))=tg V:=by
   show tg (if (5:Int)=1 then _ else V++[(5,d,0)])=_;rw[ie (by decide),gW,zE rfl,ka]
  exact⟨OM h s,rfl,by rw[e];exact hid⟩
 ·rcases k with k | k
  ·rw[iw k] at a
   cases a;exact⟨ON h s (by omega),rfl,by rw[vY rfl];omega⟩
  ·rw[ie (by omega),iw k] at a
   cases a;exact⟨WF h (.inl ⟨rfl,s⟩) (by omega),rfl,by rw[vY rfl];omega⟩
 ·rw[ie (by omega),ie (by omega),iw k] at a
  cases b:fh.getLast? with
  | none=>rw[b] at a;cases a
  | some t =>
   rw[b] at a;simp only[] at a
   split at a
   ·rename_i e
    cases a;have j:fh=fh.dropLast++t::[]:=by
     rcases dS fh with rfl | ⟨g,z,rfl⟩
     ·simp at b
     ·simp at b
      subst b;simp
    have:=AO h (by omega) j
    rw[ka,e] at this;exact⟨this,rfl,by rw[vY rfl];omega⟩
   ·cases a
def xF(f:List It):(tg f).length<=f.length:=ak4 _ _
def LN(fm:Int):∀ (k:Nat) (f op:List It) (id:Int) (cs:List Nat) (a b:Nat) (s:Bs) (g:List It) (c:List Nat),FV f op id->id<=((tg f).length:Int)->f.length<=512->len f<=cs.length->cs.length<=1024->dcs fm k f op id cs a b s=some (g,c)->vld g=0
 | 0,f,op,id,cs,a,b,s,g,c,h,hi,d,m,o,hd=>by
  unfold dcs at hd
  split at hd
  ·cases hd
   exact (cG f).2 ⟨h.vl,d,by omega⟩
  ·cases hd
 | k+1,f,op,id,cs,a,b,s,g,c,h,hi,d,m,o,hd=>by
  unfold dcs at hd
  split at hd
  ·split at hd
   ·cases hd
    exact (cG f).2 ⟨h.vl,d,by omega⟩
   ·cases hd
  cases i:el fm s with
  | none=>rw[i] at hd;cases hd
  | some p =>
   obtain⟨x,n⟩:=p;rw[i] at hd;simp only[] at hd
   split at hd
   ·exact LN fm k f op id cs _ b _ g c h hi d m o hd
   ·rename_i r
    cases j:stp x op id with
    | none=>rw[j] at hd;cases hd
    | some q =>
     obtain⟨y,op',l⟩:=q;rw[j] at hd;simp only[] at hd
     split at hd
     ·cases hd
     ·rename_i v
      obtain⟨i1,w,u⟩:=LD h (lQ i).1 r hi (by have:=xF f;omega) j;have A:=(VG (e:=f) y).1;refine LN fm k (pn f y) op' l _ _ _ _ g c i1 u (by omega) ?_ ?_ hd
      ·rw[jb,jy];omega
      ·rw[jb,jy];omega
def W3(h:dcd k i=some (e,r)):vld e=0:=
 LN k i.length [] [] 0 [] 0 0 i e r E5 (by decide) (by simp) (by simp [len]) (by simp) h
def slc:List It->Nat->Nat->Nat->List It
 | [],_,_,_=>[]
 | x::f,p,a,b=>(if max a p<min b (p+wid x) then [if x.1=1 then (x.1,(x.2.1.take (min b (p+wid x)-p)).drop (max a p-p),x.2.2) else x] else [])++slc f (p+wid x) a b
def gU:Nat->List It->List It
 | _,[]=>[]
 | n,x::f=>if n=0 then x::f else if wid x<=n then gU (n-wid x) f else (x.1,x.2.1.drop n,x.2.2)::f
def fO:Nat->List It->List It
 | _,[]=>[]
 | n,x::f=>if n=0 then [] else if wid x<=n then x::fO (n-wid x) f else [(x.1,x.2.1.take n,x.2.2)]
def ZH:fO 0 e=[]:=by cases e<;>simp [fO]
def FD:gU 0 e=e:=by cases e<;>simp [gU]
def wS:gU n []=[]:=by simp [gU]
def iU(h:s.1=1):wid s=s.2.1.length:=by unfold wid;rw[iw h]
def mM(h:¬ s.1=1):wid s=1:=by unfold wid;rw[ie h]
def JZ(h:de.1=1)(s:Bs):wid ((de.1,s,de.2.2):It)=s.length:=by
 unfold wid;rw[iw h]
def tV:∀ (f:List It) (p a b:Nat),b<=p->slc f p a b=[]
 | [],_,_,_,_=>rfl
 | x::f,p,a,b,h=>by
  rw[slc,tV f _ a b (by omega),ie (by omega)];rfl
def KD:∀ (f:List It) (p a b:Nat),(∀ x∈f,1<=wid x)->a<=b->slc f p a b=gU (a-p) (fO (b-p) f)
 | [],p,a,b,_,_=>by simp [slc,fO,gU]
 | x::f,p,a,b,h,e=>by
  have i:=KD f (p+wid x) a b (λy n=>h y (by simp [n])) e;have v:=h x (by simp);rw[slc];by_cases o:b<=p
  ·rw[tV f _ a b (by omega),ie (by omega),show b-p=0 by omega,ZH,wS]
   rfl
  by_cases r:p+wid x<=a
  ·rw[ie (by omega),i]
   have d:fO (b-p) (x::f)=x::fO (b-p-wid x) f:=by rw[fO,ie (by omega),iw (by omega)]
   rw[d];have j:gU (a-p) (x::fO (b-p-wid x) f)=gU (a-p-wid x) (fO (b-p-wid x) f):=by rw[gU,ie (by omega),iw (by omega)]
   rw[j,show b-(p+wid x)=b-p-wid x by omega,show a-(p+wid x)=a-p-wid x by omega];rfl
  by_cases s:p+wid x<=b
  ·have d:fO (b-p) (x::f)=x::fO (b-p-wid x) f:=by rw[fO,ie (by omega),iw (by omega)]
   rw[d,i,show a-(p+wid x)=0 by omega,FD,show b-(p+wid x)=b-p-wid x by omega,show min b (p+wid x)-p=wid x by omega];by_cases k:a<=p
   ·rw[iw (by omega),show a-p=0 by omega,FD,show max a p-p=0 by omega]
    by_cases c:x.1=1
    ·rw[iw c,iU c,Ut,kc];rfl
    ·rw[ie c];rfl
   ·have c:x.1=1:=by
     by_cases q:x.1=1
     ·exact q
     ·have:=mM q;omega
    rw[iw (by omega),iw c,iU c,Ut,show max a p-p=a-p by omega];rw[gU,ie (by omega),ie (by omega)];rfl
  ·have c:x.1=1:=by
    by_cases q:x.1=1
    ·exact q
    ·have:=mM q;omega
   have d:fO (b-p) (x::f)=[(x.1,x.2.1.take (b-p),x.2.2)]:=by rw[fO,ie (by omega),ie (by omega)]
   rw[d,tV f _ a b (by omega),show min b (p+wid x)-p=b-p by omega];have m:=iU c;have l:(x.2.1.take (b-p)).length=b-p:=by rw[tr];omega
   by_cases k:a<=p
   ·rw[iw (by omega),iw c,show a-p=0 by omega,FD,show max a p-p=0 by omega,kc];rfl
   ·have g:wid ((x.1,x.2.1.take (b-p),x.2.2):It)=b-p:=by rw[JZ c];exact l
    by_cases u:a<b
    ·rw[iw (by omega),iw c,show max a p-p=a-p by omega,gU,ie (by omega),ie (by rw[g];omega)];rfl
    ·rw[ie (by omega),gU,ie (by omega),iw (by rw[g];omega),wS];rfl
def sL(y:It)(h:e≠[]):cX (y::e)=cX e:=by
 rcases dS e with rfl | ⟨B,z,rfl⟩
 ·exact absurd rfl h
 ·rw[<- ko,dB,dB]
def XA(h:chk (s::V) de=0):chk V de=0:=by
 rw[qW] at h ⊢;have a:wfB (s::V) de=true:=by
  cases q:wfB (s::V) de with
  | true=>rfl
  | false=>rw[q] at h;simp at h
 rw[a] at h;have b:wfB V de=true:=by
  unfold wfB at a ⊢;by_cases c:de.1=1
  ·rw[iw c] at a ⊢
   by_cases d:V=[]
   ·subst d
    have e:cX ([]:List It)≠1:=by decide
    have g:decide (cX ([]:List It)≠1)=true:=by decide
    simp_all
   ·rw[sL s d] at a
    exact a
  ·rw[ie c] at a ⊢
   exact a
 rw[b];simp only[kp] at h ⊢;by_cases f:bC de=true
 ·rw[iw f] at h ⊢
  have:oV V de=true:=by
   cases q:oV (s::V) de with
   | false=>rw[q] at h;simp at h
   | true =>
    unfold oV at q ⊢;rw[any_cons] at q;simp only[aa8,ag0] at q ⊢;exact q.2
  rw[iw this]
 ·rw[ie f]
def C8{y:It}:∀ (f A:List It),dV (y::A) f=0->dV A f=0
 | [],A,_=>rfl
 | x::f,A,h=>by
  simp only[dV] at h ⊢;have a:chk (y::A) x=0:=by
   by_cases q:chk (y::A) x=0
   ·exact q
   ·rw[iw q] at h;exact absurd h q
  rw[ie (by simp [a])] at h;rw[ie (by simp [XA a])];exact C8 f (A++[x]) h
def sg(h:VL (s::e)):VL e:=by
 unfold VL at h ⊢;simp only[dV] at h;by_cases q:chk [] s=0
 ·rw[ie (by simp [q])] at h
  exact C8 e [] h
 ·rw[iw q] at h;exact absurd h q
def RB(b:s.1=1)(c:de.1=1){z:It}(h:chk (s::e) z=0):chk (de::e) z=0:=by
 have f:cX (de::e)=cX (s::e):=by
  by_cases a:e=[]
  ·subst a
   show cX ([]++[de])=cX ([]++[s]);rw[dB,dB,b,c]
  ·rw[sL de a,sL s a]
 have d:∀ z,(de::e).any (dU z)=(s::e).any (dU z):=by
  intro z;rw[any_cons,any_cons]
  have:∀ y:It,y.1=1->dU z y=false:=λy g=>by
   unfold dU;rw[l7 g];rfl
  rw[this s b,this de c]
 rw[qW] at h ⊢;unfold wfB oV at h ⊢;rw[f,d];exact h
def A1{x x':It}(b:x.1=1)(c:x'.1=1):∀ (f A:List It),dV (x::A) f=0->dV (x'::A) f=0
 | [],A,_=>rfl
 | z::f,A,h=>by
  simp only[dV] at h ⊢;have a:chk (x::A) z=0:=by
   by_cases q:chk (x::A) z=0
   ·exact q
   ·rw[iw q] at h;exact absurd h q
  rw[ie (by simp [a])] at h;rw[ie (by simp [RB b c a])];exact A1 b c f (A++[z]) h
def BH(h:VL e):∀ x∈e,1<=wid x:=by
 have key:∀ (e A:List It),dV A e=0->∀ x∈e,1<=wid x:=by
  intro e
  induction e with
  | nil=>intro A _ x b;cases b
  | cons z e g =>
   intro A h x b;simp only[dV] at h;have d:chk A z=0:=by
    by_cases q:chk A z=0
    ·exact q
    ·rw[iw q] at h;exact absurd h q
   rw[ie (by simp [d])] at h;rcases la.1 b with rfl | b
   ·by_cases c:x.1=1
    ·have:=(dY c).1 d
     rw[iU c];cases f:x.2.1 with
     | nil=>exact absurd f this.1
     | cons a l=>simp
    ·rw[mM c];exact ji _
   ·exact g _ h x b
 exact key e [] h
def PI:∀ (f:List It) (n:Nat),VL f->VL (gU n f)
 | [],n,_=>by rw[wS];rfl
 | x::f,n,h=>by
  rw[gU];by_cases b:n=0
  ·rw[iw b];exact h
  rw[ie b];by_cases c:wid x<=n
  ·rw[iw c]
   exact PI f _ (sg h)
  ·rw[ie c]
   have a:x.1=1:=by
    by_cases q:x.1=1
    ·exact q
    ·have:=mM q;omega
   unfold VL at h ⊢;simp only[dV] at h ⊢;by_cases q:chk [] x=0
   ·rw[ie (by simp [q])] at h
    have d:=(dY a).1 q;have e:chk [] ((x.1,x.2.1.drop n,x.2.2):It)=0:=by
     refine (dY (s:=(x.1,x.2.1.drop n,x.2.2)) a).2 ⟨?_,d.2.1,d.2.2⟩;intro z;have g:=pz List.length z;have i:=iU a;rw[kl,jz] at g;omega
    rw[ie (by simp [e])];exact A1 (x:=x) (x':=(x.1,x.2.1.drop n,x.2.2)) a a f [] h
   ·rw[iw q] at h;exact absurd h q
def PH:∀ (f A:List It) (n:Nat),dV A f=0->dV A (fO n f)=0
 | [],A,n,_=>rfl
 | x::f,A,n,h=>by
  rw[fO];by_cases c:n=0
  ·rw[iw c];rfl
  rw[ie c];simp only[dV] at h;have a:chk A x=0:=by
   by_cases q:chk A x=0
   ·exact q
   ·rw[iw q] at h;exact absurd h q
  rw[ie (by simp [a])] at h;by_cases d:wid x<=n
  ·rw[iw d]
   simp only[dV];rw[ie (by simp [a])];exact PH f _ _ h
  ·rw[ie d]
   have b:x.1=1:=by
    by_cases q:x.1=1
    ·exact q
    ·have:=mM q;omega
   have g:=(dY b).1 a;have e:chk A ((x.1,x.2.1.take n,x.2.2):It)=0:=by
    refine (dY (s:=(x.1,x.2.1.take n,x.2.2)) b).2 ⟨?_,g.2.1,g.2.2⟩;intro z;have i:=pz List.length z;have j:=iU b;rw[tr,jz] at i;omega
   simp only[dV];rw[ie (by simp [e])]
def GB:∀ (f:List It) (n:Nat),(fO n f).length<=f.length/\len (fO n f)<=len f
 | [],n=>by simp [fO]
 | x::f,n=>by
  rw[fO];have g:=GB f (n-wid x);have e:len (x::f)=wid x+len f:=by simp [len]
  split
  ·simp [len]
  split
  ·have a:len (x::fO (n-wid x) f)=wid x+len (fO (n-wid x) f):=by simp [len]
   rw[e,a,jd,jd];omega
  ·rename_i c d
   have b:x.1=1:=by
    by_cases q:x.1=1
    ·exact q
    ·have:=mM q;omega
   have a:len [((x.1,x.2.1.take n,x.2.2):It)]=(x.2.1.take n).length:=by rw[gH,JZ b]
   rw[e,a,iU b,tr,jd,jd,jz];omega
def IS:∀ (f:List It) (n:Nat),(gU n f).length<=f.length/\len (gU n f)<=len f
 | [],n=>by simp [gU]
 | x::f,n=>by
  rw[gU];have g:=IS f (n-wid x);have e:len (x::f)=wid x+len f:=by simp [len]
  split
  ·exact⟨ji _,ji _⟩
  split
  ·rw[e,jd];omega
  ·rename_i c d
   have a:x.1=1:=by
    by_cases q:x.1=1
    ·exact q
    ·have:=mM q;omega
   have b:len (((x.1,x.2.1.drop n,x.2.2):It)::f)=(x.2.1.drop n).length+len f:=by
    show (List.map wid (_::f)).sum=_;rw[ju,sum_cons,JZ a];rfl
   rw[e,b,iU a,kl,jd,jd];omega
def MS(h:vld e=0)(a:n<=j):vld (slc e 0 n j)=0:=by
 obtain⟨b,c,d⟩:=(cG e).1 h;rw[KD e 0 n j (BH b) a];have f:=GB e (j-0);have g:=IS (fO (j-0) e) (n-0);exact (cG _).2 ⟨PI _ _ (PH e [] _ b),by omega,by omega⟩
def spB(c:UInt8):Bool:=c==9||c==10||c==13||c==32
def plx(x:It):Bs:=if x.1=1 then x.2.1 else if x.1=5 then [255] else []
def aT(f:List It):Bs:=f.flatMap plx
def bkx(x:It):List Bool:=if x.1=1 then x.2.1.map spB else [false]
def fJ(f:List It):List Bool:=f.flatMap bkx
def jE(c:UInt8):Bool:=c==46||c==33
def sU(t:Bs)(i:Nat):Bool:=decide (1<=i)&&decide (i<t.length)&&jE (t.getD (i-1) 0)&&(t.getD i 0==32)
def l5(t:Bs):List Nat:=if 1024<t.length then [] else (List.range (t.length+1)).filter (sU t)
def plc:List It->Nat->Nat->Nat
 | f,p,0=>p+(f.takeWhile λx=>x.1==3).length
 | [],p,_+1=>p
 | x::f,p,o+1=>if x.1=1 then (if o+1<x.2.1.length then p+(o+1) else plc f (p+x.2.1.length) (o+1-x.2.1.length)) else if x.1=5 then plc f (p+1) o else plc f (p+1) (o+1)
termination_by f _ _=>f.length
def nQ(f:List It):List Nat:=(l5 (aT f)).map (plc f 0)++[len f]
def upB(a:List Bool)(i:Nat):Nat:=i+((a.drop i).takeWhile id).length
def dnB(a:List Bool)(j:Nat):Nat:=j-((a.take j).reverse.takeWhile id).length
def pcF(f:List It)(a b:Nat):List It:=if a<=b/\b<=len f then slc f 0 a b else []
def soB(s:Bs):Bool:=s.any λc=>!spB c
def rgF(f:List It):Nat->List Nat->List (Nat×Nat)
 | _,[]=>[]
 | a,b::cs=>(if soB (aT (pcF f a b))=true then [(upB (fJ f) a,dnB (fJ f) b)] else [])++rgF f b cs
def tZ(f:List It):List (Nat×Nat):=rgF f 0 (nQ f)
def wL:len (s::e)=wid s+len e:=by simp [len]
def sG:∀ (f:List It) (p o:Nat),(∀ x∈f,1<=wid x)->plc f p o<=p+len f
 | [],p,0,_=>by simp [plc]
 | [],p,o+1,_=>by simp [plc]
 | x::f,p,0,h=>by
  rw[plc]
  have:∀ g:List It,(∀ x∈g,1<=wid x)->g.length<=len g:=by
   intro g
   induction g with
   | nil=>intro _;exact ji _
   | cons y g i =>
    intro hg
    have:=i (λz d=>hg z (by simp [d]))
    have:=hg y (by simp)
    rw[wL,jd];omega
  have a:=this (x::f) h;have j:((x::f).takeWhile λx=>x.1==3).length<=(x::f).length:=(an1 _).length_le;omega
 | x::f,p,o+1,h=>by
  have k:=h x (by simp);have b:∀ y∈f,1<=wid y:=λy c=>h y (by simp [c])
  rw[plc,wL];split
  ·rename_i a
   have e:=iU a;split
   ·omega
   ·have:=sG f (p+x.2.1.length) (o+1-x.2.1.length) b;omega
  ·rename_i a
   have e:=mM a;split
   ·have:=sG f (p+1) o b;omega
   ·have:=sG f (p+1) (o+1) b;omega
def W6(h:∀ x∈e,1<=wid x):∀ c∈nQ e,c<=len e:=by
 intro c a;unfold nQ at a;rcases ng.1 a with q | q
 ·obtain⟨o,_,rfl⟩:=yd.1 q
  have:=sG e 0 o h
  omega
 ·rw[kj] at q;omega
def yZ:(bkx s).length=wid s:=by
 unfold bkx wid
 split<;>simp
def nU:∀ f:List It,(fJ f).length=len f
 | []=>rfl
 | x::f=>by
  rw[wL,<- nU f,<- yZ];simp [fJ]
def gS:fJ (s::e)=bkx s++fJ e:=by simp [fJ]
def DF:∀ (f:List It) (n:Nat),fJ (fO n f)=(fJ f).take n
 | [],n=>by simp [fO,fJ]
 | x::f,n=>by
  have c:=yZ (s:=x);rw[fO,gS];by_cases a:n=0
  ·rw[iw a,a,Tv];rfl
  rw[ie a];by_cases b:wid x<=n
  ·rw[iw b,gS,DF f,an8,c,Ty (l:=bkx x) (by omega)]
  ·rw[ie b]
   have d:x.1=1:=by
    by_cases q:x.1=1
    ·exact q
    ·have:=mM q;omega
   rw[an8,c,show n-wid x=0 by omega,Tv,ka];unfold fJ bkx;simp [d,ao3]
def DG:∀ (f:List It) (n:Nat),fJ (gU n f)=(fJ f).drop n
 | [],n=>by simp [gU,fJ]
 | x::f,n=>by
  have c:=yZ (s:=x);rw[gU];by_cases a:n=0
  ·rw[iw a,a,kc]
  rw[ie a];by_cases b:wid x<=n
  ·rw[iw b,DG f,gS,drop_append,c,af2 (l:=bkx x) (by omega),kg]
  ·rw[ie b]
   have d:x.1=1:=by
    by_cases q:x.1=1
    ·exact q
    ·have:=mM q;omega
   rw[gS,gS,drop_append,c,show n-wid x=0 by omega,kc];unfold bkx;simp [d,map_drop]
def I1(h:∀ x∈e,1<=wid x)(a:n<=j):fJ (slc e 0 n j)=((fJ e).take j).drop n:=by
 rw[KD e 0 n j h a,DG,DF];rfl
def aw(h:∀ x∈e,1<=wid x)(a:n<=j)(b:j<=len e):len (slc e 0 n j)=j-n:=by
 rw[<- nU,I1 h a,kl,tr,nU];omega
def MO:∀ f:List It,soB (aT f)=true->false∈fJ f
 | [],h=>by simp [soB,aT] at h
 | x::f,h=>by
  rw[gS,ng];unfold soB aT at h;rw[sb,any_append,yb] at h;rcases h with h | h
  ·refine .inl ?_
   unfold plx at h;unfold bkx
   split at h
   ·rename_i q
    rw[iw q];obtain⟨c,a,b⟩:=an9.1 h;exact yd.2 ⟨c,a,by simpa using b⟩
   ·rename_i q
    rw[ie q];simp
  ·exact .inr (MO f h)
def uu(h:df[n]?=some false):(df.takeWhile id).length<=n:=by
 induction df generalizing n with
 | nil=>simp
 | cons a df b =>
  cases n with
  | zero =>
   simp at h;subst h;simp
  | succ n =>
   rw[ac5] at h
   cases a with
   | false=>simp
   | true =>
    rw[af0 rfl,jd]
    have:=b h
    omega
def vo(h:∀ x∈e,1<=wid x)(b:soB (aT (pcF e n j))=true):n<=j/\j<=len e/\∃ q,n<=q/\q<j/\(fJ e)[q]?=some false/\upB (fJ e) n<=q/\q<dnB (fJ e) j/\dnB (fJ e) j<=j:=by
 unfold pcF at b;by_cases a:n<=j/\j<=len e
 ·rw[iw a] at b
  have f:=MO _ b;rw[I1 h a.1] at f;obtain⟨i,hi⟩:=ns.1 f;rw[tb,Vz] at hi;by_cases c:n+i<j
  ·rw[iw c] at hi
   refine⟨a.1,a.2,n+i,by omega,c,hi,?_,?_,by unfold dnB;omega⟩
   ·unfold upB
    have:((fJ e).drop n)[i]?=some false:=by rw[tb];exact hi
    have:=uu this
    omega
   ·unfold dnB
    have d:((fJ e).take j).length=j:=by rw[tr,nU];omega
    have:((fJ e).take j).reverse[j-1-(n+i)]?=some false:=by
     rw[an4 (by rw[d];omega),d,show j-1-(j-1-(n+i))=n+i by omega,Vz,iw c];exact hi
    have:=uu this
    omega
  ·rw[ie c] at hi;cases hi
 ·rw[ie a] at b;simp [soB,aT] at b
def KK{f:List It}(h:∀ x∈f,1<=wid x):∀ (cs:List Nat) (a:Nat),∀ r∈rgF f a cs,r.1<r.2/\r.2<=len f
 | [],a,r,c=>by cases c
 | b::cs,a,r,c=>by
  rw[rgF] at c;rcases ng.1 c with q | q
  ·split at q
   ·rename_i d
    rw[kj] at q;subst q;obtain⟨e,g,i,j,k,l,m,n,o⟩:=vo h d;exact⟨by show upB _ _<dnB _ _;omega,by show dnB _ _<=_;omega⟩
   ·cases q
  ·exact KK h cs b r q
def KC{f:List It}(h:∀ x∈f,1<=wid x){a b:Nat}(c:a<b)(d:b<=len f):slc f 0 a b≠[]:=by
 intro q
 have:=aw h (al0 c) d
 rw[q] at this;simp [len] at this;omega
end Go.Nt
namespace Go.Av
open Go.Nt
variable [Mx]
def uO(n:Nat):uQ (n:Int)=some n:=by
 unfold uQ;simp
def ss3(s:Bs)(a b:Nat)(c:a<=b)(d:b<=s.length):aZ true 0 (.str s) (some (.int .i64 a)) (some (.int .i64 b))=some (.str ((s.take b).drop a)):=by
 unfold aZ cZ;simp only[uO];rw[iw ⟨c,d⟩]
def ss1(s:Bs)(a:Nat)(h:a<=s.length):aZ true 0 (.str s) (some (.int .i64 a)) none=some (.str (s.drop a)):=by
 unfold aZ cZ;simp only[uO];rw[iw ⟨h,ji _⟩,Ut]
def ss2(s:Bs)(b:Nat)(h:b<=s.length):aZ true 0 (.str s) none (some (.int .i64 b))=some (.str (s.take b)):=by
 unfold aZ cZ;simp only[uO];rw[iw ⟨lv _,h⟩,kc]
def lI{i u:Bs}:i <+: u↔u.take i.length=i/\i.length<=u.length:=by
 constructor
 ·rintro ⟨r,rfl⟩
  simp
 ·rintro ⟨h,_⟩
  refine⟨u.drop i.length,?_⟩
  conv=>lhs;lhs;rw[<- h]
  exact ye _ _
def xX(s t:Bs):G9 176 [.str s,.str t] []=some (.bool (decide (t <+: s)),[]):=by
 refine aA tu ?_;by_cases h:t.length<=s.length
 ·have a:(t.length:Int)<=s.length:=by omega
  have e:(s.take t.length==t)=decide (t <+: s):=by
   rw[ai6];simp [lI,h]
  have q:=ss2 s t.length h;simp only[tu,go_sem,a,q,e]
 ·have a:¬ (t.length:Int)<=s.length:=by omega
  have e:decide (t <+: s)=false:=by
   rw[ac7,lI];exact λq=>h q.2
  simp only[tu,go_sem,a,e]
def fnd(t:Bs):Bs->Nat->Int
 | [],i=>if t=[] then (i:Int) else -1
 | c::s,i=>if t <+: c::s then (i:Int) else fnd t s (i+1)
def WI(t:Bs):∀ (s:Bs) (i:Nat),fnd t s i = -1\/((i:Int)<=fnd t s i/\fnd t s i<=((i+s.length:Nat):Int))
 | [],i=>by
  unfold fnd;split
  ·right;simp
  ·exact .inl rfl
 | c::s,i=>by
  unfold fnd;split
  ·right;simp only[jd];omega
  ·have:=WI t s (i+1)
   rw[jd];omega
def AU{t:Bs}(a:t≠[]):∀ (s:Bs) (i:Nat),s.length<t.length->fnd t s i = -1
 | [],i,_=>by unfold fnd;rw[ie a]
 | c::s,i,h=>by
  unfold fnd;rw[ie (λq=>by have:=(lI.1 q).2;omega)];exact AU a s (i+1) (by simp at h;omega)
def Pd(s t:Bs)(d:t≠[])(y:s.length<=1000000000)(m:t.length<=1000):∀ (k i:Nat),i+k=s.length ->
  (0<=fnd t (s.drop i) i->∃ r,aC G9 oP (ST [(0,.str s),(1,.str t),(7,.int .i64 i)] [] [])=some (.ret,ST r [] [])/\aF .any r 6=.int .i64 (fnd t (s.drop i) i)) /\
  (fnd t (s.drop i) i<0->∃ j:Nat,aC G9 oP (ST [(0,.str s),(1,.str t),(7,.int .i64 i)] [] [])=some (.ex 0,ST [(0,.str s),(1,.str t),(7,.int .i64 j),(15,.bool false)] [] []))
 | 0,i,h=>by
  have hi:i=s.length:=by omega
  have w:=AU d (s.drop i) i (by rw[kl];have:1<=t.length:=(by cases t with | nil=>exact absurd rfl d | cons a b=>simp);omega);refine⟨λq=>by omega,λ_=>⟨i,?_⟩⟩;have u:1<=t.length:=by cases t with | nil=>exact absurd rfl d | cons a b=>simp
  have f:IntKind.i64.wrap ((i:Int)+(t.length:Int))=(i+t.length:Nat):=by rw[w6 (by omega)];rfl
  have c:¬ ((i+t.length:Nat):Int)<=(s.length:Int):=by omega
  rw[aB oP rfl];simp only[go_sem,f,c]
 | k+1,i,h=>by
  have u:1<=t.length:=by cases t with | nil=>exact absurd rfl d | cons a b=>simp
  have f:IntKind.i64.wrap ((i:Int)+(t.length:Int))=(i+t.length:Nat):=by rw[w6 (by omega)];rfl
  have o:=wI (n:=i) (by omega)
  by_cases x:i+t.length<=s.length
  ·have c:((i+t.length:Nat):Int)<=(s.length:Int):=by omega
   have B:0<=(i:Int):=by omega
   have C:(0:Int)<=((i+t.length:Nat):Int):=by omega
   have v:i<=i+t.length:=by omega
   have hd:s.drop i=s[i]::s.drop (i+1):=je (by omega);have p:(s.take (i+t.length)).drop i=(s.drop i).take t.length:=by rw[take_drop]
   have A:=Pd s t d y m k (i+1) (by omega);have q:=ss3 s i (i+t.length) v x;by_cases g:t <+: s.drop i
   ·have l:fnd t (s.drop i) i=(i:Int):=by rw[hd,fnd,<- hd,iw g]
    have e:((s.take (i+t.length)).drop i==t)=true:=by rw[p,(lI.1 g).1];simp
    rw[l];refine⟨λ_=>?_,λq=>by omega⟩;refine Exists.intro ?_ (And.intro ?_ ?_)
    rotate_left 1
    ·rw[aB oP rfl]
     simp only[go_sem,f,c,q,e];rfl
    ·rfl
   ·have l:fnd t (s.drop i) i=fnd t (s.drop (i+1)) (i+1):=by rw[hd,fnd,<- hd,ie g]
    have e:((s.take (i+t.length)).drop i==t)=false:=by
     rw[p];simp only[aa4,ad6];exact λq=>g (lI.2 ⟨q,by rw[kl];omega⟩)
    have step:aC G9 oP (ST [(0,.str s),(1,.str t),(7,.int .i64 i)] [] [])=aC G9 oP (ST [(0,.str s),(1,.str t),(7,.int .i64 (i+1:Nat))] [] []):=by
     conv=>lhs;rw[aB oP rfl]
     simp only[go_sem,f,c,q,e,o]
    rw[l,step];exact A
  ·have c:¬ ((i+t.length:Nat):Int)<=(s.length:Int):=by omega
   have w:=AU d (s.drop i) i (by rw[kl];omega);refine⟨λq=>by omega,λ_=>⟨i,?_⟩⟩;rw[aB oP rfl];simp only[go_sem,f,c]
def J2(s t:Bs)(i:Nat)(c:t≠[])(b:s.length<=1000000000)(a:t.length<=1000)(hi:i<=s.length):G9 177 [.str s,.str t,.int .i64 i] []=some (.int .i64 (fnd t (s.drop i) i),[]):=by
 obtain⟨d,f⟩:=Pd s t c b a (s.length-i) i (by omega);refine aA tp ?_;by_cases h:0<=fnd t (s.drop i) i
 ·obtain⟨l,g,k⟩:=d h
  simp only[tp,go_sem,g,k]
 ·obtain⟨j,y⟩:=f (by omega)
  have e:fnd t (s.drop i) i = -1:=by have:=WI t (s.drop i) i;omega
  simp only[tp,go_sem,y,e]
def rX(c:UInt8):G9 254 [.int .u8 (bI c)] []=some (.agg [.int .i64 1,.str [c],.int .i64 0],[]):=by
 have e:bH [[.int .u8 (bI c)]]=some [c]:=by
  have:UInt8.ofNat c.toNat=c:=by simp
  simp [bH,sS,bI,this]
 refine aA Fj ?_;simp only[Fj,go_sem,e]
def R5(s:Bs):G9 179 [.str s] []=some (.bool (eD s),[]):=by
 refine aA MA ?_;unfold eD;cases a:(s==[112])
 ·cases b:(s==[104])
  ·cases c:(s==[108,105])
   ·cases d:(s==[116,100])
    ·simp only[MA,go_sem,a,b,c,d,ys]
    ·simp only[MA,go_sem,a,b,c,d,ys,aa3]
   ·simp only[MA,go_sem,a,b,c,ys,aa3]
  ·simp only[MA,go_sem,a,b,ys,aa3]
 ·simp only[MA,go_sem,a,aa3]
end Go.Av
namespace Go.Av
open Go.Nt
variable{i:Bs}{n:Nat}{p:UInt8}
def tIx(c d:UInt8)(n:Int)(h:(d.toNat:Int)=n):((c.toNat:Int)=n)=(c=d):=by
 rw[<- h,eq_iff_iff];constructor
 ·intro q
  exact Lc.1 (by omega)
 ·rintro rfl;rfl
def i9(c:UInt8):((c.toNat:Int)=9)=(c=9):=tIx c 9 9 rfl
def i10:((p.toNat:Int)=10)=(p=10):=tIx p 10 10 rfl
def i32:((p.toNat:Int)=32)=(p=32):=tIx p 32 32 rfl
def i34:((p.toNat:Int)=34)=(p=34):=tIx p 34 34 rfl
def i38:((p.toNat:Int)=38)=(p=38):=tIx p 38 38 rfl
def i47:((p.toNat:Int)=47)=(p=47):=tIx p 47 47 rfl
def i60:((p.toNat:Int)=60)=(p=60):=tIx p 60 60 rfl
def i92:((p.toNat:Int)=92)=(p=92):=tIx p 92 92 rfl
def xZ:((p.toNat:Int)=123)=(p=123):=tIx p 123 123 rfl
def i125:((p.toNat:Int)=125)=(p=125):=tIx p 125 125 rfl
variable [Mx]
def elV:Option (It×Nat)->AV
 | some (x,n)=>.tup [.agg (tkR x),.int .i64 n]
 | none=>.tup [.agg [.int .i64 0,.str [],.int .i64 0],.int .i64 0]
def Dx(h:i[n]?=some p)(b:p ∉ i.take n):cut p i=some (i.take n,i.drop (n+1)):=by
 refine bP.2 ⟨?_,b⟩;have a:n<i.length:=(jh.1 h).1;have hd:i.drop n=p::i.drop (n+1):=by rw[je a];congr 1;rw[ii a] at h;exact ai4 h
 rw[<- hd,ye]
def py{u bc:Bs}(h:cut p i=some (u,bc))(a:p ∉ i.take n):n<=u.length\/i.length<=n:=by
 obtain⟨e,_⟩:=bP.1 h;by_cases q:n<=u.length
 ·exact .inl q
 ·exfalso
  refine a ?_;rw[e,an8,ng]
  right
  rw[show n-u.length=(n-u.length-1)+1 by omega,qb];simp
def l255(c:UInt8)(M:i.length<=1000000000):∀ (d k:Nat),k+d=25->125 ∉ i.take k->∀ u,u=[AV.int .i64 0,.str [],.int .i64 0] ->
  match slR i with
  | some (x,n)=>∃ s,aC G9 lW (ST [(0,.str (c::i)),(2,.loc 2 0),(4,.int .i64 (k+1:Nat))] [(2,some u)] [])=some (.ret,ST s [(2,some (tkR x))] [])/\aF .any s 2=.loc 2 0/\aF .any s 3=.int .i64 n
  | none=>∃ s,aC G9 lW (ST [(0,.str (c::i)),(2,.loc 2 0),(4,.int .i64 (k+1:Nat))] [(2,some u)] [])=some (.ex 0,ST s [(2,some u)] [])/\aF .any s 2=.loc 2 0:=by
 intro d
 induction d with
 | zero =>
  intro k D j u E;have D:k=25:=by omega
  subst D;have m:slR i=none:=by
   unfold slR;cases v:cut 125 i with
   | none=>rfl
   | some p =>
    obtain⟨a,r⟩:=p;simp only[];by_cases q:cU a=true
    ·have L:=(nJ q).2.1
     rcases py v j with z | z
     ·omega
     ·exfalso
      have e:=(bP.1 v).1;rw[Ty z] at j;exact j (by rw[e];simp)
    ·rw[ie q]
  rw[m];subst E;by_cases y:(26:Int)<((i.length+1:Nat):Int)
  ·refine Exists.intro ?_ (And.intro ?_ ?_)
   rotate_left 1
   ·rw[aB lW rfl]
    simp only[go_sem,jd,y];rfl
   ·rfl
  ·refine Exists.intro ?_ (And.intro ?_ ?_)
   rotate_left 1
   ·rw[aB lW rfl]
    simp only[go_sem,jd,y];rfl
   ·rfl
 | succ d K =>
  intro k D j u E;subst E;by_cases y:k<i.length
  ·have f:((k+1:Nat):Int)<((i.length+1:Nat):Int):=by omega
   have l:((k+1:Nat):Int)<=25:=by omega
   have B:(0:Int)<=((k+1:Nat):Int):=by omega
   have hg:i[k]?=some i[k]:=ii y;have A:(c::i)[k+1]?=some i[k]:=by rw[ac5];exact hg
   generalize i[k]=b at hg A;have o:=ss3 (c::i) 1 (k+1) (by omega) (by simp;omega);have I:(((1:Nat):Int))=1:=rfl;have J:((c::i).take (k+1)).drop 1=i.take k:=by simp
   rw[I,J] at o;by_cases C:b=125
   ·subst C
    have v:=Dx hg j;have g:((125:UInt8).toNat:Int)=125:=rfl;have h:=up (c74 (i.take k)) rfl;have G:IntKind.i64.wrap (((k+1:Nat):Int)+1)=(k+2:Nat):=by rw[w6 (by omega)];omega
    have w:(i.take k).length=k:=by rw[tr];omega
    by_cases hi:cU (i.take k)=true
    ·have m:slR i=some ((5,i.take k,0),k+2):=by unfold slR;rw[v];simp only[];rw[iw hi,w]
     rw[hi] at h;rw[m];refine Exists.intro ?_ (And.intro ?_ (And.intro ?_ ?_))
     rotate_left 1
     ·rw[aB lW rfl]
      simp only[go_sem,jd,f,l,B,A,g,o,h,G,tkR];rfl
     ·rfl
     ·rfl
    ·have m:slR i=none:=by unfold slR;rw[v];simp only[];rw[ie hi]
     have hi':cU (i.take k)=false:=by simpa using hi
     rw[hi'] at h;rw[m];refine Exists.intro ?_ (And.intro ?_ ?_)
     rotate_left 1
     ·rw[aB lW rfl]
      simp only[go_sem,jd,f,l,B,A,g,o,h];rfl
     ·rfl
   ·have g:¬ (b.toNat:Int)=125:=by rw[i125];exact C
    have G:IntKind.i64.wrap (((k+1:Nat):Int)+1)=(k+1+1:Nat):=by rw[w6 (by omega)];omega
    have F:125 ∉ i.take (k+1):=by
     rw[ab7,hg,ng]
     rintro (q | q)
     ·exact j q
     ·simp at q;exact C q.symm
    have H:=K (k+1) (by omega) F _ rfl;have step:aC G9 lW (ST [(0,.str (c::i)),(2,.loc 2 0),(4,.int .i64 (k+1:Nat))] [(2,some [AV.int .i64 0,.str [],.int .i64 0])] [])=aC G9 lW (ST [(0,.str (c::i)),(2,.loc 2 0),(4,.int .i64 (k+1+1:Nat))] [(2,some [AV.int .i64 0,.str [],.int .i64 0])] []):=by
     conv=>lhs;rw[aB lW rfl]
     simp only[go_sem,jd,f,l,B,A,g,G]
    rw[step];exact H
  ·have f:¬ ((k+1:Nat):Int)<((i.length+1:Nat):Int):=by omega
   have m:slR i=none:=by
    unfold slR
    have:cut 125 i=none:=kE.2 (by rw[Ty (by omega)] at j;exact j)
    rw[this]
   rw[m];refine Exists.intro ?_ (And.intro ?_ ?_)
   rotate_left 1
   ·rw[aB lW rfl]
    simp only[go_sem,jd,f];rfl
   ·rfl
def yn(c:UInt8)(t:Bs)(f:t.length<=1000000000):G9 255 [.str (c::t)] []=some (elV (slR t),[]):=by
 have x:=l255 c (i:=t) f 25 0 (by omega) (by simp) _ rfl;have e:((0+1:Nat):Int)=1:=rfl;rw[e] at x;refine aA ta ?_;cases d:slR t with
 | none =>
  rw[d] at x;obtain⟨g,a,b⟩:=x;simp only[ta,go_sem,a,b,elV,jM,iR,la,ad8,ak3,kp,kz,Nat.reduceEqDiff]
 | some p =>
  obtain⟨y,n⟩:=p;rw[d] at x;obtain⟨g,a,b,h⟩:=x;obtain⟨k,s,i⟩:=y;simp only[tkR] at a;simp only[ta,go_sem,a,b,h,elV,tkR]
def OR(b:UInt8):∀ (t:Bs) (i:Nat),fnd [b] t i=match cut b t with
  | some (a,_)=>((i+a.length:Nat):Int)
  | none=>-1
 | [],i=>by
  have:cut b []=none:=kE.2 (by simp)
  rw[this,fnd,ie (by simp)]
 | c::t,i=>by
  have m:=OR b t (i+1);rw[fnd];by_cases h:c=b
  ·subst h
   have j:cut c (c::t)=some ([],t):=bP.2 ⟨rfl,by simp⟩;rw[iw ⟨t,rfl⟩,j];simp
  ·have k:¬ [b] <+: c::t:=by
    rintro ⟨r,l⟩
    injection l with g n
    exact h g.symm
   rw[ie k,m];cases d:cut b t with
   | none =>
    have:cut b (c::t)=none:=kE.2 (by
     have:=kE.1 d
     simp [this,ad9 h])
    rw[this]
   | some p =>
    obtain⟨a,r⟩:=p;obtain⟨e,f⟩:=bP.1 d
    have:cut b (c::t)=some (c::a,r):=bP.2 ⟨by rw[e];rfl,by simp [f,ad9 h]⟩
    rw[this];simp only[jd];omega
variable [Mx]
def Y8(c:UInt8)(t:Bs)(Q:t.length<=1000000):G9 178 [.str (c::t)] []=some (elV (tgR t),[]):=by
 have e:=J2 (c::t) [62] 1 (by simp) (by simp;omega) (by simp) (by simp);rw[ab8,kc,OR] at e;have A:((1:Nat):Int)=1:=rfl;rw[A] at e;refine aA CA ?_;unfold tgR;cases D:cut 62 t with
 | none =>
  rw[D] at e;simp only[CA,go_sem,e,elV]
 | some p =>
  obtain⟨a,r⟩:=p;rw[D] at e;simp only[] at e ⊢;obtain⟨G,_⟩:=bP.1 D;have C:a.length<=t.length:=by rw[G];simp
  have l:¬ ((1+a.length:Nat):Int)<0:=by omega
  have o:IntKind.i64.wrap (((1+a.length:Nat):Int)+1)=(a.length+2:Nat):=by rw[w6 (by omega)];omega
  have b:=ss3 (c::t) 1 (1+a.length) (by omega) (by simp;omega);have I:((c::t).take (1+a.length)).drop 1=a:=by rw[G,Nat.add_comm];simp
  rw[A,I] at b;have j:=xX a [47];have L:IntKind.i64.wrap (((1+a.length:Nat):Int)+1)=(((a.length+2:Nat):Nat):Int):=o;generalize P:1+a.length=E at e l o b;generalize K:a.length+2=O at o ⊢
  clear L
  cases a with
  | nil =>
   have v:decide ([47] <+: ([]:Bs))=false:=by decide
   have h:=up (c75 []) rfl;have B:isC []=false:=rfl;rw[B] at h;rw[v] at j;have g:¬ rtV (rtK []).1 (rtK []).2=true:=by decide
   rw[ie g];simp only[CA,go_sem,e,l,b,j,h,elV,jz]
  | cons d u =>
   rw[jd] at C;have f:(0:Int)<((u.length+1:Nat):Int):=by omega
   by_cases hd:d=47
   ·subst hd
    have v:decide ([47] <+: (47:UInt8)::u)=true:=jv ⟨u,rfl⟩;rw[v] at j;have s:rtK (47::u)=(3,u):=rfl;have m:=ss1 (47::u) 1 (by simp);rw[A,ab8,kc] at m;have y:=up (c74 u) rfl;rw[s];by_cases hi:cU u=true
    ·have g:rtV 3 u=true:=by unfold rtV;rw[iw rfl];exact hi
     rw[iw g];rw[hi] at y;simp only[CA,go_sem,e,l,b,j,m,y,o,elV,tkR,jd]
    ·have g:¬ rtV 3 u=true:=by unfold rtV;rw[iw rfl];exact hi
     rw[ie g];have hi':cU u=false:=by simpa using hi
     rw[hi'] at y;simp only[CA,go_sem,e,l,b,j,m,y,elV]
   ·have v:decide ([47] <+: d::u)=false:=by
     rw[ac7]
     rintro ⟨r,M⟩
     injection M with N R
     exact hd N.symm
    rw[v] at j;obtain⟨z,w⟩:∃ z,(d::u)[u.length]?=some z:=⟨_,ii (by simp)⟩
    have q:(d::u).getLast?=some z:=by rw[getLast?_eq_getElem?];simpa using w
    have k:IntKind.i64.wrap (((u.length+1:Nat):Int)-1)=(u.length:Int):=by rw[w6 (by omega)];omega
    have x:0<=(u.length:Int):=by omega
    have H:¬ (d::u).head?=some 47:=by simpa using hd
    by_cases F:z=47
    ·subst F
     have i:((47:UInt8).toNat:Int)=47:=rfl;have s:rtK (d::u)=(4,(d::u).dropLast):=by unfold rtK;rw[ie H,iw q]
     have n:=ss2 (d::u) u.length (by simp);have J:(d::u).take u.length=(d::u).dropLast:=by rw[an6];rfl
     rw[J] at n;have h:=up (c75 (d::u).dropLast) rfl;rw[s];by_cases hi:isC (d::u).dropLast=true
     ·have g:rtV 4 (d::u).dropLast=true:=by unfold rtV;rw[ie (by decide)];exact hi
      rw[iw g];rw[hi] at h;simp only[CA,go_sem,e,l,b,j,f,k,x,w,i,n,h,o,elV,tkR,jd]
     ·have g:¬ rtV 4 (d::u).dropLast=true:=by unfold rtV;rw[ie (by decide)];exact hi
      rw[ie g];have hi':isC (d::u).dropLast=false:=by simpa using hi
      rw[hi'] at h;simp only[CA,go_sem,e,l,b,j,f,k,x,w,i,n,h,elV,jd]
    ·have i:¬ (z.toNat:Int)=47:=by rw[i47];exact F
     have s:rtK (d::u)=(2,d::u):=by unfold rtK;rw[ie H,ie (by rw[q];simpa using F)]
     have h:=up (c75 (d::u)) rfl;rw[s];by_cases hi:isC (d::u)=true
     ·have g:rtV 2 (d::u)=true:=by unfold rtV;rw[ie (by decide)];exact hi
      rw[iw g];rw[hi] at h;simp only[CA,go_sem,e,l,b,j,f,k,x,w,i,h,o,elV,tkR,jd]
     ·have g:¬ rtV 2 (d::u)=true:=by unfold rtV;rw[ie (by decide)];exact hi
      rw[ie g];have hi':isC (d::u)=false:=by simpa using hi
      rw[hi'] at h;simp only[CA,go_sem,e,l,b,j,f,k,x,w,i,h,elV,jd]
end Go.Av
namespace Go.Av
open Go.Nt
variable{c p:UInt8}{i:Bs}
variable [Mx]
def uk(n:Int)(c:UInt8)(h:(c.toNat:Int)=n):G9 254 [.int .u8 n] []=some (.agg [.int .i64 1,.str [c],.int .i64 0],[]):=by
 subst h;exact rX c
def mh:decide ([p,p] <+: p::i)=decide (i.head?=some p):=by
 rw[ag5];constructor
 ·rintro ⟨r,b⟩
  injection b with c a
  rw[<- a];rfl
 ·intro h
  cases i with
  | nil=>simp at h
  | cons d u =>
   simp at h;subst h;exact⟨u,rfl⟩
def Xb(u:Bs)(m:u.length<=1000000):G9 240 [.str (c::u)] []=some (elV (elS (c::u)),[]):=by
 have f:(c::u)[0]?=some c:=rfl;have a:(c::u)[(0:Int).toNat]?=some c:=rfl;refine aA JM ?_;rw[elS];by_cases c1:c=34
 ·subst c1
  have b:=xX (34::u) [34,34];rw[mh] at b;have g:=uk 34 34 rfl;have e:((34:UInt8).toNat:Int)=34:=rfl;rw[iw rfl];by_cases q:u.head?=some 34
  ·rw[jv q] at b
   rw[iw q];simp only[JM,go_sem,f,a,e,b,g,elV,tkR]
   try rfl
  ·rw[jr q] at b
   rw[ie q];simp only[JM,go_sem,f,a,e,b,elV]
 have j:¬ (c.toNat:Int)=34:=by rw[i34];exact c1
 rw[ie c1];by_cases c2:c=123
 ·subst c2
  have b:=xX (123::u) [123,123];rw[mh] at b;have g:=uk 123 123 rfl;have d:=yn 123 u (by omega);have e:((123:UInt8).toNat:Int)=123:=rfl;rw[iw rfl];by_cases q:u.head?=some 123
  ·rw[jv q] at b
   rw[iw q];simp only[JM,go_sem,f,a,e,b,g,elV,tkR]
   try rfl
  ·rw[jr q] at b
   rw[ie q];cases h:slR u with
   | none=>rw[h] at d;simp only[elV] at d;simp only[JM,go_sem,f,a,e,b,d,elV]
   | some p =>
    obtain⟨⟨k,s,i⟩,n⟩:=p;rw[h] at d;simp only[elV,tkR] at d;simp only[JM,go_sem,f,a,e,b,d,elV,tkR]
 have l:¬ (c.toNat:Int)=123:=by rw[xZ];exact c2
 rw[ie c2];have g:=rX c;simp only[JM,go_sem,f,a,j,l,g,elV,tkR]
 try rfl
def NA(u:Bs):decide (38::i <+: (38:UInt8)::u)=decide (i <+: u):=by
 rw[ag5];constructor
 ·rintro ⟨r,a⟩
  injection a with c b
  exact⟨r,b⟩
 ·rintro ⟨r,a⟩
  exact⟨r,by rw[<- a];rfl⟩
def Xd(u:Bs)(O:u.length<=1000000):G9 238 [.str (c::u)] []=some (elV (elM (c::u)),[]):=by
 have g:(c::u)[0]?=some c:=rfl;have b:(c::u)[(0:Int).toNat]?=some c:=rfl;refine aA vW ?_;rw[elM];by_cases c1:c=60
 ·subst c1
  have l:=Y8 60 u O;have d:((60:UInt8).toNat:Int)=60:=rfl;rw[iw rfl];cases f:tgR u with
  | none=>rw[f] at l;simp only[elV] at l;simp only[vW,go_sem,g,b,d,l,elV]
  | some p =>
   have N:=rZ (s:=p.1) (n:=p.2) f;obtain⟨⟨k,s,i⟩,n⟩:=p;have I:s.length<=1000000:=by
    unfold tgR at f;cases d:cut 62 u with
    | none=>rw[d] at f;cases f
    | some q =>
     obtain⟨a,r⟩:=q;rw[d] at f;simp only[] at f
     split at f
     ·cases f
      have e:=(bP.1 d).1
      have:a.length<=u.length:=by rw[e];simp
      have:(rtK a).2.length<=a.length:=by unfold rtK;split<;>(try split)<;>simp
      omega
     ·cases f
   have x:=up (c64 s I) rfl;have B:=R5 (aH s);rw[f] at l;simp only[elV,tkR] at l;have K:¬ (n:Int)=0:=by have:=N.2.1;omega
   simp only[];by_cases q:eD (aH s)=true
   ·rw[iw q]
    rw[q] at B;simp only[vW,go_sem,g,b,d,l,K,x,B,elV]
   ·have S:eD (aH s)=false:=by simpa using q
    rw[ie q];rw[S] at B;simp only[vW,go_sem,g,b,d,l,K,x,B,elV,tkR]
 have P:¬ (c.toNat:Int)=60:=by rw[i60];exact c1
 rw[ie c1];by_cases c2:c=38
 ·subst c2
  have d:((38:UInt8).toNat:Int)=38:=rfl;rw[iw rfl];have h:=xX (38::u) [38,108,116,59];have j:=xX (38::u) [38,103,116,59];have m:=xX (38::u) [38,97,109,112,59];have v:=xX (38::u) [38,108,98,59];have y:=xX (38::u) [38,114,98,59];rw[NA] at h j m v y;have w:aZ true 0 (.str [38,108,116,59,60]) none (some (.int .i64 4))=some (.str [38,108,116,59]):=rfl;have A:aZ true 0 (.str [38,103,116,59,62]) none (some (.int .i64 4))=some (.str [38,103,116,59]):=rfl;have H:aZ true 0 (.str [38,97,109,112,59,38]) none (some (.int .i64 5))=some (.str [38,97,109,112,59]):=rfl;have J:aZ true 0 (.str [38,108,98,59,123]) none (some (.int .i64 4))=some (.str [38,108,98,59]):=rfl;have L:aZ true 0 (.str [38,114,98,59,125]) none (some (.int .i64 4))=some (.str [38,114,98,59]):=rfl;have T:=rX 60;have U:=rX 62;have V:=rX 38;have X:=rX 123;have t5:=rX 125;unfold rfR;by_cases C:[108,116,59] <+: u
  ·rw[jv C] at h
   rw[iw C];simp only[vW,go_sem,g,b,d];rw[aB eS rfl];simp only[go_sem,w,h,T,elV,tkR]
   try rfl
  rw[jr C] at h;rw[ie C];by_cases D:[103,116,59] <+: u
  ·rw[jv D] at j
   rw[iw D];simp only[vW,go_sem,g,b,d];rw[aB eS rfl];simp only[go_sem,w,h];rw[aB eS rfl];simp only[go_sem,A,j,U,elV,tkR]
   try rfl
  rw[jr D] at j;rw[ie D];by_cases E:[97,109,112,59] <+: u
  ·rw[jv E] at m
   rw[iw E];simp only[vW,go_sem,g,b,d];rw[aB eS rfl];simp only[go_sem,w,h];rw[aB eS rfl];simp only[go_sem,A,j];rw[aB eS rfl];simp only[go_sem,H,m,V,elV,tkR]
   try rfl
  rw[jr E] at m;rw[ie E];by_cases F:[108,98,59] <+: u
  ·rw[jv F] at v
   rw[iw F];simp only[vW,go_sem,g,b,d];rw[aB eS rfl];simp only[go_sem,w,h];rw[aB eS rfl];simp only[go_sem,A,j];rw[aB eS rfl];simp only[go_sem,H,m];rw[aB eS rfl];simp only[go_sem,J,v,X,elV,tkR]
   try rfl
  rw[jr F] at v;rw[ie F];by_cases G:[114,98,59] <+: u
  ·rw[jv G] at y
   rw[iw G];simp only[vW,go_sem,g,b,d];rw[aB eS rfl];simp only[go_sem,w,h];rw[aB eS rfl];simp only[go_sem,A,j];rw[aB eS rfl];simp only[go_sem,H,m];rw[aB eS rfl];simp only[go_sem,J,v];rw[aB eS rfl];simp only[go_sem,L,y,t5,elV,tkR]
   try rfl
  rw[jr G] at y;rw[ie G];simp only[vW,go_sem,g,b,d];rw[aB eS rfl];simp only[go_sem,w,h];rw[aB eS rfl];simp only[go_sem,A,j];rw[aB eS rfl];simp only[go_sem,H,m];rw[aB eS rfl];simp only[go_sem,J,v];rw[aB eS rfl];simp only[go_sem,L,y];rw[aB eS rfl];simp only[go_sem,elV]
 have Q:¬ (c.toNat:Int)=38:=by rw[i38];exact c2
 rw[ie c2];by_cases c3:c=123
 ·subst c3
  have o:=yn 123 u (by omega);have d:((123:UInt8).toNat:Int)=123:=rfl;rw[iw rfl];cases f:slR u with
  | none=>rw[f] at o;simp only[elV] at o;simp only[vW,go_sem,g,b,d,o,elV]
  | some p =>
   obtain⟨⟨k,s,i⟩,n⟩:=p;rw[f] at o;simp only[elV,tkR] at o;simp only[vW,go_sem,g,b,d,o,elV,tkR]
 have R:¬ (c.toNat:Int)=123:=by rw[xZ];exact c3
 rw[ie c3];have M:=rX c;simp only[vW,go_sem,g,b,P,Q,R,M,elV,tkR]
 try rfl
end Go.Av
