/- Functions walked, and plain facts. No conditions. -/
import Derived.Test.YthnlilndompbaaaGreatDoorT1XD
import Derived.Test.YthnlilndompbaaaGreatDoorT1XH
import Derived.Test.YthnlilndompbaaaGreatDoorT1XI
open List
set_option linter.all false
set_option maxRecDepth 100000
set_option maxHeartbeats 16000000
def ae6:=@List.getElem?_replicate
def aj7:=@Nat.add_sub_cancel
def al8:=@List.length_reverse
namespace Go.Nt
variable{V e:List It}{de s:It}{i u:Bs}{k:Int}{n q:Nat}{p:UInt8}{r:List Nat}{x y:List (Bool×Bs×Bs)}
def wB(c:UInt8):Nat:=if c=46\/c=33\/c=62\/c=61\/c=34 then 1 else 0
def wt(s:Bs):Nat:=(s.map wB).sum
theorem yi:wt []=0:=rfl
def Y3:wt (p::i)=wB p+wt i:=by simp [wt]
def RU:wt (i++u)=wt i+wt u:=by simp [wt]
def RT(h:n<=q):wt (i.take q)=wt (i.take n)+wt ((i.take q).drop n):=by
 conv=>lhs;rw[<- ye n (i.take q),RU,take_take,ad7 h]
def DU(h:n<=q):wt (i.take n)<=wt (i.take q):=by rw[RT h];omega
def Y2(h:u[n]?=some p)(a:wB p=1):wt (u.take (n+1))=wt (u.take n)+1:=by
 have e:u.take (n+1)=u.take n++[p]:=by rw[ab7,h];rfl
 rw[e,RU,Y3,a,yi]
def WP(ps:List (Bool×Bs×Bs)):Nat:=(ps.map λp=>if p.1=true then 1+wt p.2.2 else 0).sum
def XX:WP (x++y)=WP x+WP y:=by simp [WP]
def XW(bc cy:Bs):WP [(false,i,bc),(true,u,cy)]=1+wt cy:=by simp [WP]
def sB(c:UInt8):Nat:=if jE c=true then 1 else 0
def st(s:Bs):Nat:=(s.map sB).sum
theorem zK:st []=0:=rfl
def jS:st (p::i)=sB p+st i:=by simp [st]
def jI:st (i++u)=st i+st u:=by simp [st]
def ZM(h:n<=q):st (i.take n)<=st (i.take q):=by
 have:i.take q=i.take n++(i.take q).drop n:=by
  conv=>lhs;rw[<- ye n (i.take q),take_take,ad7 h]
 rw[this,jI];omega
def ZK(h:u[n]?=some p)(a:jE p=true):st (u.take (n+1))=st (u.take n)+1:=by
 have e:u.take (n+1)=u.take n++[p]:=by rw[ab7,h];rfl
 rw[e,jI,jS,zK];unfold sB;rw[iw a]
def DE(t:Bs):∀ n,((List.range n).filter (sU t)).length<=st (t.take (n-1))
 | 0=>by simp
 | n+1=>by
  have f:=DE t n;rw[range_succ,filter_append,jb,aj7];cases a:sU t n with
  | false =>
   rw[filter_cons_of_neg (by simp [a]),filter_nil,jz]
   have:=ZM (i:=t) (show n-1<=n by omega)
   omega
  | true =>
   rw[filter_cons_of_pos a,filter_nil,jy];unfold sU at a;simp only[ir,jo] at a;obtain⟨⟨⟨c,d⟩,b⟩,e⟩:=a;have hg:t[n-1]?=some (t.getD (n-1) 0):=by
    rw[ki,ii (by omega)];rfl
   have:=ZK hg b
   rw[show n-1+1=n by omega] at this;omega
def rb:(l5 i).length<=st i:=by
 unfold l5;split
 ·simp
 ·have:=DE i (i.length+1)
  rw[aj7,Ut] at this;exact this
def ZN:st (i.drop n)+st (i.take n)=st i:=by
 conv=>rhs;rw[<- ye n i,jI]
 omega
def KE(h:slR i=some (s,n)):st (plx s)=0:=by
 unfold slR at h;cases a:cut 125 i with
 | none=>rw[a] at h;cases h
 | some p=>obtain⟨b,r⟩:=p;rw[a] at h;simp only[] at h;split at h<;>cases h;rfl
def Ak(h:rfR i=some (s,n)):st (plx s)=0:=by
 unfold rfR at h
 repeat' split at h
 all_goals (cases h;try rfl)
def za(h:tgR i=some (s,n)):st (plx s)=0:=by
 have:=(rZ h).2.2.2
 have a:¬ s.1=1:=by omega
 have b:¬ s.1=5:=by omega
 unfold plx;rw[ie a,ie b];rfl
def KZ(c:UInt8)(t:Bs):st (plx (1,[c],0))<=st ((c::t).take 1):=by
 have e:plx (1,[c],0)=[c]:=by simp [plx]
 rw[e];exact ji _
def Qt(h:el k i=some (de,n)):st (plx de)<=st (i.take n):=by
 cases i with
 | nil=>have:=(lQ h).2;simp at this;omega
 | cons c t =>
  unfold el at h
  split at h
  ·rw[elM] at h
   split at h
   ·cases a:tgR t with
    | none=>rw[a] at h;cases h
    | some p =>
     obtain⟨y,m⟩:=p;rw[a] at h;simp only[] at h
     split at h
     ·cases h
     ·cases h;rw[za a];omega
   split at h
   ·rw[Ak h];omega
   split at h
   ·rw[KE h];omega
   ·cases h;exact KZ c t
  split at h
  ·have e:elR (c::t)=if c=10 then none else if c=123 then slR t else if c=92 then (match t with
    | []=>none
    | d::u=>match kN d with
     | some v=>some ((1,[v],0),2)
     | none=>if d=10 then some ((0,[],0),2+sX u) else none) else some ((1,[c],0),1):=by cases t<;>rfl
   rw[e] at h
   split at h
   ·cases h
   split at h
   ·rw[KE h];omega
   split at h
   ·cases t with
    | nil=>cases h
    | cons d u =>
     simp only[] at h;cases a:kN d with
     | some v =>
      rw[a] at h;cases h
      have:st (plx (1,[v],0))=0:=by
       unfold kN at a
       repeat' split at a
       all_goals (first | (cases a;done) | (cases a;rfl))
      rw[this];omega
     | none =>
      rw[a] at h;simp only[] at h
      split at h
      ·cases h;exact lv _
      ·cases h
   ·cases h;exact KZ c t
  ·rw[elS] at h
   split at h
   ·split at h
    ·cases h;exact lv _
    ·cases h
   split at h
   ·split at h
    ·cases h;exact lv _
    ·rw[KE h];omega
   ·cases h;exact KZ c t
def lL:aT (e++V)=aT e++aT V:=by simp [aT]
def GY:aT (pn e s)=aT e++plx s:=by
 unfold pn;by_cases h:s.1=1
 ·rw[iw h]
  have ex:plx s=s.2.1:=by unfold plx;rw[iw h]
  split
  ·rename_i q;rw[ex,q];simp
  ·rcases iB (e:=e) (s:=(1,s.2.1,0)) rfl with ⟨_,a⟩ | ⟨g,y,rfl,b,a⟩
   ·rw[a,lL,ex];simp [aT,plx]
   ·rw[a,lL,lL,ex];simp [aT,plx,b]
 ·rw[ie h,lL];simp [aT]
def ZI{D:Int}(h:stp s e k=some (de,V,D)):plx de=plx s:=by
 unfold stp at h
 split at h
 ·rename_i q;cases h;unfold plx;simp [q]
 split at h
 ·rename_i q;cases h;unfold plx;simp [q]
 split at h
 ·rename_i q
  cases a:e.getLast? with
  | none=>rw[a] at h;cases h
  | some t =>
   rw[a] at h;simp only[] at h
   split at h
   ·cases h;unfold plx;simp [q]
   ·cases h
 ·cases h;rfl
def LM(fm:Int):∀ (k:Nat) (f op:List It) (id:Int) (cs:List Nat) (a b:Nat) (s:Bs) (g:List It) (c:List Nat),dcs fm k f op id cs a b s=some (g,c)->st (aT g)<=st (aT f)+st s
 | 0,f,op,id,cs,a,b,s,g,c,hd=>by
  unfold dcs at hd
  split at hd
  ·cases hd;omega
  ·cases hd
 | k+1,f,op,id,cs,a,b,s,g,c,hd=>by
  unfold dcs at hd
  split at hd
  ·split at hd
   ·cases hd;omega
   ·cases hd
  cases d:el fm s with
  | none=>rw[d] at hd;cases hd
  | some p =>
   obtain⟨x,n⟩:=p;have l:=Qt d;have j:=ZN (i:=s) (n:=n);rw[d] at hd;simp only[] at hd
   split at hd
   ·have:=LM fm k f op id cs _ b _ g c hd
    omega
   ·cases e:stp x op id with
    | none=>rw[e] at hd;cases hd
    | some q =>
     obtain⟨y,op',h⟩:=q;rw[e] at hd;simp only[] at hd
     split at hd
     ·cases hd
     ·have:=LM fm k (pn f y) op' h _ _ _ _ g c hd
      rw[GY,jI,ZI e] at this;omega
def W4(h:dcd k i=some (e,r)):(l5 (aT e)).length<=st i:=by
 have a:=LM k i.length [] [] 0 [] 0 0 i e r h;have b:=rb (i:=aT e);have c:st (aT [])=0:=rfl;omega
def ItG(tg:Bool)(x:It):Prop:=x.1=1\/(x.1=5/\x.2.1∈Go.Av.tbA)\/(tg=true/\((x.1=2/\x.2.1∈Go.Av.tbC)\/(x.1=4/\x.2.1∈Go.Av.tbB)\/(x.1=3/\x.2.1∈([[98],[105],[97]]:List Bs))))
def Fc{d:Bool}(b:∀ z∈e,ItG d z)(f:ItG d s):∀ z∈pn e s,ItG d z:=by
 intro z a;unfold pn at a;by_cases h:s.1=1
 ·rw[iw h] at a
  split at a
  ·exact b z a
  ·rcases iB (e:=e) (s:=(1,s.2.1,0)) rfl with ⟨_,c⟩ | ⟨g,y,rfl,i,c⟩
   ·rw[c] at a
    rcases ng.1 a with a | a
    ·exact b z a
    ·rw[kj] at a;rw[a];exact .inl rfl
   ·rw[c] at a
    rcases ng.1 a with a | a
    ·exact b z (al1 _ a)
    ·rw[kj] at a;rw[a];exact .inl rfl
 ·rw[ie h] at a
  rcases ng.1 a with a | a
  ·exact b z a
  ·rw[kj] at a;rw[a];exact f
end Go.Nt
namespace Go.Av
open Go.Nt
variable{A:List Pt}{D k:Int}{L:List Int}{U d:Bool}{c:LL}{ck m:List (Nat×Nat)}{cy i u:Bs}{df:List Bool}{dz:List (Nat×AV)}{e:List It}{f:Nat->Bool}{fu:Option (AX×AS)}{gm:Nat×Nat}{ik:List (Nat×Option (List AV))}{j n v:Nat}{p:UInt8}{r:List Nat}{s:It}
variable [Mx]
def Ky:st (wd L n)<=1:=by
 unfold wd;have a:=jL L n 24 (by decide)
 have:∀ j:Fin 24,st (wds.getD j.1 [])<=1:=by decide
 exact this ⟨(nxt L n 24).toNat,by omega⟩
def J7(l:List Int):∀ (k n:Nat) (out:List UInt8),st (lnF l k n out).1<=st out+k
 | 0,n,out=>by simp [lnF]
 | k+1,n,out=>by
  have b:=Ky (L:=l) (n:=n);simp only[lnF];split
  ·have:=J7 l k (n+1) (out++wd l n);rw[jI] at this;omega
  ·have:=J7 l k (n+2) ((if 0<nxt l (n+1) 3 then out++[32] else out)++wd l n)
   rw[jI] at this;have a:st (if 0<nxt l (n+1) 3 then out++[32] else out)<=st out:=by
    split
    ·rw[jI];exact ji _
    ·exact ji _
   omega
def SY:st (AG L n 3).1<=3:=by
 have b:=jL L n 4 (by omega);have a:=J7 L (nxt L n 4).toNat (n+1) [];rw[zK] at a;show st (lnF L (nxt L n 4).toNat (n+1) []).1<=3;omega
structure FIt (tg:Bool) (M B k n:Nat) (f ops:List Tk) (id:Int) (md:Own):Prop where
 k8:k<=M
 m8:M<=8
 n0:n<=B+20*(M+1-k)
 nB:B<=100000
 f0:f.length<=M-k
 f1:tot f<=18*(M-k)
 f2:st (aT f)<=3*(M-k)
 o0:ops.length<=M-k
 o1:∀ t∈ops,t.2.1∈tbC
 i0:0<=id
 i1:id<=(M:Int)-(k:Int)
 md0:md≠.no
 fv:FV f ops id
 it:∀ x∈f,ItG tg x
 ot:ops=[]\/tg=true
def FIt.push{tg:Bool}{M B k n:Nat}{f ops:List Tk}{id:Int}{md:Own}(h:FIt tg M B (k+1) n f ops id md){n':Nat}{x:Tk}{a:List Tk}{b:Int}{md':Own}(l:ItG tg x)(m:x.2.1.length<=18)(q:st (plx x)<=3)(o:n'<=n+20)(c:FV (pn f x) a b)(p:a.length<=ops.length+1)(d:∀ t∈a,t.2.1∈tbC)(hi:id<=b/\b<=id+1)(g:a=[]\/tg=true)(i:md'≠.no):FIt tg M B k n' (pn f x) a b md':=by
 obtain⟨k8,m8,n0,nB,f0,f1,f2,o0,o1,i0,i1,md0,fv,it,ot⟩:=h;obtain⟨u,r⟩:=o9 f x;have j:=GY (e:=f) (s:=x);exact⟨by omega,m8,by omega,nB,by omega,by omega,by rw[j,jI];omega,by omega,d,by omega,by omega,i,c,Fc it l,g⟩
def vb:∀ x∈tbC,x.length<=5:=by decide
def CZ(tg:Bool)(M B:Nat)(l:List Int):∀ (k n:Nat) (f ops:List Tk) (id:Int) (v:AV) (R:LL) (d:Own),FIt tg M B k n f ops id d->REF 0 R->FR v R f ->
  ∃ n' K b i Q F a,FIt tg M B 0 n' K b i a/\REF 0 F/\FR Q F K /\
   aC G0 f8 (ST [(0,.ptr 0 0),(2,.bool tg),(3,.bool true),(9,v),(10,.sl d 3 (tks ops)),(11,.int .i64 id),(12,.int .i64 k)] [] (num l n::R))=some (.ex 0,ST [(0,.ptr 0 0),(2,.bool tg),(3,.bool true),(9,Q),(10,.sl a 3 (tks b)),(11,.int .i64 i),(12,.int .i64 0),(21,.bool false)] [] (num l n'::F))
 | 0,n,f,ops,id,v,R,d,h,G,S=>by
  refine⟨n,f,ops,id,v,R,d,h,G,S,?_⟩;have H:=S.scrub;rw[aB f8 rfl];simp only[go_sem,jm,H]
 | k+1,n,f,ops,id,v,R,d,h,G,S=>by
  have h':=h;obtain⟨k8,m8,n0,nB,f0,f1,f2,o0,o1,i0,i1,md0,fv,it,ot⟩:=h';have p:=REF.rok G;have H:=S.scrub;have J:=S.dem;have I:=S.arg;have N:(0:Int)<((k+1:Nat):Int):=by omega
  have g:IntKind.i64.wrap (((k+1:Nat):Int)-1)=(k:Int):=by rw[w6 (by omega)];omega
  have hl:=Nq (L:=l) (n:=n);have a0:=SY (L:=l) (n:=n);have c:=c63r p (L:=l) (n:=n) (k:=3) (by omega) (by decide) (by decide);generalize hL:AG l n 3=L at hl a0 c;obtain⟨s,j⟩:=L;simp only[] at hl a0 c;have e:=LS p l j 8 (by omega) (by decide) (by decide);have hy:=jL l j 8 (by decide);generalize nxt l j 8=y at e hy
  have q:y=7\/(y=2/\tg=false)\/((y=3\/y=4)/\tg=false)\/((y=5\/y=6)/\ops=[])->∃ n' K b i Q F a,FIt tg M B 0 n' K b i a/\REF 0 F/\FR Q F K /\
   aC G0 f8 (ST [(0,.ptr 0 0),(2,.bool tg),(3,.bool true),(9,v),(10,.sl d 3 (tks ops)),(11,.int .i64 id),(12,.int .i64 (k+1:Nat))] [] (num l n::R))=some (.ex 0,ST [(0,.ptr 0 0),(2,.bool tg),(3,.bool true),(9,Q),(10,.sl a 3 (tks b)),(11,.int .i64 i),(12,.int .i64 0),(21,.bool false)] [] (num l n'::F)):=by
   intro hc;obtain⟨w,U,A,C,D⟩:=VS (n:=j+1) l G S fv.vl (1,s,0) (by omega) (by simp only;omega);have E:=C.scrub;have r:=C.dem;have u:=OL fv (s:=(1,s,0)) rfl;have V:=h.push (x:=(1,s,0)) (n':=j+1) (.inl rfl) (by simp only;omega) (by show st s<=3;omega) (by omega) u (by omega) o1 ⟨Wa _,by omega⟩ ot md0;obtain⟨n',K,b,i,Q,F,a,X,Y,pv,o⟩:=CZ tg M B l k (j+1) _ ops id w U d V A C;refine⟨n',K,b,i,Q,F,a,X,Y,pv,?_⟩;rcases hc with rfl | ⟨rfl,rfl⟩ | ⟨rfl | rfl,rfl⟩ | ⟨rfl | rfl,rfl⟩
   ·rw[aB f8 rfl]
    simp only[go_sem,N,c,e,p l,g,D,H,J,I,E,r];exact o
   ·rw[aB f8 rfl]
    simp only[go_sem,N,c,e,p l,g,D,H,J,I,E,r];exact o
   ·rw[aB f8 rfl]
    simp only[go_sem,N,c,e,p l,g,D,H,J,I,E,r];exact o
   ·rw[aB f8 rfl]
    simp only[go_sem,N,c,e,p l,g,D,H,J,I,E,r];exact o
   ·rw[cW] at o ⊢
    cases tg
    ·rw[aB f8 rfl]
     simp only[go_sem,N,c,e,p l,g,cW,jt,D,H,J,I,E,r];exact o
    ·rw[aB f8 rfl]
     simp only[go_sem,N,c,e,p l,g,cW,jt,D,H,J,I,E,r];exact o
   ·rw[cW] at o ⊢
    cases tg
    ·rw[aB f8 rfl]
     simp only[go_sem,N,c,e,p l,g,cW,jt,D,H,J,I,E,r];exact o
    ·rw[aB f8 rfl]
     simp only[go_sem,N,c,e,p l,g,cW,jt,D,H,J,I,E,r];exact o
  by_cases y0:y=0\/y=1
  ·obtain⟨x,Z,x5,hx,P⟩:=SH (dt:=tbA) Ym l (j+1) 3 (by decide) rfl
   have m:=LS p l (j+1) 3 (by omega) (by decide) (by decide);obtain⟨w,U,A,C,D⟩:=VS (n:=j+2) l G S fv.vl (5,x,0) (by omega) (by simp only;omega);have E:=C.scrub;have r:=C.dem;have u:=OM fv (zc x Z);have V:=h.push (x:=(5,x,0)) (n':=j+2) (.inr (.inl ⟨rfl,Z⟩)) (by simp only;omega) (lv _) (by omega) u (by omega) o1 ⟨Wa _,by omega⟩ ot md0;obtain⟨n',K,b,i,Q,F,a,X,Y,pv,o⟩:=CZ tg M B l k (j+2) _ ops id w U d V A C;refine⟨n',K,b,i,Q,F,a,X,Y,pv,?_⟩;rcases y0 with rfl | rfl
   ·rw[aB f8 rfl]
    simp only[go_sem,N,c,e,m,mA,hx,P,p l,H,J,I,E,r,D,g];exact o
   ·rw[aB f8 rfl]
    simp only[go_sem,N,c,e,m,mA,hx,P,p l,H,J,I,E,r,D,g];exact o
  have hid:IntKind.i64.wrap (id+1)=id+1:=w6 (by omega);by_cases y2:y=2
  ·cases O:tg with
   | false=>rw[O] at q;exact q (.inr (.inl ⟨y2,rfl⟩))
   | true =>
    subst O;obtain⟨x,Z,x5,hx,P⟩:=SH (dt:=tbB) Yl l (j+1) 2 (by decide) rfl;have m:=LS p l (j+1) 2 (by omega) (by decide) (by decide);obtain⟨w,U,A,C,D⟩:=VS (n:=j+2) l G S fv.vl (4,x,id+1) (by omega) (by simp only;omega);have E:=C.scrub;have r:=C.dem;have u:=WF (k:=4) fv (.inl ⟨rfl,Kn x Z⟩) (by omega);have V:=h.push (x:=(4,x,id+1)) (n':=j+2) (.inr (.inr ⟨rfl,.inr (.inl ⟨rfl,Z⟩)⟩)) (by simp only;omega) (lv _) (by omega) u (by omega) o1 ⟨by omega,Wa _⟩ ot md0;obtain⟨n',K,b,i,Q,F,a,X,Y,pv,o⟩:=CZ true M B l k (j+2) _ ops (id+1) w U d V A C;refine⟨n',K,b,i,Q,F,a,X,Y,pv,?_⟩;subst y2;rw[aB f8 rfl];simp only[go_sem,N,c,e,m,mB,hx,P,p l,H,J,I,E,r,D,g,hid];exact o
  by_cases y3:y=3\/y=4
  ·cases O:tg with
   | false=>rw[O] at q;exact q (.inr (.inr (.inl ⟨y3,rfl⟩)))
   | true =>
    subst O;obtain⟨x,Z,x5,hx,P⟩:=SH (dt:=tbC) Yk l (j+1) 3 (by decide) rfl;have m:=LS p l (j+1) 3 (by omega) (by decide) (by decide);obtain⟨w,U,A,C,D⟩:=VS (n:=j+2) l G S fv.vl (2,x,id+1) (by omega) (by simp only;omega);have E:=C.scrub;have r:=C.dem;have u:=ON fv (Km x Z) (by omega);have ha:aU 32 (ops.length+1)=true:=aL (by decide) (by omega)
    have V:=h.push (x:=(2,x,id+1)) (n':=j+2) (md':=.own) (.inr (.inr ⟨rfl,.inl ⟨rfl,Z⟩⟩)) (by simp only;omega) (lv _) (by omega) u (by simp) (λt ht=>by
     rcases ng.1 ht with h | h
     ·exact o1 t h
     ·simp only[la,ad8,ak3] at h;subst h;exact Z) ⟨by omega,Wa _⟩ (.inr rfl) (by decide)
    obtain⟨n',K,b,i,Q,F,a,X,Y,pv,o⟩:=CZ true M B l k (j+2) _ (ops++[(2,x,id+1)]) (id+1) w U .own V A C;refine⟨n',K,b,i,Q,F,a,X,Y,pv,?_⟩;have e4:tks (ops++[(2,x,id+1)])=tks ops++[[.int .i64 2,.str x,.int .i64 (id+1)]]:=by rw[<- iV];rfl
    rw[e4] at o;rcases y3 with rfl | rfl
    ·rw[aB f8 rfl]
     simp only[go_sem,N,c,e,m,mC,hx,P,p l,H,J,I,E,r,D,g,hid,bJ d .full md0 3 32 (by decide),aD,ha];exact o
    ·rw[aB f8 rfl]
     simp only[go_sem,N,c,e,m,mC,hx,P,p l,H,J,I,E,r,D,g,hid,bJ d .full md0 3 32 (by decide),aD,ha];exact o
  by_cases y5:y=5\/y=6
  ·by_cases a1:1<=ops.length
   case neg=>exact q (.inr (.inr (.inr ⟨y5,js (by omega)⟩)))
   have O:tg=true:=by
    rcases ot with h | h
    ·rw[h] at a1;simp at a1
    ·exact h
   subst O;have ar:IntKind.i64.wrap ((ops.length:Int)-1)=(ops.length-1:Nat):=by rw[w6 (by omega)];omega
   have av:(0:Int)<=((ops.length-1:Nat):Int):=by omega
   obtain⟨jn,a3⟩:∃ jn,jn=ops.length-1:=⟨_,rfl⟩
   rw[<- a3] at ar av;have ab:jn<ops.length:=by omega
   have hg:ops[jn]?=some ops[jn]:=ii ab;have ht:=o1 _ (xd ab);generalize ops[jn]=T at hg ht;have hr:=cQ hg;have a5:=vb _ ht;have a2:=c64 T.2.1 (by omega);have a6:=qN T.2.1;have a4:aH T.2.1∈([[98],[105],[97]]:List Bs):=(by decide:∀ x∈tbC,aH x∈([[98],[105],[97]]:List Bs)) _ ht;have j0:0<=(jn:Int):=by omega
   have j1:(jn:Int)<=ops.length:=by omega
   have jw:=wI (n:=jn) (by omega)
   have j2:(0:Int)<=((jn+1:Nat):Int):=by omega
   have j3:((jn+1:Nat):Int)<=(ops.length:Int):=by omega
   obtain⟨w,U,A,C,D⟩:=VS (n:=j+1) l G S fv.vl (3,aH T.2.1,T.2.2) (by omega) (by simp only;omega);have E:=C.scrub;have r:=C.dem;have u:=AO fv (by omega) (zL hg);have ha:aU 32 (ops.take jn).length=true:=aL (by decide) (by simp;omega);have ap:aU 32 ((ops.take jn).length+(ops.drop (jn+1)).length)=true:=aL (by decide) (by simp;omega);have tk:(tks ops).take jn=tks (ops.take jn):=by simp [tks,ao3]
   have td:(tks ops).drop (jn+1)=tks (ops.drop (jn+1)):=by simp [tks,map_drop]
   have V:=h.push (x:=(3,aH T.2.1,T.2.2)) (n':=j+1) (md':=.own) (.inr (.inr ⟨rfl,.inr (.inr ⟨rfl,a4⟩)⟩)) (by simp only;omega) (lv _) (by omega) u (by simp;omega) (λt ht=>by
     rcases ng.1 ht with h | h
     ·exact o1 t (ai3 h)
     ·exact o1 t (mem_of_mem_drop h)) ⟨Wa _,by omega⟩ (.inr rfl) (by decide)
   obtain⟨n',K,b,i,Q,F,a,X,Y,pv,o⟩:=CZ true M B l k (j+1) _ (ops.take jn++ops.drop (jn+1)) id w U .own V A C;refine⟨n',K,b,i,Q,F,a,X,Y,pv,?_⟩;rcases y5 with rfl | rfl
   ·rw[aB f8 rfl]
    simp only[go_sem,N,c,e,p l,g,ar,av,hr,a2,j0,j1,j2,j3,jw,jt,aD,tk,td,bJ .full .no (by decide) 3 32 (by decide),bJ .own .no (by decide) 3 32 (by decide),ha,ap,iV,D,H,J,I,E,r];exact o
   ·rw[aB f8 rfl]
    simp only[go_sem,N,c,e,p l,g,ar,av,hr,a2,j0,j1,j2,j3,jw,jt,aD,tk,td,bJ .full .no (by decide) 3 32 (by decide),bJ .own .no (by decide) 3 32 (by decide),ha,ap,iV,D,H,J,I,E,r];exact o
  ·exact q (.inl (by omega))
def xc(tg:Bool)(M:Nat)(hM:M<=8)(l:List Int)(n':Nat)(ops:List Tk)(id:Int)(hid:id<=999)(a:AV)(c:∀ k,cA k a=a)(b:Own)(ho:ops.length<=M)(o1:∀ t∈ops,t.2.1∈tbC)(m:ops=[]\/tg=true):∀ (k:Nat) (f:List Tk) (v:AV) (R:LL),k<=ops.length->f.length+k<=2*M->tot f+5*k<=23*M->st (aT f)<=3*M->(∀ x∈f,ItG tg x)->FV f (ops.take k) id->REF 0 R->FR v R f ->
  ∃ g w i,g.length<=2*M/\tot g<=23*M/\st (aT g)<=3*M/\(∀ x∈g,ItG tg x)/\FV g [] id/\REF 0 i/\FR w i g /\
   aC G0 FZ (ST [(0,.ptr 0 0),(2,.bool tg),(3,.bool true),(9,v),(10,.sl b 3 (tks ops)),(11,.int .i64 id),(12,a),(15,.int .i64 ((k:Int)-1)),(21,.bool false)] [] (num l n'::R))=some (.ex 3,ST [(0,.ptr 0 0),(2,.bool tg),(3,.bool true),(9,w),(10,.sl b 3 (tks ops)),(11,.int .i64 id),(12,a),(15,.int .i64 (-1)),(21,.bool false),(122,.bool false)] [] (num l n'::i))
 | 0,f,v,R,s,Z,h2,o,p,fv,q,d=>by
  refine⟨f,v,R,by omega,by omega,o,p,by simpa using fv,q,d,?_⟩;have G:=d.scrub;have D:((0:Nat):Int)-1 = -1:=rfl;rw[D];have hz:¬ (0:Int)<=(-1:Int):=by decide
  rw[aB FZ rfl];simp only[go_sem,hz,G,c]
 | k+1,f,v,R,s,Z,h2,o,p,fv,q,d=>by
  have A:tg=true:=by
   rcases m with h | h
   ·rw[h] at s;simp at s
   ·exact h
  have hg:ops[k]?=some ops[k]:=ii (by omega);have y:=o1 _ (xd (show k<ops.length by omega));have hts:ops.take (k+1)=ops.take k++ops[k]::[]:=by rw[ab7,hg];rfl
  generalize ops[k]=T at hg y hts;have av:=vb _ y;have F:aH T.2.1∈([[98],[105],[97]]:List Bs):=(by decide:∀ x∈tbC,aH x∈([[98],[105],[97]]:List Bs)) _ y;have hr:=cQ hg;have E:=c64 T.2.1 (by omega);have ar:=qN T.2.1;have j:=AO fv hid hts;rw[UG (by decide),ka] at j;obtain⟨w,i,r,B,n⟩:=Su (L:=l) q d (N:=(3,aH T.2.1,T.2.2)) (by omega);have n:=n n';simp only[] at n
  obtain⟨g,w',H,O,P,X,Y,Q,S,U,V⟩:=xc tg M hM l n' ops id hid a c b ho o1 m k (f++[(3,aH T.2.1,T.2.2)]) w i (by omega) (by simp;omega) (by rw[cN,aN,bZ];simp only[];omega) (by rw[lL,jI];exact o) (λx e=>by
   rcases ng.1 e with e | e
   ·exact p x e
   ·rw[kj] at e;rw[e];exact .inr (.inr ⟨A,.inr (.inr ⟨rfl,F⟩)⟩)) j r B
  refine⟨g,w',H,O,P,X,Y,Q,S,U,?_⟩;have K:((k+1:Nat):Int)-1=(k:Int):=by omega
  have u:0<=(k:Int):=by omega
  have C:IntKind.i64.wrap ((k:Int)-1)=(k:Int)-1:=w6 (by omega);have G:=d.scrub;have I:=d.dem;have sw:=B.scrub;have J:=B.dem;rw[K];rw[aB FZ rfl];simp only[go_sem,u,hr,E,aD,n,C,G,I,sw,J,c];exact V
def Pq(J:n<=90000)(H:1<=j)(b:j<=8):∃ n' f,n'<=n+200/\f.length<=2*j/\tot f<=23*j/\st (aT f)<=3*j/\(∀ x∈f,ItG d x)/\vld f=0/\G0 105 [.ptr 0 0,.int .i64 j,.bool d,.bool true] [num L n]=some (.sl .no 3 (tks f),[num L n']):=by
 have I:=jL L n ((j:Int)+1) (by omega);have a:=c41 L n ((j:Int)+1) (by omega) (by omega) (by omega);have B:(((nxt L n ((j:Int)+1)).toNat:Nat):Int)=nxt L n ((j:Int)+1):=by omega
 obtain⟨n',f,ops,id,v,R,e,⟨k8,m8,n0,nB,f0,f1,f2,o0,o1,i0,i1,md0,fv,it,ot⟩,F,pv,h⟩:=CZ d j n L (nxt L n ((j:Int)+1)).toNat (n+1) [] [] 0 (.sl .full 3 []) [] .full ⟨by omega,b,by omega,by omega,by simp,by rw[bZ];omega,lv _,by simp,by simp,by omega,by omega,by decide,E5,by simp,.inl rfl⟩ (ly (n:=0)) (.inl ⟨rfl,rfl⟩);rw[B] at h;simp only[cW] at h;have hid:id<=999:=by omega
 obtain⟨g,w,p,q,r,y,A,s,u,i,k⟩:=xc d j b L n' ops id hid (.int .i64 0) (λ_=>rfl) e (by omega) o1 ot ops.length f v R (ji _) (by omega) (by omega) (by omega) it (by rw[Ut];exact fv) F pv;have G:=VH g;refine⟨n',g,by omega,q,r,y,A,(cG g).2 ⟨s.vl,by omega,by omega⟩,?_⟩;have c:IntKind.i64.wrap ((j:Int)+1)=(j:Int)+1:=w6 (by omega);have m:IntKind.i64.wrap ((ops.length:Int)-1)=(ops.length:Int)-1:=w6 (by omega);have o:=pv.scrub;have K:=i.scrub;have l:=u.rok1 1 L n';refine aA uf ?_;rcases i with ⟨rfl,rfl⟩ | ⟨so,rfl,E,C⟩
 ·simp only[uf,go_sem,c,a,h,aD,m,k,o,l,qb,Tv,cW]
 ·have D:=zM g
  have hd:dW [num L n] (num L n'::p)=true:=rfl;simp only[uf,go_sem,c,a,h,aD,m,k,o,l,qb,Tv,E,D,hd,ac5]
def On(s:Bs)(n:Int)(o:s.length<=1000000)(f:n=s.length):∀ (k i:Nat),i+k=s.length->∃ j:Nat,i<=j/\j<=s.length/\(∀ t,i<=t->t<j->∃ c,s[t]?=some c/\spB c=true)/\(j<s.length->∃ c,s[j]?=some c/\spB c=false) /\
  aC G9 JB (ST [(0,.str s),(2,.int .i64 i),(3,.int .i64 n)] [] [])=some (.ex 0,ST [(0,.str s),(2,.int .i64 j),(3,.int .i64 n),(15,.bool false)] [] [])
 | 0,i,h=>by
  subst f
  have:i=s.length:=by omega
  subst this;have b:¬ (s.length:Int)<s.length:=by omega
  refine⟨s.length,ji _,ji _,λt l b=>by omega,λh=>by omega,?_⟩;rw[aB JB rfl];simp only[go_sem,b]
 | k+1,i,h=>by
  have m:=f;subst f;have hi:i<s.length:=by omega
  have b:(i:Int)<s.length:=by omega
  have d:0<=(i:Int):=by omega
  have p:=wI (n:=i) (by omega)
  have hg:s[i]?=some s[i]:=ii hi;generalize s[i]=c at hg;have g:=u73 c;have a:=yC c
  cases q:spB c with
  | true =>
   rw[q] at a;obtain⟨j,y,r,u,v,w⟩:=On s s.length o rfl k (i+1) (by omega);refine⟨j,by omega,r,?_,v,?_⟩
   ·intro t A x
    by_cases e:t=i
    ·subst e;exact⟨c,hg,q⟩
    ·exact u t (by omega) x
   ·rw[<- w]
    conv=>lhs;rw[aB JB rfl]
    simp only[go_sem,b,d,hg,g,a,p]
    try rfl
  | false =>
   rw[q] at a;refine⟨i,ji _,by omega,λt l b=>by omega,λ_=>⟨c,hg,q⟩,?_⟩;rw[aB JB rfl];simp only[go_sem,b,d,hg,g,a]
   try rfl
def Om(s:Bs)(j:Nat)(m:s.length<=1000000)(l:j<s.length)(f:∃ c,s[j]?=some c/\spB c=false):∀ (k:Nat),j+k+1<=s.length->∃ h:Nat,j<h /\
  aC G9 DJ (ST [(0,.str s),(2,.int .i64 j),(3,.int .i64 (j+k+1:Nat)),(15,.bool false)] [] [])=some (.ex 2,ST [(0,.str s),(2,.int .i64 j),(3,.int .i64 h),(15,.bool false),(28,.bool false)] [] [])
 | 0,h=>by
  obtain⟨c,hg,q⟩:=f;have e:(j:Int)<(j+0+1:Nat):=by omega
  have b:0<=(j:Int):=by omega
  have g:IntKind.i64.wrap (((j+0+1:Nat):Int)-1)=(j:Int):=by rw[w6 (by omega)];omega
  have f:=u73 c;have a:=yC c;rw[q] at a;refine⟨j+0+1,by omega,?_⟩;rw[aB DJ rfl];simp only[go_sem,e,b,hg,f,a,g]
  try rfl
 | k+1,h=>by
  have e:(j:Int)<((j+(k+1)+1:Nat):Int):=by omega
  have b:(0:Int)<=((j+k+1:Nat):Int):=by omega
  have g:IntKind.i64.wrap (((j+(k+1)+1:Nat):Int)-1)=(j+k+1:Nat):=by rw[w6 (by omega)];omega
  have hg:s[j+k+1]?=some s[j+k+1]:=ii (by omega);generalize s[j+k+1]=c at hg;have d:=u73 c;have a:=yC c
  cases q:spB c with
  | true =>
   rw[q] at a;obtain⟨i,n,w⟩:=Om s j m l f k (by omega);refine⟨i,n,?_⟩;rw[<- w]
   conv=>lhs;rw[aB DJ rfl]
   simp only[go_sem,e,b,hg,d,a,g]
   try rfl
  | false =>
   rw[q] at a;refine⟨j+(k+1)+1,by omega,?_⟩;rw[aB DJ rfl];simp only[go_sem,e,b,hg,d,a,g]
   try rfl
def zq(h:∀ t,t<i.length->∃ c,i[t]?=some c/\spB c=true):soB i=false:=by
 unfold soB;rw[any_eq_false];intro c e;obtain⟨t,b,rfl⟩:=getElem_of_mem e;obtain⟨c,a,d⟩:=h t b;rw[ii b] at a;cases a;simp [d]
def ZP(h:i[j]?=some p)(q:spB p=false):soB i=true:=by
 unfold soB;rw[an9];exact⟨p,ab4 h,by simp [q]⟩
def u47(e:i.length<=1000000):∃ lo hi:Nat,decide ((lo:Int)<hi)=soB i/\G9 47 [.str i] []=some (.tup [.int .i64 lo,.int .i64 hi],[]):=by
 obtain⟨j,n,o,k,l,w⟩:=On i i.length e rfl i.length 0 (by omega);rw[show ((0:Nat):Int)=0 from rfl] at w;by_cases d:j<i.length
 ·obtain⟨c,b,q⟩:=l d
  obtain⟨h,m,v⟩:=Om i j e d ⟨c,b,q⟩ (i.length-(j+1)) (by omega);rw[show j+(i.length-(j+1))+1=i.length by omega] at v;refine⟨j,h,by rw[ZP b q];exact jv (by omega),?_⟩;have a:¬ (j:Int)=h:=by omega
  refine aA F47 ?_;simp only[F47,go_sem,w,v,a]
  try rfl
 ·have:j=i.length:=by omega
  subst this;refine⟨0,0,by rw[zq (λt g=>k t (by omega) g)];rfl,?_⟩;have f:¬ (i.length:Int)<i.length:=by omega
  refine aA F47 ?_;simp only[F47,go_sem,w];rw[aB DJ rfl];simp only[go_sem,f]
  try rfl
def Mc:Nt.plc e n 0=n+(e.takeWhile λx=>x.1==3).length:=by cases e<;>rw[Nt.plc]
def Mb:Nt.plc (s::e) n (j+1)=if s.1=1 then (if j+1<s.2.1.length then n+(j+1) else Nt.plc e (n+s.2.1.length) (j+1-s.2.1.length)) else if s.1=5 then Nt.plc e (n+1) j else Nt.plc e (n+1) (j+1):=by rw[Nt.plc]
def od(f:List Tk)(v:f.length<=10000)(w:tot f<=900000):∀ (k i off p:Nat),i+k=f.length->off<=(aT (f.drop i)).length->p+tot (f.drop i)+k<=1000000 ->
  (∃ r,aC G9 lV (ST [(0,.sl .no 3 (tks f)),(1,.int .i64 off),(5,.int .i64 p),(6,.int .i64 i),(16,.bool false)] [] [])=some (.ret,ST r [(7,some [])] [])/\aF .any r 4=.int .i64 (Nt.plc (f.drop i) p off)) \/
  (∃ r A,aC G9 lV (ST [(0,.sl .no 3 (tks f)),(1,.int .i64 off),(5,.int .i64 p),(6,.int .i64 i),(16,.bool false)] [] [])=some (.ret,ST r A [])/\aF .any r 4=.int .i64 (Nt.plc (f.drop i) p off)) \/
  (∃ q y:Nat,q<=f.length/\y+tot (f.drop q)+(f.length-q)<=1000000/\aC G9 lV (ST [(0,.sl .no 3 (tks f)),(1,.int .i64 off),(5,.int .i64 p),(6,.int .i64 i),(16,.bool false)] [] [])=some (.ex 0,ST [(0,.sl .no 3 (tks f)),(1,.int .i64 0),(5,.int .i64 y),(6,.int .i64 q),(16,.bool false),(20,.bool false)] [] [])/\Nt.plc (f.drop i) p off=Nt.plc (f.drop q) y 0)
 | k,i,0,p,h,d,m=>by
  refine .inr (.inr ⟨i,p,by omega,by rw[show f.length-i=k by omega];exact m,?_,rfl⟩)
  rw[show ((0:Nat):Int)=0 from rfl];rw[aB lV rfl];simp only[go_sem]
  try rfl
 | 0,i,off+1,p,h,d,m=>by
  rw[aa6 (by omega),show aT []=[] from rfl] at d;simp at d
 | k+1,i,off+1,p,h,d,m=>by
  have hi:i<f.length:=by omega
  have u:(i:Int)<f.length:=by omega
  have e:0<=(i:Int):=by omega
  have a:(0:Int)<((off+1:Nat):Int):=by omega
  have x:=wI (n:=i) (by omega)
  have hg:f[i]?=some f[i]:=ii hi;have hd:f.drop i=f[i]::f.drop (i+1):=je hi;have c:=lK (f.drop i);have B:(f.drop i).length=k+1:=by rw[kl];omega
  generalize f[i]=T at hg hd;have o:=cQ hg;rw[hd,j6,jb] at d;rw[hd,aN] at m;rw[hd,aN] at c;rw[j6,jb,jd,show (f.drop (i+1)).length=k by rw[kl];omega] at c;obtain⟨kk,s,id⟩:=T;simp only at o m c;simp only[hd,Mb];by_cases c1:kk=1
  ·subst c1
   have l:plx (1,s,id)=s:=by simp [plx]
   rw[l] at d c;rw[iw rfl];by_cases c2:off+1<s.length
   ·have g:((off+1:Nat):Int)<(s.length:Int):=by omega
    have b:IntKind.i64.wrap ((p:Int)+((off+1:Nat):Int))=((p+(off+1):Nat):Int):=by rw[w6 (by omega)];rfl
    rw[iw c2]
    refine .inr (.inl ?_)
    refine Exists.intro ?_ (Exists.intro ?_ (And.intro ?_ ?_))
    rotate_left 2
    ·rw[aB lV rfl]
     simp only[go_sem,a,u,e,aD,o,g,b];rfl
    ·rfl
   ·have g:¬ ((off+1:Nat):Int)<(s.length:Int):=by omega
    have b:IntKind.i64.wrap ((p:Int)+(s.length:Int))=(p+s.length:Nat):=by rw[w6 (by omega)];rfl
    have j:IntKind.i64.wrap (((off+1:Nat):Int)-(s.length:Int))=(off+1-s.length:Nat):=by rw[w6 (by omega)];omega
    rw[ie c2];have step:aC G9 lV (ST [(0,.sl .no 3 (tks f)),(1,.int .i64 (off+1:Nat)),(5,.int .i64 p),(6,.int .i64 i),(16,.bool false)] [] [])=aC G9 lV (ST [(0,.sl .no 3 (tks f)),(1,.int .i64 (off+1-s.length:Nat)),(5,.int .i64 (p+s.length:Nat)),(6,.int .i64 (i+1:Nat)),(16,.bool false)] [] []):=by
     conv=>lhs;rw[aB lV rfl]
     simp only[go_sem,a,u,e,aD,o,g,b,j,x]
     try rfl
    rw[step];exact od f v w k (i+1) (off+1-s.length) (p+s.length) (by omega) (by omega) (by omega)
  ·rw[ie c1]
   have b:=wI (n:=p) (by omega)
   by_cases c5:kk=5
   ·subst c5
    have l:plx (5,s,id)=[255]:=by simp [plx]
    rw[l] at d c;rw[iw rfl];have j:IntKind.i64.wrap (((off+1:Nat):Int)-1)=(off:Int):=by rw[w6 (by omega)];omega
    have step:aC G9 lV (ST [(0,.sl .no 3 (tks f)),(1,.int .i64 (off+1:Nat)),(5,.int .i64 p),(6,.int .i64 i),(16,.bool false)] [] [])=aC G9 lV (ST [(0,.sl .no 3 (tks f)),(1,.int .i64 off),(5,.int .i64 (p+1:Nat)),(6,.int .i64 (i+1:Nat)),(16,.bool false)] [] []):=by
     conv=>lhs;rw[aB lV rfl]
     simp only[go_sem,a,u,e,aD,o,b,j,x]
     try rfl
    rw[step];exact od f v w k (i+1) off (p+1) (by omega) (by simp at d;omega) (by omega)
   ·have l:plx (kk,s,id)=[]:=by simp [plx,c1,c5]
    rw[l] at d;rw[ie c5];have step:aC G9 lV (ST [(0,.sl .no 3 (tks f)),(1,.int .i64 (off+1:Nat)),(5,.int .i64 p),(6,.int .i64 i),(16,.bool false)] [] [])=aC G9 lV (ST [(0,.sl .no 3 (tks f)),(1,.int .i64 (off+1:Nat)),(5,.int .i64 (p+1:Nat)),(6,.int .i64 (i+1:Nat)),(16,.bool false)] [] []):=by
     conv=>lhs;rw[aB lV rfl]
     simp only[go_sem,a,u,e,aD,o,c1,c5,b,x]
     try rfl
    rw[step];exact od f v w k (i+1) (off+1) (p+1) (by omega) (by simp at d;omega) (by omega)
def Oq(f:List Tk)(g:f.length<=10000):∀ (k i p:Nat),i+k=f.length->p+k<=1000000 ->
  ∃ d:Nat,aC G9 JD (ST [(0,.sl .no 3 (tks f)),(1,.int .i64 0),(5,.int .i64 p),(6,.int .i64 i),(16,.bool false),(20,.bool false)] [] [])=some (.ex 3,ST [(0,.sl .no 3 (tks f)),(1,.int .i64 0),(5,.int .i64 ((p+((f.drop i).takeWhile λx=>x.1==3).length:Nat):Int)),(6,.int .i64 d),(16,.bool false),(20,.bool false),(76,.bool false)] [] [])
 | 0,i,p,h,l=>by
  have:i=f.length:=by omega
  subst this;have j:¬ (f.length:Int)<f.length:=by omega
  refine⟨f.length,?_⟩;rw[lb,takeWhile_nil,jz,rh];rw[aB JD rfl];simp only[go_sem,aD,j]
 | k+1,i,p,h,l=>by
  have hi:i<f.length:=by omega
  have e:(i:Int)<f.length:=by omega
  have a:0<=(i:Int):=by omega
  have m:=wI (n:=i) (by omega)
  have c:=wI (n:=p) (by omega)
  have hg:f[i]?=some f[i]:=ii hi;have hd:f.drop i=f[i]::f.drop (i+1):=je hi;generalize f[i]=T at hg hd;have b:=cQ hg;obtain⟨kk,s,id⟩:=T;simp only at b;rw[hd];by_cases c3:kk=3
  ·subst c3
   obtain⟨d,w⟩:=Oq f g k (i+1) (p+1) (by omega) (by omega);refine⟨d,?_⟩;rw[af0 (by rfl),jd,show p+(((f.drop (i+1)).takeWhile λx=>x.1==3).length+1)=p+1+((f.drop (i+1)).takeWhile λx=>x.1==3).length by omega,<- w]
   conv=>lhs;rw[aB JD rfl]
   simp only[go_sem,aD,e,a,b,m,c]
   try rfl
  ·refine⟨i,?_⟩
   rw[ah7 (by simpa using c3),jz,rh];rw[aB JD rfl];simp only[go_sem,aD,e,a,b,c3]
   try rfl
def u44(b:List Tk)(k:VL b)(f:b.length<=10000)(g:tot b<=900000)(i:n<=(aT b).length):G9 44 [.sl .no 3 (tks b),.int .i64 n] []=some (.int .i64 (Nt.plc b 0 n),[]):=by
 have a:=u43 b f g;have c:=up (c99 (b:=b) (by omega) k (λt q=>by have:=gG t q;omega)) rfl;have d:¬ (n:Int)<0:=by omega
 have e:¬ ((aT b).length:Int)<(n:Int):=by omega
 refine aA F44 ?_;rcases od b f g b.length 0 n 0 (by omega) (by rw[kc];exact i) (by rw[kc];omega) with ⟨l,w,y⟩ | ⟨l,o,w,y⟩ | ⟨h,m,hi',j,w,y⟩
 ·rw[kc,show ((0:Nat):Int)=0 from rfl] at *
  simp only[F44,go_sem,a,c,d,e,w,y]
  try rfl
 ·rw[kc] at y
  rw[show ((0:Nat):Int)=0 from rfl] at w;simp only[F44,go_sem,a,c,d,e,w,y]
  try rfl
 ·rw[kc] at y
  rw[show ((0:Nat):Int)=0 from rfl] at w;obtain⟨p,v⟩:=Oq b f (b.length-h) h m (by omega) (by omega);rw[y,Mc];simp only[F44,go_sem,a,c,d,e,w,v]
  try rfl
def byC(t:Bs):List AV:=t.map λc=>AV.int .u8 (c.toNat:Int)
def yX:(byC i).length=i.length:=zt ..
def qz:bX (byC i)=true:=by
 cases i with
 | nil=>rfl
 | cons c i=>cases i<;>rfl
def qy:(byC u).set n (.int .u8 (p.toNat:Int))=byC (u.set n p):=by simp [byC,am8]
def vn:∀ l:List AV,cP 1 l.length l=l.map λx=>[x]
 | []=>rfl
 | a::l=>by simp only[jd,cP,qb,Tv,ab8,kc,vn l,ju]
def TT:dE 0 i.length 1 (byC i)=some (aE i):=by
 have c:∀ i:Bs,(byC i).all (λx=>aQ (aJ x))=true:=by
  intro i;induction i with
  | nil=>rfl
  | cons a l b=>show (aQ (aJ (AV.int .u8 _))&&(byC l).all _)=true;rw[b];rfl
 have d:∀ i:Bs,(byC i).map aJ=byC i:=by
  intro i;induction i with
  | nil=>rfl
  | cons a l b=>show aJ (AV.int .u8 _)::(byC l).map aJ=_;rw[b];rfl
 have e:((byC i).drop 0).take (i.length*1)=byC i:=by rw[kc];exact Ty (by rw[yX];omega)
 unfold dE;rw[e,iw ⟨by decide,by rw[yX];omega,c i⟩,d]
 have:=vn (byC i)
 rw[yX] at this;rw[this];simp [byC,aE]
def Jg:bB [AV.int .u8 0] n=byC (List.replicate n 0):=by
 induction n with
 | zero=>rfl
 | succ n a=>rw[show bB [AV.int .u8 0] (n+1)=AV.int .u8 0::bB [AV.int .u8 0] n from rfl,a];rfl
def l88(s:Bs)(u:s.length<=1000000):∀ (k i:Nat) (t:Bs),i+k=s.length->t.length=s.length->(∀ j,j<i->t[j]?=s[s.length-1-j]?) ->
  aC G9 PM (ST [(0,.str s),(3,.ss 0 0 s.length 1),(9,.int .i64 s.length),(10,.int .i64 i)] [] [byC t])=some (.ex 0,ST [(0,.str s),(3,.ss 0 0 s.length 1),(9,.int .i64 s.length),(10,.int .i64 s.length),(11,.bool false)] [] [byC s.reverse])
 | 0,i,t,h,m,d=>by
  have:i=s.length:=by omega
  subst this;have r:¬ (s.length:Int)<s.length:=by omega
  have e:t=s.reverse:=by
   apply ag3;intro j;by_cases q:j<s.length
   ·rw[d j q,an4 q]
   ·rw[getElem?_eq_none_iff.2 (by omega),getElem?_eq_none_iff.2 (by simp;omega)]
  rw[e];rw[aB PM rfl];simp only[go_sem,r]
 | k+1,i,t,h,m,d=>by
  have o:(i:Int)<s.length:=by omega
  have a:0<=(i:Int):=by omega
  have v:=wI (n:=i) (by omega)
  have f:IntKind.i64.wrap ((s.length:Int)-1)=(s.length-1:Nat):=by rw[w6 (by omega)];omega
  have g:IntKind.i64.wrap (((s.length-1:Nat):Int)-(i:Int))=(s.length-1-i:Nat):=by rw[w6 (by omega)];omega
  have b:(0:Int)<=((s.length-1-i:Nat):Int):=by omega
  have hg:s[s.length-1-i]?=some s[s.length-1-i]:=ii (by omega);generalize x:s[s.length-1-i]=c at hg;have l:=iX i (byC t) (.int .u8 (c.toNat:Int)) (by rw[yX];omega);rw[qy] at l;have p:=qz (i:=t)
  have w:=l88 s u k (i+1) (t.set i c) (by omega) (by simp [m]) (by
   intro j q;by_cases e:j=i
   ·subst e
    rw[sp (by omega),hg]
   ·rw[xm (by omega)]
    exact d j (by omega))
  rw[<- w]
  conv=>lhs;rw[aB PM rfl]
  simp only[go_sem,o,a,b,v,f,g,hg,zs,l,p]
  try rfl
def u88(f:i.length<=1000000):G9 88 [.str i] []=some (.str i.reverse,[]):=by
 have w:=l88 i f i.length 0 (List.replicate i.length 0) (by omega) (by simp) (λj q=>by omega);rw[<- Jg,show ((0:Nat):Int)=0 from rfl] at w;have a:=TT (i:=i.reverse);rw[al8] at a;have e:=fU i.reverse;have b:0<=(i.length:Int):=by omega
 have c:(i.length:Int)*1<=140737488355328:=by omega
 have d:(i.length:Int)<=4611686018427387904:=by omega
 refine aA F88 ?_;simp only[F88,go_sem,b,c,d,Wa,jp,w,a,e]
 try rfl
def gT:List AV:=[.int .u8 0,.int .u8 0,.int .u8 0,.int .u8 0,.int .u8 2,.int .u8 64,.int .u8 0,.int .u8 0,.int .u8 0,.int .u8 0,.int .u8 0,.int .u8 0,.int .u8 0,.int .u8 0,.int .u8 0,.int .u8 0,.int .u8 0,.int .u8 0,.int .u8 0,.int .u8 0,.int .u8 0,.int .u8 0,.int .u8 0,.int .u8 0,.int .u8 0,.int .u8 0,.int .u8 0,.int .u8 0,.int .u8 0,.int .u8 0,.int .u8 0,.int .u8 0,.int .i64 1,.bool false]
def c9:List AV:=[.int .u8 0,.int .u8 0,.int .u8 0,.int .u8 0,.int .u8 1,.int .u8 0,.int .u8 0,.int .u8 0,.int .u8 0,.int .u8 0,.int .u8 0,.int .u8 0,.int .u8 0,.int .u8 0,.int .u8 0,.int .u8 0,.int .u8 0,.int .u8 0,.int .u8 0,.int .u8 0,.int .u8 0,.int .u8 0,.int .u8 0,.int .u8 0,.int .u8 0,.int .u8 0,.int .u8 0,.int .u8 0,.int .u8 0,.int .u8 0,.int .u8 0,.int .u8 0,.int .i64 1,.bool false]
def z34:List AV:=[.int .u8 0,.int .u8 0,.int .u8 0,.int .u8 0,.int .u8 0,.int .u8 0,.int .u8 0,.int .u8 0,.int .u8 0,.int .u8 0,.int .u8 0,.int .u8 0,.int .u8 0,.int .u8 0,.int .u8 0,.int .u8 0,.int .u8 0,.int .u8 0,.int .u8 0,.int .u8 0,.int .u8 0,.int .u8 0,.int .u8 0,.int .u8 0,.int .u8 0,.int .u8 0,.int .u8 0,.int .u8 0,.int .u8 0,.int .u8 0,.int .u8 0,.int .u8 0,.int .i64 0,.bool false]
theorem Bi:gX 34 z34 1 [0] [.agg gT]=some (.sl .full 34 [gT]):=rfl
theorem nf:gX 34 z34 1 [0] [.agg c9]=some (.sl .full 34 [c9]):=rfl
def u7:G9 7 [] []=some (.sl .no 3 [[.bool true,.sl .no 34 [gT],.sl .no 34 [c9]]],[]):=by
 have o1:IntKind.u8.wrap (((0 % 2 ^ 8:Int).toNat ||| (64 % 2 ^ 8:Int).toNat:Nat):Int)=64:=by decide
 have o2:IntKind.u8.wrap (((0 % 2 ^ 8:Int).toNat ||| (2 % 2 ^ 8:Int).toNat:Nat):Int)=2:=by decide
 have o3:IntKind.u8.wrap (((0 % 2 ^ 8:Int).toNat ||| (1 % 2 ^ 8:Int).toNat:Nat):Int)=1:=by decide
 have a:=Bi;have m2:=nf;unfold z34 at a m2;unfold gT c9 at *;refine aA F7 ?_;simp only[F7,go_sem,o1,o2,o3,a,m2]
def Lk(q:Nat):Int:=if q=4 then 2 else if q=5 then 64 else 0
def Ll(q:Nat):Int:=if q=4 then 1 else 0
def wq:∀ n:Nat,n<256->IntKind.u8.wrap ((n:Int).tdiv 8)=(n / 8:Nat):=by decide
def sd:∀ q,q<32->(gT)[q]?=some (.int .u8 (Lk q))
 | 0,_=>rfl
 | 1,_=>rfl
 | 2,_=>rfl
 | 3,_=>rfl
 | 4,_=>rfl
 | 5,_=>rfl
 | 6,_=>rfl
 | 7,_=>rfl
 | 8,_=>rfl
 | 9,_=>rfl
 | 10,_=>rfl
 | 11,_=>rfl
 | 12,_=>rfl
 | 13,_=>rfl
 | 14,_=>rfl
 | 15,_=>rfl
 | 16,_=>rfl
 | 17,_=>rfl
 | 18,_=>rfl
 | 19,_=>rfl
 | 20,_=>rfl
 | 21,_=>rfl
 | 22,_=>rfl
 | 23,_=>rfl
 | 24,_=>rfl
 | 25,_=>rfl
 | 26,_=>rfl
 | 27,_=>rfl
 | 28,_=>rfl
 | 29,_=>rfl
 | 30,_=>rfl
 | 31,_=>rfl
 | q+32,h=>by omega
def WO:∀ n,n<256->decide (IntKind.u8.wrap ((((((Lk (n / 8)).fdiv (2 ^ (min (n % 8) 8)))) % 2 ^ 8).toNat &&& (1 % 2 ^ 8:Int).toNat:Nat):Int)=1)=(n==33||n==46):=by decide
def P0(b:n<256):G9 131 [.agg gT,.int .u8 (n:Int)] []=some (.bool (n==33||n==46),[]):=by
 have g:IntKind.u8.wrap ((n:Int).tdiv 8)=(n / 8:Nat):=wq n b;have h:(n:Int).tmod 8=((n % 8:Nat):Int):=by rw[af8 (by omega)];omega
 have c:(0:Int)<=((n / 8:Nat):Int):=by omega
 have d:((n / 8:Nat):Int)<32:=by omega
 have e:(0:Int)<=((n % 8:Nat):Int):=by omega
 have a:=sd (n / 8) (by omega);have f:=WO n b;unfold gT at a ⊢;refine aA YP ?_;simp only[YP,go_sem,g,h,c,d,e,zs,a,jp,IntKind.bits,f]
def XO:∀ q,q<32->(c9)[q]?=some (.int .u8 (Ll q))
 | 0,_=>rfl
 | 1,_=>rfl
 | 2,_=>rfl
 | 3,_=>rfl
 | 4,_=>rfl
 | 5,_=>rfl
 | 6,_=>rfl
 | 7,_=>rfl
 | 8,_=>rfl
 | 9,_=>rfl
 | 10,_=>rfl
 | 11,_=>rfl
 | 12,_=>rfl
 | 13,_=>rfl
 | 14,_=>rfl
 | 15,_=>rfl
 | 16,_=>rfl
 | 17,_=>rfl
 | 18,_=>rfl
 | 19,_=>rfl
 | 20,_=>rfl
 | 21,_=>rfl
 | 22,_=>rfl
 | 23,_=>rfl
 | 24,_=>rfl
 | 25,_=>rfl
 | 26,_=>rfl
 | 27,_=>rfl
 | 28,_=>rfl
 | 29,_=>rfl
 | 30,_=>rfl
 | 31,_=>rfl
 | q+32,h=>by omega
def Q5:∀ n,n<256->decide (IntKind.u8.wrap ((((((Ll (n / 8)).fdiv (2 ^ (min (n % 8) 8)))) % 2 ^ 8).toNat &&& (1 % 2 ^ 8:Int).toNat:Nat):Int)=1)=(n==32):=by decide
def J3(b:n<256):G9 131 [.agg c9,.int .u8 (n:Int)] []=some (.bool (n==32),[]):=by
 have g:IntKind.u8.wrap ((n:Int).tdiv 8)=(n / 8:Nat):=wq n b;have h:(n:Int).tmod 8=((n % 8:Nat):Int):=by rw[af8 (by omega)];omega
 have c:(0:Int)<=((n / 8:Nat):Int):=by omega
 have d:((n / 8:Nat):Int)<32:=by omega
 have e:(0:Int)<=((n % 8:Nat):Int):=by omega
 have a:=XO (n / 8) (by omega);have f:=Q5 n b;unfold c9 at a ⊢;refine aA YP ?_;simp only[YP,go_sem,g,h,c,d,e,zs,a,jp,IntKind.bits,f]
def boC(l:List Bool):List AV:=l.map AV.bool
def qY:(boC df).length=df.length:=zt ..
def kZ(t:List Bool):bX (boC t)=true:=by
 cases t with
 | nil=>rfl
 | cons c t=>cases t<;>rfl
def qX:(boC df).set n (.bool d)=boC (df.set n d):=by simp [boC,am8]
def pW(h:df[n]?=some d):(boC df)[n]?=some (.bool d):=by simp [boC,h]
def RR(n:Nat):bB [AV.bool false] n=boC (List.replicate n false):=by
 induction n with
 | zero=>rfl
 | succ n a=>rw[show bB [AV.bool false] (n+1)=AV.bool false::bB [AV.bool false] n from rfl,a];rfl
def jY(h:df[n]?=some d):df.set n d=df:=by
 apply ag3;intro j;by_cases e:j=n
 ·subst e
  rw[sp (jh.1 h).1,h]
 ·rw[xm (λq=>e q.symm)]
def gD2(bd:LL)(f bh:List AV):((bd++[f])++[bh])[bd.length]?=some f:=by simp
def RA:(p.toNat==33||p.toNat==46)=jE p:=by
 have a:(p.toNat==33)=(p==33):=by rw[ai6];simp only[Lh];exact⟨λh=>Lc.1 h,λh=>by rw[h];rfl⟩
 have b:(p.toNat==46)=(p==46):=by rw[ai6];simp only[Lh];exact⟨λh=>Lc.1 h,λh=>by rw[h];rfl⟩
 rw[a,b];unfold jE;rw[Bool.or_comm]
def rA(c:UInt8):Bool:=c==32
def LO:(p.toNat==32)=rA p:=by
 unfold rA;rw[ai6];simp only[Lh];exact⟨λh=>Lc.1 h,λh=>by rw[h];rfl⟩
def kO(p:UInt8->Bool)(s:Bs)(i:Nat):Bool:=decide (1<=i)&&p (s.getD (i-1) 0)
def Bz(D:LL)(a:AV)(s:Bs)(n:Nat)(j:n<=1000000)(r:List AV)(N:Int)(c:N=n):∀ (k i:Nat),i+k=n ->
  aC G9 PL (ST [(0,.sl .no 34 [r]),(1,.str s),(5,.ss D.length 0 n 1),(16,.int .i64 N),(17,.int .i64 i)] [] (D++[boC (List.replicate i true++List.replicate k false)])) =
   some (.ex 0,ST [(0,.sl .no 34 [r]),(1,.str s),(5,.ss D.length 0 n 1),(16,.int .i64 N),(17,.int .i64 N),(18,.bool false)] [] (D++[boC (List.replicate n true)]))
 | 0,i,h=>by
  subst c
  have:i=n:=by omega
  subst this;have m:¬ (i:Int)<i:=by omega
  rw[replicate_zero,ka];rw[aB PL rfl];simp only[go_sem,m]
 | k+1,i,h=>by
  subst c;have f:(i:Int)<n:=by omega
  have d:0<=(i:Int):=by omega
  have l:=wI (n:=i) (by omega)
  have g:=kZ (List.replicate i true++List.replicate (k+1) false);have b:=iX i (boC (List.replicate i true++List.replicate (k+1) false)) (.bool true) (by rw[qY];simp);have e:(List.replicate i true++List.replicate (k+1) false).set i true=List.replicate (i+1) true++List.replicate k false:=by
   rw[ae1 _ _ (by simp),an3,ae7,replicate_succ,Tw,replicate_succ'];simp
  rw[qX,e] at b;rw[<- Bz D a s n j r n rfl k (i+1) (by omega)]
  conv=>lhs;rw[aB PL rfl]
  simp only[go_sem,f,d,l,gD,sD,g,b,zs]
  try rfl
def CY(D:LL)(s:Bs)(N:Int)(n:Nat)(L:N=n)(Q:n=s.length+1)(R:s.length<=1000000):∀ (k i:Nat) (t:List Bool),i+k=n->t.length=n->(∀ j,j<i->t[j]?=some (kO jE s j))->(∀ j,i<=j->j<n->t[j]?=some false) ->
  aC G9 qA (ST [(1,.str s),(5,.ss D.length 0 n 1),(8,.loc 8 0),(9,.ss (D++[boC (List.replicate n true)]).length 0 n 1),(16,.int .i64 N),(17,.int .i64 N),(18,.bool false),(24,.sl .no 34 [gT]),(25,.int .i64 1),(26,.int .i64 0),(27,.bool true),(35,.int .i64 N),(36,.int .i64 i)] [(8,some gT)] ((D++[boC (List.replicate n true)])++[boC t])) =
   some (.ex 4,ST [(1,.str s),(5,.ss D.length 0 n 1),(8,.loc 8 0),(9,.ss (D++[boC (List.replicate n true)]).length 0 n 1),(16,.int .i64 N),(17,.int .i64 N),(18,.bool false),(24,.sl .no 34 [gT]),(25,.int .i64 1),(26,.int .i64 0),(27,.bool true),(35,.int .i64 N),(36,.int .i64 N),(37,.bool false)] [(8,some gT)] ((D++[boC (List.replicate n true)])++[boC ((List.range n).map (kO jE s))]))
 | 0,i,t,h,M,E,F=>by
  have:i=n:=by omega
  subst this;have e:t=(List.range i).map (kO jE s):=by
   apply ag3;intro j;by_cases q:j<i
   ·rw[E j q,aa5,al9 q];rfl
   ·rw[getElem?_eq_none_iff.2 (by omega),getElem?_eq_none_iff.2 (by simp;omega)]
  rw[<- e];subst L;have S:¬ (i:Int)<i:=by omega
  unfold gT;rw[aB qA rfl];simp only[go_sem,S]
  try rfl
 | k+1,i,t,h,M,E,F=>by
  subst L;have C:(i:Int)<n:=by omega
  have K:0<=(i:Int):=by omega
  have I:=wI (n:=i) (by omega)
  have g:t[i]?=some false:=F i (ji _) (by omega);have O:=pW g;have y:=kZ t;have o:=kZ (List.replicate n true);have f:=iX i (boC t) (.bool false) (by rw[qY];omega);rw[qX,show t.set i false=t from jY g] at f;have r:ldC true 0 34 gT=some (.agg gT):=rfl
  have J:∀ b:Bool,b=kO jE s i->_:=λb y=>CY D s n n rfl Q R k (i+1) (t.set i b) (by omega) (by simp [M]) (by
   intro j q;by_cases e:j=i
   ·subst e
    rw[sp (by omega),y]
   ·rw[xm (by omega)]
    exact E j (by omega)) (by
   intro j U T;rw[xm (by omega)]
   exact F j (by omega) T)
  cases i with
  | zero =>
   have w:=J false rfl;rw[show t.set 0 false=t from jY g] at w;rw[<- w];rw[show ((0:Nat):Int)=0 from rfl] at *;unfold gT at r ⊢
   conv=>lhs;rw[aB qA rfl]
   simp only[go_sem,C,I,gD,sD,gD2,y,o,f,zs,ai8]
  | succ j =>
   have P:j<s.length:=by omega
   have hg:s[j]?=some s[j]:=ii P;have H:s.getD j 0=s[j]:=by rw[ki,hg];rfl
   have x:kO jE s (j+1)=jE s[j]:=by
    unfold kO;rw[aj7,H,jv (by omega),jx]
   generalize s[j]=c at hg x;have G:c.toNat<256:=c.toNat_lt;have a:=P0 (n:=c.toNat) G;rw[RA (p:=c)] at a;have l:(0:Int)<((j+1:Nat):Int):=by omega
   have B:IntKind.i64.wrap (((j+1:Nat):Int)-1)=(j:Int):=by rw[w6 (by omega)];omega
   have u:0<=(j:Int):=by omega
   have v:(j:Int)<n:=by omega
   have m:=pW (df:=List.replicate n true) (n:=j) (d:=true) (by rw[ae6,iw (by omega)]);have A:=iX (j+1) (boC t) (.bool true) (by rw[qY];omega);rw[qX] at A
   cases q:jE c with
   | true =>
    rw[q] at x a;have w:=J true x.symm;rw[<- w];unfold gT at r a ⊢
    conv=>lhs;rw[aB qA rfl]
    simp only[go_sem,C,K,l,I,B,u,v,hg,a,m,gD,sD,gD2,y,o,f,A,zs]
    try rfl
   | false =>
    rw[q] at x a;have w:=J false x.symm;rw[show t.set (j+1) false=t from jY g] at w;rw[<- w];unfold gT at r a ⊢
    conv=>lhs;rw[aB qA rfl]
    simp only[go_sem,C,K,l,I,B,u,v,hg,a,m,gD,sD,gD2,y,o,f,zs]
    try rfl
def AJ(D:LL)(s:Bs)(N:Int)(n:Nat)(L:N=n)(Q:n=s.length+1)(R:s.length<=1000000):∀ (k i:Nat) (t:List Bool),i+k=n->t.length=n->(∀ j,j<i->t[j]?=some (kO rA s j))->(∀ j,i<=j->j<n->t[j]?=some false) ->
  aC G9 qA (ST [(1,.str s),(5,.ss D.length 0 n 1),(8,.loc 8 0),(9,.ss (D++[boC (List.replicate n true)]).length 0 n 1),(16,.int .i64 N),(17,.int .i64 N),(18,.bool false),(24,.sl .no 34 [c9]),(25,.int .i64 1),(26,.int .i64 0),(27,.bool true),(35,.int .i64 N),(36,.int .i64 i)] [(8,some c9)] ((D++[boC (List.replicate n true)])++[boC t])) =
   some (.ex 4,ST [(1,.str s),(5,.ss D.length 0 n 1),(8,.loc 8 0),(9,.ss (D++[boC (List.replicate n true)]).length 0 n 1),(16,.int .i64 N),(17,.int .i64 N),(18,.bool false),(24,.sl .no 34 [c9]),(25,.int .i64 1),(26,.int .i64 0),(27,.bool true),(35,.int .i64 N),(36,.int .i64 N),(37,.bool false)] [(8,some c9)] ((D++[boC (List.replicate n true)])++[boC ((List.range n).map (kO rA s))]))
 | 0,i,t,h,M,E,F=>by
  have:i=n:=by omega
  subst this;have e:t=(List.range i).map (kO rA s):=by
   apply ag3;intro j;by_cases q:j<i
   ·rw[E j q,aa5,al9 q];rfl
   ·rw[getElem?_eq_none_iff.2 (by omega),getElem?_eq_none_iff.2 (by simp;omega)]
  rw[<- e];subst L;have S:¬ (i:Int)<i:=by omega
  unfold c9;rw[aB qA rfl];simp only[go_sem,S]
  try rfl
 | k+1,i,t,h,M,E,F=>by
  subst L;have C:(i:Int)<n:=by omega
  have K:0<=(i:Int):=by omega
  have I:=wI (n:=i) (by omega)
  have g:t[i]?=some false:=F i (ji _) (by omega);have O:=pW g;have y:=kZ t;have o:=kZ (List.replicate n true);have f:=iX i (boC t) (.bool false) (by rw[qY];omega);rw[qX,show t.set i false=t from jY g] at f;have r:ldC true 0 34 c9=some (.agg c9):=rfl
  have J:∀ b:Bool,b=kO rA s i->_:=λb y=>AJ D s n n rfl Q R k (i+1) (t.set i b) (by omega) (by simp [M]) (by
   intro j q;by_cases e:j=i
   ·subst e
    rw[sp (by omega),y]
   ·rw[xm (by omega)]
    exact E j (by omega)) (by
   intro j U T;rw[xm (by omega)]
   exact F j (by omega) T)
  cases i with
  | zero =>
   have w:=J false rfl;rw[show t.set 0 false=t from jY g] at w;rw[<- w];rw[show ((0:Nat):Int)=0 from rfl] at *;unfold c9 at r ⊢
   conv=>lhs;rw[aB qA rfl]
   simp only[go_sem,C,I,gD,sD,gD2,y,o,f,zs,ai8]
  | succ j =>
   have P:j<s.length:=by omega
   have hg:s[j]?=some s[j]:=ii P;have H:s.getD j 0=s[j]:=by rw[ki,hg];rfl
   have x:kO rA s (j+1)=rA s[j]:=by
    unfold kO;rw[aj7,H,jv (by omega),jx]
   generalize s[j]=c at hg x;have G:c.toNat<256:=c.toNat_lt;have a:=J3 (n:=c.toNat) G;rw[LO (p:=c)] at a;have l:(0:Int)<((j+1:Nat):Int):=by omega
   have B:IntKind.i64.wrap (((j+1:Nat):Int)-1)=(j:Int):=by rw[w6 (by omega)];omega
   have u:0<=(j:Int):=by omega
   have v:(j:Int)<n:=by omega
   have m:=pW (df:=List.replicate n true) (n:=j) (d:=true) (by rw[ae6,iw (by omega)]);have A:=iX (j+1) (boC t) (.bool true) (by rw[qY];omega);rw[qX] at A
   cases q:rA c with
   | true =>
    rw[q] at x a;have w:=J true x.symm;rw[<- w];unfold c9 at r a ⊢
    conv=>lhs;rw[aB qA rfl]
    simp only[go_sem,C,K,l,I,B,u,v,hg,a,m,gD,sD,gD2,y,o,f,A,zs]
    try rfl
   | false =>
    rw[q] at x a;have w:=J false x.symm;rw[show t.set (j+1) false=t from jY g] at w;rw[<- w];unfold c9 at r a ⊢
    conv=>lhs;rw[aB qA rfl]
    simp only[go_sem,C,K,l,I,B,u,v,hg,a,m,gD,sD,gD2,y,o,f,zs]
    try rfl
def R1(i:u.length<=100000):G9 89 [.sl .no 34 [gT],.str u] c=some (.ss (c++[boC (List.replicate (u.length+1) true)]).length 0 (u.length+1) 1,(c++[boC (List.replicate (u.length+1) true)])++[boC ((List.range (u.length+1)).map (kO jE u))]):=by
 have g:=wI (n:=u.length) (by omega)
 have d:(0:Int)<=((u.length+1:Nat):Int):=by omega
 have e:((u.length+1:Nat):Int)*1<=140737488355328:=by omega
 have f:((u.length+1:Nat):Int)<=4611686018427387904:=by omega
 have a:=Bz c (.bool true) u (u.length+1) (by omega) gT _ rfl (u.length+1) 0 (by omega);rw[replicate_zero,kg,show ((0:Nat):Int)=0 from rfl] at a;have b:=CY c u _ (u.length+1) rfl rfl (by omega) (u.length+1) 0 (List.replicate (u.length+1) false) (by omega) (by simp) (λj q=>by omega) (λj _ q=>by rw[ae6,iw q]);rw[show ((0:Nat):Int)=0 from rfl] at b;have h:=RR (u.length+1);unfold gT at a b ⊢;refine aA F89 ?_;simp only[F89,go_sem,g,d,e,f,Wa,jp,h,a];rw[aB I8 rfl];simp only[go_sem,g,d,e,f,Wa,jp,h,b];rw[aB I8 rfl];simp only[go_sem]
def PZ(D:LL)(s:Bs)(h:s.length<=100000):G9 89 [.sl .no 34 [c9],.str s] D=some (.ss (D++[boC (List.replicate (s.length+1) true)]).length 0 (s.length+1) 1,(D++[boC (List.replicate (s.length+1) true)])++[boC ((List.range (s.length+1)).map (kO rA s))]):=by
 have f:=wI (n:=s.length) (by omega)
 have c:(0:Int)<=((s.length+1:Nat):Int):=by omega
 have d:((s.length+1:Nat):Int)*1<=140737488355328:=by omega
 have e:((s.length+1:Nat):Int)<=4611686018427387904:=by omega
 have a:=Bz D (.bool true) s (s.length+1) (by omega) c9 _ rfl (s.length+1) 0 (by omega);rw[replicate_zero,kg,show ((0:Nat):Int)=0 from rfl] at a;have b:=AJ D s _ (s.length+1) rfl rfl (by omega) (s.length+1) 0 (List.replicate (s.length+1) false) (by omega) (by simp) (λj q=>by omega) (λj _ q=>by rw[ae6,iw q]);rw[show ((0:Nat):Int)=0 from rfl] at b;have g:=RR (s.length+1);unfold c9 at a b ⊢;refine aA F89 ?_;simp only[F89,go_sem,f,c,d,e,Wa,jp,g,a];rw[aB I8 rfl];simp only[go_sem,f,c,d,e,Wa,jp,g,b];rw[aB I8 rfl];simp only[go_sem]
def Xx:G9 132 [.sl .no 34 [c9]] []=some (.sl .no 34 [c9],[]):=by
 have e:aU 48 1=true:=by decide
 have d:gX 34 z34 0 [] []=some (.sl .full 34 []):=rfl;have c:=bJ .full .no (by decide) 34 48 (by decide) [] [c9];have a:=bJ .own .no (by decide) 34 48 (by decide) [] [c9];have b:aU 48 (([]:LL).length+[c9].length)=true:=e;rw[iw b,kg] at c a;have f:(c9.all λx=>(true))=true:=rfl;unfold z34 at d;refine aA Gc ?_;simp only[Gc,go_sem,d,c,a]
def Xw:G9 133 [.sl .no 34 [c9]] []=some (.tup [],[]):=by
 refine aA Gb ?_;simp only[Gb,go_sem];rw[aB X9 rfl];simp only[go_sem]
def u90:G9 90 [.sl .no 34 [c9]] []=some (.sl .no 34 [c9],[]):=by
 refine aA F90 ?_;simp only[F90,go_sem,Xx,Xw]
def fT:List AV:=[.bool true,.sl .no 34 [gT],.sl .no 34 [c9]]
def E1c(s:Bs):List AV:=boC ((List.range (s.length+1)).map (kO jE s))
def E2c(s:Bs):List AV:=boC ((List.range (s.length+1)).map (kO rA s))
def onC(n:Nat):List AV:=boC (List.replicate n true)
def HU(h:j<n):((List.range n).map f)[j]?=some (f j):=by
 rw[aa5,al9 h];rfl
def Dm(h:n<u.length)(a:1<=n):kO rA u.reverse (u.length-n)=(u.getD n 0==32):=by
 unfold kO rA;rw[jv (by omega),jx];have e:u.reverse.getD (u.length-n-1) 0=u.getD n 0:=by
  rw[ki,ki,an4 (by omega)]
  congr 2
  omega
 rw[e]
def rf(h:n<u.length)(a:1<=n):sU u n=(kO jE u n&&kO rA u.reverse (u.length-n)):=by
 rw[Dm h a];unfold sU kO;rw[jv a,jv h];simp
def Ot(s:Bs)(L:s.length<=1024)(N:Int)(n:Nat)(K:n=s.length+1):∀ (k i:Nat) (t:List Bool),i+k=max 1 s.length->t.length=n->(∀ j,j<i->t[j]?=some (sU s j))->(∀ j,i<=j->j<n->t[j]?=some false)->1<=i ->
  ∃ p:Nat,aC G9 DL (ST [(1,.str s),(5,.str s.reverse),(6,.ss 0 0 n 1),(7,.ss 1 0 n 1),(9,.loc 9 0),(10,.ss 3 0 n 1),(11,.ss 5 0 n 1),(12,.int .i64 i),(18,.bool false),(29,.sl .no 3 [fT]),(30,.int .i64 1),(31,.int .i64 0),(32,.bool true)] [(9,some fT)] [boC t,boC t,onC n,E1c s,onC n,E2c s.reverse]) =
   some (.ex 2,ST [(1,.str s),(5,.str s.reverse),(6,.ss 0 0 n 1),(7,.ss 1 0 n 1),(9,.loc 9 0),(10,.ss 3 0 n 1),(11,.ss 5 0 n 1),(12,.int .i64 p),(18,.bool false),(29,.sl .no 3 [fT]),(30,.int .i64 1),(31,.int .i64 0),(32,.bool true),(47,.bool false)] [(9,some fT)] [boC ((List.range n).map (sU s)),boC ((List.range n).map (sU s)),onC n,E1c s,onC n,E2c s.reverse])
 | 0,i,t,h,J,x,y,hi=>by
  have M:¬ (i:Int)<s.length:=by omega
  have e:t=(List.range n).map (sU s):=by
   apply ag3;intro j;by_cases q:j<i
   ·rw[x j q]
    by_cases d:j<n
    ·rw[HU d]
    ·have:=x j q
     rw[getElem?_eq_none_iff.2 (by omega)] at this;cases this
   ·by_cases d:j<n
    ·rw[y j (by omega) d,HU d]
     congr 1
     unfold sU;rw[jr (show ¬ j<s.length by omega)];simp
    ·rw[getElem?_eq_none_iff.2 (by omega),getElem?_eq_none_iff.2 (by simp;omega)]
  rw[<- e];refine⟨i,?_⟩;unfold fT;rw[aB DL rfl];simp only[go_sem,M]
  try rfl
 | k+1,i,t,h,J,x,y,hi=>by
  have F:i<s.length:=by omega
  have B:(i:Int)<s.length:=by omega
  have A:0<=(i:Int):=by omega
  have C:(i:Int)<n:=by omega
  have G:=wI (n:=i) (by omega)
  have o:IntKind.i64.wrap ((s.length:Int)-(i:Int))=(s.length-i:Nat):=by rw[w6 (by omega)];omega
  have D:(0:Int)<=((s.length-i:Nat):Int):=by omega
  have E:((s.length-i:Nat):Int)<(n:Int):=by omega
  have m:t[i]?=some false:=y i (ji _) (by omega);have f:=pW m;have v:=kZ t;have a:(E1c s)[i]?=some (.bool (kO jE s i)):=pW (HU (by omega));have c:(E2c s.reverse)[s.length-i]?=some (.bool (kO rA s.reverse (s.length-i))):=pW (by rw[al8];exact HU (by omega));have g:bX (E1c s)=true:=kZ _;have l:bX (E2c s.reverse)=true:=kZ _;have r:=rf F hi
  have H:∀ b:Bool,b=sU s i->_:=λb v=>Ot s L N n K k (i+1) (t.set i b) (by omega) (by simp [J]) (by
   intro j q;by_cases e:j=i
   ·subst e
    rw[sp (by omega),v]
   ·rw[xm (by omega)]
    exact x j (by omega)) (by
   intro j u d;rw[xm (by omega)]
   exact y j (by omega) d) (by omega)
  have I:=iX i (boC t) (.bool true) (by rw[qY];omega);rw[qX] at I
  cases u:kO jE s i with
  | false =>
   rw[u] at a r;obtain⟨p,w⟩:=H false r.symm;rw[show t.set i false=t from jY m] at w;refine⟨p,?_⟩;rw[<- w];unfold fT
   conv=>lhs;rw[aB DL rfl]
   simp only[go_sem,B,A,C,D,E,G,o,f,v,g,l,a,c,zs]
   try rfl
  | true =>
   cases d:kO rA s.reverse (s.length-i) with
   | false =>
    rw[u] at a;rw[d] at c;rw[u,d] at r;obtain⟨p,w⟩:=H false r.symm;rw[show t.set i false=t from jY m] at w;refine⟨p,?_⟩;rw[<- w];unfold fT
    conv=>lhs;rw[aB DL rfl]
    simp only[go_sem,B,A,C,D,E,G,o,f,v,g,l,a,c,zs]
    try rfl
   | true =>
    rw[u] at a;rw[d] at c;rw[u,d] at r;obtain⟨p,w⟩:=H true r.symm;refine⟨p,?_⟩;rw[<- w];unfold fT
    conv=>lhs;rw[aB DL rfl]
    simp only[go_sem,B,A,C,D,E,G,o,f,v,g,l,a,c,I,zs]
    try rfl
def Ly(h:j<n):(List.range n).drop j=j::(List.range n).drop (j+1):=by
 rw[je (by simpa using h),getElem_range]
def Ce(s:Bs)(b:Nat->Bool)(n:Nat)(p:n<=100000)(x0 d e f g:List AV):∀ (k i:Nat) (c:Bool) (o:List Nat),i+k=n->o.length<=i ->
  ∃ c',aC G9 JE (ST [(1,.str s),(5,.str s.reverse),(6,.ss 0 0 n 1),(13,.sl (md c) 1 (fI o)),(18,.bool false),(29,.sl .no 3 [fT]),(30,.int .i64 1),(31,.int .i64 1),(32,.bool false),(79,.ss 1 0 n 1),(80,.int .i64 n),(81,.int .i64 i)] [] [x0,boC ((List.range n).map b),d,e,f,g]) =
   some (.ex 4,ST [(1,.str s),(5,.str s.reverse),(6,.ss 0 0 n 1),(13,.sl (md c') 1 (fI (o++((List.range n).drop i).filter b))),(18,.bool false),(29,.sl .no 3 [fT]),(30,.int .i64 1),(31,.int .i64 1),(32,.bool false),(79,.ss 1 0 n 1),(80,.int .i64 n),(81,.int .i64 n),(82,.bool false)] [] [x0,boC ((List.range n).map b),d,e,f,g])
 | 0,i,c,o,h,x=>by
  have:i=n:=by omega
  subst this;have y:¬ (i:Int)<i:=by omega
  refine⟨c,?_⟩;rw[aa6 (by simp),filter_nil,ka];unfold fT;rw[aB JE rfl];simp only[go_sem,y]
  try rfl
 | k+1,i,c,o,h,x=>by
  have l:(i:Int)<n:=by omega
  have j:0<=(i:Int):=by omega
  have r:=wI (n:=i) (by omega)
  have a:(boC ((List.range n).map b))[i]?=some (.bool (b i)):=pW (HU (by omega));have m:bX (boC ((List.range n).map b))=true:=kZ _;have u:md true=.own:=rfl;rw[Ly (by omega)]
  cases q:b i with
  | true =>
   rw[q] at a;obtain⟨c',w⟩:=Ce s b n p x0 d e f g k (i+1) true (o++[i]) (by omega) (by simp;omega);refine⟨c',?_⟩;rw[filter_cons_of_pos q];rw[kb,aj2] at w;rw[<- w,u];have v:=λz=>RL c o i z (by omega)
   unfold fT
   conv=>lhs;rw[aB JE rfl]
   simp only[go_sem,l,j,r,a,m,v,cC,zs]
   try rfl
  | false =>
   rw[q] at a;obtain⟨c',w⟩:=Ce s b n p x0 d e f g k (i+1) c o (by omega) (by omega);refine⟨c',?_⟩;rw[filter_cons_of_neg (by simp [q]),<- w];unfold fT
   conv=>lhs;rw[aB JE rfl]
   simp only[go_sem,l,j,r,a,m,zs]
   try rfl
def u42(m:u.length<=100000):G9 42 [.sl .no 3 [fT],.str u] []=some (.sl .no 1 (fI (l5 u)),[]):=by
 by_cases l:1024<u.length
 ·have b:1024<(u.length:Int):=by omega
  have e:l5 u=[]:=by unfold l5;rw[iw l]
  rw[e];unfold fT;refine aA F42 ?_;simp only[F42,go_sem,b]
  try rfl
 ·have b:¬ 1024<(u.length:Int):=by omega
  have e:l5 u=(List.range (u.length+1)).filter (sU u):=by unfold l5;rw[ie l]
  rw[e];have g:=u88 (i:=u) (by omega);have o:=wI (n:=u.length) (by omega)
  have h:(0:Int)<=((u.length+1:Nat):Int):=by omega
  have k:((u.length+1:Nat):Int)*1<=140737488355328:=by omega
  have f:((u.length+1:Nat):Int)<=4611686018427387904:=by omega
  have p:=RR (u.length+1);have r:G9 89 [.sl .no 34 [gT],.str u] [boC (List.replicate (u.length+1) false),boC (List.replicate (u.length+1) false)]=some (.ss 3 0 (u.length+1) 1,[boC (List.replicate (u.length+1) false),boC (List.replicate (u.length+1) false),onC (u.length+1),E1c u]):=R1 (u:=u) m;have s:G9 89 [.sl .no 34 [c9],.str u.reverse] [boC (List.replicate (u.length+1) false),boC (List.replicate (u.length+1) false),onC (u.length+1),E1c u]=some (.ss 5 0 (u.length+1) 1,[boC (List.replicate (u.length+1) false),boC (List.replicate (u.length+1) false),onC (u.length+1),E1c u,onC (u.length+1),E2c u.reverse]):=by
   have:=PZ [boC (List.replicate (u.length+1) false),boC (List.replicate (u.length+1) false),onC (u.length+1),E1c u] u.reverse (by simpa using m)
   rw[al8] at this;unfold E2c;rw[al8];exact this
  have a:=u90
  obtain⟨v,d⟩:=Ot u (by omega) 0 (u.length+1) rfl (max 1 u.length-1) 1 (List.replicate (u.length+1) false) (by omega) (by simp) (by
   intro j q
   have:j=0:=by omega
   subst this;rw[ae6,iw (by omega)]
   rfl) (λj _ q=>by rw[ae6,iw q]) (by omega)
  rw[show ((1:Nat):Int)=1 from rfl] at d;obtain⟨c',c⟩:=Ce u (sU u) (u.length+1) (by omega) (boC ((List.range (u.length+1)).map (sU u))) (onC (u.length+1)) (E1c u) (onC (u.length+1)) (E2c u.reverse) (u.length+1) 0 false [] (by omega) (by simp);rw[show ((0:Nat):Int)=0 from rfl,kc,kg,show md false=.full from rfl,show fI []=[] from rfl] at c;unfold fT at d c ⊢
  clear e a f
  have a:=u90;have f:((u.length+1:Nat):Int)<=4611686018427387904:=by omega
  generalize u.length+1=n at o h k f p r s d c ⊢;refine aA F42 ?_;simp only[F42,go_sem,b,g,o,h,k,f,Wa,jp,p];rw[aB X8 rfl];simp only[go_sem,r,a,s,d];rw[aB X8 rfl];simp only[go_sem]
  cases c'<;>simp only[md] at c<;>simp only[go_sem,c]
def vC(h:r[n]?=some j):(fI r)[n]?=some [.int .i64 j]:=by simp [fI,h]
def nT(h:df[n]?=some d):(iH df)[n]?=some [.bool d]:=by simp [iH,h]
def Pb(f:List Tk)(bs:List Nat)(p:VL f)(j:f.length<=10000)(m:tot f<=900000)(g:∀ b∈bs,b<=(aT f).length)(v:bs.length<=100000):∀ (k i:Nat) (c:Bool) (o:List Nat),i+k=bs.length->o.length<=i ->
  ∃ c',aC G9 PT (ST [(1,.sl .no 3 (tks f)),(5,.sl (md c) 1 (fI o)),(21,.sl .no 1 (fI bs)),(22,.int .i64 bs.length),(23,.int .i64 i)] [] []) =
   some (.ex 0,ST [(1,.sl .no 3 (tks f)),(5,.sl (md c') 1 (fI (o++(bs.drop i).map (Nt.plc f 0)))),(21,.sl .no 1 (fI bs)),(22,.int .i64 bs.length),(23,.int .i64 bs.length),(24,.bool false)] [] [])
 | 0,i,c,o,h,x=>by
  have:i=bs.length:=by omega
  subst this;have A:¬ (bs.length:Int)<bs.length:=by omega
  refine⟨c,?_⟩;rw[lb,kh,ka];rw[aB PT rfl];simp only[go_sem,A]
  try rfl
 | k+1,i,c,o,h,x=>by
  have hi:i<bs.length:=by omega
  have s:(i:Int)<bs.length:=by omega
  have r:0<=(i:Int):=by omega
  have y:=wI (n:=i) (by omega)
  have hg:bs[i]?=some bs[i]:=ii hi;have l:=g bs[i] (xd hi);have hd:bs.drop i=bs[i]::bs.drop (i+1):=je hi;generalize bs[i]=a at hg hd l;have e:=vC hg;have d:=u44 f (n:=a) p j m l;have q:md true=.own:=rfl;obtain⟨c',w⟩:=Pb f bs p j m g v k (i+1) true (o++[Nt.plc f 0 a]) (by omega) (by simp;omega);refine⟨c',?_⟩;rw[kb,aj2] at w;rw[hd,ju,<- w,q];have u:=λz=>RL c o (Nt.plc f 0 a) z (by omega)
  conv=>lhs;rw[aB PT rfl]
  simp only[go_sem,s,r,y,aW,e,d,u,cC]
  try rfl
def R0(h:df[n]?=some false):upB df n=n:=by
 have a:n<df.length:=(jh.1 h).1;unfold upB;rw[je a,ah7 (by rw[ii a] at h;cases b:df[n]<;>simp_all)];rfl
def Y5(h:df[n]?=some true):upB df n=upB df (n+1):=by
 have a:n<df.length:=(jh.1 h).1;unfold upB;rw[je a,af0 (by rw[ii a] at h;cases b:df[n]<;>simp_all),jd];omega
def Pa(F V C:LL)(j e:Own)(d:List Bool)(q b c1 c2 c3 c4:Nat)(B:LL)(f:d[q]?=some false)(o:d.length<=1000000):∀ (k a:Nat),a+k=q ->
  aC G9 JL (ST [(1,.sl .no 3 F),(8,.sl .no 1 (iH d)),(9,.sl j 2 V),(12,.int .i64 b),(17,.loc 17 0),(21,.sl .no 1 B),(22,.int .i64 c1),(23,.int .i64 c2),(24,.bool false),(41,.sl e 1 C),(42,.int .i64 c3),(43,.int .i64 c4),(44,.bool true),(62,.bool true)] [(17,some [.int .i64 a,.int .i64 b])] []) =
   some (.ex 4,ST [(1,.sl .no 3 F),(8,.sl .no 1 (iH d)),(9,.sl j 2 V),(12,.int .i64 b),(17,.loc 17 0),(21,.sl .no 1 B),(22,.int .i64 c1),(23,.int .i64 c2),(24,.bool false),(41,.sl e 1 C),(42,.int .i64 c3),(43,.int .i64 c4),(44,.bool true),(62,.bool true),(70,.bool false)] [(17,some [.int .i64 (upB d a),.int .i64 b])] [])
 | 0,a,h=>by
  have:a=q:=by omega
  subst this;have c:=nT f;have m:=(jh.1 f).1;have g:0<=(a:Int):=by omega
  have i:(a:Int)<d.length:=by omega
  rw[R0 f];rw[aB JL rfl];simp only[go_sem,jP,g,i,c]
  try rfl
 | k+1,a,h=>by
  have m:=(jh.1 f).1;have g:0<=(a:Int):=by omega
  have i:(a:Int)<d.length:=by omega
  have p:=wI (n:=a) (by omega)
  have hg:d[a]?=some d[a]:=ii (by omega);cases l:d[a] with
  | false =>
   rw[l] at hg;have c:=nT hg;rw[R0 hg];rw[aB JL rfl];simp only[go_sem,jP,g,i,c]
   try rfl
  | true =>
   rw[l] at hg;have c:=nT hg;rw[Y5 hg,<- Pa F V C j e d q b c1 c2 c3 c4 B f o k (a+1) (by omega)]
   conv=>lhs;rw[aB JL rfl]
   simp only[go_sem,jP,g,i,c,p]
   try rfl
def WY(h:df[j]?=some false):dnB df (j+1)=j+1:=by
 have a:j<df.length:=(jh.1 h).1;have e:df.take (j+1)=df.take j++[false]:=by
  rw[ab7,h];rfl
 unfold dnB;rw[e,reverse_append,reverse_singleton,aj2,ah7 (by simp)];rfl
def pt(h:df[j]?=some true):dnB df (j+1)=dnB df j:=by
 have e:df.take (j+1)=df.take j++[true]:=by
  rw[ab7,h];rfl
 unfold dnB;rw[e,reverse_append,reverse_singleton,aj2,af0 (by rfl),jd];omega
def Oz(F V C:LL)(l d:Own)(b:List Bool)(q i a c1 c2 c3 c4:Nat)(B:LL)(j:b[q]?=some false)(n:b.length<=1000000):∀ (k:Nat),q+1+k<=b.length ->
  aC G9 JK (ST [(1,.sl .no 3 F),(8,.sl .no 1 (iH b)),(9,.sl l 2 V),(12,.int .i64 i),(17,.loc 17 0),(21,.sl .no 1 B),(22,.int .i64 c1),(23,.int .i64 c2),(24,.bool false),(41,.sl d 1 C),(42,.int .i64 c3),(43,.int .i64 c4),(44,.bool true),(62,.bool true),(70,.bool false)] [(17,some [.int .i64 a,.int .i64 (q+1+k:Nat)])] []) =
   some (.ex 6,ST [(1,.sl .no 3 F),(8,.sl .no 1 (iH b)),(9,.sl l 2 V),(12,.int .i64 i),(17,.loc 17 0),(21,.sl .no 1 B),(22,.int .i64 c1),(23,.int .i64 c2),(24,.bool false),(41,.sl d 1 C),(42,.int .i64 c3),(43,.int .i64 c4),(44,.bool true),(62,.bool true),(70,.bool false),(80,.bool false)] [(17,some [.int .i64 a,.int .i64 (dnB b (q+1+k))])] [])
 | 0,h=>by
  have c:=nT j;have e:0<=(q:Int):=by omega
  have f:(q:Int)<b.length:=by omega
  have g:IntKind.i64.wrap (((q+1+0:Nat):Int)-1)=(q:Int):=by rw[w6 (by omega)];omega
  rw[show dnB b (q+1+0)=q+1 from WY j];rw[aB JK rfl];simp only[go_sem,jP,e,f,c,g]
  try rfl
 | k+1,h=>by
  have e:(0:Int)<=((q+1+k:Nat):Int):=by omega
  have f:((q+1+k:Nat):Int)<(b.length:Int):=by omega
  have g:IntKind.i64.wrap (((q+1+(k+1):Nat):Int)-1)=(q+1+k:Nat):=by rw[w6 (by omega)];omega
  have hg:b[q+1+k]?=some b[q+1+k]:=ii (by omega);cases m:b[q+1+k] with
  | false =>
   rw[m] at hg;have c:=nT hg;rw[show dnB b (q+1+(k+1))=q+1+k+1 from WY hg];rw[aB JK rfl];simp only[go_sem,jP,e,f,c,g]
   try rfl
  | true =>
   rw[m] at hg;have c:=nT hg;rw[show dnB b (q+1+(k+1))=dnB b (q+1+k) from pt hg,<- Oz F V C l d b q i a c1 c2 c3 c4 B j n k (by omega)]
   conv=>lhs;rw[aB JK rfl]
   simp only[go_sem,jP,e,f,c,g]
   try rfl
def iA(l:List (Nat×Nat)):List (List AV):=l.map λr=>[AV.int .i64 r.1,AV.int .i64 r.2]
def eU:(iA ck).length=ck.length:=zt ..
def TV:iA (ck++m)=iA ck++iA m:=by simp [iA]
def apR9(bf:Own)(h:ck.length<=1000000):iN false 2 16 (.sl (md d) 2 (iA ck)) (.sl bf 2 [[.int .i64 n,.int .i64 j]])=some (.sl .own 2 (iA (ck++[(n,j)]))):=by
 have a:aU 16 (ck.length+1)=true:=aL (by decide) (by omega);rw[bJ (md d) bf (pM d) 2 16 (by decide),eU,jy,iw a,TV];rfl
def TH:∀ (f:List It) (p a b:Nat),tot (slc f p a b)<=tot f/\(slc f p a b).length<=f.length
 | [],p,a,b=>⟨ji _,ji _⟩
 | x::f,p,a,b=>by
  obtain⟨c,d⟩:=TH f (p+wid x) a b;rw[pD];split
  ·split
   ·rw[cN,aN,bZ,aN,jb,jy,jd]
    simp only[kl,tr];omega
   ·rw[cN,aN,bZ,aN,jb,jy,jd]
    omega
  ·rw[kg,aN,jd]
   omega
def Ch(f:List Tk)(cs:List Nat)(G:VL f)(A:f.length<=10000)(C:tot f<=900000)(K:cs.length<=100000)(p:∀ c∈cs,c<=1000000)(e:Own)(c1 c2:Nat)(B:LL):∀ (k i:Nat) (c:Bool) (o:List (Nat×Nat)) (a:Nat),i+k=cs.length->o.length<=i->a<=1000000 ->
  ∃ c' r,aC G9 JJ (ST [(1,.sl .no 3 (tks f)),(8,.sl .no 1 (iH (fJ f))),(9,.sl (md c) 2 (iA o)),(10,.int .i64 a),(21,.sl .no 1 B),(22,.int .i64 c1),(23,.int .i64 c2),(24,.bool false),(41,.sl e 1 (fI cs)),(42,.int .i64 cs.length),(43,.int .i64 i)] [] []) =
   some (.ex 2,ST [(1,.sl .no 3 (tks f)),(8,.sl .no 1 (iH (fJ f))),(9,.sl (md c') 2 (iA (o++rgF f a (cs.drop i)))),(10,.int .i64 r),(21,.sl .no 1 B),(22,.int .i64 c1),(23,.int .i64 c2),(24,.bool false),(41,.sl e 1 (fI cs)),(42,.int .i64 cs.length),(43,.int .i64 cs.length),(44,.bool false)] [] [])
 | 0,i,c,o,a,h,Q,O=>by
  have:i=cs.length:=by omega
  subst this;have T:¬ (cs.length:Int)<cs.length:=by omega
  refine⟨c,a,?_⟩;rw[lb,show rgF f a []=[] from rfl,ka];rw[aB JJ rfl];simp only[go_sem,T]
  try rfl
 | k+1,i,c,o,a,h,Q,O=>by
  have hi:i<cs.length:=by omega
  have J:(i:Int)<cs.length:=by omega
  have I:0<=(i:Int):=by omega
  have L:=wI (n:=i) (by omega)
  have hg:cs[i]?=some cs[i]:=ii hi;have F:=p cs[i] (xd hi);have hd:cs.drop i=cs[i]::cs.drop (i+1):=je hi;generalize cs[i]=b at hg hd F;have v:=vC hg;have y:(fJ f).length<=1000000:=by have:=FQ f;omega
  have l:∃ w,G9 22 [.sl .no 3 (tks f),.int .i64 a,.int .i64 b] []=some (.tup [.sl .no 3 (tks (pcF f a b)),.bool w],[]):=by
   unfold pcF;by_cases q:a<=b/\b<=len f
   ·rw[iw q];exact⟨true,u22 f a b A C q.1 q.2⟩
   ·rw[ie q];exact⟨false,Xe (bu:=f) a b A C q⟩
  obtain⟨wv,l⟩:=l;have R:tot (pcF f a b)<=tot f/\(pcF f a b).length<=f.length:=by
   unfold pcF;split
   ·exact TH f 0 a b
   ·exact⟨by rw[bZ];omega,by simp⟩
  have s:=u43 (pcF f a b) (by omega) (by omega);have S:=lK (pcF f a b);obtain⟨lo,hi',m,u⟩:=u47 (i:=aT (pcF f a b)) (by omega);have N:md true=.own:=rfl;have E:rgF f a (b::cs.drop (i+1))=(if soB (aT (pcF f a b))=true then [(upB (fJ f) a,dnB (fJ f) b)] else [])++rgF f b (cs.drop (i+1)):=rfl;rw[hd,E]
  cases q:soB (aT (pcF f a b)) with
  | false =>
   rw[q] at m;obtain⟨c',r,w⟩:=Ch f cs G A C K p e c1 c2 B k (i+1) c o b (by omega) (by omega) F;refine⟨c',r,?_⟩;rw[ie (by decide),kg,<- w];have g:¬ (lo:Int)<hi':=of_decide_eq_false m
   conv=>lhs;rw[aB JJ rfl]
   simp only[go_sem,J,I,L,aW,v,l,s,u,g]
   try rfl
  | true =>
   rw[q] at m;have g:(lo:Int)<hi':=ah3 m;obtain⟨Y,V,x,Z,r4,H,r6,r7,r8⟩:=vo (BH G) q;have U:=(jh.1 H).1;have P:b<=(fJ f).length:=by rw[nU];exact V
   have D:=λz=>apR9 (d:=c) (ck:=o) (n:=upB (fJ f) a) (j:=dnB (fJ f) b) z (by omega)
   obtain⟨c',r,w⟩:=Ch f cs G A C K p e c1 c2 B k (i+1) true (o++[(upB (fJ f) a,dnB (fJ f) b)]) b (by omega) (by simp;omega) F;refine⟨c',r,?_⟩;rw[iw rfl];rw[kb] at w;rw[<- w,N];have X:=Pa (tks f) (iA o) (fI cs) (md c) e (fJ f) x b c1 c2 cs.length i B H y (x-a) a (by omega);have M:=Oz (tks f) (iA o) (fI cs) (md c) e (fJ f) x b (upB (fJ f) a) c1 c2 cs.length i B H y (b-(x+1)) (by omega);rw[show x+1+(b-(x+1))=b by omega] at M
   conv=>lhs;rw[aB JJ rfl]
   simp only[go_sem,J,I,L,aW,v,l,s,u,g,X,M,D,cC]
   try rfl
def re:∀ b∈l5 i,b<=i.length:=by
 intro b a;unfold l5 at a
 split at a
 ·cases a
 ·have:=(ag9.1 a).1
  rw[an2] at this;omega
def IY:(l5 i).length<=1025:=by
 unfold l5;split
 ·simp
 ·refine ab1 (ak4 _ _) ?_
  rw[length_range];omega
def u17(b:List Tk)(h:VL b)(p:b.length<=1000)(r:tot b<=90000):G9 17 [.sl .no 3 [fT],.sl .no 3 (tks b)] []=some (.sl .no 2 (iA (tZ b)),[]):=by
 have n:=lK b;have d:=u43 b (by omega) (by omega);have a:=u42 (u:=aT b) (by omega);have e:=up (c67 b (by omega) (λt q=>by have:=gG t q;unfold eZ;omega)) rfl;have f:=u46 (b:=b) (by omega) (by omega);have k:=IY (i:=aT b);obtain⟨c',w⟩:=Pb b (l5 (aT b)) h (by omega) (by omega) (re) (by omega) (l5 (aT b)).length 0 false [] (by omega) (by simp);rw[kc,kg,show ((0:Nat):Int)=0 from rfl,show md false=.full from rfl,show fI []=[] from rfl] at w;have g:((l5 (aT b)).map (Nt.plc b 0)).length<=1000000:=by rw[zt];omega
 have j:=λz=>RL c' ((l5 (aT b)).map (Nt.plc b 0)) (len b) z g
 rw[show (l5 (aT b)).map (Nt.plc b 0)++[len b]=nQ b from rfl] at j;have l:(nQ b).length<=1026:=by unfold nQ;rw[jb,zt,jy];omega
 have m:=uV b;obtain⟨c2,o,v⟩:=Ch b (nQ b) h (by omega) (by omega) (by omega) (λc q=>by have:=W6 (BH h) c q;omega) .no (l5 (aT b)).length (l5 (aT b)).length (fI (l5 (aT b))) (nQ b).length 0 false [] 0 (by omega) (by simp) (by omega);rw[kc,kg,show ((0:Nat):Int)=0 from rfl,show md false=.full from rfl,show iA []=[] from rfl,show rgF b 0 (nQ b)=tZ b from rfl] at v;refine aA F17 ?_;simp only[F17,go_sem,d,a,aW,w,e,j,cC,f];cases c2
 ·simp only[md] at v
  simp only[go_sem,v]
  try rfl
 ·simp only[md] at v
  simp only[go_sem,v]
  try rfl
def FH(fm:Int):∀ (k:Nat) (f op:List It) (id:Int) (cs:List Nat) (a b:Nat) (s:Bs) (g:List It) (c:List Nat),tot f<=a->dcs fm k f op id cs a b s=some (g,c)->tot g<=a+s.length
 | 0,f,op,id,cs,a,b,s,g,c,h,hd=>by
  unfold dcs at hd
  split at hd
  ·cases hd;omega
  ·cases hd
 | k+1,f,op,id,cs,a,b,s,g,c,h,hd=>by
  unfold dcs at hd
  split at hd
  ·split at hd
   ·cases hd;omega
   ·cases hd
  cases d:el fm s with
  | none=>rw[d] at hd;cases hd
  | some p =>
   obtain⟨x,n⟩:=p;have o:=(lQ d).2.2;have m:=sQ d;rw[d] at hd;simp only[] at hd
   split at hd
   ·have:=FH fm k f op id cs _ b _ g c (by omega:tot f<=a+n) hd
    rw[kl] at this;omega
   ·cases e:stp x op id with
    | none=>rw[e] at hd;cases hd
    | some q =>
     obtain⟨y,op',i⟩:=q;have l:=(SQ e).1;rw[e] at hd;simp only[] at hd
     split at hd
     ·cases hd
     ·have j:=(o9 f y).1
      rw[l] at j
      have:=FH fm k (pn f y) op' i _ _ _ _ g c (by omega:tot (pn f y)<=a+n) hd
      rw[kl] at this;omega
def AZ(h:dcd k i=some (e,r)):VL e/\e.length<=512/\len e<=1024/\tot e<=i.length:=by
 obtain⟨a,b,c⟩:=(cG e).1 (W3 h)
 have:=FH k i.length [] [] 0 [] 0 0 i e r (ji _) h
 exact⟨a,b,c,by omega⟩
abbrev Pc:=Nat×Nat×Nat×List It
def pcR(p:Pc):List AV:=[.int .i64 p.1,.int .i64 p.2.1,.int .i64 p.2.2.1,.sl .no 3 (tks p.2.2.2)]
def pcs(l:List Pc):List (List AV):=l.map pcR
def pcs_len(l:List Pc):(pcs l).length=l.length:=zt ..
def apP9(il:List Pc)(k x y:Nat)(bf:Own)(h:il.length<=1000000):iN false 4 48 (.sl (md d) 4 (pcs il)) (.sl bf 4 [[.int .i64 k,.int .i64 x,.int .i64 y,.sl .no 3 (tks e)]])=some (.sl .own 4 (pcs (il++[(k,x,y,e)]))):=by
 have a:aU 48 (il.length+1)=true:=aL (by decide) (by omega);rw[bJ (md d) bf (pM d) 4 48 (by decide),pcs_len,jy,iw a];simp [pcs,pcR]
def yG(h:ck[n]?=some gm):(iA ck)[n]?=some [.int .i64 gm.1,.int .i64 gm.2]:=by simp [iA,h]
def mkP(k:Nat)(g:List It)(r:Nat×Nat):Pc:=(k,r.1,r.2,slc g 0 r.1 r.2)
def l6a(F P U:LL)(k:Nat)(c1 c2:Nat)(fm:Int)(g:List It)(y:VL g)(u:g.length<=1000)(x:tot g<=90000)(rs:List (Nat×Nat))(m:∀ r∈rs,r.1<r.2/\r.2<=len g)(f:rs.length<=100000):∀ (kk j:Nat) (c:Bool) (o:List Pc),j+kk=rs.length->o.length+kk<=1000000 ->
  ∃ c',aC G9 sn (ST [(1,.sl .no 3 F),(2,.loc 2 0),(6,.sl (md c) 4 (pcs o)),(8,.int .i64 k),(9,.sl .no 3 (tks g)),(16,.sl .no 1 U),(17,.int .i64 c1),(18,.int .i64 c2),(19,.bool true),(29,.bool false),(32,.sl .no 2 (iA rs)),(33,.int .i64 rs.length),(34,.int .i64 j)] [(2,some [.int .i64 fm,.sl .no 3 P])] []) =
   some (.ex 2,ST [(1,.sl .no 3 F),(2,.loc 2 0),(6,.sl (md c') 4 (pcs (o++(rs.drop j).map (mkP k g)))),(8,.int .i64 k),(9,.sl .no 3 (tks g)),(16,.sl .no 1 U),(17,.int .i64 c1),(18,.int .i64 c2),(19,.bool true),(29,.bool false),(32,.sl .no 2 (iA rs)),(33,.int .i64 rs.length),(34,.int .i64 rs.length),(35,.bool false)] [(2,some [.int .i64 fm,.sl .no 3 P])] [])
 | 0,j,c,o,h,v=>by
  have:j=rs.length:=by omega
  subst this;have B:¬ (rs.length:Int)<rs.length:=by omega
  refine⟨c,?_⟩;rw[lb,kh,ka];rw[aB sn rfl];simp only[go_sem,B]
  try rfl
 | kk+1,j,c,o,h,v=>by
  have hi:j<rs.length:=by omega
  have s:(j:Int)<rs.length:=by omega
  have q:0<=(j:Int):=by omega
  have A:=wI (n:=j) (by omega)
  have hg:rs[j]?=some rs[j]:=ii hi;have l:=m rs[j] (xd hi);have hd:rs.drop j=rs[j]::rs.drop (j+1):=je hi;generalize rs[j]=r at hg hd l;have b:=yG hg;have a:=u22 g r.1 r.2 (by omega) (by omega) (by omega) l.2;have p:md true=.own:=rfl;obtain⟨c',w⟩:=l6a F P U k c1 c2 fm g y u x rs m f kk (j+1) true (o++[mkP k g r]) (by omega) (by simp;omega);refine⟨c',?_⟩;rw[kb,aj2] at w;rw[hd,ju,<- w,p];have i:=λz=>apP9 (d:=c) o k r.1 r.2 (e:=slc g 0 r.1 r.2) z (by omega)
  rw[show (k,r.1,r.2,slc g 0 r.1 r.2)=mkP k g r from rfl] at i
  conv=>lhs;rw[aB sn rfl]
  simp only[go_sem,s,q,A,eU,b,a,i,cC]
  try rfl
def l6(fm:Int)(ps:List Pt)(k:Nat):List Pc:=match ps[k]? with
 | some p=>match dcd fm p.2.2 with
  | some (g,_)=>(tZ g).map (mkP k g)
  | none=>[]
 | none=>[]
def LZ(fm:Int)(ps:List Pt)(k:Nat):Prop:=∃ key raw g c,ps[k]?=some (true,key,raw)/\raw.length<=50000/\dcd fm raw=some (g,c)
def EC(f:List It):∀ (cs:List Nat) (a:Nat),(rgF f a cs).length<=cs.length
 | [],a=>by simp [rgF]
 | b::cs,a=>by
  have:=EC f cs b
  rw[rgF,jb,jd]
  split<;>simp<;>omega
def GO:(tZ e).length<=1026:=by
 unfold tZ;refine ab1 (EC e _ _) ?_;unfold nQ
 have:=IY (i:=aT e)
 rw[jb,zt,jy];omega
def PY:(l6 D A n).length<=1026:=by
 unfold l6;split
 ·split
  ·rw[zt];exact GO
  ·simp
 ·simp
def l6b(fm:Int)(d:fmK fm)(ps:List Pt)(s:ps.length<=1000000)(a:List Nat)(v:∀ k∈a,LZ fm ps k)(m:a.length<=900):∀ (kk j:Nat) (c:Bool) (o:List Pc),j+kk=a.length->o.length+1026*kk<=1000000 ->
  ∃ c',aC G9 sm (ST [(1,.sl .no 3 [fT]),(2,.loc 2 0),(6,.sl (md c) 4 (pcs o)),(16,.sl .no 1 (fI a)),(17,.int .i64 a.length),(18,.int .i64 j)] [(2,some [.int .i64 fm,.sl .no 3 (pts ps)])] []) =
   some (.ex 0,ST [(1,.sl .no 3 [fT]),(2,.loc 2 0),(6,.sl (md c') 4 (pcs (o++(a.drop j).flatMap (l6 fm ps)))),(16,.sl .no 1 (fI a)),(17,.int .i64 a.length),(18,.int .i64 a.length),(19,.bool false)] [(2,some [.int .i64 fm,.sl .no 3 (pts ps)])] [])
 | 0,j,c,o,h,E=>by
  have:j=a.length:=by omega
  subst this;have H:¬ (a.length:Int)<a.length:=by omega
  refine⟨c,?_⟩;rw[lb,ae5,ka];unfold fT;rw[aB sm rfl];simp only[go_sem,H]
  try rfl
 | kk+1,j,c,o,h,E=>by
  have hi:j<a.length:=by omega
  have C:(j:Int)<a.length:=by omega
  have B:0<=(j:Int):=by omega
  have G:=wI (n:=j) (by omega)
  have hg:a[j]?=some a[j]:=ii hi;have u:=v a[j] (xd hi);have hd:a.drop j=a[j]::a.drop (j+1):=je hi;generalize a[j]=k at hg hd u;have l:=vC hg;obtain⟨key,raw,g,cc,r,x,f⟩:=u;obtain⟨p,I,J,K⟩:=AZ f;have i:=u16 d ps k key raw r x s f;have b:=u17 g p (by omega) (by omega);have F:=GO (e:=g);have y:l6 fm ps k=(tZ g).map (mkP k g):=by unfold l6;rw[r];simp only[f]
  obtain⟨c1,q⟩:=l6a [fT] (pts ps) (fI a) k a.length j fm g p (by omega) (by omega) (tZ g) (KK (BH p) (nQ g) 0) (by omega) (tZ g).length 0 c o (by omega) (by omega);rw[kc,show ((0:Nat):Int)=0 from rfl,<- y] at q;obtain⟨c',w⟩:=l6b fm d ps s a v m kk (j+1) c1 (o++l6 fm ps k) (by omega) (by have:=PY (D:=fm) (A:=ps) (n:=k);simp;omega);refine⟨c',?_⟩;rw[kb,<- sb] at w;rw[hd,<- w];unfold fT at q b ⊢
  conv=>lhs;rw[aB sm rfl]
  simp only[go_sem,C,B,G,aW,l,i,b,eU,q]
  try rfl
def u6(b:fmK D)(d:A.length<=1000000)(e:∀ k∈fD A 0,LZ D A k)(c:(fD A 0).length<=900):
  G9 6 [.agg [.int .i64 D,.sl .no 3 (pts A)],.sl .no 3 [fT]] []=some (.tup [.sl .no 4 (pcs ((fD A 0).flatMap (l6 D A))),.bool true],[]):=by
 have a:=u21 (k:=D) (A:=A) d;obtain⟨c',w⟩:=l6b D b A d (fD A 0) e c (fD A 0).length 0 false [] (by omega) (by simp;omega);rw[kc,kg,show ((0:Nat):Int)=0 from rfl,show md false=.full from rfl,show pcs []=[] from rfl] at w;unfold fT at w ⊢;refine aA F6 ?_;cases c'
 ·simp only[md] at w
  simp only[F6,go_sem,a,aW,w]
  try rfl
 ·simp only[md] at w
  simp only[F6,go_sem,a,aW,w]
  try rfl
def Sy(b:Bool)(k:Bool)(x y:Bs)(o:Own)(h:A.length<=1000000):iN false 3 40 (.sl (md b) 3 (pts A)) (.sl o 3 [[.bool k,.str x,.str y]])=some (.sl .own 3 (pts (A++[(k,x,y)]))):=by
 have a:aU 40 (A.length+1)=true:=aL (by decide) (by omega);rw[bJ (md b) o (pM b) 3 40 (by decide),dP,jy,iw a];simp [pts,ptR]
def Sx(b:Bool)(k a:Bool)(x y c d:Bs)(o:Own)(h:A.length<=1000000):iN false 3 40 (.sl (md b) 3 (pts A)) (.sl o 3 [[.bool k,.str x,.str y],[.bool a,.str c,.str d]])=some (.sl .own 3 (pts (A++[(k,x,y),(a,c,d)]))):=by
 have e:aU 40 (A.length+2)=true:=aL (by decide) (by omega);rw[bJ (md b) o (pM b) 3 40 (by decide),dP,show ([[AV.bool k,.str x,.str y],[AV.bool a,.str c,.str d]]).length=2 from rfl,iw e];simp [pts,ptR]
def Nv(h bv:AV):EV (sh:=[[h,.sl (md U) 3 c,bv]]) 0 1 [h,.sl (md U) 3 c,bv] (.sl (md U) 3 c)=some (.sl (md U) 3 c,[[h,.sl (mdn U) 3 c,bv]]):=by
 cases U<;>rfl
def Y7(d key:Bs)(b:Bool)(ps:List Pt)(fr p q:Nat)(c:fr<=p)(e:p<=q)(f:q<=d.length)(g:ps.length<=1000000):
  G9 181 [.ptr 0 0,.str key,.int .i64 p,.int .i64 q] [[.str d,.sl (md b) 3 (pts ps),.int .i64 fr]]=some (.tup [],[[.str d,.sl .own 3 (pts (ps++[(false,[],(d.take p).drop fr),(true,key,(d.take q).drop p)])),.int .i64 q]]):=by
 have h:=ss3 d fr p c (by omega);have i:=ss3 d p q e f;have a:=λo=>Sx b (A:=ps) false true [] ((d.take p).drop fr) key ((d.take q).drop p) o g
 refine aA Fs ?_;simp only[Fs,go_sem,Nv,h,i,a,cC,dQ]
 try rfl
def yo(d:Bs)(b:Bool)(ps:List Pt)(fr:Nat)(e:fr<=d.length)(f:ps.length<=1000000):
  ∃ c,G9 182 [.ptr 0 0] [[.str d,.sl (md b) 3 (pts ps),.int .i64 fr]]=some (.sl .no 3 (pts (ps++[(false,[],d.drop fr)])),[[.str d,.sl (mdn c) 3 (pts ps),.int .i64 fr]]):=by
 have g:=ss1 d fr e;have a:=λo=>Sy b (A:=ps) false [] (d.drop fr) o f
 refine⟨b,?_⟩;refine aA Fr ?_;simp only[Fr,go_sem,Nv,g,a,cC,dQ]
 try rfl
def QF:(tZ e).length<=(l5 (aT e)).length+1:=by
 unfold tZ;refine ab1 (EC e _ _) ?_;unfold nQ;rw[jb,zt,jy];exact ji _
def SM(d:Bs)(b:Bool)(ps:List Pt)(fr a n:Nat):AS:=ST [(0,.str d),(5,.ptr 0 0),(6,.int .i64 a),(7,.int .i64 n)] [] [[.str d,.sl (md b) 3 (pts ps),.int .i64 fr]]
def ErM(r:Option (AX×AS)):Prop:=∃ a b sh' c e,e≠0/\r=some (.ret,ST a b sh')/\aF .any a 2=.sl .full 3 []/\aF .any a 3=.int .i64 c/\aF .any a 4=.int .i64 e
def endM(fr a n:Nat)(c:¬ a<i.length):aC G9 c7 (SM i U A fr a n)=some (.ex 0,ST [(0,.str i),(5,.ptr 0 0),(6,.int .i64 a),(7,.int .i64 n),(24,.bool false)] [] [[.str i,.sl (md U) 3 (pts A),.int .i64 fr]]):=by
 have b:¬ (a:Int)<i.length:=by omega
 unfold SM;rw[aB c7 rfl];simp only[go_sem,b]
def SX(d:Bs)(b:Bool)(fr a n:Nat)(k:a<d.length)(hd:d.length<=50000)(c:UInt8)(f:d[a]?=some c)(h:c≠60):aC G9 c7 (SM d b A fr a n)=aC G9 c7 (SM d b A fr (a+1) n):=by
 have g:(a:Int)<d.length:=by omega
 have e:0<=(a:Int):=by omega
 have i:=wI (n:=a) (by omega)
 have j:¬ (c.toNat:Int)=60:=by rw[i60];exact h
 unfold SM
 conv=>lhs;rw[aB c7 rfl]
 simp only[go_sem,g,e,f,j,i]
 try rfl
def zm(fr a n j:Nat)(r:a<i.length)(hd:i.length<=50000)(m:i[a]?=some 60)(h:[60,33,45,45] <+: i.drop a)(o:fnd [45,45,62] (i.drop (a+4)) (a+4)=(j:Int))(s:j<=i.length):aC G9 c7 (SM i U A fr a n)=aC G9 c7 (SM i U A fr (j+3) n):=by
 have p:(a:Int)<i.length:=by omega
 have l:0<=(a:Int):=by omega
 have q:IntKind.i64.wrap ((a:Int)+4)=(a+4:Nat):=by rw[w6 (by omega)];rfl
 have g:IntKind.i64.wrap ((j:Int)+3)=(j+3:Nat):=by rw[w6 (by omega)];rfl
 have k:=h.length_le;rw[kl] at k;have f:=ss1 i a (by omega);have b:=xX (i.drop a) [60,33,45,45];rw[jv h] at b;have c:=J2 i [45,45,62] (a+4) (by simp) (by omega) (by decide) (by simp at k;omega);rw[o] at c;have e:0<=(j:Int):=by omega
 have d:((60:UInt8).toNat:Int)=60:=rfl;unfold SM
 conv=>lhs;rw[aB c7 rfl]
 simp only[go_sem,p,l,m,d,f,b,q,c,e,g]
 try rfl
def BT(h:fu=some (.ret,ST dz ik c))(h4:aF .any dz 2=.sl .full 3 [])(h5:aF .any dz 3=.int .i64 k)(h6:aF .any dz 4=.int .i64 D)(hne:D≠0):ErM fu:=⟨dz,ik,c,k,D,hne,h,h4,h5,h6⟩
def X6(d:Bs)(a:Nat):Prop:=¬ [60,33,45,45] <+: d.drop a\/([60,33,45,45] <+: d.drop a/\fnd [45,45,62] (d.drop (a+4)) (a+4)<0)
def zl(bc:Bs)(fr a n:Nat)(O:a<bc.length)(hd:bc.length<=50000)(H:bc[a]?=some 60)(m:X6 bc a)(E:bc.drop a=60::cy)(b:tgR cy=some (s,j))(h:eD (aH s.2.1)=false):aC G9 c7 (SM bc U A fr a n)=aC G9 c7 (SM bc U A fr (a+j) n):=by
 have J:(a:Int)<bc.length:=by omega
 have G:0<=(a:Int):=by omega
 have L:IntKind.i64.wrap ((a:Int)+4)=(a+4:Nat):=by rw[w6 (by omega)];rfl
 have w:=ss1 bc a (by omega);have c:=xX (bc.drop a) [60,33,45,45];have p:((60:UInt8).toNat:Int)=60:=rfl;have F:cy.length<=1000000:=by have:=pz List.length E;rw[kl,jd] at this;omega
 have K:cy.length+1=bc.length-a:=by have:=pz List.length E;rw[kl,jd] at this;omega
 have C:=rZ (s:=s) (n:=j) b;have d:=Y8 60 cy F;rw[b,<- E] at d;have y:s.2.1.length<=1000000:=by
  unfold tgR at b;cases l:cut 62 cy with
  | none=>rw[l] at b;cases b
  | some q =>
   obtain⟨B,r⟩:=q;rw[l] at b;simp only[] at b
   split at b
   ·cases b
    have e:=(bP.1 l).1;have M:B.length<=cy.length:=by rw[e];simp
    have N:=yF B;show (rtK B).2.length<=1000000;omega
   ·cases b
 obtain⟨k,u,i⟩:=s;simp only[elV,tkR] at d;simp only at y h C;have g:=up (c64 u y) rfl;have f:=R5 (aH u);have v:¬ (j:Int)=0:=by have:=C.2.1;omega
 have x:IntKind.i64.wrap ((a:Int)+(j:Int))=(a+j:Nat):=by have:=C.2.2.1;rw[w6 (by omega)];rfl
 rw[h] at f;unfold SM;rcases m with m | ⟨m,P⟩
 ·rw[jr m] at c
  conv=>lhs;rw[aB c7 rfl]
  simp only[go_sem,J,G,H,p,w,c,d,g,f,v,x]
  try rfl
 ·rw[jv m] at c
  have I:=m.length_le;rw[kl] at I;have o:=J2 bc [45,45,62] (a+4) (by simp) (by omega) (by decide) (by simp at I;omega);have D:¬ 0<=fnd [45,45,62] (bc.drop (a+4)) (a+4):=by omega
  conv=>lhs;rw[aB c7 rfl]
  simp only[go_sem,J,G,H,p,w,c,L,o,D,d,g,f,v,x]
  try rfl
def zk(bc:Bs)(fr a n:Nat)(V:List It)(cc:List Nat)(ha:a<bc.length)(hd:bc.length<=50000)(hc:bc[a]?=some 60)(F:X6 bc a)(ht:bc.drop a=60::cy)(b:tgR cy=some (s,v))(c:eD (aH s.2.1)=true)(K:s.1=2)
  (E:fnd ([60,47]++aH s.2.1++[62]) (bc.drop (a+v)) (a+v)=(j:Int))(o:a+v<=j/\j+(aH s.2.1).length+3<=bc.length)(X:dcd 1 ((bc.take j).drop (a+v))=some (V,cc))(Y:fr<=a+v)(ag:n<999)(av:A.length<=1000000):
  aC G9 c7 (SM bc U A fr a n)=aC G9 c7 (SM bc true (A++[(false,[],(bc.take (a+v)).drop fr),(true,Nt.dec (n+1),(bc.take j).drop (a+v))]) j (j+(aH s.2.1).length+3) (n+1)):=by
 have hn:(a:Int)<bc.length:=by omega
 have h0:0<=(a:Int):=by omega
 have hw:IntKind.i64.wrap ((a:Int)+4)=(a+4:Nat):=by rw[w6 (by omega)];rfl
 have M:=ss1 bc a (by omega);have d:=xX (bc.drop a) [60,33,45,45];have H:((60:UInt8).toNat:Int)=60:=rfl;have ar:cy.length<=1000000:=by have:=pz List.length ht;rw[kl,jd] at this;omega
 have ap:cy.length+1=bc.length-a:=by have:=pz List.length ht;rw[kl,jd] at this;omega
 have T:=rZ (s:=s) (n:=v) b;have f:=Y8 60 cy ar;rw[b,<- ht] at f;have R:s.2.1.length<=1000000:=by
  unfold tgR at b;cases D:cut 62 cy with
  | none=>rw[D] at b;cases b
  | some q =>
   obtain⟨S,r⟩:=q;rw[D] at b;simp only[] at b
   split at b
   ·cases b
    have e:=(bP.1 D).1;have h1:S.length<=cy.length:=by rw[e];simp
    have h2:=yF S;show (rtK S).2.length<=1000000;omega
   ·cases b
 obtain⟨k,u,i⟩:=s;simp only[elV,tkR] at f;simp only at R c T K E o;subst K;have l:=up (c64 u R) rfl;have g:=R5 (aH u);have L:¬ (v:Int)=0:=by have:=T.2.1;omega
 have P:IntKind.i64.wrap ((a:Int)+(v:Int))=(a+v:Nat):=by have:=T.2.2.1;rw[w6 (by omega)];rfl
 rw[c] at g;generalize aH u=w at l g E o c;have B:=ss1 bc (a+v) (by omega);have C:=ss3 bc (a+v) j o.1 (by omega);have ab:w.length<=5:=by
  unfold eD at c;simp only[yb,Lh] at c;rcases c with (((h | h) | h) | h) | h<;>(rw[h];decide)
 have m:=J2 bc ([60,47]++w++[62]) (a+v) (by simp) (by omega) (by simp;omega) (by omega);rw[E] at m;have m:G9 177 [.str bc,.str (60::47::(w++[62])),.int .i64 (a+v:Nat)] []=some (.int .i64 j,[]):=m;have q5:w.length<=140737488355325:=by omega
 have x:=(J1 1 ((bc.take j).drop (a+v)) (by simp;omega)).1 V cc X;have I:0<=(j:Int):=by omega
 have J:¬ (j:Int)<0:=by omega
 have Q:=wI (n:=n) (by omega)
 have p:=up (c79 (n+1) (by omega)) rfl;have y:=Y7 bc (Nt.dec (n+1)) U A fr (a+v) j Y o.1 (by omega) av;have N:IntKind.i64.wrap ((j:Int)+(w.length:Int))=(j+w.length:Nat):=by rw[w6 (by omega)];rfl
 have O:IntKind.i64.wrap (((j+w.length:Nat):Int)+3)=(j+w.length+3:Nat):=by rw[w6 (by omega)];rfl
 have q1:2+w.length<=140737488355328:=by omega
 have q2:2+w.length+1<=140737488355328:=by omega
 have q3:([60,47]:Bs).length+w.length<=140737488355328:=by simp;omega
 have q4:(([60,47]:Bs)++w).length+([62]:Bs).length<=140737488355328:=by simp;omega
 unfold SM;rw[show md true=.own from rfl];rcases F with F | ⟨F,hf⟩
 ·rw[jr F] at d
  conv=>lhs;rw[aB c7 rfl]
  simp only[go_sem,hn,h0,hc,H,M,d,f,l,g,L,P,q1,q5,m,B,C,I,J,x,Q,p,y,N,O]
  try rfl
 ·rw[jv F] at d
  have hl:=F.length_le;rw[kl] at hl;have G:=J2 bc [45,45,62] (a+4) (by simp) (by omega) (by decide) (by simp at hl;omega);have Z:¬ 0<=fnd [45,45,62] (bc.drop (a+4)) (a+4):=by omega
  conv=>lhs;rw[aB c7 rfl]
  simp only[go_sem,hn,h0,hc,H,M,d,hw,G,Z,f,l,g,L,P,q1,q5,m,B,C,I,J,x,Q,p,y,N,O]
  try rfl
def zj(bc:Bs)(fr a n:Nat)(ha:a<bc.length)(hd:bc.length<=50000)(X:bc[a]?=some 60)(E:X6 bc a)(S:bc.drop a=60::cy)(b:tgR cy=some (s,v))(c:eD (aH s.2.1)=true)(J:s.1=2)(C:fnd ([60,47]++aH s.2.1++[62]) (bc.drop (a+v)) (a+v)=(j:Int))(D:a+v<=j/\j<=bc.length)(Q:dcd 1 ((bc.take j).drop (a+v))=none):ErM (aC G9 c7 (SM bc U A fr a n)):=by
 have Z:(a:Int)<bc.length:=by omega
 have V:0<=(a:Int):=by omega
 have hw:IntKind.i64.wrap ((a:Int)+4)=(a+4:Nat):=by rw[w6 (by omega)];rfl
 have L:=ss1 bc a (by omega);have d:=xX (bc.drop a) [60,33,45,45];have G:((60:UInt8).toNat:Int)=60:=rfl;have T:cy.length<=1000000:=by have:=pz List.length S;rw[kl,jd] at this;omega
 have ar:cy.length+1=bc.length-a:=by have:=pz List.length S;rw[kl,jd] at this;omega
 have O:=rZ (s:=s) (n:=v) b;have f:=Y8 60 cy T;rw[b,<- S] at f;have N:s.2.1.length<=1000000:=by
  unfold tgR at b;cases B:cut 62 cy with
  | none=>rw[B] at b;cases b
  | some q =>
   obtain⟨P,r⟩:=q;rw[B] at b;simp only[] at b
   split at b
   ·cases b
    have e:=(bP.1 B).1;have h1:P.length<=cy.length:=by rw[e];simp
    have h2:=yF P;show (rtK P).2.length<=1000000;omega
   ·cases b
 obtain⟨k,u,i⟩:=s;simp only[elV,tkR] at f;simp only at N c O J C D;subst J;have l:=up (c64 u N) rfl;have g:=R5 (aH u);have K:¬ (v:Int)=0:=by have:=O.2.1;omega
 have M:IntKind.i64.wrap ((a:Int)+(v:Int))=(a+v:Nat):=by have:=O.2.2.1;rw[w6 (by omega)];rfl
 rw[c] at g;generalize aH u=w at l g C c;have H:a+v<=bc.length:=by have:=O.2.2.1;omega
 have x:=ss1 bc (a+v) H;have ap:w.length<=5:=by
  unfold eD at c;simp only[yb,Lh] at c;rcases c with (((h | h) | h) | h) | h<;>(rw[h];decide)
 have m:=J2 bc ([60,47]++w++[62]) (a+v) (by simp) (by omega) (by simp;omega) H;rw[C] at m;have m:G9 177 [.str bc,.str (60::47::(w++[62])),.int .i64 (a+v:Nat)] []=some (.int .i64 j,[]):=m;have y:=ss3 bc (a+v) j D.1 D.2;obtain⟨av,ev,o,p⟩:=(J1 1 ((bc.take j).drop (a+v)) (by simp;omega)).2 Q;have I:0<=(j:Int):=by omega
 have q1:2+w.length<=140737488355328:=by omega
 have q5:w.length<=140737488355325:=by omega
 unfold SM;rcases E with E | ⟨E,hf⟩
 ·rw[jr E] at d
  apply BT
  case h =>
   rw[aB c7 rfl];simp only[go_sem,Z,V,X,G,L,d,f,l,g,K,M,q1,q5,m,x,y,I,p,o]
   try rfl
  case h4=>rfl
  case h5=>rfl
  case h6=>rfl
  case hne=>first | exact o | decide
 ·rw[jv E] at d
  have Y:=E.length_le;rw[kl] at Y;have F:=J2 bc [45,45,62] (a+4) (by simp) (by omega) (by decide) (by simp at Y;omega);have R:¬ 0<=fnd [45,45,62] (bc.drop (a+4)) (a+4):=by omega
  apply BT
  case h =>
   rw[aB c7 rfl];simp only[go_sem,Z,V,X,G,L,d,hw,F,R,f,l,g,K,M,q1,q5,m,x,y,I,p,o]
   try rfl
  case h4=>rfl
  case h5=>rfl
  case h6=>rfl
  case hne=>first | exact o | decide
structure InM (fm:Int) (d:Bs) (ps:List Pt) (fr a n:Nat):Prop where
 rd:∀ p∈ps,p.1=true->p.2.2.length<=d.length/\∃ g c,dcd fm p.2.2=some (g,c)
 wp:WP ps<=wt (d.take a)
 fa:fr<=a
 fl:fr<=d.length
 np:n<=WP ps
 pl:ps.length=2*n
def InM.mono{fm:Int}{d:Bs}{ps:List Pt}{fr a n b:Nat}(h:InM fm d ps fr a n)(c:a<=b):InM fm d ps fr b n:=⟨h.rd,ab1 h.wp (DU c),by have:=h.fa;omega,h.fl,h.np,h.pl⟩
def InM.add{R p e:Nat}(h:InM k i A v R n)(u:R<p)(l:p<=j)(f:j<=e)(m:j<=i.length)(c:UInt8)(o:i[p-1]?=some c)(r:wB c=1)(key:Bs)(g:List It)(cc:List Nat)(d:dcd k ((i.take j).drop p)=some (g,cc)):InM k i (A++[(false,[],(i.take p).drop v),(true,key,(i.take j).drop p)]) j e (n+1):=by
 have s:=Y2 o r;rw[show p-1+1=p by omega] at s;have w:=DU (i:=i) (show R<=p-1 by omega);have x:=RT (i:=i) l;have y:=DU (i:=i) f;have B:=h.wp;have w6:=h.np;have C:=h.pl;refine⟨?_,?_,f,m,?_,?_⟩
 ·intro q a b
  rcases ng.1 a with a | a
  ·exact h.rd q a b
  ·rcases la.1 a with rfl | a
   ·cases b
   ·rcases la.1 a with rfl | a
    ·exact⟨by simp;omega,g,cc,d⟩
    ·cases a
 ·rw[XX,XW];omega
 ·rw[XX,XW];omega
 ·rw[jb];simp;omega
end Go.Av
