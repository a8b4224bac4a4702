/- Functions walked, and plain facts. No conditions. -/
import Derived.Test.YthnlilndompbaaaGreatDoorT1XK
import Derived.Test.YthnlilndompbaaaGreatDoorT1XJ
import Derived.Test.YthnlilndompbaaaGreatDoorT1Sz
import Derived.Test.YthnlilndompbaaaGreatDoorT1XI
import Derived.Test.YthnlilndompbaaaGreatDoorT1XH
import Derived.Test.YthnlilndompbaaaGreatDoorT1XF
open List
set_option linter.all false
set_option maxRecDepth 100000
set_option maxHeartbeats 16000000
namespace Go.Av
open Go.Nt
variable{A:List Pt}{D k:Int}{L:List Int}{n:Nat}
variable [Mx]
inductive MadeO:Int->List Pt->Prop
 | m (h:Bs) (rs:List vP):hdM h->rs.length<=3->(∀ r∈rs,OkM r/\RawOK 1 r.2.2.1)->(∀ r∈rs,∃ g cc,dcd 1 r.2.2.1=some (g,cc))->MadeO 1 (eC h rs 0)
 | r (h:Bs) (rs:List FW):hdR h->rs.length<=3->(∀ r∈rs,OkR r/\RawOK 2 r.2.1)->(∀ r∈rs,∃ g cc,dcd 2 r.2.1=some (g,cc))->MadeO 2 (kI h rs)
 | s {w col:Int} {h p q:Bs} (c:Cl w col h p q) (rs:List Bs):rs.length<=3->(∀ r∈rs,RawOK 3 r)->(∀ r∈rs,∃ g cc,dcd 3 r=some (g,cc))->MadeO 3 (kH p q h rs 1)
def BZ:vP:=([112],[],[114,101,100,32,99,97,114],[])
def GR:∃ g cc,dcd 1 BZ.2.2.1=some (g,cc):=⟨_,_,by rfl⟩
def T2:RawOK 1 BZ.2.2.1:=⟨by decide,by decide,by decide⟩
def M4:OkM BZ:=⟨.inl rfl,.inl rfl,by decide,.inl rfl⟩
def Ni:MadeO 1 (eC [] [BZ] 0):=.m [] [BZ] (.inl rfl) (by decide) (λr a=>by rw[kj] at a;rw[a];exact⟨M4,T2⟩) (λr a=>by rw[kj] at a;rw[a];exact GR)
def Wy:G9 58 [.int .i64 1,.str [60,112,62,114,101,100,32,99,97,114,60,47,112,62]] []=some (.tup [.agg [.int .i64 1,.sl .no 3 (pts (eC [] [BZ] 0))],.int .i64 0,.int .i64 0],[]):=by
 have hd:[60,112,62,114,101,100,32,99,97,114,60,47,112,62]=([]:Bs)++[BZ].flatMap fE:=by decide
 have d:=(Jx [60,112,62,114,101,100,32,99,97,114,60,47,112,62] [] [BZ] (by decide) (.inl rfl) (λr c=>by rw[kj] at c;rw[c];exact M4) (by decide) hd).2 (λr c=>by rw[kj] at c;rw[c];exact GR);generalize pts (eC [] [BZ] 0)=P at d ⊢;have b:G9 103 [.int .i64 1,.str [60,112,62,114,101,100,32,99,97,114,60,47,112,62]] []=some (.tup [.sl .no 3 P,.int .i64 0,.int .i64 0],[]):=by
  refine aA tM ?_;simp only[tM,go_sem,d]
  try rfl
 have a:=Ke (k:=1) (.inl rfl);refine aA F58 ?_;simp only[F58,go_sem,a,b]
 try rfl
def Nh(l:n<=60000)(o:fmK k):∃ (d:Bs) (n':Nat) (ok:Prop) (ps:List Pt),(ok->MadeO k ps)/\Ti k d ok ps/\G9 59 [.ptr 0 0,.int .i64 k,.int .i64 3] [num L n]=some (.str d,[num L n']):=by
 have e:=o;rcases o with rfl | rfl | rfl
 ·obtain⟨h,rs,n',f,g,a,b,i⟩:=Wx (L:=L) (n:=n) l
  exact⟨_,n',_,_,λok=>.m h rs f g a ok,u58 e (yq (.inl ⟨rfl,rfl⟩) b (Jx _ h rs b f (λr j=>(a r j).1) (by omega) rfl).1),i⟩
 ·obtain⟨h,rs,n',f,g,a,b,i⟩:=Ww (L:=L) (n:=n) l
  exact⟨_,n',_,_,λok=>.r h rs f g a ok,u58 e (yq (.inr (.inl ⟨rfl,rfl⟩)) b (Xu h rs b f (λr j=>(a r j).1) (by omega) rfl)),i⟩
 ·obtain⟨w,col,h,p,q,rs,n',c,g,a,b,i⟩:=Wv (L:=L) (n:=n) l
  exact⟨_,n',_,_,λok=>.s c rs g a ok,u58 e (yq (.inr (.inr ⟨rfl,rfl⟩)) b (Xt c rs b (λr j=>(a r j).cl) (by omega) rfl)),i⟩
def u20(s:n<=50000):∃ fm ps n',fmK fm/\MadeO fm ps/\G9 20 [.ptr 0 0,.int .i64 3] [num L n]=some (.agg [.int .i64 fm,.sl .no 3 (pts ps)],[num L n']):=by
 have r:=jL L n 3 (by decide);have g:=up (c41 L n 3 (by omega) (by decide) (by decide)) rfl;have f:IntKind.i64.wrap (1+nxt L n 3)=1+nxt L n 3:=w6 (by omega);obtain⟨fm,c⟩:∃ fm,fm=1+nxt L n 3:=⟨_,rfl⟩
 rw[<- c] at f;have j:fmK fm:=by unfold fmK;omega
 obtain⟨d,n',ok,ps,m,o,i⟩:=Nh (L:=L) (n:=n+1) (by omega) (k:=fm) j;have b:=mS L;rcases o with ⟨a,e,p,h⟩ | ⟨q,h⟩
 ·have l:=Wy
  refine⟨1,_,n',.inl rfl,Ni,?_⟩;generalize pts (eC [] [BZ] 0)=P at l ⊢;refine aA F20 ?_;simp only[F20,go_sem,g,<- c,f,i,h,p,l,b]
  try rfl
 ·refine⟨fm,ps,n',j,m q,?_⟩
  refine aA F20 ?_;simp only[F20,go_sem,g,<- c,f,i,h,b]
  try rfl
def u5(l:List Int):∃ fm ps,fmK fm/\MadeO fm ps/\G9 5 [.sl .no 1 (fG l)] []=some (.agg [.int .i64 fm,.sl .no 3 (pts ps)],[]):=by
 obtain⟨fm,ps,n',a,b,h⟩:=u20 (L:=l) (n:=0) (by omega);refine⟨fm,ps,a,b,?_⟩;unfold num at h;rw[show ((0:Nat):Int)=0 from rfl] at h;refine aA F5 ?_;simp only[F5,go_sem,h]
 try rfl
def KC:∀ (f:List It) (p a b:Nat),p<=a->a<b->a<p+len f->slc f p a b≠[]
 | [],p,a,b,g,c,d=>by simp [len] at d;omega
 | x::f,p,a,b,g,c,d=>by
  have e:len (x::f)=wid x+len f:=rfl;rw[pD];by_cases q:a<p+wid x
  ·rw[iw (by omega)];simp
  ·have:=KC f (p+wid x) a b (by omega) c (by omega)
   intro z;exact this (af3.1 z).2
def yD:∀ (f:List It) (p a b:Nat),tot (slc f p a b)<=tot f
 | [],p,a,b=>ji _
 | x::f,p,a,b=>by
  have c:=yD f (p+wid x) a b;rw[pD,cN,aN]
  have:tot (if max a p<min b (p+wid x) then [if x.1=1 then (x.1,(x.2.1.take (min b (p+wid x)-p)).drop (max a p-p),x.2.2) else x] else [])<=x.2.1.length:=by
   split
   ·split
    ·rw[aN,bZ];simp only[kl,tr];omega
    ·rw[aN,bZ];omega
   ·rw[bZ];omega
  omega
structure UnO (fm:Int) (ps:List Pt) (n:Nat):Prop where
 ln:ps.length<=2*n+1
 un:((ps.filter λp=>p.1).length)<=n
 rd:∀ p∈ps,p.1=true->RawOK fm p.2.2/\∃ g cc,dcd fm p.2.2=some (g,cc)
def CW:∀ (rs:List vP) (sk:Bs) (n:Nat),(∀ r∈rs,RawOK 1 r.2.2.1/\∃ g cc,dcd 1 r.2.2.1=some (g,cc))->UnO 1 (eC sk rs n) rs.length
 | [],sk,n,h=>⟨by simp [eC],by simp [eC],λp a b=>by
   simp only[eC,kj] at a
   subst a;cases b⟩
 | r::rs,sk,n,h=>by
  obtain⟨i1,e,d⟩:=CW rs (60::47::(r.1++62::r.2.2.2)) (n+1) (λr c=>h r (xa _ c));refine⟨by simp [eC];omega,by simp [eC];omega,λp a b=>?_⟩;simp only[eC,la] at a;rcases a with rfl | rfl | a
  ·cases b
  ·exact h r (wa)
  ·exact d p a b
def CL:∀ (rs:List FW) (sk:Bs),(∀ r∈rs,RawOK 2 r.2.1/\∃ g cc,dcd 2 r.2.1=some (g,cc))->UnO 2 (kI sk rs) rs.length
 | [],sk,h=>⟨by simp [kI],by simp [kI],λp a b=>by
   simp only[kI,kj] at a
   subst a;cases b⟩
 | r::rs,sk,h=>by
  obtain⟨i1,e,d⟩:=CL rs (10::r.2.2) (λr c=>h r (xa _ c));refine⟨by simp [kI];omega,by simp [kI];omega,λp a b=>?_⟩;simp only[kI,la] at a;rcases a with rfl | rfl | a
  ·cases b
  ·exact h r (wa)
  ·exact d p a b
def CI(p q:Bs):∀ (rs:List Bs) (sk:Bs) (n:Nat),(∀ r∈rs,RawOK 3 r/\∃ g cc,dcd 3 r=some (g,cc))->UnO 3 (kH p q sk rs n) rs.length
 | [],sk,n,h=>⟨by simp [kH],by simp [kH],λp a b=>by
   simp only[kH,kj] at a
   subst a;cases b⟩
 | r::rs,sk,n,h=>by
  obtain⟨i1,e,d⟩:=CI p q rs (34::q) (n+1) (λr c=>h r (xa _ c));refine⟨by simp [kH];omega,by simp [kH];omega,λp a b=>?_⟩;simp only[kH,la] at a;rcases a with rfl | rfl | a
  ·cases b
  ·exact h r (wa)
  ·exact d p a b
def UnO.mono{fm:Int}{ps:List Pt}{n m:Nat}(h:UnO fm ps n)(a:n<=m):UnO fm ps m:=⟨by have:=h.ln;omega,by have:=h.un;omega,h.rd⟩
def MadeO.un(h:MadeO k A):UnO k A 3:=by
 cases h with
 | m h rs a b c d=>exact (CW rs h 0 (λr e=>⟨(c r e).2,d r e⟩)).mono b
 | r h rs a b c d=>exact (CL rs h (λr e=>⟨(c r e).2,d r e⟩)).mono b
 | s c rs a b d=>exact (CI _ _ rs _ 1 (λr e=>⟨b r e,d r e⟩)).mono a
def nW:∀ (l:List Pt) (i:Nat),(fD l i).length=(l.filter λp=>p.1).length
 | [],i=>rfl
 | p::l,i=>by
  rw[fD,am0];by_cases h:p.1=true
  ·rw[iw h,iw h,jd,jd,nW l]
  ·rw[ie h,ie h,nW l]
def PX:∀ (l:List Pt) (i:Nat),∀ k∈fD l i,∃ p,l[k-i]?=some p/\i<=k/\p.1=true:=by
 intro l
 induction l with
 | nil=>intro i k a;cases a
 | cons p l c =>
  intro i k a;rw[fD] at a;have step:∀ k,k∈fD l (i+1)->∃ q,(p::l)[k-i]?=some q/\i<=k/\q.1=true:=by
   intro k a;obtain⟨q,d,f,e⟩:=c (i+1) k a;refine⟨q,?_,by omega,e⟩;rw[show k-i=(k-(i+1))+1 by omega,ac5];exact d
  split at a
  ·rename_i b
   rcases la.1 a with rfl | a
   ·exact⟨p,by simp,ji _,b⟩
   ·exact step k a
  ·exact step k a
def UnO.at_(h:UnO D A n):∀ k∈fD A 0,∃ key raw g cc,A[k]?=some (true,key,raw)/\RawOK D raw/\dcd D raw=some (g,cc):=by
 intro k f;obtain⟨p,a,_,b⟩:=PX A 0 k f;rw[Nat.sub_zero] at a;obtain⟨d,g,c,e⟩:=h.rd p (ab4 a) b;obtain⟨u,key,raw⟩:=p;simp only at b d e;subst b;exact⟨key,raw,g,c,a,d,e⟩
def UnO.ok(h:UnO D A n):∀ k∈fD A 0,LZ D A k:=by
 intro k d;obtain⟨key,raw,g,cc,a,b,c⟩:=h.at_ k d;exact⟨key,raw,g,cc,a,by have:=b.ln;omega,c⟩
def KS(fm:Int)(ps:List Pt):List Pc:=(fD ps 0).flatMap (l6 fm ps)
def OU{α β:Type}(f:α->List β)(n:Nat):∀ l:List α,(∀ x∈l,(f x).length<=n)->(l.flatMap f).length<=n*l.length
 | [],_=>by simp
 | x::l,h=>by
  rw[sb,jb,jd];have b:=h x (wa);have c:=OU f n l (λy a=>h y (xa _ a));rw[Nat.mul_add];omega
def UnO.pcs_len(h:UnO D A n):(KS D A).length<=16*n:=by
 have l:=OU (l6 D A) 16 (fD A 0) (λk d=>by
  obtain⟨key,raw,g,cc,b,c,a⟩:=h.at_ k d
  have:l6 D A k=(tZ g).map (mkP k g):=by unfold l6;rw[b];simp only[a]
  rw[this,zt];have f:=QF (e:=g);have i:=W4 a;have j:=c.st
  omega)
 have m:=nW A 0;have o:=h.un;unfold KS
 have:16*(fD A 0).length<=16*n:=Nat.mul_le_mul_left 16 (by omega)
 omega
def UnO.pc(h:UnO D A n):∀ p∈KS D A,∃ key raw g cc,A[p.1]?=some (true,key,raw)/\RawOK D raw/\dcd D raw=some (g,cc)/\p.2.1<p.2.2.1/\p.2.2.1<=len g/\p.2.2.2=slc g 0 p.2.1 p.2.2.1/\vld p.2.2.2=0/\p.2.2.2≠[]/\tot p.2.2.2<=1750:=by
 intro p b;unfold KS at b;obtain⟨k,i,b⟩:=mem_flatMap.1 b;obtain⟨key,raw,g,cc,d,e,c⟩:=h.at_ k i;have f:l6 D A k=(tZ g).map (mkP k g):=by unfold l6;rw[d];simp only[c]
 rw[f] at b;obtain⟨r,m,rfl⟩:=yd.1 b;obtain⟨s,v,u,w⟩:=AZ c;have a:=KK (BH s) (nQ g) 0 r m;have q:=W3 c;have j:=e.ln;have o:=yD g 0 r.1 r.2;have l:len g<=1024:=u;exact⟨key,raw,g,cc,d,e,c,a.1,a.2,rfl,MS q (al0 a.1),KC g 0 r.1 r.2 (lv _) a.1 (by have:=a.1;have:=a.2;omega),by show tot (slc g 0 r.1 r.2)<=1750;omega⟩
end Go.Av
namespace Go.Nt
variable{V e:List It}
def OQ:∀ (l acc:List Int),(∀ x∈l,x∈acc)->l.foldl lR acc=acc
 | [],acc,_=>rfl
 | x::l,acc,h=>by
  rw[ac6]
  have:lR acc x=acc:=by unfold lR;rw[iw (h x (wa))]
  rw[this];exact OQ l acc (λy a=>h y (xa _ a))
def UP:cF (e++e)=cF e:=by
 have:=IV (e:=e) (V:=e)
 unfold cnl at this;rw[<- this];exact OQ _ _ (λx h=>h)
def TJ{fh:List It}(e:cF V=cF fh):∀ x,phi V x=phi fh x:=by
 intro x;unfold phi sig;rw[e]
def can(f:List It):List It:=i6 f []
def O5(h:vld V=0):i6 V V=can V/\l4 V V=can V:=by
 have a:=jU h h;have f:vld ([]:List It)=0:=by decide
 have g:=jU h f;have b:=(iG a h).1;have c:=(nR a h).1;have d:=(iG g h).1;have e:∀ x,phi (V++V) x=phi (V++[]) x:=TJ (by rw[UP,ka]);have em:V.map (phi (V++V))=V.map (phi (V++[])):=ad5 λx _=>e x
 unfold can;rw[b,c,d,em];exact⟨rfl,rfl⟩
end Go.Nt
namespace Go.Av
open Go.Nt
variable{A:List Pt}{N:Tk}{U:Bool}{V e:List It}{b:List Tk}{bc i u:Bs}{c:LL}{ck:List (Nat×Nat)}{co:List Bs}{dz:List (Nat×AV)}{f:List AV}{ge:List (List It)}{ik:List (Nat×Option (List AV))}{j n:Nat}{k:Int}{r:List Nat}
variable [Mx]
def u13(f:vld b=0):G10 13 [.sl .no 3 (tks b)] []=some (.sl .no 3 (tks (can b)),[]):=by
 obtain⟨l1,l2,B⟩:=(cG b).1 f;have o:vld ([]:List It)=0:=by decide
 have d:=jU f o;have A:(cF b).length<=999:=by rw[ka] at d;exact d
 obtain⟨k,h⟩:=iG d f;obtain⟨v,E,a,ao,g⟩:=Co [] b (by omega);rw[kg] at a g;have d1:=c73 (cF b).length (by omega);have c:rC (cF b) (eK (cF b).length) b=can b:=by
  have:QH b [] b=rC (cF b) (eK (cF b).length) b:=by unfold QH cnl;rw[ka]
  rw[<- this];unfold can;rw[k,zQ]
 have D:=qH h;obtain⟨w,y,F⟩:=(cG _).1 h;have p:(can b).length<=512:=y;have e:VL (can b):=w;have q:tot (can b)<=1000000:=by have:tot (can b)=tot (i6 b []):=rfl;omega
 obtain⟨C,d2⟩:=Cn E b (by omega) v (cF b) (eK (cF b).length) a (by rw[hJ]) (by omega) (by rw[c];exact e) (by rw[c];omega) (by rw[c];exact λx r=>by have:=gG x r;omega);rw[c] at d2;have j:=a.dem;have u:=a.scrub;have i:=a.arg;have s:=KU a;have l:=iJ (up g rfl) rfl;have m:=iJ (up d1 rfl) rfl;have n:=iJ (up d2 rfl) rfl;refine aA F13 ?_;simp only[F13,go_sem,l,j,u,i,s,m,n]
 try rfl
def yY(h:n<j):bt (i.take j) n=bt i n:=by
 unfold bt;rw[ki,ki,Vz,iw h]
def EW(c:Int->Bool)(a b:Int)(s:Bs):∀ (k n k':Nat),n<=s.length->jn c a b s k n<=n+k'->jn c a b (s.take (jn c a b s k n)) k' n=jn c a b s k n
 | 0,n,k',l,h=>by
  simp only[jn] at h ⊢
  cases k' with
  | zero=>rfl
  | succ k' =>
   simp only[jn];rw[ie (by rw[tr];omega)]
 | k+1,n,k',l,h=>by
  by_cases f:n<s.length
  case neg =>
   have e:jn c a b s (k+1) n=n:=by simp only[jn];rw[ie f]
   rw[e]
   cases k' with
   | zero=>rfl
   | succ k' =>
    simp only[jn];rw[ie (by rw[tr];omega)]
  by_cases d:c (bt s n)=true
  ·have e:jn c a b s (k+1) n=jn c a b s k (n+1):=by simp only[jn];rw[iw f,iw d]
   rw[e] at h ⊢;have j:=C1 c a b s k (n+1) (by omega)
   cases k' with
   | zero=>omega
   | succ k' =>
    have i:=EW c a b s k (n+1) k' (by omega) (by omega)
    conv=>lhs;rw[jn]
    rw[iw (by rw[tr];omega),yY (by omega),iw d];exact i
  by_cases g:(bt s n=a\/bt s n=b)/\n+1<s.length/\c (bt s (n+1))=true
  ·have e:jn c a b s (k+1) n=jn c a b s k (n+2):=by simp only[jn];rw[iw f,ie d,iw g]
   rw[e] at h ⊢;have j:=C1 c a b s k (n+2) (by omega)
   cases k' with
   | zero=>omega
   | succ k' =>
    have i:=EW c a b s k (n+2) k' (by omega) (by omega)
    conv=>lhs;rw[jn]
    rw[iw (by rw[tr];omega),yY (by omega),ie d,yY (by omega),iw ⟨g.1,by rw[tr];omega,g.2.2⟩];exact i
  ·have e:jn c a b s (k+1) n=n:=by simp only[jn];rw[iw f,ie d,ie g]
   rw[e]
   cases k' with
   | zero=>rfl
   | succ k' =>
    simp only[jn];rw[ie (by rw[tr];omega)]
def Mz(h:gJ (bt i 0)=4):nxN i=jn wdI 39 45 i i.length 1:=by unfold nxN;rw[iw h]
def W7(h:1<=i.length)(a:nxK i=6):pV (i.take (nxN i))=[(6,i.take (nxN i),0)]:=by
 have l:=NP i h;have c:gJ (bt i 0)=4:=by
  unfold nxK at a;by_cases q:gJ (bt i 0)=4
  ·exact q
  ·rw[ie q] at a
   split at a
   ·omega
   ·split at a<;>omega
 have j:nxN i=jn wdI 39 45 i i.length 1:=by unfold nxN;rw[iw c]
 have d:bt (i.take (nxN i)) 0=bt i 0:=yY (by omega);have b:(i.take (nxN i)).length=nxN i:=by rw[tr];omega
 have f:nxK (i.take (nxN i))=6:=by unfold nxK;rw[d,iw c]
 have g:nxN (i.take (nxN i))=nxN i:=by
  have e:nxN (i.take (nxN i))=jn wdI 39 45 (i.take (nxN i)) (i.take (nxN i)).length 1:=Mz (by rw[d];exact c);rw[e,b,j];exact EW wdI 39 45 i i.length 1 _ h (by omega)
 unfold pV;rw[b];obtain⟨m,k⟩:∃ m,nxN i=m+1:=⟨nxN i-1,by omega⟩
 generalize n:i.take (nxN i)=w at f g b ⊢;rw[k];simp only[o5];rw[iw (by omega),f,g,<- b,Ut,lb]
 cases m with
 | zero=>rfl
 | succ m=>simp only[o5];rw[ie (by simp)]
def C6:∀ (k:Nat) (s:Bs),∀ t∈o5 k s,t.1=6->pV t.2.1=[(6,t.2.1,0)]
 | 0,s,t,a,_=>by cases a
 | k+1,s,t,a,b=>by
  simp only[o5] at a
  split at a
  ·rename_i h
   rcases la.1 a with rfl | a
   ·exact W7 h b
   ·exact C6 k _ t a b
  ·cases a
def zB{t:Tk}:∀ {f:List Tk},t∈eN f↔∃ x∈f,t∈tkT x
 | []=>by simp [eN]
 | x::f=>by
  rw[eN,ng,zB (f:=f)];simp
def MF(h:N∈eN b)(c:N.1=6):∃ x∈b,x.1=1/\N∈pV x.2.1:=by
 obtain⟨x,d,a⟩:=zB.1 h;refine⟨x,d,?_⟩;unfold tkT at a
 split at a
 ·rename_i q;exact⟨q,a⟩
 ·split at a
  ·rename_i q
   rw[kj] at a;rw[a] at c;omega
  ·cases a
def zA(h:N∈eN b)(a:N.1=6):nD N.2.1=[kyF 6 N.2.1]:=by
 obtain⟨x,_,_,c⟩:=MF h a;unfold nD;rw[C6 _ _ N c a];rfl
def RX(c:vld b=0)(h:N∈eN b)(d:N.1=6):N∈eN (can b):=by
 obtain⟨x,g,a,f⟩:=MF h d;have e:=(iG (jU c (by decide:vld ([]:List It)=0)) c).1;refine zB.2 ⟨x,?_,?_⟩
 ·unfold can
  rw[e];refine yd.2 ⟨x,g,?_⟩;unfold phi;rw[ie (by rw[l7 a];decide)]
 ·unfold tkT
  rw[iw a];exact f
def NO(k:Bs):∀ (T:List Tk) (p:Nat),(∃ t∈T,cnt t.1=true/\kyF t.1 t.2.1=k)->z8 [k] p T≠[]
 | [],p,h=>by obtain⟨t,a,_⟩:=h;cases a
 | x::T,p,h=>by
  obtain⟨t,a,b,c⟩:=h;simp only[z8];rcases la.1 a with rfl | a
  ·rw[iw ⟨b,by rw[uE b,c];rfl⟩]
   simp
  ·split
   ·simp
   ·exact NO k T (p+1) ⟨t,a,b,c⟩
def nc(h:∃ t∈b,cnt t.1=true/\kyF t.1 t.2.1=i):AA [i] b≠[]:=by
 rw[UO [i] (by simp) b];exact NO i b 0 h
def MN(w:List Bs)(fl:Bool):∀ (m:List En) (i j:Nat) (e:En),m[j]?=some e->hsE w ((i+j:Nat):Int) e fl≠[]->∃ x∈srF w fl i m,x.1=((i+j:Nat):Int)
 | [],i,j,e,h,_=>by cases h
 | y::m,i,0,e,h,a=>by
  rw[getElem?_cons_zero] at h
  injection h with h
  subst h;simp only[srF];obtain⟨x,b⟩:=exists_mem_of_ne_nil _ a;refine⟨x,al1 _ b,?_⟩;unfold hsE hsR at b;obtain⟨q,_,rfl⟩:=yd.1 b;rfl
 | y::m,i,j+1,e,h,a=>by
  rw[ac5] at h;have d:i+(j+1)=i+1+j:=by omega
  rw[d] at a ⊢;obtain⟨x,b,c⟩:=MN w fl m (i+1) j e h a;exact⟨x,by simp only[srF];exact mem_append_right _ b,c⟩
def eP(s:List It):En:=⟨can s,can s,[],[],[],[],0,1⟩
def eQ(s:List It):En:=⟨can s,[],[],[],[],[],0,1⟩
def IR(b:vld e=0)(a:e≠[]):VE (eP e):=by
 have:=Zt (i:=[]) (u:=[]) (bc:=[]) (cy:=[]) (k:=0) (D:=1) b b a (by decide) (by decide) rfl rfl (by decide) (by decide) (by decide) (by decide)
 obtain⟨c,d⟩:=O5 b;rw[c,d] at this;exact this
def Qw(b:vld e=0)(a:e≠[]):VE (eQ e):=(IR b a).noT
def Dr(b:vld e=0)(a:e≠[]):bU (eQ e)=bU (eP e):=(OC (Qw b a) (IR b a)).2 ⟨rfl,rfl,rfl⟩
def gI(l:List (List It)):List En:=l.foldl (λm s=>pJ m (eP s)) []
def nF:gI (ge++[e])=pJ (gI ge) (eP e):=by simp [gI]
structure MP (l:List (List It)):Prop where
 mem:Mem (gI l)
 ln:(gI l).length<=l.length
 all:∀ e∈gI l,∃ s∈l,e=eP s
 get:∀ s∈l,j8 (gI l) (bU (eP s))=some (eP s)
def MP.nil:MP []:=⟨EN,ji _,λe h=>(by cases h),λs h=>(by cases h)⟩
def MP.snoc(h:MP ge)(j:∀ V∈ge,vld V=0/\V≠[])(f:vld V=0)(b:V≠[]):MP (ge++[V]):=by
 have g:=IR f b;refine⟨?_,?_,?_,?_⟩
 ·rw[nF];exact HK h.mem g
 ·rw[nF,mb h.mem.2,jb,jy]
  have:=h.ln
  split<;>omega
 ·intro e d
  rw[nF] at d;rcases yP.1 d with rfl | ⟨d,_⟩
  ·exact⟨V,by simp,rfl⟩
  ·obtain⟨z,a,i⟩:=h.all e d
   exact⟨z,al1 _ a,i⟩
 ·intro z a
  rw[nF,pf h.mem.2];by_cases q:bU (eP z)=bU (eP V)
  ·rw[iw q]
   have c:vld z=0/\z≠[]:=by
    rcases ng.1 a with a | a
    ·exact j z a
    ·rw[kj] at a;rw[a];exact⟨f,b⟩
   have:=((OC (IR c.1 c.2) g).1 q).1
   simp only[eP] at this ⊢;rw[this]
  ·rw[ie q]
   rcases ng.1 a with a | a
   ·exact h.get z a
   ·rw[kj] at a
    rw[a] at q;exact absurd rfl q
def N8(h:MP ge)(l:ge.length<=1024)(k:e∈ge)(i:vld e=0)(c:e≠[])(g:N∈eN e)(a:N.1=6)(fl:Bool):
  okM (gI ge)=true/\∃ j:Nat,WJ (gI ge) (bU (eQ e))=(j:Int)/\∃ x∈srF (nD N.2.1) fl 0 (gI ge),x.1=(j:Int):=by
 have ok:okM (gI ge)=true:=(uJ).2 ⟨by have:=h.ln;omega,h.mem⟩;have hg:=h.get e k;refine⟨ok,plc (gI ge) (bU (eP e)),?_,?_⟩
 ·rw[Dr i c]
  unfold WJ;rw[iw ok,hg]
 ·have d:=lE h.mem.2 hg
  have b:(gI ge)[plc (gI ge) (bU (eP e))]?=some (eP e):=by
   unfold plc
   conv=>lhs;arg 1;rw[d]
   simp
  have f:AA [kyF 6 N.2.1] (eN (sdE (eP e) fl))≠[]:=by
   refine nc ⟨N,?_,by rw[a];rfl,by rw[a]⟩
   have:sdE (eP e) fl=can e:=by cases fl<;>rfl
   rw[this];exact RX i g a
  rw[zA g a]
  have:=MN [kyF 6 N.2.1] fl (gI ge) 0 _ (eP e) b (by
   unfold hsE hsR;intro z
   exact f (map_eq_nil_iff.1 z))
  simpa using this
def P1:tot (b.drop n)<=tot b:=by
 have h:tot b=tot (b.take n)+tot (b.drop n):=by rw[<- cN,ye]
 omega
def At(a:cX b≠1):pn (fin b i) (1,u,k)=fin b (i++u):=by
 unfold pn;rw[iw rfl];by_cases h:u=[]
 ·rw[iw h,h,ka]
 ·rw[ie h]
  exact uY a h
def HF(h:b[n]?=some N):nrm (b.take (n+1))=pn (nrm (b.take n)) N:=by
 unfold nrm;rw[ab7,h];simp
def wu(f:List Tk)(B:f.length<=100000)(C:tot f<=900000)(b:Bool)(o out:List Tk)(w:cX out≠1):∀ (k i:Nat) (acc:Bs) (c:Bool),i+k=f.length->acc.length+tot (f.drop i)<=900000->nrm (f.take i)=fin out acc ->
  ∃ (j:Nat) (a:Bs) (c' d:Bool),i<=j/\j<=f.length/\(∀ x,f[j]?=some x->x.1≠1)/\a.length<=900000/\nrm (f.take j)=fin out a /\
  aC G0 qB (ST [(0,.sl .no 3 (tks f)),(3,.sl (mdR b) 3 (tks o)),(4,.int .i64 i),(5,.sl (mdR c) 1 (aE acc)),(9,.bool true),(15,.bool false)] [] [])=some (.ex 2,ST [(0,.sl .no 3 (tks f)),(3,.sl (mdR b) 3 (tks o)),(4,.int .i64 j),(5,.sl (mdR c') 1 (aE a)),(9,.bool true),(15,.bool false),(36,.bool false)] [] [])
 | 0,i,acc,c,h,g,l=>by
  have:i=f.length:=by omega
  subst this;refine⟨f.length,acc,c,false,ji _,ji _,λx m=>by simp at m,by omega,l,?_⟩;rw[aB qB rfl];simp only[go_sem,aD,jm]
 | k+1,i,acc,c,h,g,l=>by
  have hi:i<f.length:=by omega
  have v:(i:Int)<f.length:=by omega
  have u:0<=(i:Int):=by omega
  have D:=wI (n:=i) (by omega)
  have hg:f[i]?=some f[i]:=ii hi;have hd:f.drop i=f[i]::f.drop (i+1):=je hi;have e:=HF hg;rw[hd] at g;generalize f[i]=T at hg g e;rw[aN] at g;have r:=cQ hg;obtain⟨kk,s,id⟩:=T;simp only[] at r g;by_cases q:kk=1
  ·subst q
   rw[l,At w] at e;obtain⟨j,a,c',d,I,E,F,G,H,y⟩:=wu f B C b o out w k (i+1) (acc++s) true (by omega) (by rw[jb];omega) e;refine⟨j,a,c',d,by omega,E,F,G,H,?_⟩;have p:iN true 1 1 (.sl (mdR c) 1 (aE acc)) (.str s)=some (.sl .own 1 (aE (acc++s))):=XP c acc s (by omega);have A:mdR true=.own:=rfl;rw[A] at y;rw[aB qB rfl];simp only[go_sem,aD,v,u,r,D,p];exact y
  ·refine⟨i,acc,c,false,ji _,by omega,λx m=>by rw[hg] at m;cases m;exact q,by omega,l,?_⟩
   rw[aB qB rfl];simp only[go_sem,aD,v,u,r,q]
def Cb(f:List Tk)(y:f.length<=100000)(D:tot f<=900000):∀ (n i:Nat) (b:Bool),f.length-i<=n->i<=f.length->(∀ x,f[i]?=some x->x.1=1->cX (nrm (f.take i))≠1)->(nrm (f.take i)).length<=i ->
  ∃ k,aC G0 rU (ST [(0,.sl .no 3 (tks f)),(3,.sl (mdR b) 3 (tks (nrm (f.take i)))),(4,.int .i64 i)] [] [])=some (.ex 0,ST [(0,.sl .no 3 (tks f)),(3,.sl (mdR k) 3 (tks (nrm f))),(4,.int .i64 f.length),(9,.bool false)] [] [])
 | n,i,b,o,N,M,H=>by
  by_cases hi:i<f.length
  ·match n,o with
   | 0,o=>exact absurd o (by omega)
   | n+1,o =>
    have v:(i:Int)<f.length:=by omega
    have u:0<=(i:Int):=by omega
    have P:=wI (n:=i) (by omega)
    have hg:f[i]?=some f[i]:=ii hi;have c:=HF hg;have g:=M _ hg;generalize f[i]=T at hg c g;have p:=cQ hg;obtain⟨kk,s,id⟩:=T;simp only[] at p g;have F:mdR true=.own:=rfl;by_cases m:kk=1
    ·subst m
     have B:=g rfl;obtain⟨j,a,c',d,S,Q,J,U,E,r⟩:=wu f y D b (nrm (f.take i)) (nrm (f.take i)) B (f.length-i) i [] false (by omega) (by have:=P1 (b:=f) (n:=i);simp only[jz];omega) (by rw[iI]);have R:i<j:=by
      rcases aa7 i j with h | h
      ·exact h
      ·have:j=i:=by omega
       subst this;exact absurd rfl (J _ hg)
     have A:(nrm (f.take j)).length<=j:=by
      rw[E];unfold fin;split
      ·omega
      ·rw[jb,jy];omega
     obtain⟨k,e⟩:=Cb f y D n j (if a=[] then b else true) (by omega) Q (λx I G=>absurd G (J x I)) A;refine⟨k,?_⟩;have K:mdR false=.full:=rfl;rw[K,bz] at r;by_cases q:a=[]
     ·subst q
      rw[iw rfl,E,iI] at e;rw[bz] at r;rw[aB rU rfl];simp only[go_sem,aD,v,u,p,r,jm,jz];exact e
     ·rw[ie q,E] at e
      have L:fin (nrm (f.take i)) a=nrm (f.take i)++[(1,a,0)]:=by unfold fin;rw[ie q]
      rw[L,F] at e;have l:=wY b (nrm (f.take i)) (1,a,0) (by omega);simp only[] at l;have O:=GX q;have w:=fU a;rw[aB rU rfl];simp only[go_sem,aD,v,u,p,r,aK,O,w,l,iF];exact e
    ·have C:pn (nrm (f.take i)) (kk,s,id)=nrm (f.take i)++[(kk,s,id)]:=by unfold pn;rw[ie m]
     rw[C] at c;have l:=wY b (nrm (f.take i)) (kk,s,id) (by omega);simp only[] at l;obtain⟨k,e⟩:=Cb f y D n (i+1) true (by omega) (by omega) (λx I G=>by rw[c,dB];exact m) (by rw[c,jb,jy];omega);refine⟨k,?_⟩;rw[c,F] at e;rw[aB rU rfl];simp only[go_sem,aD,v,u,p,P,m,l,iF];exact e
  ·have:i=f.length:=by omega
   subst this;refine⟨b,?_⟩;rw[Ut];rw[aB rU rfl];simp only[go_sem,aD,jm]
def u63(e:b.length<=100000)(f:tot b<=900000):G0 63 [.sl .no 3 (tks b)] []=some (.sl .no 3 (tks (nrm b)),[]):=by
 obtain⟨g,x⟩:=Cb b e f b.length 0 false (by omega) (by omega) (λx i h=>by simp [nrm,cX]) (by simp [nrm]);have d:((0:Nat):Int)=0:=rfl;have a:mdR false=.full:=rfl;have c:nrm []=[]:=rfl;rw[Tv,c,cW,d,a] at x;refine aA F63 ?_;simp only[F63,go_sem,x,iF,qT]
def u99(m:Own)(i:m≠.own)(f g:List Tk)(h:f.length+g.length<=100000)(j:tot f+tot g<=900000):G10 99 [.sl .no 3 (tks f),.sl .no 3 (tks g)] []=some (.sl .no 3 (tks (nrm (f++g))),[]):=by
 have c:=iJ (up (u63 (b:=f++g) (by rw[jb];omega) (by rw[cN];omega)) rfl) rfl;have a:G10 139 [.sl .no 1 [[.sl .no 3 (tks f)],[.sl .no 3 (tks g)]]] []=some (.sl .no 3 (tks (f++g)),[]):=by
  refine f9 ?_;have e:FM [[.sl .no 3 (tks f)],[.sl .no 3 (tks g)]]=some (tks (f++g)):=by
   simp only[FM,jq,ka,iV,reduceCtorEq,kz]
  show qr [.sl .no 1 [[.sl .no 3 (tks f)],[.sl .no 3 (tks g)]]] []=_;unfold qr;simp only[e];rw[iw];refine⟨by simp,by simp,?_,?_⟩
  ·rw[aD,jb];omega
  ·intro e d
   unfold tks at d;obtain⟨t,_,rfl⟩:=yd.1 d;rfl
 refine aA Fd ?_;simp only[Fd,go_sem,a,c]
def Ka(s t:Bs)(a:s.length<=4000000000):G10 120 [.str s,.str t] []=some (.int .i64 (fnd t s 0),[]):=by
 refine f9 ?_;show Cw [.str s,.str t] []=_;exact iw a
def Yd:G10 118 [.str i] []=some (.ptr 0 0,[[.str i,.int .i64 0,.sl .full 3 []]]):=by
 refine iJ ?_ rfl;refine aA Gg ?_;simp only[Gg,go_sem]
 try rfl
def Nu(h bv:AV):EV (sh:=[[h,bv,.sl (md U) 3 c]]) 0 2 [h,bv,.sl (md U) 3 c] (.sl (md U) 3 c)=some (.sl (md U) 3 c,[[h,bv,.sl (mdn U) 3 c]]):=by
 cases U<;>rfl
def Yc(d:Bs)(fr q:Nat)(b:fr<=n)(c:n<=q)(e:q<=d.length)(f:A.length<=1000000):
  G10 121 [.ptr 0 0,.int .i64 n,.int .i64 q,.str i] [[.str d,.int .i64 fr,.sl (md U) 3 (pts A)]]=some (.tup [],[[.str d,.int .i64 q,.sl .own 3 (pts (A++[(false,[],(d.take n).drop fr),(true,i,(d.take q).drop n)]))]]):=by
 have g:=ss3 d fr n b (by omega);have h:=ss3 d n q c e;have a:=λo=>Sx U (A:=A) false true [] ((d.take n).drop fr) i ((d.take q).drop n) o f
 refine iJ ?_ rfl;refine aA Gf ?_;simp only[Gf,go_sem,Nu,g,h,a,cC,dQ]
 try rfl
def Yb(c:n<=i.length)(d:A.length<=1000000):
  ∃ b,G10 122 [.ptr 0 0] [[.str i,.int .i64 n,.sl (md U) 3 (pts A)]]=some (.sl .no 3 (pts (A++[(false,[],i.drop n)])),[[.str i,.int .i64 n,.sl (mdn b) 3 (pts A)]]):=by
 have e:=ss1 i n c;have a:=λo=>Sy U (A:=A) false [] (i.drop n) o d
 refine⟨U,?_⟩;refine iJ ?_ rfl;refine aA Ge ?_;simp only[Ge,go_sem,Nu,e,a,cC,dQ]
 try rfl
def ut(c:UInt8)(t:Bs)(h:c≠60):G10 119 [.str (c::t)] []=some (.tup [.int .i64 1,.str [],.bool true],[]):=by
 have a:((c.toNat:Int)=60)=False:=by rw[i60];exact Tx h
 refine aA vX ?_;simp only[vX,go_sem,a]
 try rfl
def Kd(l:i.length<=60000)(h:[33,45,45] <+: i)(e:fnd [45,45,62] (i.drop 3) 0=(j:Int))(k:j<=60000):G10 119 [.str (60::i)] []=some (.tup [.int .i64 (j+7:Nat),.str [],.bool true],[]):=by
 have b:=iJ (BV (60::i) [60,33,45,45]) rfl;have f:[60,33,45,45] <+: 60::i:=cons_prefix_cons.2 ⟨rfl,h⟩;rw[jv f] at b;have c:=ss1 (60::i) 4 (by have:=h.length_le;simp at this ⊢;omega);rw[ab8,show ((4:Nat):Int)=4 from rfl] at c;have a:=Ka (i.drop 3) [45,45,62] (by rw[kl];omega);rw[e] at a;have g:IntKind.i64.wrap ((j:Int)+7)=(j+7:Nat):=by rw[w6 (by omega)];rfl
 have d:0<=(j:Int):=by omega
 refine aA vX ?_;simp only[vX,go_sem,b,c,a,g,d]
 try rfl
def Kc(i bc:Bs)(o:(i++62::bc).length<=60000)(f:(62:UInt8) ∉ i)(m:rtK i=(k,u))(n:rtV k u=true)(j:eD (aH u)=false)(e:i.head?≠some 33)(g:i≠[])(h:u.length<=60000):G10 119 [.str (60::(i++62::bc))] []=some (.tup [.int .i64 (i.length+2:Nat),.str [],.bool true],[]):=by
 have b:=iJ (BV (60::(i++62::bc)) [60,33,45,45]) rfl;have l:¬ [60,33,45,45] <+: 60::(i++62::bc):=by
  intro q;obtain⟨w,h⟩:=q
  cases i with
  | nil=>exact g rfl
  | cons p i =>
   simp only[ko,aa1] at h;exact e (by rw[am1,<- h.2.1])
 rw[jr l] at b;have a:=iJ (R6 60 (i++62::bc) i bc (by decide) (by omega) (vB bc f)) rfl;rw[m] at a;simp only[n] at a;have d:=iJ (R7 u (by omega)) rfl;have c:=iJ (yp (aH u)) rfl;rw[j] at c;generalize i++62::bc=s at b a ⊢;refine aA vX ?_;simp only[vX,go_sem,b,a,d,c]
 try rfl
def Kb(i:Bs)(n:(i++62::bc).length<=60000)(f:(62:UInt8) ∉ i)(l:rtK i=(2,u))(m:rtV 2 u=true)(j:eD (aH u)=true)(e:i.head?≠some 33)(g:i≠[])(h:u.length<=60000):G10 119 [.str (60::(i++62::bc))] []=some (.tup [.int .i64 (i.length+2:Nat),.str (aH u),.bool true],[]):=by
 have b:=iJ (BV (60::(i++62::bc)) [60,33,45,45]) rfl;have k:¬ [60,33,45,45] <+: 60::(i++62::bc):=by
  intro q;obtain⟨w,h⟩:=q
  cases i with
  | nil=>exact g rfl
  | cons o i =>
   simp only[ko,aa1] at h;exact e (by rw[am1,<- h.2.1])
 rw[jr k] at b;have a:=iJ (R6 60 (i++62::bc) i bc (by decide) (by omega) (vB bc f)) rfl;rw[l] at a;simp only[m] at a;have d:=iJ (R7 u (by omega)) rfl;have c:=iJ (yp (aH u)) rfl;rw[j] at c;generalize i++62::bc=s at b a ⊢;refine aA vX ?_;simp only[vX,go_sem,b,a,d,c]
 try rfl
def SP(d:Bs)(b:Bool)(ps:List Pt)(fr a n:Nat):AS:=ST [(0,.str d),(3,.int .i64 a),(5,.ptr 0 0),(6,.int .i64 n),(17,.bool false)] [] [[.str d,.int .i64 fr,.sl (md b) 3 (pts ps)]]
def endP(fr a n:Nat)(c:¬ a<i.length):aC G10 gO (SP i U A fr a n)=some (.ex 0,ST [(0,.str i),(3,.int .i64 a),(5,.ptr 0 0),(6,.int .i64 n),(17,.bool false),(23,.bool false)] [] [[.str i,.int .i64 fr,.sl (md U) 3 (pts A)]]):=by
 have b:¬ (a:Int)<i.length:=by omega
 unfold SP;rw[aB gO rfl];simp only[go_sem,b]
 try rfl
def DZ(d:Bs)(b:Bool)(ps:List Pt)(fr n:Nat)(a s:Bs)(m:Nat)(hd:d.length<=50000)(e:d=a++s)(i:s≠[])(o:m<=60000)(h:G10 119 [.str s] []=some (.tup [.int .i64 m,.str [],.bool true],[])):
  aC G10 gO (SP d b ps fr a.length n)=aC G10 gO (SP d b ps fr (a.length+m) n):=by
 have l:d.length=a.length+s.length:=by rw[e,jb]
 have j:1<=s.length:=by cases s with | nil=>exact absurd rfl i | cons c t=>simp
 have g:(a.length:Int)<d.length:=by omega
 have f:=ss1 d a.length (by omega);rw[mJ e] at f;have k:IntKind.i64.wrap ((a.length:Int)+(m:Int))=(a.length+m:Nat):=by rw[w6 (by omega)];rfl
 unfold SP
 conv=>lhs;rw[aB gO rfl]
 simp only[go_sem,g,f,h,k]
 try rfl
def Eo(j n:Nat)(a bc raw nm cy:Bs)(hd:u.length<=50000)(c:u=a++(60::(bc++62::(raw++(60::47::(nm++62::cy))))))(y:(62:UInt8) ∉ bc)(R:rtK bc=(2,bc))(S:isC bc=true)(w:aH bc=nm)(l:eD nm=true)(x:bc.head?≠some 33)(N:clM raw=true)(P:j<=a.length)(Q:n<999)(F:A.length<=1000000)(C:dcd 1 raw=some (V,r)):
  aC G10 gO (SP u U A j a.length n)=aC G10 gO (SP u true (A++[(false,[],(a++60::(bc++[62])).drop j),(true,Nt.dec (n+1),raw)]) (a.length+bc.length+2+raw.length) (a.length+bc.length+2+raw.length+nm.length+3) (n+1)):=by
 have Z:u.length=a.length+bc.length+raw.length+nm.length+cy.length+5:=by
  have:=pz List.length c
  simp at this;omega
 have o:nm.length<=5/\nm≠[]:=by
  unfold eD at l;simp only[yb,Lh] at l;rcases l with (((h | h) | h) | h) | h<;>(rw[h];decide)
 have H:bc≠[]:=by
  intro q;rw[q] at w;exact o.2 (by rw[<- w];rfl)
 have D:(a.length:Int)<u.length:=by omega
 have v:=ss1 u a.length (by omega);rw[mJ c] at v;have d:=Kb bc (bc:=raw++(60::47::(nm++62::cy))) (u:=bc) (by simp;omega) y R (by unfold rtV;rw[ie (by decide)];exact S) (by rw[w];exact l) x H (by omega);rw[w] at d;have T:IntKind.i64.wrap ((a.length:Int)+((bc.length+2:Nat):Int))=((a.length+(bc.length+2):Nat):Int):=by rw[w6 (by omega)];rfl
 have E:(nm==[])=false:=by simpa using o.2
 have L:u.drop (a.length+(bc.length+2))=raw++(60::47::(nm++62::cy)):=by
  have e:u=(a++(60::(bc++[62])))++(raw++(60::47::(nm++62::cy))):=by rw[c];simp
  rw[e];exact af6 (by simp)
 have M:u.take (a.length+(bc.length+2))=a++60::(bc++[62]):=by
  have e:u=(a++60::(bc++[62]))++(raw++(60::47::(nm++62::cy))):=by rw[c];simp
  rw[e];exact aj1 (by simp)
 have p:=ss1 u (a.length+(bc.length+2)) (by omega);rw[L] at p;have O:fnd ([60,47]++nm++[62]) (raw++(60::47::(nm++62::cy))) 0=((raw.length:Nat):Int):=by
  rw[pO ⟨cy,by simp⟩ raw 0 (LQ l raw _ N),km]
 have b:=Ka (raw++(60::47::(nm++62::cy))) (60::47::(nm++[62])) (by simp;omega);rw[show (60:UInt8)::47::(nm++[62])=[60,47]++nm++[62] by simp,O] at b;rw[show [60,47]++nm++[62]=(60:UInt8)::47::(nm++[62]) by simp] at b;have I:IntKind.i64.wrap (((a.length+(bc.length+2):Nat):Int)+(raw.length:Int))=((a.length+(bc.length+2)+raw.length:Nat):Int):=by rw[w6 (by omega)];rfl
 have G:¬ (raw.length:Int)<0:=by omega
 have g:(u.take (a.length+(bc.length+2)+raw.length)).drop (a.length+(bc.length+2))=raw:=by
  rw[aj0,L,ac8,ah1]
 have s:=ss3 u (a.length+(bc.length+2)) (a.length+(bc.length+2)+raw.length) (by omega) (by omega);rw[g] at s;have B:=iJ ((u85 raw (by omega)).1 V r C) rfl;have K:=wI (n:=n) (by omega)
 have k:=iJ (up (c50 (n+1) (by omega)) rfl) rfl;have f:=Yc u (i:=Nt.dec (n+1)) (U:=U) (A:=A) j (n:=a.length+(bc.length+2)) (a.length+(bc.length+2)+raw.length) (by omega) (by omega) (by omega) F;rw[g,M] at f;have X:2+nm.length<=140737488355328:=by omega
 have Y:nm.length<=140737488355325:=by omega
 have m:(nm++[62]).length=nm.length+1:=by simp
 have J:IntKind.i64.wrap (((a.length+(bc.length+2)+raw.length:Nat):Int)+((nm.length+1+1+1:Nat):Int))=((a.length+(bc.length+2)+raw.length+nm.length+3:Nat):Int):=by rw[w6 (by omega)];omega
 unfold SP;rw[show md true=.own from rfl]
 conv=>lhs;rw[aB gO rfl]
 simp only[go_sem,D,v,d,T,E,p,X,Y,b,I,G,s,B,K,k,f,m,J];simp only[La]
 try rfl
def Kr(d:Bs)(b:Bool)(fr n:Nat)(a tg rest:Bs)(k:Int)(u:Bs)(hd:d.length<=50000)(c:d=a++(60::(tg++62::rest)))(f:(62:UInt8) ∉ tg)(i:rtK tg=(k,u))(l:rtV k u=true)(h:eD (aH u)=false)(e:tg.head?≠some 33)(g:tg≠[])(j:u.length<=60000):
  aC G10 gO (SP d b A fr a.length n)=aC G10 gO (SP d b A fr (a.length+(tg.length+2)) n):=by
 have m:d.length=a.length+(tg++62::rest).length+1:=by
  have:=pz List.length c
  rw[jb,jd] at this;omega
 have o:tg.length<=(tg++62::rest).length:=by simp
 exact DZ d b A fr n a _ _ hd c (by simp) (by omega) (Kc tg rest (k:=k) (u:=u) (by omega) f i l h e g j)
def Kp(tl:Bs)(hd:i.length<=50000)(a:i=u++(tl++bc))(h:tl=[]\/tl=[10]\/tl=[60,104,114,47,62]):
  aC G10 gO (SP i U A j u.length n)=aC G10 gO (SP i U A j (u.length+tl.length) n):=by
 rcases h with rfl | rfl | rfl
 ·rfl
 ·exact DZ i U A j n u ([10]++bc) 1 hd a (by simp) (by decide) (ut 10 bc (by decide))
 ·exact Kr i U (A:=A) j n u [104,114,47] bc 4 [104,114] hd a (by decide) rfl (by decide) (by decide) (by decide) (by decide) (by decide)
def vj(d:Bs)(hd:d.length<=50000):∀ (rs:List vP) (b:Bool) (ps:List Pt) (fr n:Nat) (a:Bs),(∀ r∈rs,OkM r)->(∀ r∈rs,∃ g cc,dcd 1 r.2.2.1=some (g,cc))->d=a++rs.flatMap fE->fr<=a.length->ps.length=2*n->n+rs.length<=900 ->
  ∃ o ps' c n',c<=d.length/\ps'.length<=1800/\ps'++[(false,[],d.drop c)]=ps++eC (a.drop fr) rs n/\aC G10 gO (SP d b ps fr a.length n)=aC G10 gO (SP d o ps' c d.length n')
 | [],b,ps,fr,n,a,p,k,f,h,q,v=>by
  rw[ae5,ka] at f;subst f;exact⟨b,ps,fr,n,h,by omega,rfl,rfl⟩
 | r::rs,b,ps,fr,n,a,p,k,f,h,q,v=>by
  obtain⟨nm,at_,raw,tl⟩:=r;obtain⟨o1,o2,o3,w⟩:=p _ (wa);obtain⟨g,cc,hg⟩:=k _ (wa);simp only at o1 o2 o3 w hg;simp only[jd] at v;have D:(62:UInt8) ∉ nm++at_/\rtK (nm++at_)=(2,nm++at_)/\isC (nm++at_)=true/\aH (nm++at_)=nm/\eD nm=true/\(nm++at_).head?≠some 33:=by
   rcases o1 with rfl | rfl | rfl<;>rcases o2 with rfl | rfl<;>decide
  obtain⟨J,K,L,M,N,w6⟩:=D;have j:d=a++(60::((nm++at_)++62::(raw++(60::47::(nm++62::(tl++rs.flatMap fE)))))):=by
   rw[f,sb];simp [fE]
  have I:=Eo (u:=d) (U:=b) (A:=ps) fr n a (nm++at_) raw nm (tl++rs.flatMap fE) hd j J K L M N w6 o3 h (by omega) (by omega) (V:=g) (r:=cc) hg;have l:d=(a++(60::((nm++at_)++62::(raw++(60::47::(nm++[62]))))))++(tl++rs.flatMap fE):=by rw[j];simp
  have m:d=(a++fE (nm,at_,raw,tl))++rs.flatMap fE:=by rw[f,sb,kb]
  have x:a.length+(nm++at_).length+2+raw.length+nm.length+3=(a++(60::((nm++at_)++62::(raw++(60::47::(nm++[62])))))).length:=by simp;omega
  have y:(a++(60::((nm++at_)++62::(raw++(60::47::(nm++[62])))))).length+tl.length=(a++fE (nm,at_,raw,tl)).length:=by simp [fE];omega
  rw[I,x,Kp (i:=d) (U:=true) (n:=n+1) tl hd l w,y];have B:(a++60::((nm++at_)++[62])).drop fr=a.drop fr++60::((nm++at_)++[62]):=ag8 h;have C:(a++fE (nm,at_,raw,tl)).drop (a.length+(nm++at_).length+2+raw.length)=60::47::(nm++62::tl):=by
   have e:a++fE (nm,at_,raw,tl)=(a++(60::((nm++at_)++62::raw)))++(60::47::(nm++62::tl)):=by simp [fE]
   rw[e];exact af6 (by simp;omega)
  obtain⟨o,ps',c,n',E,F,G,H⟩:=vj d hd rs true (ps++[(false,[],(a++60::((nm++at_)++[62])).drop fr),(true,Nt.dec (n+1),raw)]) (a.length+(nm++at_).length+2+raw.length) (n+1) (a++fE (nm,at_,raw,tl)) (λr s=>p r (xa _ s)) (λr s=>k r (xa _ s)) m (by simp [fE];omega) (by simp;omega) (by omega);refine⟨o,ps',c,n',E,F,?_,H⟩;rw[G,B,C];simp [eC]
def Qb(ps:List Pt)(fr n:Nat)(h rest:Bs)(hd:i.length<=50000)(e:hdM h)(a:i=h++rest):
  aC G10 gO (SP i U ps fr 0 n)=aC G10 gO (SP i U ps fr h.length n):=by
 rcases e with rfl | rfl | rfl
 ·rfl
 ·exact Kr i U (A:=ps) fr n [] [104,116,109,108] rest 2 [104,116,109,108] hd a (by decide) rfl (by decide) (by decide) (by decide) (by decide) (by decide)
 ·have k:i.length=rest.length+13:=by
   have:=pz List.length a
   simp at this;omega
  have d:fnd [45,45,62] (([33,45,45,32,60,112,62,32,45,45,62,120]++rest).drop 3) 0=((5:Nat):Int):=
   pO (t:=[45,45,62]) (s:=[45,45,62,120]++rest) ⟨120::rest,rfl⟩ [32,60,112,62,32] 0 (by
    intro j f
    have:j=0\/j=1\/j=2\/j=3\/j=4:=by simp at f;omega
    rcases this with rfl | rfl | rfl | rfl | rfl<;>(rintro ⟨u,g⟩;simp at g))
  have b:=DZ i U ps fr n [] (60::([33,45,45,32,60,112,62,32,45,45,62,120]++rest)) 12 hd (by rw[a];rfl) (by simp) (by decide) (Kd (i:=[33,45,45,32,60,112,62,32,45,45,62,120]++rest) (j:=5) (by simp;omega) ⟨[32,60,112,62,32,45,45,62,120]++rest,rfl⟩ d (by decide));have c:=DZ i U ps fr n [60,33,45,45,32,60,112,62,32,45,45,62] (120::rest) 1 hd (by rw[a];rfl) (by simp) (by decide) (ut 120 rest (by decide));exact b.trans c
def u82(d h:Bs)(rs:List vP)(hd:d.length<=50000)(o:hdM h)(p:∀ r∈rs,OkM r)(j:∀ r∈rs,∃ g cc,dcd 1 r.2.2.1=some (g,cc))(u:rs.length<=900)(e:d=h++rs.flatMap fE):
  G10 82 [.str d] []=some (.tup [.sl .no 3 (pts (eC h rs 0)),.int .i64 0,.int .i64 0],[]):=by
 have m:=Qb (i:=d) (U:=false) [] 0 0 h (rs.flatMap fE) hd o e;obtain⟨k,ps',b,n',q,v,s,f⟩:=vj d hd rs false [] 0 0 h p j e (lv _) rfl (by omega);rw[<- m] at f;unfold SP at f;rw[show ((0:Nat):Int)=0 from rfl,show md false=.full from rfl,show pts []=[] from rfl] at f;obtain⟨b2,a⟩:=Yb (i:=d) (U:=k) (A:=ps') (n:=b) q (by omega);rw[s,kg,kc] at a;have l:=endP (i:=d) (U:=k) (A:=ps') b d.length n' (by omega);unfold SP at l;rw[l] at f;have c:=Yd (i:=d);have hg:¬ 65536<(d.length:Int):=by omega
 refine aA Fe ?_;simp only[Fe,go_sem,hg,c,f,a]
 try rfl
def si(fm:Int)(d:Bs)(ps:List Pt):Prop:=G10 15 [.int .i64 fm,.str d] []=some (.tup [.agg [.int .i64 fm,.sl .no 3 (pts ps)],.int .i64 0,.int .i64 0],[])
def Xp(d h:Bs)(rs:List vP)(hd:d.length<=50000)(i:hdM h)(l:∀ r∈rs,OkM r)(e:∀ r∈rs,∃ g cc,dcd 1 r.2.2.1=some (g,cc))(j:rs.length<=900)(f:d=h++rs.flatMap fE):si 1 d (eC h rs 0):=by
 have c:=u82 d h rs hd i l e j f;have a:=iJ (u39 (k:=1) (.inl rfl)) rfl;have b:G10 40 [.int .i64 1,.str d] []=some (.tup [.sl .no 3 (pts (eC h rs 0)),.int .i64 0,.int .i64 0],[]):=by
  refine aA Fi ?_;simp only[Fi,go_sem,c]
  try rfl
 refine aA Ft ?_;simp only[Ft,go_sem,a,b]
 try rfl
def l91(a:List Pt)(m:a.length<=1000000):∀ (k i:Nat),i+k=a.length ->
  aC G9 PK (ST [(0,.sl .no 3 (pts a)),(1,.sl .no 3 (pts a)),(10,.bool false),(12,.int .i64 a.length),(13,.int .i64 i)] [] [])=some (.ex 0,ST [(0,.sl .no 3 (pts a)),(1,.sl .no 3 (pts a)),(10,.bool false),(12,.int .i64 a.length),(13,.int .i64 a.length),(14,.bool false)] [] [])
 | 0,i,h=>by
  have:i=a.length:=by omega
  subst this;rw[aB PK rfl];simp only[go_sem,jm]
 | k+1,i,h=>by
  have hi:i<a.length:=by omega
  have l:(i:Int)<a.length:=by omega
  have j:0<=(i:Int):=by omega
  have o:=wI (n:=i) (by omega)
  have hg:a[i]?=some a[i]:=ii hi;generalize a[i]=T at hg;have b:=zY hg;have p:=l91 a m k (i+1) (by omega);obtain⟨u,c,d⟩:=T;simp only[] at b;have e:(c==c)=true:=by simp
  have f:(d==d)=true:=by simp
  have g:(u==u)=true:=by simp
  rw[<- p]
  conv=>lhs;rw[aB PK rfl]
  simp only[go_sem,dP,l,j,b,o,e,f,g]
  try rfl
def u91(a:A.length<=1000000):G9 91 [.sl .no 3 (pts A),.sl .no 3 (pts A)] []=some (.bool true,[]):=by
 have x:=l91 A a A.length 0 (by omega);rw[show ((0:Nat):Int)=0 from rfl] at x;refine aA F91 ?_;simp only[F91,go_sem,dP,x]
def I4(n:Nat):List (Nat×Nat)->Nat->Prop
 | [],_=>True
 | r::rs,p=>p<=r.1/\r.1<=r.2/\r.2<=n/\I4 n rs r.2
def l49(n:Nat)(rs:List (Nat×Nat))(q:n<=1000000)(o:rs.length<=1000000):∀ (k i p:Nat),i+k=rs.length->I4 n (rs.drop i) p->
  ∃ d:Nat,aC G9 PN (ST [(1,.int .i64 n),(5,.int .i64 p),(8,.sl .no 2 (iA rs)),(9,.int .i64 rs.length),(10,.int .i64 i)] [] [])=some (.ex 0,ST [(1,.int .i64 n),(5,.int .i64 d),(8,.sl .no 2 (iA rs)),(9,.int .i64 rs.length),(10,.int .i64 rs.length),(11,.bool false)] [] [])
 | 0,i,p,h,c=>by
  have:i=rs.length:=by omega
  subst this;refine⟨p,?_⟩;rw[aB PN rfl];simp only[go_sem,jm]
 | k+1,i,p,h,c=>by
  have hi:i<rs.length:=by omega
  have m:(i:Int)<rs.length:=by omega
  have l:0<=(i:Int):=by omega
  have r:=wI (n:=i) (by omega)
  have hg:rs[i]?=some rs[i]:=ii hi;have hd:rs.drop i=rs[i]::rs.drop (i+1):=je hi;rw[hd] at c;generalize rs[i]=T at hg c;have e:=yG hg;obtain⟨a,b⟩:=T;simp only[I4] at e c;obtain⟨v,w,x,u⟩:=c;obtain⟨d,s⟩:=l49 n rs q o k (i+1) b (by omega) u;refine⟨d,?_⟩;have f:¬ (a:Int)<p:=by omega
  have g:¬ (b:Int)<a:=by omega
  have j:¬ (n:Int)<b:=by omega
  rw[<- s]
  conv=>lhs;rw[aB PN rfl]
  simp only[go_sem,eU,m,l,e,r,f,g,j]
  try rfl
def u49(b:n<=1000000)(a:ck.length<=1000000)(h:I4 n ck 0):G9 49 [.sl .no 2 (iA ck),.int .i64 n] []=some (.bool true,[]):=by
 obtain⟨c,x⟩:=l49 n ck b a ck.length 0 0 (by omega) h;rw[show ((0:Nat):Int)=0 from rfl] at x;refine aA F49 ?_;simp only[F49,go_sem,eU,x]
def Xa(b:i.length<=50000)(q:dcd 1 i=some (e,r)):G9 50 [.int .i64 1,.str i] []=some (.tup [.sl .no 1 (fI r),.int .i64 0],[]):=by
 have a:=u92 (i:=i) b (V:=e) (r:=r) q;refine aA F50 ?_;simp only[F50,go_sem,a]
 try rfl
def u48(d:fmK k)(g:A.length<=100000)(f:(btF A).length<=100000000)(e:si k (btF A) A):G10 48 [.agg [.int .i64 k,.sl .no 3 (pts A)]] []=some (.int .i64 0,[]):=by
 have b:=iJ (u39 d) rfl;have a:G10 19 [.agg [.int .i64 k,.sl .no 3 (pts A)]] []=some (.str (btF A),[]):=f9 (FN (k:=k) ⟨g,f⟩);have c:=iJ (u91 (A:=A) (by omega)) rfl;have e:G10 15 [.int .i64 k,.str (btF A)] []=some (.tup [.agg [.int .i64 k,.sl .no 3 (pts A)],.int .i64 0,.int .i64 0],[]):=e;refine aA Fh ?_;simp only[Fh,go_sem,b,a,e,c]
 try rfl
abbrev Tg:=Own×List Tk
variable{gq:List Tg}
def BW(l:List Tg):List (List AV):=l.map λp=>[AV.sl p.1 3 (tks p.2)]
def zD:(BW gq).length=gq.length:=zt ..
def MJ{p:Tg}(h:gq[n]?=some p):(BW gq)[n]?=some [AV.sl p.1 3 (tks p.2)]:=by simp [BW,h]
def KL(f:List Tk):List (Nat×Nat)->List Tg->Nat->List Tk->List Tk
 | r::rs,t::ts,p,out=>KL f rs ts r.2 (nrm (nrm (out++slc f 0 p r.1)++t.2))
 | _,_,p,out=>nrm (out++slc f 0 p (len f))
def Ar:(Nt.put b N).length<=b.length+1/\tot (Nt.put b N)<=tot b+N.2.1.length:=by
 unfold Nt.put;split
 ·split
  ·rename_i y a
   rcases dS b with rfl | ⟨g,z,rfl⟩
   ·simp at a
   ·have:z=y:=by simpa using a
    subst this;split
    ·rw[dropLast_concat,jb,jb,cN,cN,aN,aN,bZ]
     simp only[jy,jb];omega
    ·rw[jb,cN,aN,bZ,jy];omega
  ·rw[aN,bZ];simp only[jy];omega
 ·rw[jb,cN,aN,bZ,jy];omega
def Ma:(pn b N).length<=b.length+1/\tot (pn b N)<=tot b+N.2.1.length:=by
 unfold pn;split
 ·split
  ·omega
  ·exact Ar (b:=b) (N:=(1,N.2.1,0))
 ·rw[jb,cN,aN,bZ,jy];omega
def OP:∀ (g out:List Tk),(g.foldl pn out).length<=out.length+g.length/\tot (g.foldl pn out)<=tot out+tot g
 | [],out=>by rw[foldl_nil,bZ];simp
 | x::g,out=>by
  have a:=OP g (pn out x);have c:=Ma (b:=out) (N:=x);rw[ac6,aN,jd];omega
def UR:(nrm b).length<=b.length/\tot (nrm b)<=tot b:=by
 have:=OP b []
 rw[bZ,jz] at this;unfold nrm;omega
def D6:∀ (f:List It) (p a b:Nat),(slc f p a b).length<=f.length
 | [],p,a,b=>by simp [slc]
 | x::f,p,a,b=>by
  have:=D6 f (p+wid x) a b
  unfold slc
  split<;>simp<;>omega
def l53(f:List Tk)(rs:List (Nat×Nat))(ts:List Tg)(K:f.length<=1000)(O:tot f<=20000)(L:rs.length<=20)(hts:ts.length=rs.length)(H:∀ t∈ts,t.1≠.own/\t.2.length<=1000/\tot t.2<=20000):
  ∀ (k i p:Nat) (out:List Tk) (v:AV),i+k=rs.length->I4 (len f) (rs.drop i) p->p<=len f->out.length<=2000*i->tot out<=40000*i->((v=.sl .full 3 []/\out=[])\/v=.sl .no 3 (tks out)) ->
  ∃ (w:Nat) (c:List Tk) (x:AV),w<=len f/\c.length<=2000*rs.length/\tot c<=40000*rs.length/\((x=.sl .full 3 []/\c=[])\/x=.sl .no 3 (tks c))/\KL f (rs.drop i) (ts.drop i) p out=nrm (c++slc f 0 w (len f)) /\
  aC G10 tF (ST [(0,.sl .no 3 (tks f)),(2,.sl .no 1 (BW ts)),(7,v),(8,.int .i64 p),(15,.sl .no 2 (iA rs)),(16,.int .i64 rs.length),(17,.int .i64 i)] [] [])=some (.ex 0,ST [(0,.sl .no 3 (tks f)),(2,.sl .no 1 (BW ts)),(7,x),(8,.int .i64 w),(15,.sl .no 2 (iA rs)),(16,.int .i64 rs.length),(17,.int .i64 rs.length),(18,.bool false)] [] [])
 | 0,i,p,out,v,h,s,I,F,G,B=>by
  have:i=rs.length:=by omega
  subst this;refine⟨p,out,v,I,F,G,B,?_,?_⟩
  ·rw[lb,<- hts,lb];rfl
  ·have P:¬ (rs.length:Int)<rs.length:=by omega
   rw[aB tF rfl];rcases B with ⟨rfl,_⟩ | rfl<;>simp only[go_sem,P]
 | k+1,i,p,out,v,h,s,I,F,G,B=>by
  have hi:i<rs.length:=by omega
  have A:(i:Int)<rs.length:=by omega
  have y:0<=(i:Int):=by omega
  have C:=wI (n:=i) (by omega)
  have hg:rs[i]?=some rs[i]:=ii hi;have hd:rs.drop i=rs[i]::rs.drop (i+1):=je hi;have l:i<ts.length:=by omega
  have r:ts[i]?=some ts[i]:=ii l;have q:ts.drop i=ts[i]::ts.drop (i+1):=je l;have o:=H _ (xd l);rw[hd] at s;generalize rs[i]=T at hg s hd;generalize ts[i]=U at r q o;have u:=yG hg;have g:=MJ r;obtain⟨a,b⟩:=T;obtain⟨m,t⟩:=U;simp only[I4] at u s g o;obtain⟨R,q2,S,V⟩:=s;obtain⟨o1,o2,o3⟩:=o;have M:=D6 f 0 p a;have N:=yD f 0 p a;have j:=iJ (u22 f p a (by omega) (by omega) R (by omega)) rfl;have e:=u99 .no (by decide) out (slc f 0 p a) (by omega) (by omega);have D:=UR (b:=out++slc f 0 p a);rw[jb,cN] at D;have d:=u99 .no (by decide) (nrm (out++slc f 0 p a)) t (by omega) (by omega);have E:=UR (b:=nrm (out++slc f 0 p a)++t);rw[jb,cN] at E;obtain⟨w,c,x,X,Y,Z,w4,w5,Q⟩:=l53 f rs ts K O L hts H k (i+1) b (nrm (nrm (out++slc f 0 p a)++t)) (.sl .no 3 (tks (nrm (nrm (out++slc f 0 p a)++t)))) (by omega) V S (by omega) (by omega) (.inr rfl);refine⟨w,c,x,X,Y,Z,w4,by rw[hd,q];exact w5,?_⟩;rw[<- Q];generalize J:nrm (nrm (out++slc f 0 p a)++t)=N2 at d;generalize nrm (out++slc f 0 p a)=N1 at e d;rcases B with ⟨rfl,rfl⟩ | rfl
  ·rw[cW] at e
   cases m with
   | own=>exact absurd rfl o1
   | no =>
    conv=>lhs;rw[aB tF rfl]
    simp only[go_sem,eU,A,y,u,C,j,e,g,d]
    try rfl
   | full =>
    conv=>lhs;rw[aB tF rfl]
    simp only[go_sem,eU,A,y,u,C,j,e,g,d]
    try rfl
  ·cases m with
   | own=>exact absurd rfl o1
   | no =>
    conv=>lhs;rw[aB tF rfl]
    simp only[go_sem,eU,A,y,u,C,j,e,g,d]
    try rfl
   | full =>
    conv=>lhs;rw[aB tF rfl]
    simp only[go_sem,eU,A,y,u,C,j,e,g,d]
    try rfl
def u53(i:b.length<=1000)(n:tot b<=20000)(j:ck.length<=20)(hts:gq.length=ck.length)(k:∀ t∈gq,t.1≠.own/\t.2.length<=1000/\tot t.2<=20000)(h:I4 (len b) ck 0):
  G10 53 [.sl .no 3 (tks b),.sl .no 2 (iA ck),.sl .no 1 (BW gq)] []=some (.sl .no 3 (tks (KL b ck gq 0 [])),[]):=by
 obtain⟨f,e,r,o,s,u,p,g,x⟩:=l53 b ck gq i n j hts k ck.length 0 0 [] (.sl .full 3 []) (by omega) h (by omega) (by simp) (by rw[bZ];omega) (.inl ⟨rfl,rfl⟩);rw[kc,kc] at g;rw[show ((0:Nat):Int)=0 from rfl] at x;have d:=iJ (up (c67 b (by omega) (λt q=>by have:=gG t q;unfold eZ;omega)) rfl) rfl;have l:=D6 b 0 f (len b);have m:=yD b 0 f (len b);have c:=iJ (u22 b f (len b) (by omega) (by omega) o (ji _)) rfl;have a:=u99 .no (by decide) e (slc b 0 f (len b)) (by omega) (by omega);rw[g];refine aA sz ?_;rcases p with ⟨rfl,rfl⟩ | rfl
 ·rw[cW] at a
  simp only[sz,go_sem,eU,x,d,c,a]
  try rfl
 ·simp only[sz,go_sem,eU,x,d,c,a]
  try rfl
def u54(a:A≠[])(h:A.length<=1000):G10 54 [.sl .no 3 (pts A)] []=some (.ss 0 0 A.length 3,[(pts A).flatten]):=by
 match A,a with
 | p::q,_ =>
  have b:aU 40 (p::q).length=true:=aL (by decide) (by omega);have e:pts (p::q)=ptR p::pts q:=rfl;have f:(ptR p::pts q).length=(p::q).length:=by rw[<- e,dP]
  refine aA Ff ?_;rw[e];have c:aU 40 ((pts q).length+1)=true:=by rw[dP];exact b
  have d:gX 3 [AV.bool false,AV.str [],AV.str []] 0 [] []=some (.sl .full 3 []):=rfl;have g:(pts q).length+1=(p::q).length:=by rw[dP];rfl
  simp only[Ff,go_sem,d,c];rw[dP]
  try rfl
open Go.Proofs Go.Nt
def BY(raw:Bs)(c:List Nat):List (Nat×Nat)->List Bs->Nat->Bs->Option Bs
 | r::rs,e::es,p,out=>match c[r.1]?,c[r.2]? with
  | some x,some y=>if p<=x/\x<=raw.length then BY raw c rs es y (out++((raw.take x).drop p++e)) else none
  | _,_=>none
 | [],[],p,out=>if p<=raw.length then some (out++raw.drop p) else none
 | _,_,_,_=>none
def Wz(t:List Tk)(h:DS 1 t):G10 51 [.int .i64 1,.sl .no 3 (tks t)] []=some (.tup [.str (sP 1 t),.int .i64 0],[]):=by
 have a:G10 95 [.sl .no 3 (tks t)] []=some (.tup [.str (sP 1 t),.int .i64 0],[]):=f9 (pq h);refine aA Fg ?_;simp only[Fg,go_sem,a]
 try rfl
def GH(raw:Bs)(c:List Nat):∀ (rs:List (Nat×Nat)) (es:List Bs) (p:Nat) (out new:Bs),BY raw c rs es p out=some new->out.length<=new.length
 | [],[],p,out,new,h=>by
  unfold BY at h
  split at h
  ·cases h;rw[jb];omega
  ·cases h
 | r::rs,e::es,p,out,new,h=>by
  unfold BY at h
  split at h
  ·split at h
   ·have:=GH raw c rs es _ _ new h
    rw[jb] at this;omega
   ·cases h
  ·cases h
 | [],_::_,_,_,_,h=>by simp [BY] at h
 | _::_,[],_,_,_,h=>by simp [BY] at h
abbrev Ex(fm:Int)(ps:List Pt)(idx:Nat)(rs:List (Nat×Nat))(ts:List Tg)(g:List It)(raw:Bs)(c:List Nat)(out:Bs)(p i:Nat):AS:=
 ST [(1,AV.int IntKind.i64 idx),(2,AV.sl Own.no 2 (iA rs)),(3,AV.sl Own.no 1 (BW ts)),
  (4,AV.loc 4 0),(8,AV.loc 8 0),(10,AV.loc 10 0),(11,AV.int IntKind.i64 0),
  (12,AV.sl Own.no 3 (tks g)),(13,AV.int IntKind.i64 0),(14,AV.str raw),
  (15,AV.sl Own.no 1 (fI c)),(16,AV.str out),(17,AV.int IntKind.i64 p),(28,AV.bool false),
  (38,AV.bool false),(52,AV.bool false),(68,AV.bool false),(71,AV.sl Own.no 2 (iA rs)),
  (72,AV.int IntKind.i64 rs.length),(73,AV.int IntKind.i64 i)]
  [(4,some [AV.int IntKind.i64 fm,AV.sl Own.no 3 (pts ps)]),(8,some [AV.int IntKind.i64 0,AV.sl Own.full 3 []]),(10,some [AV.int IntKind.i64 0,AV.sl Own.full 3 []])] []
def l18(fm:Int)(ps:List Pt)(idx:Nat)(rs:List (Nat×Nat))(ts:List Tg)(g:List It)(raw:Bs)(c:List Nat)(es:List Bs)(new:Bs)(L:raw.length<=50000)(K:new.length<=60000)(hl:rs.length<=20)(hts:ts.length=rs.length)(G:es.length=rs.length)(ho:∀ t∈ts,t.1≠.own)
  (Z:∀ (j:Nat) (t:Tg) (e:Bs),ts[j]?=some t->es[j]?=some e->G10 51 [.int .i64 fm,.sl .no 3 (tks t.2)] []=some (.tup [.str e,.int .i64 0],[])):
  ∀ (k i p:Nat) (out:Bs),i+k=rs.length->BY raw c (rs.drop i) (es.drop i) p out=some new ->
  ∃ (N:Nat) (f:Bs),N<=raw.length/\f++raw.drop N=new /\
   aC G10 BM (Ex fm ps idx rs ts g raw c out p i) =
    some (.ex 0,ST [(1,AV.int IntKind.i64 idx),(2,AV.sl Own.no 2 (iA rs)),(3,AV.sl Own.no 1 (BW ts)),
  (4,AV.loc 4 0),(8,AV.loc 8 0),(10,AV.loc 10 0),(11,AV.int IntKind.i64 0),
  (12,AV.sl Own.no 3 (tks g)),(13,AV.int IntKind.i64 0),(14,AV.str raw),
  (15,AV.sl Own.no 1 (fI c)),(16,AV.str f),(17,AV.int IntKind.i64 N),(28,AV.bool false),
  (38,AV.bool false),(52,AV.bool false),(68,AV.bool false),(71,AV.sl Own.no 2 (iA rs)),
  (72,AV.int IntKind.i64 rs.length),(73,AV.int IntKind.i64 rs.length),(74,AV.bool false)]
  [(4,some [AV.int IntKind.i64 fm,AV.sl Own.no 3 (pts ps)]),(8,some [AV.int IntKind.i64 0,AV.sl Own.full 3 []]),(10,some [AV.int IntKind.i64 0,AV.sl Own.full 3 []])] [])
 | 0,i,p,out,h,d=>by
  have:i=rs.length:=by omega
  subst this;rw[lb,<- G,lb] at d;unfold BY at d
  split at d
  ·cases d
   refine⟨p,out,by assumption,rfl,?_⟩;have u:¬ (rs.length:Int)<rs.length:=by omega
   rw[aB BM rfl];simp only[go_sem,u]
  ·cases d
 | k+1,i,p,out,h,d=>by
  have hi:i<rs.length:=by omega
  have Y:(i:Int)<rs.length:=by omega
  have X:0<=(i:Int):=by omega
  have hw:=wI (n:=i) (by omega)
  have hg:rs[i]?=some rs[i]:=ii hi;have hd:rs.drop i=rs[i]::rs.drop (i+1):=je hi;have I:i<ts.length:=by omega
  have q:ts[i]?=some ts[i]:=ii I;have J:i<es.length:=by omega
  have H:es[i]?=some es[i]:=ii J;have F:es.drop i=es[i]::es.drop (i+1):=je J;have r:=ho _ (xd I);have l:=Z i _ _ q H;rw[hd,F] at d;generalize rs[i]=T at hg d hd;generalize ts[i]=U at q r l;generalize es[i]=e at H F l d;have O:=yG hg;have s:=MJ q;obtain⟨a,b⟩:=T;obtain⟨m,t⟩:=U;simp only[BY] at O d s r l;cases u:c[a]? with
  | none=>rw[u] at d;cases d
  | some x =>
   cases P:c[b]? with
   | none=>rw[u,P] at d;cases d
   | some y =>
    rw[u,P] at d;simp only at d
    split at d
    ·rename_i o
     obtain⟨o,M⟩:=o;obtain⟨N,f,w1,w2,ih⟩:=l18 fm ps idx rs ts g raw c es new L K hl hts G ho Z k (i+1) y _ (by omega) d;refine⟨N,f,w1,w2,?_⟩;rw[<- ih];have D:=vC u;have E:=vC P;have Q:0<=(a:Int):=by omega
     have R:0<=(b:Int):=by omega
     have V:0<=(x:Int):=by omega
     have S:0<=(p:Int):=by omega
     have v:(p:Int)<=x:=by omega
     have w:(x:Int)<=raw.length:=by omega
     have C:=GH _ _ _ _ _ _ _ d;rw[jb] at C;have B:List.length out+(List.drop p (List.take x raw)++e).length<=140737488355328:=by omega
     rw[jb] at C;have A:(List.drop p (List.take x raw)).length+List.length e<=140737488355328:=by omega
     unfold Ex
     cases m with
     | own=>exact absurd rfl r
     | no =>
      conv=>lhs;rw[aB BM rfl]
      simp only[go_sem,eU,zD,hts,aW,Y,X,O,hw,s,l,Q,R,V,S,v,w,o,M,D,E,jp,A,B]
      try rfl
     | full =>
      conv=>lhs;rw[aB BM rfl]
      simp only[go_sem,eU,zD,hts,aW,Y,X,O,hw,s,l,Q,R,V,S,v,w,o,M,D,E,jp,A,B]
      try rfl
    ·cases d
structure RepOK (fm:Int) (ps:List Pt) (idx:Nat) (k raw:Bs) (g g':List It) (c c':List Nat) (rs:List (Nat×Nat)) (ts:List Tg) (es:List Bs) (new:Bs):Prop where
 fm_:fmK fm
 pl:ps.length<=1000
 b1:(btF ps).length<=60000
 prs:si fm (btF ps) ps
 at_:ps[idx]?=some (true,k,raw)
 rl:raw.length<=20000
 d1:dcd fm raw=some (g,c)
 h50:G10 50 [.int .i64 fm,.str raw] []=some (.tup [.sl .no 1 (fI c),.int .i64 0],[])
 tl:ts.length=rs.length
 el:es.length=rs.length
 rl2:rs.length<=20
 asc:I4 (len g) rs 0
 tg:∀ t∈ts,t.1≠.own/\t.2.length<=1000/\tot t.2<=20000
 enc:∀ (j:Nat) (t:Tg) (e:Bs),ts[j]?=some t->es[j]?=some e->G10 51 [.int .i64 fm,.sl .no 3 (tks t.2)] []=some (.tup [.str e,.int .i64 0],[])
 spl:BY raw c rs es 0 []=some new
 nl:new.length<=50000
 d2:dcd fm new=some (g',c')
 vl:vld (KL g rs ts 0 [])=0
 can_:g'=can (KL g rs ts 0 [])
 b2:(btF (ps.set idx (true,k,new))).length<=65536
theorem iY(iu:Pt):(pts (iu::A)).flatten=.bool iu.1::.str iu.2.1::.str iu.2.2::(pts A).flatten:=rfl
def M5{new:Bs}:∀ {ps:List Pt} {idx:Nat} {k raw:Bs},ps[idx]?=some (true,k,raw)->kL (idx*3+2) [.str new] (pts ps).flatten=some (pts (ps.set idx (true,k,new))).flatten
 | [],idx,k,raw,h=>by simp at h
 | p::ps,0,k,raw,h=>by
  simp at h;subst h;rw[iY,Tw,iY];show kL 2 _ _=_;simp only[zV,KP,zW,jq]
 | p::ps,idx+1,k,raw,h=>by
  have a:=M5 (new:=new) (ps:=ps) (idx:=idx) (k:=k) (raw:=raw) (by simpa using h);rw[iY,Ec,iY];rw[show (idx+1)*3+2=idx*3+2+1+1+1 from by omega];simp only[zV,a,jq]
def GU:(pts A).flatten.length=A.length*3:=by
 induction A with
 | nil=>rfl
 | cons p A a=>rw[iY];simp only[jd,a];omega
def UC:dE 0 A.length 3 (pts A).flatten=some (pts A):=by
 have c:∀ A:List Pt,((pts A).flatten).all (λx=>aQ (aJ x))=true:=by
  intro A
  induction A with
  | nil=>rfl
  | cons a A b=>rw[iY];simp only[ad0,ir];exact⟨rfl,rfl,rfl,b⟩
 have d:∀ A:List Pt,((pts A).flatten).map aJ=(pts A).flatten:=by
  intro A
  induction A with
  | nil=>rfl
  | cons a A b=>rw[iY];simp only[ju,b,aJ]
 have e:∀ A:List Pt,cP 3 A.length (pts A).flatten=pts A:=by
  intro A
  induction A with
  | nil=>rfl
  | cons a A b=>rw[iY];simp only[jd,cP,qb,Tv,ab8,kc,b];rfl
 unfold dE;have f:(((pts A).flatten).drop 0).take (A.length*3)=(pts A).flatten:=by rw[kc];exact Ty (by rw[GU];exact ji _)
 rw[f,d,e,iw ⟨by decide,by rw[GU];omega,c A⟩]
def M6(h:A≠[]):bX (pts A).flatten=true/\(pts A).flatten≠aO:=by
 match A,h with
 | p::q,_=>exact⟨rfl,by rw[iY];simp [aO]⟩
def WH:oU (ST dz ik c) n f=ST dz (fL ik n (some f)) []:=by
 unfold oU ST;simp only[jW]
def NY:∀ (l:List (Nat×AV)) (t:Nat),l.all (λp=>nrB p.2)=true->nrB (aF .any l t)=true
 | [],_,_=>rfl
 | (k,v)::l,t,h=>by
  simp only[ad0,ir] at h;unfold aF;split
  ·exact h.1
  ·exact NY l t h.2
def HX:∀ (m:List (Nat×Option (List AV))) (s:Nat) (cs:List AV),aF none m s=some cs->(s,some cs)∈m
 | [],s,cs,h=>by cases h
 | (k,v)::m,s,cs,h=>by
  unfold aF at h;by_cases q:s=k
  ·rw[iw q] at h;subst q;rw[h];exact wa
  ·rw[ie q] at h;exact xa _ (HX m s cs h)
def r18(hG:fK Tryz.prog B10){D:Int}{c':List Nat}(H:RepOK D A n i u e V r c' ck gq co bc):
  vO Tryz.prog 18/\fB Tryz.prog 18 [.agg [.int .i64 D,.sl .no 3 (pts A)],.int .i64 n,.sl .no 2 (iA ck),.sl .no 1 (BW gq)] [] (.tup [.agg [.int .i64 D,.sl .no 3 (pts (A.set n (true,i,bc)))],.int .i64 0]) []:=by
 obtain⟨g,a4,hb,hp,hi,hr,hd,h50,hts,ar,K,ha,ho,he,a1,F,v,hv,p,a3⟩:=H;have R:=u48 g (A:=A) (by omega) (by omega) hp;have O:=iJ (u16 g A n i u hi (by omega) (by omega) hd) rfl;have a5:=AZ hd;have a2:=AZ v;have Q:=iJ (up (c67 e (by omega) (λt q=>by have:=gG t q;unfold eZ;omega)) rfl) rfl;have S:=iJ (u49 (n:=len e) (ck:=ck) (by have:=uV e;omega) (by omega) ha) rfl;have l:=iJ ((u41 g bc F).1 V c' v) rfl;have U:=u53 (b:=e) (ck:=ck) (gq:=gq) (by omega) (by omega) K hts ho ha;have j:=u13 hv;have f:=iJ (up (k61 V (can (KL e ck gq 0 [])) (by omega)) rfl) rfl;subst p;simp only[ms] at f;have c:n<A.length:=by
  by_cases q:n<A.length
  ·exact q
  ·rw[ls (by omega)] at hi;cases hi
 have g1:(n:Int)<A.length:=by omega
 have g0:0<=(n:Int):=by omega
 have m:=zY hi;simp only at m;have a0:(gq.length:Int)=ck.length:=by omega
 obtain⟨p',L,w1,w2,x⟩:=l18 D A n ck gq e u r co bc (by omega) (by omega) K hts ar (λt q=>(ho t q).1) he ck.length 0 0 [] (by omega) (by rw[kc,kc];exact a1);unfold Ex at x;rw[show ((0:Nat):Int)=0 from rfl] at x;have gp:0<=(p':Int):=by omega
 have N:(p':Int)<=u.length:=by omega
 have Z:L.length+(u.drop p').length<=140737488355328:=by rw[<- jb,w2];omega
 generalize can (KL e ck gq 0 [])=cg at j f l;have Y:=u54 (A:=A) (by intro q;rw[q] at c;simp at c) (by omega);have J:=M5 (new:=bc) hi;have G:A≠[]:=by intro q;rw[q] at c;simp at c
 have av:=M6 G;refine FI (B:=B10) (T:=T10) mix hG X0 Mt P18 R18 rfl rfl
  (X:=ST [(8,.loc 8 0),(10,.loc 10 0),(11,.int .i64 0),(13,.int .i64 0),(15,.sl .no 1 (fI r)),(23,.loc 23 0),(28,.bool false),(38,.bool false),(52,.bool false),(68,.bool false),(71,.sl .no 2 (iA ck)),(72,.int .i64 ck.length),(73,.int .i64 ck.length),(74,.bool false),(123,.bool false),(133,.bool false)]
   [(8,some [.int .i64 0,.sl .full 3 []]),(10,some [.int .i64 0,.sl .full 3 []]),(23,some [.int .i64 D,.ss 0 0 A.length 3])] [(pts (A.set n (true,i,bc))).flatten])
  (fb:=ST [(8,.loc 8 0),(10,.loc 10 0),(11,.int .i64 0),(13,.int .i64 0),(15,.sl .no 1 (fI r)),(23,.loc 23 0),(28,.bool false),(38,.bool false),(52,.bool false),(68,.bool false),(71,.sl .no 2 (iA ck)),(72,.int .i64 ck.length),(73,.int .i64 ck.length),(74,.bool false),(123,.bool false),(133,.bool false)]
   [(8,some [.int .i64 0,.sl .full 3 []]),(10,some [.int .i64 0,.sl .full 3 []]),(23,some [.int .i64 D,.sl .no 3 (pts (A.set n (true,i,bc)))])] []) ?_ ?_ ?_
 ·simp only[P18,wC,go_sem,R,O,Q,S,h50,a0,zD,eU,dP,g0,g1,m,x,gp,N,w1,Z,Ut,jp,w2,l,U,j,f,Y,av.1,J]
  try rfl
 ·intro E g2 a w ab hs
  have I:A.set n (true,i,bc)≠[]:=by intro q;have:=pz List.length q;rw[aj4] at this;exact G (js this)
  have o:=M6 I;have d:=UC (A:=A.set n (true,i,bc));rw[aj4] at d
  have:=hs.freeze ab (cells:=(pts (A.set n (true,i,bc))).flatten) rfl o.2 o.1 (s:=23) (x:=.int .i64 D) d rfl rfl (λt=>NY _ t rfl) (λs' cs C ag y M=>by
   have hm:=HX _ _ _ ag;simp only[la,jg,ad8,ak3] at hm;rcases hm with ⟨_,h⟩ | ⟨_,h⟩ | ⟨h,_⟩
   ·injection h with h;subst h;simp at M;rcases M with rfl | rfl<;>rfl
   ·injection h with h;subst h;simp at M;rcases M with rfl | rfl<;>rfl
   ·exact absurd h C)
  rw[WH] at this;exact⟨zC g2,this⟩
 ·have P:G10 19 [.agg [.int .i64 D,.sl .no 3 (pts (A.set n (true,i,bc)))]] []=some (.str (btF (A.set n (true,i,bc))),[]):=f9 (FN (k:=D) ⟨by rw[aj4];omega,by omega⟩)
  have ap:¬ (65536:Int)<((btF (A.set n (true,i,bc))).length:Int):=by omega
  simp only[R18,To,go_sem,P,ap]
  try rfl
def QX:Bs:=[83,97,118,101,46,32,60,98,62,82,101,100,60,47,98,62,32,99,97,114,33]
def K4:Bs:=[83,105,99,104,101,114,110,46,32,60,98,62,82,101,100,60,47,98,62,32,99,97,114,33]
def oh:Bs:=[60,112,62,83,97,118,101,46,32,60,98,62,82,101,100,60,47,98,62,32,99,97,114,33,60,47,112,62]
def C0:Bs:=[60,112,62,83,105,99,104,101,114,110,46,32,60,98,62,82,101,100,60,47,98,62,32,99,97,114,33,60,47,112,62]
def kT:Bs:=[83,105,99,104,101,114,110,46]
def kG:List It:=[(1,[83,97,118,101,46,32],0),(2,[98],1),(1,[82,101,100],0),(3,[98],1),(1,[32,99,97,114,33],0)]
def kC:List Nat:=[0,1,2,3,4,5,6,9,10,11,12,16,17,18,19,20,21]
def kG2:List It:=[(1,[83,105,99,104,101,114,110,46,32],0),(2,[98],1),(1,[82,101,100],0),(3,[98],1),(1,[32,99,97,114,33],0)]
def kC2:List Nat:=[0,1,2,3,4,5,6,7,8,9,12,13,14,15,19,20,21,22,23,24]
def Pm:vP:=([112],[],QX,[])
def kPs:List Pt:=eC [] [Pm] 0
def VQ:dcd 1 QX=some (kG,kC):=by kernel_rfl
def k_d2:dcd 1 K4=some (kG2,kC2):=by kernel_rfl
def Pj:tZ kG=[(0,5),(6,16)]:=by kernel_rfl
def xe:si 1 oh kPs:=by
 refine Xp oh [] [Pm] (by decide) (.inl rfl) (λr a=>?_) (λr a=>?_) (by decide) (by kernel_rfl)
 ·rw[kj] at a
  subst a;exact⟨.inl rfl,.inl rfl,by kernel_rfl,.inl rfl⟩
 ·rw[kj] at a
  subst a;exact⟨kG,kC,VQ⟩
def Pl:DS 1 [(1,kT,0)]:=⟨rfl,kT,rfl,by decide,by decide,by decide⟩
def Pk:RepOK 1 kPs 1 (Nt.dec 1) QX kG kG2 kC kC2 [(0,5)] [(.no,[(1,kT,0)])] [kT] K4:=by
 refine⟨.inl rfl,by decide,by decide,xe,by kernel_rfl,by decide,VQ,iJ (Xa (i:=QX) (by decide) (e:=kG) (r:=kC) VQ) rfl,rfl,rfl,by decide,?_,?_,?_,by kernel_rfl,by decide,k_d2,by kernel_rfl,by kernel_rfl,by decide⟩
 ·exact⟨by decide,by decide,by decide,trivial⟩
 ·intro t a
  rw[kj] at a;subst a;exact⟨by decide,by decide,by decide⟩
 ·intro j t e a b
  cases j with
  | succ j=>simp at a
  | zero =>
   simp at a b;subst a b;exact Wz [(1,kT,0)] Pl
def H7:List AV:=[.agg [.int .i64 1,.sl .no 3 (pts kPs)],.int .i64 1,.sl .no 2 (iA [(0,5)]),.sl .no 1 (BW [(.no,[(1,kT,0)])])]
def VR:AV:=.tup [.agg [.int .i64 1,.sl .no 3 (pts (kPs.set 1 (true,Nt.dec 1,K4)))],.int .i64 0]
def k18(a:fK Tryz.prog B10):vO Tryz.prog 18/\fB Tryz.prog 18 H7 [] VR []:=r18 a Pk
open Classical in
noncomputable def Ao(args:List AV)(sh:LL):Option (AV×LL):=if sh=[]/\args=H7 then some (VR,[]) else none
def lu:Ao H7 []=some (VR,[]):=iw ⟨rfl,rfl⟩
end Go.Av
