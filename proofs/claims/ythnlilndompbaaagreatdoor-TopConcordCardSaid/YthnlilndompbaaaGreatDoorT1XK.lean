/- Functions walked, and plain facts. No conditions. -/
import Derived.Test.YthnlilndompbaaaGreatDoorT1XJ
import Derived.Test.YthnlilndompbaaaGreatDoorT1XI
open List
set_option linter.all false
set_option maxRecDepth 100000
set_option maxHeartbeats 16000000
def ag8:=@List.drop_append_of_le_length
namespace Go.Av
open Go.Nt
variable{A:List Pt}{D k:Int}{U:Bool}{bc i u:Bs}{c p:UInt8}{de:It}{dz:List (Nat×AV)}{fu:Option (AX×AS)}{n:Nat}
variable [Mx]
def pO{t s:Bs}(a:t <+: s):∀ (r:Bs) (i:Nat),(∀ j<r.length,¬ t <+: (r++s).drop j)->fnd t (r++s) i=((i+r.length:Nat):Int)
 | [],i,_=>by
  cases s with
  | nil =>
   have:t=[]:=prefix_nil.1 a
   rw[kg];unfold fnd;rw[iw this];rfl
  | cons c s =>
   rw[kg];unfold fnd;rw[iw a];rfl
 | c::r,i,h=>by
  have b:=h 0 (by simp);rw[kc,ko] at b;rw[ko];unfold fnd
  rw[ie b,pO a r (i+1) (λj d=>by
   have:=h (j+1) (by simp;omega)
   simpa using this)]
  rw[jd];omega
def smB(d:UInt8):Bool:=d==98||d==105||d==97
def okTm:Bs->Bool
 | []=>false
 | d::t=>if d=47 then (match t with
  | e::_=>smB e
  | []=>false) else smB d
def clM:Bs->Bool
 | []=>true
 | c::t=>(if c=60 then okTm t else true)&&clM t
theorem z6:okTm (p::i)=if p=47 then (match i with
  | e::_=>smB e
  | []=>false) else smB p:=rfl
def nb(h:okTm i=true):okTm (i++u)=true:=by
 cases i with
 | nil=>cases h
 | cons d i =>
  rw[ko,z6];rw[z6] at h;by_cases q:d=47
  ·rw[iw q] at h ⊢
   cases i with
   | nil=>cases h
   | cons e i=>exact h
  ·rw[ie q] at h ⊢
   exact h
def O2:∀ {x y:Bs},clM x=true->clM y=true->clM (x++y)=true
 | [],y,_,h=>h
 | c::t,y,a,b=>by
  rw[ko];unfold clM at a ⊢;rw[ir] at a ⊢;refine⟨?_,O2 a.2 b⟩;by_cases q:c=60
  ·rw[iw q] at a ⊢
   exact nb a.1
  ·rw[ie q]
def LQ{w:Bs}(f:eD w=true):∀ (r s:Bs),clM r=true->∀ j<r.length,¬ ([60,47]++w++[62]) <+: (r++s).drop j
 | [],s,_,j,b=>by simp at b
 | c::t,s,h,j+1,b=>by
  unfold clM at h;rw[ir] at h
  have:=LQ f t s h.2 j (by simpa using b)
  simpa using this
 | c::t,s,h,0,b=>by
  unfold clM at h;rw[ir] at h;intro p;obtain⟨u,q⟩:=p;have e:(60:UInt8)::47::(w++62::u)=c::(t++s):=by
   simpa using q
  injection e with m k
  have a:=h.1;rw[iw m.symm] at a;have i:∃ w0 v,w=w0::v/\smB w0=false:=by
   unfold eD at f;simp only[yb,Lh] at f;rcases f with (((h | h) | h) | h) | h<;>(rw[h];exact⟨_,_,rfl,rfl⟩)
  obtain⟨w0,v,rfl,g⟩:=i
  cases t with
  | nil=>cases a
  | cons d t =>
   rw[ko] at k
   injection k with n l
   subst n;rw[z6,iw rfl] at a
   cases t with
   | nil=>cases a
   | cons e t =>
    change w0::(v++62::u)=e::(t++s) at l
    injection l with o x
    subst o;simp only[g] at a;cases a
def vB:∀ {t:Bs} (r:Bs),p ∉ t->cut p (t++p::r)=some (t,r):=λ{t} r h=>bP.2 ⟨rfl,h⟩
def Ep(v n:Nat)(a cy raw nm d:Bs)(hd:bc.length<=50000)(f:bc=a++(60::(cy++62::(raw++(60::47::(nm++62::d))))))(o:(62:UInt8) ∉ cy)(I:rtK cy=(2,cy))(J:isC cy=true)(h:aH cy=nm)(p:eD nm=true)(m:cy.head?≠some 33)(G:clM raw=true)(H:v<=a.length)(r:n<999)(w:A.length<=1000000):
  (dcd 1 raw=none/\ErM (aC G9 c7 (SM bc U A v a.length n)))\/(∃ g cc,dcd 1 raw=some (g,cc)/\aC G9 c7 (SM bc U A v a.length n)=aC G9 c7 (SM bc true (A++[(false,[],(a++60::(cy++[62])).drop v),(true,Nt.dec (n+1),raw)]) (a.length+cy.length+2+raw.length) (a.length+cy.length+2+raw.length+nm.length+3) (n+1))):=by
 have K:bc.length=a.length+cy.length+raw.length+nm.length+d.length+5:=by
  have:=pz List.length f
  simp at this;omega
 have B:a.length<bc.length:=by omega
 have b:bc.drop a.length=60::(cy++62::(raw++(60::47::(nm++62::d)))):=by rw[f,ae3]
 have k:bc[a.length]?=some 60:=by
  have:=tb (xs:=bc) (i:=a.length) (j:=0)
  rw[b] at this;simpa using this.symm
 have D:X6 bc a.length:=by
  refine .inl ?_
  rw[b];intro q;obtain⟨u,x⟩:=q
  cases cy with
  | nil=>simp at x
  | cons L cy =>
   simp only[ko,aa1] at x;exact m (by rw[am1,<- x.2.1])
 have l:tgR (cy++62::(raw++(60::47::(nm++62::d))))=some ((2,cy,0),cy.length+2):=by
  unfold tgR;rw[vB _ o];simp only[I];rw[iw (by unfold rtV;rw[ie (by decide)];exact J)]
 have y:bc.drop (a.length+(cy.length+2))=raw++(60::47::(nm++62::d)):=by
  rw[<- ah2,b];have e:(60:UInt8)::(cy++62::(raw++(60::47::(nm++62::d))))=(60::(cy++[62]))++(raw++(60::47::(nm++62::d))):=by simp
  rw[e];exact af6 (by simp)
 have F:bc.take (a.length+(cy.length+2))=a++60::(cy++[62]):=by
  have e:bc=(a++60::(cy++[62]))++(raw++(60::47::(nm++62::d))):=by rw[f];simp
  rw[e];exact aj1 (by simp)
 have C:fnd ([60,47]++nm++[62]) (bc.drop (a.length+(cy.length+2))) (a.length+(cy.length+2))=((a.length+(cy.length+2)+raw.length:Nat):Int):=by
  rw[y];exact pO ⟨d,by simp⟩ raw _ (LQ p raw _ G)
 have c:(bc.take (a.length+(cy.length+2)+raw.length)).drop (a.length+(cy.length+2))=raw:=by
  rw[aj0,y,ac8,ah1]
 cases E:dcd 1 raw with
 | none =>
  refine .inl ⟨rfl,zj bc (U:=U) (A:=A) v a.length n (s:=(2,cy,0)) (v:=cy.length+2) B hd k D b l (by rw[h];exact p) rfl (by rw[h];exact C) ⟨by omega,by omega⟩ (by rw[c];exact E)⟩
 | some q =>
  obtain⟨g,cc⟩:=q
  refine .inr ⟨g,cc,rfl,?_⟩
  have:=zk bc (U:=U) (A:=A) v a.length n (s:=(2,cy,0)) (v:=cy.length+2) g cc B hd k D b l (by rw[h];exact p) rfl (by rw[h];exact C) ⟨by omega,by rw[h];omega⟩ (by rw[c];exact E) (by omega) r w
  rw[this,c,F,h];simp only[La]
def leN(p:Bool):Bs->Nat
 | []=>0
 | [c]=>if c=10 then 0 else 1
 | c::e::t=>if c=10 then 0 else if p=true/\c=92 then 2+leN p t else 1+leN p (e::t)
def EU(p:Bool)(t:Bs):leN p (10::t)=0:=by cases t<;>simp [leN]
def ET(p:Bool)(h:c≠10)(a:¬ (p=true/\c=92)):leN p (c::i)=1+leN p i:=by
 cases i with
 | nil=>simp [leN,h]
 | cons e i=>rw[leN,ie h,ie a]
def N3:leN true (92::p::i)=2+leN true i:=by
 rw[leN,ie (by decide),iw ⟨rfl,rfl⟩]
def VI:leN true [92]=1:=by decide
def xl(a:i[n]?=some p):i.drop n=p::i.drop (n+1):=by
 have b:n<i.length:=(jh.1 a).1;rw[je b];rw[ii b] at a
 injection a with a
 rw[a]
def Cg(d:Bs)(p:Bool)(hd:d.length<=50000):∀ (k a:Nat),a<=d.length+1->d.length<=a+k ->
  ∃ b:Nat,min b d.length=min a d.length+leN p (d.drop a)/\b<=d.length+1/\aC G9 tH (ST [(0,.str d),(1,.int .i64 a),(2,.bool p)] [] [])=some (.ex 0,ST [(0,.str d),(1,.int .i64 b),(2,.bool p),(16,.bool false)] [] [])
 | k,a,g,C=>by
  by_cases y:a<d.length
  case neg =>
   have f:¬ (a:Int)<d.length:=by omega
   refine⟨a,by rw[aa6 (by omega)];rfl,g,?_⟩;rw[aB tH rfl];simp only[go_sem,f]
   try rfl
  have f:(a:Int)<d.length:=by omega
  have i:0<=(a:Int):=by omega
  have u:=wI (n:=a) (by omega)
  have v:IntKind.i64.wrap (((a+1:Nat):Int)+1)=(a+1+1:Nat):=by rw[w6 (by omega)];rfl
  obtain⟨c,h⟩:∃ c,d[a]?=some c:=⟨d[a],ii y⟩
  have e:=xl h;by_cases q:c=10
  ·subst q
   refine⟨a,by rw[e,EU];rfl,g,?_⟩;have o:((10:UInt8).toNat:Int)=10:=rfl;rw[aB tH rfl];simp only[go_sem,f,i,h,o]
   try rfl
  have x:¬ (c.toNat:Int)=10:=by rw[i10];exact q
  cases k with
  | zero=>omega
  | succ k =>
   by_cases w:p=true/\c=92
   ·obtain⟨rfl,rfl⟩:=w
    have r:((92:UInt8).toNat:Int)=92:=rfl;obtain⟨b,j,l,m⟩:=Cg d true hd k (a+1+1) (by omega) (by omega);refine⟨b,?_,l,?_⟩
    ·rw[j,e]
     by_cases B:a+1<d.length
     ·obtain⟨c2,s⟩:∃ c,d[a+1]?=some c:=⟨d[a+1],ii B⟩
      rw[xl s,N3];omega
     ·rw[aa6 (show d.length<=a+1+1 by omega),aa6 (show d.length<=a+1 by omega),VI]
      simp only[leN];omega
    ·rw[<- m]
     conv=>lhs;rw[aB tH rfl]
     simp only[go_sem,f,i,h,r,u,v]
     try rfl
   ·obtain⟨b,j,l,m⟩:=Cg d p hd k (a+1) (by omega) (by omega)
    refine⟨b,?_,l,?_⟩
    ·rw[j,e,ET p q w]
     omega
    ·rw[<- m]
     cases p with
     | false =>
      conv=>lhs;rw[aB tH rfl]
      simp only[go_sem,f,i,h,x,u]
      try rfl
     | true =>
      have A:¬ (c.toNat:Int)=92:=by rw[i92];exact λz=>w ⟨rfl,z⟩
      conv=>lhs;rw[aB tH rfl]
      simp only[go_sem,f,i,h,x,A,u]
      try rfl
def Jv(d:Bs)(p:Bool)(hd:d.length<=50000)(g:n<=d.length):G9 183 [.str d,.int .i64 n,.bool p] []=some (.int .i64 ((n+leN p (d.drop n):Nat):Int),[]):=by
 obtain⟨c,a,f,e⟩:=Cg d p hd d.length n (by omega) (by omega);rw[show min n d.length=n by omega] at a;have b:=mmn c d.length;rw[a] at b;refine aA Fq ?_;simp only[Fq,go_sem,e,b]
 try rfl
def Js:G9 184 [.int .u8 107] []=some (.bool true,[]):=by
 refine aA L8 ?_;simp only[L8,go_sem]
 try rfl
def Ju(h:49<=k/\k<=51):G9 184 [.int .u8 k] []=some (.bool true,[]):=by
 have:k=49\/k=50\/k=51:=by omega
 refine aA L8 ?_;rcases this with rfl | rfl | rfl<;>simp only[L8,go_sem]<;>rfl
def Jt:G9 184 [.int .u8 61] []=some (.bool false,[]):=by
 refine aA L8 ?_;simp only[L8,go_sem]
 try rfl
def exL(h:fu=some (.ret,ST dz [] []))(h2:aF .any dz 4=.bool true):∃ dz,fu=some (.ret,ST dz [] [])/\aF .any dz 4=.bool true:=⟨dz,h,h2⟩
def Ox(o:Own)(ps:List Pt)(key:Bs)(j:ps.length<=1000000):∀ (k i:Nat),i+k=ps.length ->
  (∃ b,aC G9 oO (ST [(0,.sl o 3 (pts ps)),(1,.str key),(7,.int .i64 ps.length),(8,.int .i64 i)] [] [])=some (.ret,ST b [] [])/\aF .any b 4=.bool true) \/
  (∃ b,aC G9 oO (ST [(0,.sl o 3 (pts ps)),(1,.str key),(7,.int .i64 ps.length),(8,.int .i64 i)] [] [])=some (.ex 0,ST b [] [])/\b=[(0,.sl o 3 (pts ps)),(1,.str key),(7,.int .i64 ps.length),(8,.int .i64 ps.length),(9,.bool false)])
 | 0,i,h=>by
  have:i=ps.length:=by omega
  subst this;have l:¬ (ps.length:Int)<ps.length:=by omega
  refine .inr ⟨_,?_,rfl⟩
  rw[aB oO rfl];simp only[go_sem,l]
  try rfl
 | k+1,i,h=>by
  have hi:i<ps.length:=by omega
  have h2:(i:Int)<ps.length:=by omega
  have a:0<=(i:Int):=by omega
  have f:=wI (n:=i) (by omega)
  have hg:ps[i]?=some ps[i]:=ii hi;generalize ps[i]=p at hg;have c:=zY hg;obtain⟨u,g,raw⟩:=p;simp only at c;by_cases q:u=true/\g=key
  ·obtain⟨rfl,rfl⟩:=q
   refine .inl ?_
   apply exL
   case h =>
    rw[aB oO rfl];simp only[go_sem,h2,a,dP,c,pk]
    try rfl
   case h2=>rfl
  ·have e:aC G9 oO (ST [(0,.sl o 3 (pts ps)),(1,.str key),(7,.int .i64 ps.length),(8,.int .i64 i)] [] [])=aC G9 oO (ST [(0,.sl o 3 (pts ps)),(1,.str key),(7,.int .i64 ps.length),(8,.int .i64 (i+1:Nat))] [] []):=by
    cases u with
    | false =>
     conv=>lhs;rw[aB oO rfl]
     simp only[go_sem,h2,a,dP,c,f]
     try rfl
    | true =>
     have d:(g==key)=false:=by
      rw[aa4];exact λz=>q ⟨rfl,z⟩
     conv=>lhs;rw[aB oO rfl]
     simp only[go_sem,h2,a,dP,c,f,d]
     try rfl
   rw[e];exact Ox o ps key j k (i+1) (by omega)
def Xl(bf:Own)(key:Bs)(b:A.length<=1000000):∃ v:Bool,G9 185 [.sl bf 3 (pts A),.str key] []=some (.bool v,[]):=by
 rcases Ox bf A key b A.length 0 (by omega) with ⟨c,e,a⟩ | ⟨c,e,rfl⟩
 ·rw[show ((0:Nat):Int)=0 from rfl] at e
  refine⟨true,?_⟩;refine aA YH ?_;simp only[YH,go_sem,dP,e,a]
  try rfl
 ·rw[show ((0:Nat):Int)=0 from rfl] at e
  refine⟨false,?_⟩;refine aA YH ?_;simp only[YH,go_sem,dP,e]
  try rfl
abbrev vP:=Bs×Bs×Bs×Bs
def fE(r:vP):Bs:=60::((r.1++r.2.1)++62::(r.2.2.1++(60::47::(r.1++62::r.2.2.2))))
structure OkM (r:vP):Prop where
 nm:r.1=[112]\/r.1=[108,105]\/r.1=[116,105,116,108,101]
 at_:r.2.1=[]\/r.2.1=[32,99,61,34,49,34]
 cl:clM r.2.2.1=true
 tl:r.2.2.2=[]\/r.2.2.2=[10]\/r.2.2.2=[60,104,114,47,62]
def eC:Bs->List vP->Nat->List Pt
 | sk,[],_=>[(false,[],sk)]
 | sk,r::rs,n=>(false,[],sk++60::((r.1++r.2.1)++[62]))::(true,Nt.dec (n+1),r.2.2.1)::eC (60::47::(r.1++62::r.2.2.2)) rs (n+1)
def mJ(h:i=u++bc):i.drop u.length=bc:=by rw[h,ae3]
def eI(h:i=u++p::bc):i[u.length]?=some p:=by rw[h];simp
def Ks(d:Bs)(b:Bool)(fr n:Nat)(a tg rest:Bs)(k:Int)(u:Bs)(hd:d.length<=50000)(c:d=a++(60::(tg++62::rest)))(f:(62:UInt8) ∉ tg)(o:rtK tg=(k,u))(p:rtV k u=true)(l:eD (aH u)=false)(e:tg.head?≠some 33)(g:tg≠[]):
  aC G9 c7 (SM d b A fr a.length n)=aC G9 c7 (SM d b A fr (a.length+tg.length+2) n):=by
 have r:d.length=a.length+tg.length+rest.length+2:=by
  have:=pz List.length c
  simp at this;omega
 have m:X6 d a.length:=by
  refine .inl ?_
  rw[mJ c];intro q;obtain⟨w,i⟩:=q
  cases tg with
  | nil=>exact g rfl
  | cons v tg =>
   simp only[ko,aa1] at i;exact e (by rw[am1,<- i.2.1])
 have h:tgR (tg++62::rest)=some ((k,u,0),tg.length+2):=by
  unfold tgR;rw[vB _ f];simp only[o];rw[iw p]
 have:=zl d (U:=b) (A:=A) fr a.length n (s:=(k,u,0)) (j:=tg.length+2) (by omega) hd (eI c) m (mJ c) h l
 rw[this,La]
def Kq(j:Nat)(tl:Bs)(hd:i.length<=50000)(a:i=u++(tl++bc))(h:tl=[]\/tl=[10]\/tl=[60,104,114,47,62]):
  aC G9 c7 (SM i U A j u.length n)=aC G9 c7 (SM i U A j (u.length+tl.length) n):=by
 rcases h with rfl | rfl | rfl
 ·rfl
 ·have b:i.length=u.length+bc.length+1:=by
   have:=pz List.length a
   simp at this;omega
  exact SX i U (A:=A) j u.length n (by omega) hd 10 (eI a) (by decide)
 ·exact Ks i U (A:=A) j n u [104,114,47] bc 4 [104,114] hd a (by decide) rfl (by decide) (by decide) (by decide) (by decide)
def vk(d:Bs)(hd:d.length<=50000):∀ (rs:List vP) (b:Bool) (ps:List Pt) (fr n:Nat) (a:Bs),(∀ r∈rs,OkM r)->d=a++rs.flatMap fE->fr<=a.length->ps.length=2*n->n+rs.length<=900 ->
  ((∃ r∈rs,dcd 1 r.2.2.1=none)/\ErM (aC G9 c7 (SM d b ps fr a.length n)))\/∃ o ps' c n',(∀ r∈rs,∃ g cc,dcd 1 r.2.2.1=some (g,cc))/\c<=d.length/\ps'.length<=1800/\ps'++[(false,[],d.drop c)]=ps++eC (a.drop fr) rs n/\aC G9 c7 (SM d b ps fr a.length n)=aC G9 c7 (SM d o ps' c d.length n')
 | [],b,ps,fr,n,a,p,f,h,s,u=>by
  rw[ae5,ka] at f;subst f;exact .inr ⟨b,ps,fr,n,(λr k=>by cases k),h,by omega,rfl,rfl⟩
 | r::rs,b,ps,fr,n,a,p,f,h,s,u=>by
  obtain⟨nm,at_,raw,tl⟩:=r;obtain⟨o1,o2,o3,v⟩:=p _ (wa);simp only at o1 o2 o3 v;simp only[jd] at u;have C:(62:UInt8) ∉ nm++at_/\rtK (nm++at_)=(2,nm++at_)/\isC (nm++at_)=true/\aH (nm++at_)=nm/\eD nm=true/\(nm++at_).head?≠some 33:=by
   rcases o1 with rfl | rfl | rfl<;>rcases o2 with rfl | rfl<;>decide
  obtain⟨L,M,N,O,P,w6⟩:=C;have j:d=a++(60::((nm++at_)++62::(raw++(60::47::(nm++62::(tl++rs.flatMap fE)))))):=by
   rw[f,sb];simp [fE]
  rcases Ep (bc:=d) (U:=b) (A:=ps) fr n a (nm++at_) raw nm (tl++rs.flatMap fE) hd j L M N O P w6 o3 h (by omega) (by omega) with ⟨I,q⟩ | ⟨g,cc,J,K⟩
  ·exact .inl ⟨⟨_,wa,I⟩,q⟩
  ·have l:d=(a++(60::((nm++at_)++62::(raw++(60::47::(nm++[62]))))))++(tl++rs.flatMap fE):=by rw[j];simp
   have m:d=(a++fE (nm,at_,raw,tl))++rs.flatMap fE:=by rw[f,sb,kb]
   have w:a.length+(nm++at_).length+2+raw.length+nm.length+3=(a++(60::((nm++at_)++62::(raw++(60::47::(nm++[62])))))).length:=by simp;omega
   have x:(a++(60::((nm++at_)++62::(raw++(60::47::(nm++[62])))))).length+tl.length=(a++fE (nm,at_,raw,tl)).length:=by simp [fE];omega
   rw[K,w,Kq (i:=d) (U:=true) _ (n:=n+1) tl hd l v,x];have y:(a++60::((nm++at_)++[62])).drop fr=a.drop fr++60::((nm++at_)++[62]):=ag8 h;have B:(a++fE (nm,at_,raw,tl)).drop (a.length+(nm++at_).length+2+raw.length)=60::47::(nm++62::tl):=by
    have e:a++fE (nm,at_,raw,tl)=(a++(60::((nm++at_)++62::raw)))++(60::47::(nm++62::tl)):=by simp [fE]
    rw[e];exact af6 (by simp;omega)
   rcases vk d hd rs true (ps++[(false,[],(a++60::((nm++at_)++[62])).drop fr),(true,Nt.dec (n+1),raw)]) (a.length+(nm++at_).length+2+raw.length) (n+1) (a++fE (nm,at_,raw,tl)) (λr k=>p r (xa _ k)) m (by simp [fE];omega) (by simp;omega) (by omega) with ⟨⟨z,Q,R⟩,q⟩ | ⟨o,ps',c,n',D,E,F,G,H⟩
   ·exact .inl ⟨⟨z,xa _ Q,R⟩,q⟩
   ·refine .inr ⟨o,ps',c,n',?_,E,F,?_,H⟩
    ·intro r k
     rcases la.1 k with rfl | k
     ·exact⟨g,cc,J⟩
     ·exact D r k
    ·rw[G,y,B]
     simp [eC]
def hdM(h:Bs):Prop:=h=[]\/h=[60,104,116,109,108,62]\/h=[60,33,45,45,32,60,112,62,32,45,45,62,120]
def Qc(ps:List Pt)(fr n:Nat)(h rest:Bs)(hd:i.length<=50000)(c:hdM h)(a:i=h++rest):
  aC G9 c7 (SM i U ps fr 0 n)=aC G9 c7 (SM i U ps fr h.length n):=by
 rcases c with rfl | rfl | rfl
 ·rfl
 ·exact Ks i U (A:=ps) fr n [] [104,116,109,108] rest 2 [104,116,109,108] hd a (by decide) rfl (by decide) (by decide) (by decide) (by decide)
 ·have f:i.length=rest.length+13:=by
   have:=pz List.length a
   simp at this;omega
  have b:fnd [45,45,62] (i.drop (0+4)) (0+4)=(9:Nat):=by
   rw[a]
   exact pO (t:=[45,45,62]) (s:=[45,45,62,120]++rest) ⟨120::rest,rfl⟩ [32,60,112,62,32] 4 (by
    intro j d
    have:j=0\/j=1\/j=2\/j=3\/j=4:=by simp at d;omega
    rcases this with rfl | rfl | rfl | rfl | rfl<;>(rintro ⟨u,e⟩;simp at e))
  rw[zm (i:=i) (U:=U) (A:=ps) fr 0 n 9 (by omega) hd (by rw[a];rfl) (by rw[a];exact⟨[32,60,112,62,32,45,45,62,120]++rest,rfl⟩) b (by omega)];exact SX i U (A:=ps) fr 12 n (by omega) hd 120 (by rw[a];rfl) (by decide)
def clS:Bs->Bool
 | []=>true
 | [c]=>c != 34
 | c::e::t=>if c=34 then (e==34&&clS t) else clS (e::t)
def A0(a:p≠34):clS (p::i)=clS i:=by
 cases i with
 | nil=>simp [clS,a]
 | cons e i=>rw[clS,ie a]
def O1:clS (34::34::i)=clS i:=by rw[clS,iw rfl];rfl
def yW{P:Bs->Prop}(b:P [])(d:∀ c t,c≠34->clS t=true->P t->P (c::t))(f:∀ t,clS t=true->P t->P (34::34::t)):∀ (k:Nat) (x:Bs),x.length<=k->clS x=true->P x
 | _,[],_,_=>b
 | 0,c::t,h,_=>by simp at h
 | k+1,c::t,h,a=>by
  simp only[jd] at h;by_cases g:c=34
  ·subst g
   cases t with
   | nil=>exact absurd a (by decide)
   | cons e t =>
    simp only[jd] at h;by_cases i:e=34
    ·subst i
     rw[O1] at a;exact f t a (yW b d f k t (by omega) a)
    ·rw[clS,iw rfl] at a
     simp [i] at a
  ·rw[A0 g] at a
   exact d c t g a (yW b d f k t (by omega) a)
def qc(d:clS i=true)(e:clS u=true):clS (i++u)=true:=
 yW (P:=λi=>clS (i++u)=true) e (λc t b _ a=>by rw[ko,A0 b];exact a) (λt _ a=>by rw[ko,ko,O1];exact a) i.length i (ji _) d
def i44:((p.toNat:Int)=44)=(p=44):=tIx p 44 44 rfl
def Ov(d t:Bs)(hd:d.length<=50000)(x:t.head?≠some 34)(r:clS bc=true):∀ a:Bs,d=a++(bc++34::t) ->
  aC G9 tG (ST [(0,.str d),(7,.bool true),(8,.int .i64 a.length),(20,.bool true)] [] [])=some (.ex 0,ST [(0,.str d),(7,.bool true),(8,.int .i64 (a.length+bc.length:Nat)),(20,.bool true),(46,.bool false)] [] []):=by
 have j:((34:UInt8).toNat:Int)=34:=rfl
 refine yW (P:=λbc=>∀ a:Bs,d=a++(bc++34::t) ->
  aC G9 tG (ST [(0,.str d),(7,.bool true),(8,.int .i64 a.length),(20,.bool true)] [] [])=some (.ex 0,ST [(0,.str d),(7,.bool true),(8,.int .i64 (a.length+bc.length:Nat)),(20,.bool true),(46,.bool false)] [] [])) ?_ ?_ ?_ bc.length bc (ji _) r
 ·intro a b
  rw[kg] at b;rw[jz,rh];have s:d.length=a.length+t.length+1:=by
   have:=pz List.length b
   simp at this;omega
  have m:d[a.length]?=some 34:=eI b;have o:(a.length:Int)<d.length:=by omega
  have l:0<=(a.length:Int):=by omega
  have q:=wI (n:=a.length) (by omega)
  cases t with
  | nil =>
   simp only[jz] at s;have f:¬ ((a.length+1:Nat):Int)<(d.length:Int):=by omega
   rw[aB tG rfl];simp only[go_sem,o,l,m,j,q,f]
   try rfl
  | cons e t =>
   simp only[jd] at s;have f:((a.length+1:Nat):Int)<(d.length:Int):=by omega
   have h:(0:Int)<=((a.length+1:Nat):Int):=by omega
   have k:d[a.length+1]?=some e:=by
    have:=eI (i:=d) (u:=a++[34]) (bc:=t) (p:=e) (by rw[b];simp)
    rwa [jb,jy] at this
   have g:¬ (e.toNat:Int)=34:=by
    rw[i34];intro z;exact x (by rw[z];rfl)
   rw[aB tG rfl];simp only[go_sem,o,l,m,j,q,f,h,k,g]
   try rfl
 ·intro c u g _ w a b
  have m:d[a.length]?=some c:=eI b;have s:d.length=a.length+u.length+t.length+2:=by
   have:=pz List.length b
   simp at this;omega
  have o:(a.length:Int)<d.length:=by omega
  have l:0<=(a.length:Int):=by omega
  have q:=wI (n:=a.length) (by omega)
  have g:¬ (c.toNat:Int)=34:=by rw[i34];exact g
  have:=w (a++[c]) (by rw[b];simp)
  rw[jb,jy] at this;rw[jd,show a.length+(u.length+1)=a.length+1+u.length by omega,<- this]
  conv=>lhs;rw[aB tG rfl]
  simp only[go_sem,o,l,m,q,g]
  try rfl
 ·intro u _ w a b
  have m:d[a.length]?=some 34:=eI b;have k:d[a.length+1]?=some 34:=by
   have:=eI (i:=d) (u:=a++[34]) (bc:=u++34::t) (p:=34) (by rw[b];simp)
   rwa [jb,jy] at this
  have s:d.length=a.length+u.length+t.length+3:=by
   have:=pz List.length b
   simp at this;omega
  have o:(a.length:Int)<d.length:=by omega
  have f:((a.length+1:Nat):Int)<(d.length:Int):=by omega
  have l:0<=(a.length:Int):=by omega
  have h:(0:Int)<=((a.length+1:Nat):Int):=by omega
  have q:=wI (n:=a.length) (by omega)
  have v:IntKind.i64.wrap (((a.length+1:Nat):Int)+1)=(a.length+2:Nat):=by rw[w6 (by omega)];rfl
  have:=w (a++[34,34]) (by rw[b];simp)
  rw[show (a++[(34:UInt8),34]).length=a.length+2 by simp] at this;rw[jd,jd,show a.length+(u.length+1+1)=a.length+2+u.length by omega,<- this]
  conv=>lhs;rw[aB tG rfl]
  simp only[go_sem,o,l,m,j,q,f,h,k,v]
  try rfl
def IM(t:Bs):Prop:=t=[]\/t.head?=some 44\/t.head?=some 10
def IM.no(h:IM i):i.head?≠some 34:=by
 rcases h with rfl | h | h
 ·simp
 ·rw[h];decide
 ·rw[h];decide
def ww(d t:Bs)(hd:d.length<=50000)(m:IM t):∀ (x a:Bs),(∀ c∈x,c≠34/\c≠44/\c≠10)->d=a++(x++t) ->
  aC G9 w9 (ST [(0,.str d),(7,.bool false),(8,.int .i64 a.length),(20,.bool false)] [] [])=some (.ex 2,ST [(0,.str d),(7,.bool false),(8,.int .i64 (a.length+x.length:Nat)),(20,.bool false),(82,.bool false)] [] [])
 | [],a,l,b=>by
  rw[kg] at b;rw[jz,rh];have g:0<=(a.length:Int):=by omega
  cases t with
  | nil =>
   have f:¬ (a.length:Int)<d.length:=by rw[b];simp
   rw[aB w9 rfl];simp only[go_sem,f]
   try rfl
  | cons e t =>
   have i:d[a.length]?=some e:=eI b;have f:(a.length:Int)<d.length:=by rw[b];simp;omega
   have k:((44:UInt8).toNat:Int)=44:=rfl;have j:((10:UInt8).toNat:Int)=10:=rfl;rcases m with h | h | h
   ·cases h
   ·simp at h
    subst h;rw[aB w9 rfl];simp only[go_sem,f,g,i,k]
    try rfl
   ·simp at h
    subst h;rw[aB w9 rfl];simp only[go_sem,f,g,i,j]
    try rfl
 | c::x,a,l,b=>by
  have i:d[a.length]?=some c:=eI b;have y:d.length=a.length+x.length+t.length+1:=by
   have:=pz List.length b
   simp at this;omega
  have f:(a.length:Int)<d.length:=by omega
  have g:0<=(a.length:Int):=by omega
  have o:=wI (n:=a.length) (by omega)
  obtain⟨u,v,w⟩:=l c (wa);have q:¬ (c.toNat:Int)=34:=by rw[i34];exact u
  have r:¬ (c.toNat:Int)=44:=by rw[i44];exact v
  have s:¬ (c.toNat:Int)=10:=by rw[i10];exact w
  have:=ww d t hd m x (a++[c]) (λz p=>l z (xa _ p)) (by rw[b];simp)
  rw[jb,jy] at this;rw[jd,show a.length+(x.length+1)=a.length+1+x.length by omega,<- this]
  conv=>lhs;rw[aB w9 rfl]
  simp only[go_sem,f,g,i,o,q,r,s]
  try rfl
def uq(d a raw t:Bs)(hd:d.length<=50000)(b:d=a++(34::(raw++34::t)))(l:clS raw=true)(A:IM t):G9 186 [.str d,.int .i64 a.length] []=some (.tup [.int .i64 (a.length+raw.length+2:Nat),.bool true,.bool true],[]):=by
 have y:d.length=a.length+raw.length+t.length+2:=by
  have:=pz List.length b
  simp at this;omega
 have m:=Ov d t hd A.no l (a++[34]) (by rw[b];simp);rw[jb,jy] at m;have c:((34:UInt8).toNat:Int)=34:=rfl;have s:((44:UInt8).toNat:Int)=44:=rfl;have r:((10:UInt8).toNat:Int)=10:=rfl;have v:d[a.length]?=some 34:=eI b;have w:(a.length:Int)<d.length:=by omega
 have q:0<=(a.length:Int):=by omega
 have x:=wI (n:=a.length) (by omega)
 have hg:¬ (d.length:Int)<=(a.length+1+raw.length:Nat):=by omega
 have f:IntKind.i64.wrap (((a.length+1+raw.length:Nat):Int)+1)=(a.length+raw.length+2:Nat):=by rw[w6 (by omega)];omega
 have g:(0:Int)<=((a.length+raw.length+2:Nat):Int):=by omega
 refine aA F1 ?_
 cases t with
 | nil =>
  have o:((a.length+raw.length+2:Nat):Int)=(d.length:Int):=by simp only[jz] at y;omega
  simp only[F1,go_sem,w,q,v,c,x,m,hg,f,o]
  try rfl
 | cons e t =>
  simp only[jd] at y;have o:¬ ((a.length+raw.length+2:Nat):Int)=(d.length:Int):=by omega
  have k:((a.length+raw.length+2:Nat):Int)<(d.length:Int):=by omega
  have j:d[a.length+raw.length+2]?=some e:=by
   have:=eI (i:=d) (u:=a++34::(raw++[34])) (bc:=t) (p:=e) (by rw[b];simp)
   rwa [show (a++34::(raw++[(34:UInt8)])).length=a.length+raw.length+2 by simp;omega] at this
  rcases A with h | h | h
  ·cases h
  ·simp at h
   subst h;simp only[F1,go_sem,w,q,v,c,x,m,hg,f,o,g,k,j,s]
   try rfl
  ·simp at h
   subst h;simp only[F1,go_sem,w,q,v,c,x,m,hg,f,o,g,k,j,r]
   try rfl
def tO(d a x t:Bs)(hd:d.length<=50000)(b:d=a++(x++t))(C:∀ c∈x,c≠34/\c≠44/\c≠10)(v:x≠[])(B:IM t):G9 186 [.str d,.int .i64 a.length] []=some (.tup [.int .i64 (a.length+x.length:Nat),.bool false,.bool true],[]):=by
 have A:d.length=a.length+x.length+t.length:=by
  have:=pz List.length b
  simp at this;omega
 have o:=ww d t hd B x a C b;have n:((44:UInt8).toNat:Int)=44:=rfl;have m:((10:UInt8).toNat:Int)=10:=rfl;obtain⟨c,q,r,D⟩:∃ c:UInt8,d[a.length]?=some c/\c≠34/\1<=x.length:=by
  cases x with
  | nil=>exact absurd rfl v
  | cons c y=>exact⟨c,eI b,(C c (wa)).1,by simp⟩
 have w:¬ (c.toNat:Int)=34:=by rw[i34];exact r
 have s:(a.length:Int)<d.length:=by omega
 have l:0<=(a.length:Int):=by omega
 have f:(0:Int)<=((a.length+x.length:Nat):Int):=by omega
 refine aA F1 ?_
 cases t with
 | nil =>
  have k:((a.length+x.length:Nat):Int)=(d.length:Int):=by simp only[jz] at A;omega
  simp only[F1,go_sem,s,l,q,w,o,k]
  try rfl
 | cons e t =>
  simp only[jd] at A;have k:¬ ((a.length+x.length:Nat):Int)=(d.length:Int):=by omega
  have j:((a.length+x.length:Nat):Int)<(d.length:Int):=by omega
  have g:d[a.length+x.length]?=some e:=by
   have:=eI (i:=d) (u:=a++x) (bc:=t) (p:=e) (by rw[b];simp)
   rwa [jb] at this
  rcases B with h | h | h
  ·cases h
  ·simp at h
   subst h;simp only[F1,go_sem,s,l,q,w,o,k,f,j,g,n]
   try rfl
  ·simp at h
   subst h;simp only[F1,go_sem,s,l,q,w,o,k,f,j,g,m]
   try rfl
def SR(d:Bs)(b:Bool)(ps:List Pt)(fr a:Nat):AS:=ST [(0,.str d),(5,.ptr 0 0),(6,.int .i64 a)] [] [[.str d,.sl (md b) 3 (pts ps),.int .i64 fr]]
def endR(n a:Nat)(c:¬ a<i.length):aC G9 fS (SR i U A n a)=some (.ex 0,ST [(0,.str i),(5,.ptr 0 0),(6,.int .i64 a),(20,.bool false)] [] [[.str i,.sl (md U) 3 (pts A),.int .i64 n]]):=by
 have b:¬ (a:Int)<i.length:=by omega
 unfold SR;rw[aB fS rfl];simp only[go_sem,b]
 try rfl
def VM(d:Bs)(b:Bool)(ps:List Pt)(fr a:Nat)(hd:d.length<=50000):∀ (bl e rest:Bs),d=e++(bl++rest)->(∀ c∈bl,c=32\/c=9)->(∀ c,rest.head?=some c->c≠32/\c≠9) ->
  aC G9 xD (ST [(0,.str d),(5,.ptr 0 0),(6,.int .i64 a),(7,.int .i64 e.length),(20,.bool true)] [] [[.str d,.sl (md b) 3 (pts ps),.int .i64 fr]])=some (.ex 2,ST [(0,.str d),(5,.ptr 0 0),(6,.int .i64 a),(7,.int .i64 (e.length+bl.length:Nat)),(20,.bool true),(37,.bool false)] [] [[.str d,.sl (md b) 3 (pts ps),.int .i64 fr]])
 | [],e,rest,f,k,l=>by
  rw[kg] at f;rw[jz,rh];have i:0<=(e.length:Int):=by omega
  cases rest with
  | nil =>
   have g:¬ (e.length:Int)<d.length:=by rw[f];simp
   rw[aB xD rfl];simp only[go_sem,g]
   try rfl
  | cons c rest =>
   have j:=eI f;have g:(e.length:Int)<d.length:=by rw[f];simp;omega
   obtain⟨u,v⟩:=l c rfl;have r:¬ (c.toNat:Int)=32:=by rw[i32];exact u
   have s:¬ (c.toNat:Int)=9:=by rw[i9];exact v
   rw[aB xD rfl];simp only[go_sem,g,i,j,r,s]
   try rfl
 | c::bl,e,rest,f,k,l=>by
  have j:=eI f;have i:0<=(e.length:Int):=by omega
  have w:e.length<d.length:=by rw[f];simp
  have g:(e.length:Int)<d.length:=by omega
  have o:=wI (n:=e.length) (by omega)
  have p:=VM d b ps fr a hd bl (e++[c]) rest (by rw[f];simp) (λx q=>k x (xa _ q)) l;rw[show (e++[c]).length=e.length+1 by simp] at p;rw[show e.length+(c::bl).length=e.length+1+bl.length by simp;omega,<- p];have h:((32:UInt8).toNat:Int)=32:=rfl;have m:((9:UInt8).toNat:Int)=9:=rfl;rcases k c (wa) with rfl | rfl
  ·conv=>lhs;rw[aB xD rfl]
   simp only[go_sem,g,i,j,h,o]
   try rfl
  ·conv=>lhs;rw[aB xD rfl]
   simp only[go_sem,g,i,j,m,o]
   try rfl
def H1:∀ (x t:Bs),(∀ c∈x,c≠10)->leN false (x++10::t)=x.length
 | [],t,_=>EU false t
 | c::x,t,h=>by
  rw[ko,ET false (h c (wa)) (by simp),H1 x t (λz a=>h z (xa _ a)),jd];omega
def zJ(d:Bs)(b:Bool)(ps:List Pt)(fr:Nat)(a bl f rest:Bs)(hd:d.length<=50000)(l:d=a++(bl++(f++10::rest)))(E:∀ c∈bl,c=32\/c=9)(m:f=[]\/f.head?=some 35)(q:∀ c∈f,c≠10):
  aC G9 fS (SR d b ps fr a.length)=aC G9 fS (SR d b ps fr (a.length+bl.length+f.length+1)):=by
 have D:d.length=a.length+bl.length+f.length+rest.length+1:=by
  have:=pz List.length l
  simp at this;omega
 have C:(a.length:Int)<d.length:=by omega
 have r:((a.length+bl.length:Nat):Int)<(d.length:Int):=by omega
 have s:¬ (d.length:Int)<=(a.length+bl.length:Nat):=by omega
 have A:(0:Int)<=((a.length+bl.length:Nat):Int):=by omega
 have B:=VM d b ps fr a.length hd bl a (f++10::rest) l E (by
  intro c k;rcases m with rfl | h
  ·simp at k;subst k;decide
  ·cases f with
   | nil=>simp at h
   | cons e f=>simp at h k;subst h;subst k;decide)
 have j:d=(a++bl)++(f++10::rest):=by rw[l];simp
 have o:=mJ j;rw[jb] at o;have g:=Jv d false (n:=a.length+bl.length) hd (by omega);rw[o,H1 f rest q] at g;have y:IntKind.i64.wrap (((a.length+bl.length+f.length:Nat):Int)+1)=(a.length+bl.length+f.length+1:Nat):=by rw[w6 (by omega)];rfl
 have k:∃ c:UInt8,d[a.length+bl.length]?=some c/\(c=10\/c=35):=by
  rcases m with rfl | h
  ·refine⟨10,?_,.inl rfl⟩
   have:=eI (i:=d) (u:=a++bl) (bc:=rest) (p:=10) (by rw[j];rfl)
   rwa [jb] at this
  ·cases f with
   | nil=>simp at h
   | cons e f =>
    simp at h;subst h;refine⟨35,?_,.inr rfl⟩
    have:=eI (i:=d) (u:=a++bl) (bc:=f++10::rest) (p:=35) (by rw[j];rfl)
    rwa [jb] at this
 obtain⟨c,k,x⟩:=k
 clear m l j o D q
 generalize f.length=cl at g y ⊢;unfold SR;rcases x with rfl | rfl
 ·have v:((10:UInt8).toNat:Int)=10:=rfl
  conv=>lhs;rw[aB fS rfl]
  simp only[go_sem,C,B,r,s,A,k,v,g,y]
  try rfl
 ·have w:((35:UInt8).toNat:Int)=35:=rfl
  conv=>lhs;rw[aB fS rfl]
  simp only[go_sem,C,B,r,s,A,k,w,g,y]
  try rfl
def prR:Bs->Bool
 | []=>true
 | [c]=>c != 10&&c != 92
 | c::e::t=>if c=10 then false else if c=92 then prR t else prR (e::t)
def uD(a:p≠10)(b:p≠92):prR (p::i)=prR i:=by
 cases i with
 | nil=>simp [prR,a,b]
 | cons e i=>rw[prR,ie a,ie b]
def uC:prR (92::p::i)=prR i:=by rw[prR,ie (by decide),iw rfl]
def As:prR (10::i)=false:=by cases i<;>simp [prR]
def yL{P:Bs->Prop}(b:P [])(d:∀ c t,c≠10->c≠92->prR t=true->P t->P (c::t))(f:∀ e t,prR t=true->P t->P (92::e::t)):∀ (k:Nat) (x:Bs),x.length<=k->prR x=true->P x
 | _,[],_,_=>b
 | 0,c::t,h,_=>by simp at h
 | k+1,c::t,h,a=>by
  simp only[jd] at h;by_cases g:c=10
  ·subst g;rw[As] at a;cases a
  by_cases i:c=92
  ·subst i
   cases t with
   | nil=>exact absurd a (by decide)
   | cons e t =>
    simp only[jd] at h;rw[uC] at a;exact f e t a (yL b d f k t (by omega) a)
  ·rw[uD g i] at a
   exact d c t g i a (yL b d f k t (by omega) a)
def ND(f:prR i=true)(g:prR u=true):prR (i++u)=true:=
 yL (P:=λi=>prR (i++u)=true) g (λc t b d _ a=>by rw[ko,uD b d];exact a) (λe t _ a=>by rw[ko,ko,uC];exact a) i.length i (ji _) f
def Bw(f:prR i=true):leN true (i++10::bc)=i.length:=
 yL (P:=λi=>leN true (i++10::bc)=i.length) (EU true bc) (λc u b d _ a=>by rw[ko,ET true b (λz=>d z.2),a,jd];omega) (λe u _ a=>by rw[ko,ko,N3,a,jd,jd];omega) i.length i (ji _) f
def Pg(bc cy:Bs)(m:49<=(p.toNat:Int)/\(p.toNat:Int)<=51)(hd:u.length<=50000)(a:u=bc++(107::p::61::cy)):
  aC G9 BP (ST [(0,.str u),(5,.ptr 0 0),(6,.int .i64 bc.length),(7,.int .i64 bc.length),(20,.bool true),(37,.bool false),(55,.bool false)] [] [[.str u,.sl (md U) 3 (pts A),.int .i64 n]])=some (.ex 4,ST [(0,.str u),(5,.ptr 0 0),(6,.int .i64 bc.length),(7,.int .i64 (bc.length+2:Nat)),(20,.bool true),(37,.bool false),(55,.bool false),(76,.bool false)] [] [[.str u,.sl (md U) 3 (pts A),.int .i64 n]]):=by
 have w:u.length=bc.length+cy.length+3:=by
  have:=pz List.length a
  simp at this;omega
 have d:u[bc.length]?=some 107:=eI a;have e:u[bc.length+1]?=some p:=by
  have:=eI (i:=u) (u:=bc++[107]) (bc:=61::cy) (p:=p) (by rw[a];simp)
  rwa [jb,jy] at this
 have f:u[bc.length+1+1]?=some 61:=by
  have:=eI (i:=u) (u:=bc++[107,p]) (bc:=cy) (p:=61) (by rw[a];simp)
  rwa [jb] at this
 have b:((107:UInt8).toNat:Int)=107:=rfl;have c:((61:UInt8).toNat:Int)=61:=rfl;have n0:0<=(bc.length:Int):=by omega
 have r:(0:Int)<=((bc.length+1:Nat):Int):=by omega
 have s:(0:Int)<=((bc.length+1+1:Nat):Int):=by omega
 have o:(bc.length:Int)<u.length:=by omega
 have q:((bc.length+1:Nat):Int)<(u.length:Int):=by omega
 have m2:((bc.length+1+1:Nat):Int)<(u.length:Int):=by omega
 have w0:=wI (n:=bc.length) (by omega)
 have v:IntKind.i64.wrap (((bc.length+1:Nat):Int)+1)=(bc.length+1+1:Nat):=by rw[w6 (by omega)];rfl
 have w6:IntKind.i64.wrap ((bc.length:Int)+64)=(bc.length+64:Nat):=by rw[w6 (by omega)];rfl
 have l:(bc.length:Int)<(bc.length+64:Nat):=by omega
 have b1:((bc.length+1:Nat):Int)<((bc.length+64:Nat):Int):=by omega
 have b2:((bc.length+1+1:Nat):Int)<((bc.length+64:Nat):Int):=by omega
 have h:=Ju (k:=(p.toNat:Int)) m;have g:=Js;have j:=Jt;rw[show bc.length+2=bc.length+1+1 from rfl];rw[aB BP rfl];simp only[go_sem,n0,o,d,w6,l,b,g,w0];rw[aB BP rfl];simp only[go_sem,r,q,e,w6,b1,h,v];rw[aB BP rfl];simp only[go_sem,s,m2,f,w6,b2,c,j]
 try rfl
def zh(u bc cy:Bs)(O:49<=(p.toNat:Int)/\(p.toNat:Int)<=51)(hd:i.length<=50000)(a:i=u++(107::p::61::(bc++10::cy)))(x:prR bc=true)(N:n<=u.length)(B:A.length<=1000000):
  ErM (aC G9 fS (SR i U A n u.length))\/(∃ g cc,dcd 2 bc=some (g,cc)/\aC G9 fS (SR i U A n u.length)=aC G9 fS (SR i true (A++[(false,[],(u++[107,p,61]).drop n),(true,[107,p],bc)]) (u.length+3+bc.length) (u.length+3+bc.length+1))):=by
 have T:i.length=u.length+bc.length+cy.length+4:=by
  have:=pz List.length a
  simp at this;omega
 have F:(u.length:Int)<i.length:=by omega
 have C:=VM i U A n u.length hd [] u _ (by rw[kg];exact a) (λc x=>by cases x) (by
  intro c x;simp at x;subst x
  decide)
 rw[jz,rh] at C;have E:=Pg (u:=i) (U:=U) (A:=A) (n:=n) u (bc++10::cy) (p:=p) O hd a;have m:i[u.length]?=some 107:=eI a;have o:i[u.length+2]?=some 61:=by
  have:=eI (i:=i) (u:=u++[107,p]) (bc:=bc++10::cy) (p:=61) (by rw[a];simp)
  rwa [jb] at this
 have k:i=(u++[107,p,61])++(bc++10::cy):=by rw[a];simp
 have r:=mJ k;have K:(u++[107,p,61]).length=u.length+2+1:=by simp
 rw[K] at r;have e:=Jv i true (n:=u.length+2+1) hd (by omega);rw[r,Bw (bc:=cy) x] at e;have b:((107:UInt8).toNat:Int)=107:=rfl;have l:((61:UInt8).toNat:Int)=61:=rfl;have n0:0<=(u.length:Int):=by omega
 have H:(0:Int)<=((u.length+2:Nat):Int):=by omega
 have I:¬ (i.length:Int)<=u.length:=by omega
 have w:¬ (i.length:Int)<=(u.length+2:Nat):=by omega
 have s:¬ ((u.length+2:Nat):Int)=(u.length:Int):=by omega
 have M:IntKind.i64.wrap (((u.length+2:Nat):Int)+1)=(u.length+2+1:Nat):=by rw[w6 (by omega)];rfl
 have D:=ss3 i u.length (u.length+2) (by omega) (by omega);have P:(i.take (u.length+2)).drop u.length=[107,p]:=by
  rw[aj0,mJ a];rw[show u.length+2-u.length=2 by omega];rfl
 rw[P] at D;have J:=ss3 i (u.length+2+1) (u.length+2+1+bc.length) (by omega) (by omega);have L:(i.take (u.length+2+1+bc.length)).drop (u.length+2+1)=bc:=by
  rw[aj0,r,ac8,ah1]
 rw[L] at J;have Q:(i.take (u.length+2+1)).drop n=(u++[107,p,61]).drop n:=by
  rw[<- K]
  conv=>lhs;rw[k,ah1]
 obtain⟨v,G⟩:=Xl .no (A:=A) [107,p] B
 cases v with
 | true =>
  refine .inl ?_
  unfold SR;apply BT
  case h =>
   rw[aB fS rfl];simp only[go_sem,F,C,E,n0,H,I,w,s,m,o,b,l,D,bV,G]
   try rfl
  case h4=>rfl
  case h5=>rfl
  case h6=>rfl
  case hne=>decide
 | false =>
  cases j:dcd 2 bc with
  | none =>
   refine .inl ?_
   obtain⟨S,ev,y,d⟩:=(J1 2 bc (by omega)).2 j;unfold SR;apply BT
   case h =>
    rw[aB fS rfl];simp only[go_sem,F,C,E,n0,H,I,w,s,m,o,b,l,D,bV,G,M,e,J,d,y]
    try rfl
   case h4=>rfl
   case h5=>rfl
   case h6=>rfl
   case hne=>first | exact y | decide
  | some q =>
   obtain⟨g,cc⟩:=q
   refine .inr ⟨g,cc,rfl,?_⟩
   have d:=(J1 2 bc (by omega)).1 g cc j;have f:=Y7 i [107,p] U A n (u.length+2+1) (u.length+2+1+bc.length) (by omega) (by omega) (by omega) B;rw[L,Q] at f;have R:IntKind.i64.wrap (((u.length+2+1+bc.length:Nat):Int)+1)=(u.length+2+1+bc.length+1:Nat):=by rw[w6 (by omega)];rfl
   unfold SR;rw[show md true=.own from rfl]
   conv=>lhs;rw[aB fS rfl]
   simp only[go_sem,F,C,E,n0,H,I,w,s,m,o,b,l,D,bV,G,M,e,J,d,f,R]
   try rfl
def pA(a:List Bs)(l:List Int)(n:Nat)(m:Int)(c:1<=m)(h:m=(a.length:Int)):∃ x:Bs,x∈a/\(cH a)[(nxt l n m).toNat]?=some [.str x]/\0<=nxt l n m:=by
 have b:=jL l n m c;refine⟨a.getD (nxt l n m).toNat [],?_,?_,b.1⟩
 ·rw[ki,ii (by omega)];exact xd _
 apply gQ;rw[ki,ii (by omega)];rfl
def clF(fm:Int)(s:Bs):Bool:=if fm=1 then clM s else if fm=2 then prR s else clS s
def O3(a:clF k i=true)(b:clF k u=true):clF k (i++u)=true:=by
 unfold clF at a b ⊢;by_cases f1:k=1
 ·rw[iw f1] at *;exact O2 a b
 by_cases f2:k=2
 ·rw[ie f1,iw f2] at *;exact ND a b
 ·rw[ie f1,ie f2] at *;exact qc a b
def qd:clF k []=true:=by unfold clF;split;rfl;split<;>rfl
def W9:clF k (byB k p)=true:=by
 unfold clF byB;by_cases f1:k=1
 ·rw[iw f1,iw f1]
  by_cases a:p=60
  ·rw[iw a];decide
  by_cases b:p=38
  ·rw[ie a,iw b];decide
  by_cases c:p=123
  ·rw[ie a,ie b,iw c];decide
  ·rw[ie a,ie b,ie c];simp [clM,a]
 by_cases f2:k=2
 ·rw[ie f1,ie f1,iw f2,iw f2]
  by_cases a:p=10
  ·rw[iw a];decide
  by_cases b:p=9
  ·rw[ie a,iw b];decide
  by_cases c:p=13
  ·rw[ie a,ie b,iw c];decide
  by_cases d:p=92\/p=123
  ·rw[ie a,ie b,ie c,iw d]
   rw[uC];rfl
  ·rw[ie a,ie b,ie c,ie d]
   have:p≠92:=λq=>d (.inl q)
   rw[uD a this];rfl
 ·rw[ie f1,ie f1,ie f2,ie f2]
  by_cases a:p=34\/p=123
  ·rw[iw a]
   rcases a with rfl | rfl<;>decide
  ·rw[ie a]
   rw[A0 (λq=>a (.inl q))];rfl
def ZO:st (byB k p)<=st [p]:=by
 have e:st [p]=sB p:=by rw[jS,zK];rfl
 have a:∀ d:UInt8,jE d=false->sB d=0:=λd h=>by unfold sB;rw[h];rfl
 rw[e];unfold byB
 repeat' split
 all_goals first
  | exact lv _
  | (rw[jS,zK];exact ji _)
  | (rename_i h;rcases h with rfl | rfl<;>decide)
def L5(fm:Int)(x:It):Prop:=x.1=1\/(x.1=5/\x.2.1∈tbA)\/(fm=1/\((x.1=2/\x.2.1∈tbC)\/(x.1=4/\x.2.1∈tbB)\/(x.1=3/\x.2.1∈([[98],[105],[97]]:List Bs))))
def L5.bad(h:L5 D de):I3 D de=false:=by
 obtain⟨k,s,i⟩:=de;rcases h with h | ⟨h,_⟩ | ⟨rfl,⟨h,a⟩ | ⟨h,a⟩ | ⟨h,a⟩⟩
 ·simp only at h;subst h;rfl
 ·simp only at h;subst h;rfl
 all_goals
  simp only at h a;subst h;unfold I3
  have:eD (aH s)=false:=by
   revert s
   first
    | exact (by decide:∀ s∈tbC,eD (aH s)=false)
    | exact (by decide:∀ s∈tbB,eD (aH s)=false)
    | exact (by decide:∀ s∈([[98],[105],[97]]:List Bs),eD (aH s)=false)
  simp only[this,decide_not,ak2];rfl
def po(f:fmK D)(h:L5 D de)(b:de.1=1->∃ c,de.2.1=[c]):clF D (j9 D de)=true/\(j9 D de).length<=8/\st (j9 D de)<=(if de.1=1 then st de.2.1 else 0):=by
 obtain⟨k,s,i⟩:=de;rcases h with h | ⟨h,a⟩ | ⟨rfl,⟨h,a⟩ | ⟨h,a⟩ | ⟨h,a⟩⟩
 ·simp only at h
  subst h;obtain⟨c,d⟩:=b rfl;simp only at d;subst d;have e:j9 D (1,[c],i)=byB D c:=by simp [j9]
  rw[e,iw rfl];exact⟨W9 (k:=D) (p:=c),by have:=FO D c;omega,ZO (k:=D) (p:=c)⟩
 ·simp only at h a
  subst h;have e:j9 D (5,s,i)=123::(s++[125]):=rfl;rw[e,ie (show ¬ (5:Int)=1 by decide)]
  clear e b
  revert s
  rcases f with rfl | rfl | rfl<;>decide
 ·simp only at h a
  subst h;have e:j9 1 (2,s,i)=60::(s++[62]):=rfl;rw[e,ie (show ¬ (2:Int)=1 by decide)]
  clear e b
  revert s
  decide
 ·simp only at h a
  subst h;have e:j9 1 (4,s,i)=60::(s++[47,62]):=rfl;rw[e,ie (show ¬ (4:Int)=1 by decide)]
  clear e b
  revert s
  decide
 ·simp only at h a
  subst h;have e:j9 1 (3,s,i)=60::47::(s++[62]):=rfl;rw[e,ie (show ¬ (3:Int)=1 by decide)]
  clear e b
  revert s
  decide
def shl:Bs->Bs
 | []=>[]
 | c::u=>if c=32 then 92::115::u else c::u
theorem pF:shl (p::u)=if p=32 then 92::115::u else p::u:=rfl
def az:(shl i).length<=i.length+1:=by
 cases i with
 | nil=>simp [shl]
 | cons c u=>rw[pF];split<;>simp
def zx(h:prR i=true):prR (shl i)=true:=by
 cases i with
 | nil=>rfl
 | cons c u =>
  rw[pF];split
  ·rename_i q
   subst q;rw[uD (by decide) (by decide)] at h;rw[uC];exact h
  ·exact h
def zw:st (shl i)<=st i:=by
 cases i with
 | nil=>exact ji _
 | cons c u =>
  rw[pF];split
  ·rw[jS,jS,jS]
   have a:sB 92=0:=by decide
   have b:sB 115=0:=by decide
   omega
  ·exact ji _
def Xj(f:i.length<=1000000):G9 190 [.str i] []=some (.str (shl i),[]):=by
 refine aA YG ?_
 cases i with
 | nil =>
  simp only[YG,go_sem]
  try rfl
 | cons c u =>
  simp only[jd] at f;have d:=ss1 (c::u) 1 (by simp);rw[show ((1:Nat):Int)=1 from rfl,ab8,kc] at d;have b:(c::u != [])=true:=rfl;by_cases q:c=32
  ·have a:((c.toNat:Int)=32)=True:=by rw[i32];exact ag4 q
   have e:shl (c::u)=92::115::u:=by rw[pF,iw q]
   have g:2+u.length<=140737488355328:=by omega
   rw[e];simp only[YG,go_sem,b,a,d,g]
   try rfl
  ·have a:((c.toNat:Int)=32)=False:=by rw[i32];exact Tx q
   have e:shl (c::u)=c::u:=by rw[pF,ie q]
   rw[e];simp only[YG,go_sem,b,a]
   try rfl
def zb:List Bs:=[[],[32],[9,32]]
theorem mPd:gX 1 [.str []] 3 [0,1,2] [.str [],.str [32],.str [9,32]]=some (.sl .full 1 (cH zb)):=by rfl
def LgO(fm:Int)(t r:Bs):Prop:=(clF fm t=true->clF fm r=true)/\r.length<=t.length+6/\st r<=st t
def LgO.same(fm:Int)(t:Bs):LgO fm t t:=⟨id,by omega,ji _⟩
def Xq(u:fmK D)(k i:Int)(s t:Bs)(L:List Int)(E:n<=900000)(y:t.length<=1000000):
  ∃ r n',n'<=n+1/\LgO D t r/\G9 147 [.ptr 0 0,.int .i64 D,.agg [.int .i64 k,.str s,.int .i64 i],.str t] [num L n]=some (.str r,[num L n']):=by
 rcases u with rfl | rfl | rfl
 ·by_cases a:(s==[62])=true/\k=1
  ·obtain⟨a,rfl⟩:=a
   refine⟨[38,103,116,59],n,by omega,⟨λ_=>by decide,by simp,lv _⟩,?_⟩;refine aA tJ ?_;simp only[tJ,go_sem,a]
   try rfl
  by_cases d:(s==[125])=true/\k=1
  ·obtain⟨d,rfl⟩:=d
   refine⟨[38,114,98,59],n,by omega,⟨λ_=>by decide,by simp,lv _⟩,?_⟩;have a:(s==[62])=false:=by simpa using a
   refine aA tJ ?_;simp only[tJ,go_sem,a,d]
   try rfl
  refine⟨t,n,by omega,LgO.same 1 t,?_⟩;refine aA tJ ?_;by_cases e:k=1
  ·have a:(s==[62])=false:=by simpa [e] using a
   have d:(s==[125])=false:=by simpa [e] using d
   simp only[tJ,go_sem,a,d]
   try rfl
  ·cases j:(s==[62])<;>cases q:(s==[125])<;>simp only[tJ,go_sem,j,q,e]<;>rfl
 ·by_cases a:(s==[32])=true/\k=1
  ·obtain⟨a,rfl⟩:=a
   refine⟨[92,115],n,by omega,⟨λ_=>by decide,by simp,lv _⟩,?_⟩;refine aA tJ ?_;simp only[tJ,go_sem,a]
   try rfl
  obtain⟨x,A,m,g⟩:=pA zb L n 3 (by decide) rfl;have l:x.length<=2/\prR x=true/\st x=0:=(by decide:∀ x∈zb,x.length<=2/\prR x=true/\st x=0) x A;have f:=up (c41 L n 3 (by omega) (by decide) (by decide)) rfl;have b:=Xj (i:=t) y;have v:=az (i:=t);have w:=zw (i:=t);have c:=mS L (n+1);have o:2+x.length<=140737488355328:=by omega
  have p:x.length+1+1+(shl t).length<=140737488355328:=by omega
  refine⟨92::10::(x++shl t),n+1,by omega,⟨λh=>?_,by simp;omega,?_⟩,?_⟩
  ·unfold clF at h ⊢
   rw[ie (by decide),iw rfl] at h ⊢;rw[uC];exact ND l.2.1 (zx h)
  ·rw[jS,jS,jI]
   have B:sB 92=0:=by decide
   have C:sB 10=0:=by decide
   omega
  ·refine aA tJ ?_
   by_cases e:k=1
   ·have a:(s==[32])=false:=by simpa [e] using a
    simp only[tJ,go_sem,a,mPd,f,m,g,b,c,o,p]
    try rfl
   ·cases j:(s==[32])<;>simp only[tJ,go_sem,j,e,mPd,f,m,g,b,c,o,p]<;>rfl
 ·refine⟨t,n,by omega,LgO.same 3 t,?_⟩
  refine aA tJ ?_;simp only[tJ,go_sem]
  try rfl
end Go.Av
namespace Go.Nt
variable{e:List It}{s:It}
def psX(x:It):List It:=if x.1=1 then x.2.1.map (λc=>(1,[c],x.2.2)) else [x]
def psF(f:List It):List It:=f.flatMap psX
def uB:(psX s).length=wid s:=by
 unfold psX wid
 split<;>simp
def M9:∀ f:List It,(psF f).length=len f
 | []=>rfl
 | x::f=>by
  have:=M9 f
  unfold psF at this ⊢;rw[sb,jb,this,uB];rfl
def MU:∀ (f:List It) (p i:Nat),p<=i->i<p+len f->∃ y,(psF f)[i-p]?=some y/\slc f p i (i+1)=[y]
 | [],p,i,l,b=>by simp [len] at b;omega
 | x::f,p,i,l,b=>by
  have e:len (x::f)=wid x+len f:=rfl;have d:psF (x::f)=psX x++psF f:=by simp [psF]
  by_cases q:i<p+wid x
  ·refine⟨(psX x)[i-p]'(by rw[uB];omega),?_,?_⟩
   ·rw[d,kq (by rw[uB];omega),ii]
   ·rw[slc,tV f _ _ _ (by omega),ka,iw (by omega)]
    congr 1
    by_cases h:x.1=1
    ·have r:wid x=x.2.1.length:=by unfold wid;rw[iw h]
     have g:min (i+1) (p+wid x)-p=i-p+1:=by omega
     have j:max i p-p=i-p:=by omega
     have o:i-p<x.2.1.length:=by omega
     rw[iw h,g,j];have k:(x.2.1.take (i-p+1)).drop (i-p)=[x.2.1[i-p]]:=by
      rw[aj0,ac8,je o];rfl
     rw[k];have a:psX x=x.2.1.map (λc=>(1,[c],x.2.2)):=by unfold psX;rw[iw h]
     simp only[a,getElem_map,h]
    ·rw[ie h]
     have r:wid x=1:=by unfold wid;rw[ie h]
     have:i-p=0:=by omega
     have a:psX x=[x]:=by unfold psX;rw[ie h]
     simp only[a,this,getElem_cons_zero]
  ·obtain⟨y,m,n⟩:=MU f (p+wid x) i (by omega) (by rw[e] at b;omega)
   refine⟨y,?_,?_⟩
   ·rw[d,ky (by rw[uB];omega),uB,<- m]
    congr 1
    omega
   ·rw[slc,ie (by omega),kg,n]
def pst(l:List It):Nat:=(l.map λy=>if y.1=1 then st y.2.1 else 0).sum
def mg(V:List It):pst (e++V)=pst e+pst V:=by simp [pst]
def uA:pst (s::e)=(if s.1=1 then st s.2.1 else 0)+pst e:=by simp [pst]
def GV:∀ (s:Bs) (i:Int),pst (s.map λc=>((1:Int),[c],i))=st s
 | [],_=>rfl
 | c::s,i=>by
  rw[ju,uA,GV s i,iw rfl,jS,jS,zK];omega
def M7:∀ f:List It,pst (psF f)=st (aT f)
 | []=>rfl
 | x::f=>by
  have c:=M7 f;have b:psF (x::f)=psX x++psF f:=by simp [psF]
  have a:aT (x::f)=plx x++aT f:=by simp [aT]
  rw[b,a,mg,jI,c]
  congr 1
  unfold psX plx;by_cases h:x.1=1
  ·rw[iw h,iw h,GV]
  ·rw[ie h,ie h,uA,ie h]
   split<;>rfl
def M8(h:s∈psF e):∃ x∈e,(x.1=1/\∃ c,s=(1,[c],x.2.2))\/(¬ x.1=1/\s=x):=by
 unfold psF at h;obtain⟨x,b,a⟩:=mem_flatMap.1 h;refine⟨x,b,?_⟩;unfold psX at a;by_cases q:x.1=1
 ·rw[iw q] at a
  obtain⟨c,_,rfl⟩:=yd.1 a;exact .inl ⟨q,c,rfl⟩
 ·rw[ie q,kj] at a
  exact .inr ⟨q,a⟩
end Go.Nt
namespace Go.Av
open Go.Nt
variable{A ps':List Pt}{D k:Int}{L:List Int}{U bm:Bool}{Y:FuncId}{bc cy i u:Bs}{cz:Prop}{j n q v:Nat}{p:UInt8}{r:List Nat}
variable [Mx]
def Cj{fm:Int}(v:fmK fm)(l:List Int)(f:List Tk)(w:vld f=0)(I:tot f<=100000)(hi:∀ x∈f,L5 fm x):∀ (k i n:Nat) (raw:Bs),i+k=len f->n+2*k<=900000->raw.length+14*k<=1000000 ->
  ∃ a n',n'<=n+2*k/\clF fm a=true/\a.length<=14*k/\st a<=pst ((psF f).drop i)/\aC G9 BR (ST [(0,.ptr 0 0),(1,.int .i64 fm),(2,.sl .no 3 (tks f)),(7,.str raw),(8,.int .i64 i)] [] [num l n])=some (.ex 0,ST [(0,.ptr 0 0),(1,.int .i64 fm),(2,.sl .no 3 (tks f)),(7,.str (raw++a)),(8,.int .i64 (len f:Nat)),(16,.bool false)] [] [num l n'])
 | k,i,n,raw,h,U,V=>by
  obtain⟨v1,v2,v3⟩:=(cG f).1 w;have u:tot f<=900000:=by omega
  have e:=up (c15 f (by omega) (λt q=>by have:=gG t q;unfold eZ;omega)) rfl;have g:=mS l
  cases k with
  | zero =>
   have:i=len f:=by omega
   subst this;have j:¬ ((len f:Nat):Int)<((len f:Nat):Int):=by omega
   refine⟨[],n,by omega,qd (k:=fm),by simp,lv _,?_⟩;rw[ka];rw[aB BR rfl];simp only[go_sem,e,j]
   try rfl
  | succ k =>
   have H:(i:Int)<(len f:Nat):=by omega
   have J:=wI (n:=i) (by omega)
   obtain⟨y,o,K⟩:=MU f 0 i (by omega) (by omega);rw[Nat.sub_zero] at o;have d:=Xs (bu:=f) i (n:=i+1) (by omega) u (by omega) (by omega);rw[K] at d;have F:vld [y]=0:=by rw[<- K];exact MS w (by omega)
   have m:L5 fm y/\(y.1=1->∃ c,y.2.1=[c]):=by
    obtain⟨x,j,⟨A,c,rfl⟩ | ⟨A,rfl⟩⟩:=M8 (ab4 o)
    ·exact⟨.inl rfl,λ_=>⟨c,rfl⟩⟩
    ·exact⟨hi _ j,λq=>absurd q A⟩
   obtain⟨B,L,M⟩:=po v m.1 m.2;have Q:y.2.1.length<=100001:=by
    obtain⟨x,j,⟨A,c,rfl⟩ | ⟨A,rfl⟩⟩:=M8 (ab4 o)
    ·simp
    ·have:=gG y j;omega
   have b:=Xr fm [y] (by simp) (by rw[aN,bZ];omega) F (λx j=>by rw[kj] at j;rw[j];exact m.1.bad);rw[show sP fm [y]=j9 fm y by simp [sP]] at b;have p:=up (c41 l n 3 (by omega) (by decide) (by decide)) rfl;have hd:(psF f).drop i=y::(psF f).drop (i+1):=by
    have s:i<(psF f).length:=by rw[M9];omega
    rw[je s];rw[ii s] at o
    injection o with o
    rw[o]
   have E:tks [y]=[[.int .i64 y.1,.str y.2.1,.int .i64 y.2.2]]:=rfl;generalize j9 fm y=t at B L M b;rw[E] at d b;by_cases q:nxt l n 3=0
   ·obtain⟨r,R,X,⟨S,Y,Z⟩,T⟩:=Xq v y.1 y.2.2 y.2.1 t l (n:=n+1) (by omega) (by omega)
    obtain⟨a,n',N,C,O,P,D⟩:=Cj v l f w I hi k (i+1) R (raw++r) (by omega) (by omega) (by rw[jb];omega);have G:raw.length+r.length<=140737488355328:=by omega
    refine⟨r++a,n',by omega,O3 (S B) C,by rw[jb];omega,?_,?_⟩
    ·rw[hd,uA,jI];omega
    ·rw[<- kb,<- D]
     conv=>lhs;rw[aB BR rfl]
     simp only[go_sem,e,H,J,d,b,p,q,T,G,g]
     try rfl
   ·obtain⟨a,n',N,C,O,P,D⟩:=Cj v l f w I hi k (i+1) (n+1) (raw++t) (by omega) (by omega) (by rw[jb];omega)
    have G:raw.length+t.length<=140737488355328:=by omega
    refine⟨t++a,n',by omega,O3 B C,by rw[jb];omega,?_,?_⟩
    ·rw[hd,uA,jI];omega
    ·rw[<- kb,<- D]
     conv=>lhs;rw[aB BR rfl]
     simp only[go_sem,e,H,J,d,b,p,q,G,g]
     try rfl
def Ye(i:fmK k)(b:List Tk)(e:vld b=0)(j:tot b<=100000)(hi:∀ x∈b,L5 k x)(l:n<=800000):
  ∃ raw n',n'<=n+2*len b/\clF k raw=true/\raw.length<=14*len b/\st raw<=st (aT b)/\G9 104 [.ptr 0 0,.int .i64 k,.sl .no 3 (tks b)] [num L n]=some (.str raw,[num L n']):=by
 obtain⟨m,o,p⟩:=(cG b).1 e;obtain⟨raw,n',f,g,h,c,d⟩:=Cj i L b e j hi (len b) 0 n [] (by omega) (by omega) (by rw[jz];omega);rw[kc,M7] at c;rw[kg,show ((0:Nat):Int)=0 from rfl] at d;refine⟨raw,n',f,g,h,c,?_⟩;have a:=mS L n';refine aA Gn ?_;simp only[Gn,go_sem,d,a]
 try rfl
structure RawOK (fm:Int) (raw:Bs):Prop where
 cl:clF fm raw=true
 ln:raw.length<=1750
 st:st raw<=15
def Cs{s:It}(h:ItG (decide (k=1)) s):L5 k s:=by
 rcases h with h | h | ⟨a,b⟩
 ·exact .inl h
 ·exact .inr (.inl h)
 ·exact .inr (.inr ⟨ah3 a,b⟩)
def U0(h:fmK k)(l:List Int)(n:Nat)(v:n<=80000):∃ f a raw b,RawOK k raw/\b<=n+500/\G9 105 [.ptr 0 0,.int .i64 5,.bool (decide (k=1)),.bool true] [num l n]=some (.sl .no 3 (tks f),[num l a])/\G9 104 [.ptr 0 0,.int .i64 k,.sl .no 3 (tks f)] [num l a]=some (.str raw,[num l b]):=by
 obtain⟨a,f,m,o,p,q,a5,c,e⟩:=Pq (d:=decide (k=1)) (L:=l) (n:=n) (by omega) (j:=5) (by decide) (by decide);obtain⟨raw,b,b1,b2,r,s,g⟩:=Ye h (L:=l) f (n:=a) c (by omega) (λx i=>Cs (a5 x i)) (by omega);have u:=uV f;exact⟨f,a,raw,b,⟨b2,by omega,by omega⟩,by omega,up e rfl,g⟩
def tdN:List Bs:=[[112],[108,105],[116,105,116,108,101]]
def tdT:List Bs:=[[],[32,99,61,34,49,34]]
def tdE:List Bs:=[[],[10],[60,104,114,47,62]]
theorem mN1:gX 1 [.str []] 3 [0,1,2] [.str [112],.str [108,105],.str [116,105,116,108,101]]=some (.sl .full 1 (cH tdN)):=by rfl
theorem mT1:gX 1 [.str []] 2 [0,1] [.str [],.str [32,99,61,34,49,34]]=some (.sl .full 1 (cH tdT)):=by rfl
theorem mE1:gX 1 [.str []] 3 [0,1,2] [.str [],.str [10],.str [60,104,114,47,62]]=some (.sl .full 1 (cH tdE)):=by rfl
def Oi(l:List Int):∀ (k n:Nat) (a:Bs),n+600*k<=70000->a.length+2000*k<=30000->k<=100 ->
  ∃ (rs:List vP) (n':Nat),rs.length=k/\n'<=n+600*k/\(∀ r∈rs,OkM r/\RawOK 1 r.2.2.1)/\(rs.flatMap fE).length<=2000*k /\
  aC G9 rV (ST [(0,.ptr 0 0),(1,.int .i64 1),(7,.str a),(8,.int .i64 0),(9,.int .i64 k),(12,.int .i64 1),(18,.bool true),(33,.bool false)] [] [num l n])=some (.ex 1,ST [(0,.ptr 0 0),(1,.int .i64 1),(7,.str (a++rs.flatMap fE)),(8,.int .i64 0),(9,.int .i64 0),(12,.int .i64 1),(18,.bool true),(33,.bool false),(42,.bool false)] [] [num l n'])
 | 0,n,a,F,G,H=>by
  refine⟨[],n,rfl,by omega,by simp,by simp,?_⟩;rw[ae5,ka];rw[aB rV rfl];simp only[go_sem,jm]
  try rfl
 | k+1,n,a,F,G,H=>by
  have I:(0:Int)<((k+1:Nat):Int):=by omega
  have s:IntKind.i64.wrap (((k+1:Nat):Int)-1)=(k:Int):=by rw[w6 (by omega)];omega
  obtain⟨f,P,raw,d,b,J,c,g⟩:=U0 (k:=1) (.inl rfl) l n (by omega);obtain⟨nm,i,v,u⟩:=pA tdN l d 3 (by decide) rfl;obtain⟨at_,e,m,at0⟩:=pA tdT l (d+1) 2 (by decide) rfl;obtain⟨tl,j,w,tl0⟩:=pA tdE l (d+1+1) 3 (by decide) rfl;have C:=up (c41 l d 3 (by omega) (by decide) (by decide)) rfl;have D:=up (c41 l (d+1) 2 (by omega) (by decide) (by decide)) rfl;have E:=up (c41 l (d+1+1) 3 (by omega) (by decide) (by decide)) rfl;have b1:nm.length<=5:=(by decide:∀ x∈tdN,x.length<=5) nm i;have b2:at_.length<=6:=(by decide:∀ x∈tdT,x.length<=6) at_ e
  have L:tl.length<=5:=(by decide:∀ x∈tdE,x.length<=5) tl j;have M:=b.ln;have p:OkM (nm,at_,raw,tl):=⟨by simpa [tdN] using i,by simpa [tdT] using e,b.cl,by simpa [tdE] using j⟩
  have K:(fE (nm,at_,raw,tl)).length<=1900:=by simp [fE];omega
  obtain⟨rs,n',y,N,A,O,B⟩:=Oi l k (d+1+1+1) (a++fE (nm,at_,raw,tl)) (by omega) (by rw[jb];omega) (by omega);refine⟨(nm,at_,raw,tl)::rs,n',by simp [y],by omega,?_,?_,?_⟩
  ·intro r q
   rcases la.1 q with rfl | q
   ·exact⟨p,b⟩
   ·exact A r q
  ·rw[sb,jb];omega
  ·rw[sb,<- kb,<- B]
   have h:=mS l;have o:decide ((1:Int)=1)=true:=rfl;rw[o] at c
   conv=>lhs;rw[aB rV rfl]
   simp only[go_sem,I,c,g,mN1,mT1,mE1,C,D,E,v,u,m,at0,w,tl0,h,s]
   repeat (refine (iw ?_).trans ?_;· first | omega | (simp only[jb,jd,jz];omega))
   rw[show (60:UInt8)::(nm++at_++[62]++raw++[60,47]++nm++[62]++tl)=fE (nm,at_,raw,tl) by simp [fE]]
abbrev obS(d:Bs)(b:Bool)(ps:List Pt)(fr:Nat):List (List AV):=[[.str d,.sl (md b) 3 (pts ps),.int .i64 fr]]
def SSh(d:Bs)(b:Bool)(ps:List Pt)(fr a:Nat)(w col c st n tx:Int):AS:=ST [(0,.str d),(5,.ptr 0 0),(6,.int .i64 a),(7,.int .i64 w),(8,.int .i64 col),(9,.int .i64 c),(10,.int .i64 st),(11,.int .i64 n),(12,.int .i64 tx),(30,.bool true)] [] (obS d b ps fr)
def txB:Bs:=[116,101,120,116]
def tW(a:i=u++(bc++cy)):(i.take (u.length+bc.length)).drop u.length=bc:=by
 rw[aj0,mJ a,ac8,ah1]
def C4(a:i=bc++(cy++p::u)):i[bc.length+cy.length]?=some p:=by
 have:=eI (i:=i) (u:=bc++cy) (bc:=u) (p:=p) (by rw[a];simp)
 rwa [jb] at this
def LA(d:Bs)(b:Bool)(ps:List Pt)(fr:Nat)(w col st n tx:Int)(a x u:Bs)(q:Bool)(hd:d.length<=50000)(c:d=a++(x++44::u))(o:G9 186 [.str d,.int .i64 a.length] []=some (.tup [.int .i64 (a.length+x.length:Nat),.bool q,.bool true],[]))(s:0<=n/\n<=100)(v:0<=tx/\tx<=100):
  aC G9 dN (SSh d b ps fr a.length w col 0 st n tx)=aC G9 dN (SSh d b ps fr (a.length+x.length+1) w (if x=txB then n else col) 0 st (n+1) (if x=txB then tx+1 else tx)):=by
 have r:d.length=a.length+x.length+u.length+1:=by
  have:=pz List.length c
  simp at this;omega
 have j:=ss3 d a.length (a.length+x.length) (by omega) (by omega);rw[tW c] at j;have h:IntKind.i64.wrap (n+1)=n+1:=w6 (by omega);have i:IntKind.i64.wrap (tx+1)=tx+1:=w6 (by omega);have hg:¬ (d.length:Int)<=(a.length+x.length:Nat):=by omega
 have l:(0:Int)<=((a.length+x.length:Nat):Int):=by omega
 have m:d[a.length+x.length]?=some 44:=C4 c;have g:((44:UInt8).toNat:Int)=44:=rfl;have p:IntKind.i64.wrap (((a.length+x.length:Nat):Int)+1)=(a.length+x.length+1:Nat):=by rw[w6 (by omega)];rfl
 have k:¬ (0:Int)<0:=by decide
 unfold SSh;by_cases f:x=txB
 ·have e:(x==[116,101,120,116])=true:=by rw[Lh];exact f
  rw[iw f,iw f]
  conv=>lhs;rw[aB dN rfl]
  simp only[go_sem,o,j,e,h,i,k,hg,l,m,g,p]
  try rfl
 ·have e:(x==[116,101,120,116])=false:=by rw[aa4];exact f
  rw[ie f,ie f]
  conv=>lhs;rw[aB dN rfl]
  simp only[go_sem,o,j,e,h,i,hg,l,m,g,p,k]
  try rfl
def K9(d:Bs)(b:Bool)(ps:List Pt)(fr:Nat)(w col st n tx:Int)(a x t:Bs)(q:Bool)(hd:d.length<=50000)(j:d=a++(x++t))(r:t=[]\/t.head?=some 10)(p:G9 186 [.str d,.int .i64 a.length] []=some (.tup [.int .i64 (a.length+x.length:Nat),.bool q,.bool true],[]))(A:0<=n/\n<=100)(B:0<=tx/\tx<=100):
  aC G9 dN (SSh d b ps fr a.length w col 0 st n tx)=some (.ex 2,ST [(0,.str d),(5,.ptr 0 0),(6,.int .i64 (a.length+x.length:Nat)),(7,.int .i64 w),(8,.int .i64 (if x=txB then n else col)),(9,.int .i64 0),(10,.int .i64 st),(11,.int .i64 (n+1)),(12,.int .i64 (if x=txB then tx+1 else tx)),(30,.bool true),(60,.bool false),(70,.bool (decide (x=txB))),(80,.bool false),(120,.bool true)] [] (obS d b ps fr)):=by
 have v:d.length=a.length+x.length+t.length:=by
  have:=pz List.length j
  simp at this;omega
 have m:=ss3 d a.length (a.length+x.length) (by omega) (by omega);rw[tW j] at m;have g:IntKind.i64.wrap (n+1)=n+1:=w6 (by omega);have i:IntKind.i64.wrap (tx+1)=tx+1:=w6 (by omega);have s:(0:Int)<=((a.length+x.length:Nat):Int):=by omega
 have k:((10:UInt8).toNat:Int)=10:=rfl;have o:¬ (0:Int)<0:=by decide
 unfold SSh
 cases t with
 | nil =>
  have hg:(d.length:Int)<=(a.length+x.length:Nat):=by simp only[jz] at v;omega
  by_cases e:x=txB
  ·have f:(x==[116,101,120,116])=true:=by rw[Lh];exact e
   rw[iw e,iw e,jv e];rw[aB dN rfl];simp only[go_sem,p,m,f,g,i,o,hg]
   try rfl
  ·have f:(x==[116,101,120,116])=false:=by rw[aa4];exact e
   rw[ie e,ie e,jr e];rw[aB dN rfl];simp only[go_sem,p,m,f,g,i,o,hg]
   try rfl
 | cons c u =>
  simp only[jd] at v;have l:c=10:=by
   rcases r with h | h
   ·cases h
   ·simpa using h
  subst l;have hg:¬ (d.length:Int)<=(a.length+x.length:Nat):=by omega
  have y:d[a.length+x.length]?=some 10:=C4 j;by_cases e:x=txB
  ·have f:(x==[116,101,120,116])=true:=by rw[Lh];exact e
   rw[iw e,iw e,jv e];rw[aB dN rfl];simp only[go_sem,p,m,f,g,i,o,hg,s,y,k]
   try rfl
  ·have f:(x==[116,101,120,116])=false:=by rw[aa4];exact e
   rw[ie e,ie e,jr e];rw[aB dN rfl];simp only[go_sem,p,m,f,g,i,o,hg,s,y,k]
   try rfl
def EA(d:Bs)(b:Bool)(ps:List Pt)(fr:Nat)(w col e st n tx:Int)(a x u:Bs)(q:Bool)(hd:d.length<=50000)(c:d=a++(x++44::u))(k:G9 186 [.str d,.int .i64 a.length] []=some (.tup [.int .i64 (a.length+x.length:Nat),.bool q,.bool true],[]))(v:0<=n/\n<=100)(l:0<e)(o:n<w)(g:n≠col):
  aC G9 dN (SSh d b ps fr a.length w col e st n tx)=aC G9 dN (SSh d b ps fr (a.length+x.length+1) w col e st (n+1) tx):=by
 have s:d.length=a.length+x.length+u.length+1:=by
  have:=pz List.length c
  simp at this;omega
 have h:IntKind.i64.wrap (n+1)=n+1:=w6 (by omega);have hg:¬ (d.length:Int)<=(a.length+x.length:Nat):=by omega
 have i:(0:Int)<=((a.length+x.length:Nat):Int):=by omega
 have j:d[a.length+x.length]?=some 44:=C4 c;have f:((44:UInt8).toNat:Int)=44:=rfl;have m:IntKind.i64.wrap (((a.length+x.length:Nat):Int)+1)=(a.length+x.length+1:Nat):=by rw[w6 (by omega)];rfl
 have p:¬ e=0:=by omega
 have r:¬ w<=n:=by omega
 unfold SSh
 conv=>lhs;rw[aB dN rfl]
 simp only[go_sem,k,h,hg,i,j,f,m,l,p,r,g]
 try rfl
def Ai(w col f st n tx:Int)(t:Bs)(hd:i.length<=50000)(d:i=bc++(cy++t))(k:t=[]\/t.head?=some 10)(m:G9 186 [.str i,.int .i64 bc.length] []=some (.tup [.int .i64 (bc.length+cy.length:Nat),.bool bm,.bool true],[]))(x:0<=n/\n<=100)(o:0<f)(v:n<w)(b:n≠col):
  aC G9 dN (SSh i U A j bc.length w col f st n tx)=some (.ex 2,ST [(0,.str i),(5,.ptr 0 0),(6,.int .i64 (bc.length+cy.length:Nat)),(7,.int .i64 w),(8,.int .i64 col),(9,.int .i64 f),(10,.int .i64 st),(11,.int .i64 (n+1)),(12,.int .i64 tx),(30,.bool true),(60,.bool false),(70,.bool false),(80,.bool false),(120,.bool true)] [] (obS i U A j)):=by
 have l:i.length=bc.length+cy.length+t.length:=by
  have:=pz List.length d
  simp at this;omega
 have e:IntKind.i64.wrap (n+1)=n+1:=w6 (by omega);have r:(0:Int)<=((bc.length+cy.length:Nat):Int):=by omega
 have g:((10:UInt8).toNat:Int)=10:=rfl;have p:¬ f=0:=by omega
 have q:¬ w<=n:=by omega
 unfold SSh
 cases t with
 | nil =>
  have hg:(i.length:Int)<=(bc.length+cy.length:Nat):=by simp only[jz] at l;omega
  rw[aB dN rfl];simp only[go_sem,m,e,hg,o,p,q,b]
  try rfl
 | cons c u =>
  simp only[jd] at l;have a:c=10:=by
   rcases k with h | h
   ·cases h
   ·simpa using h
  subst a;have hg:¬ (i.length:Int)<=(bc.length+cy.length:Nat):=by omega
  have s:i[bc.length+cy.length]?=some 10:=C4 d;rw[aB dN rfl];simp only[go_sem,m,e,hg,r,s,g,o,p,q,b]
  try rfl
def quo(raw:Bs):Bs:=34::(raw++[34])
def fM:(quo i).length=i.length+2:=by simp [quo]
def MI(d a raw t:Bs)(hd:d.length<=50000)(c:d=a++(quo raw++t))(b:clS raw=true)(e:IM t):G9 186 [.str d,.int .i64 a.length] []=some (.tup [.int .i64 ((a.length+(quo raw).length:Nat):Int),.bool true,.bool true],[]):=by
 have:=uq d a raw t hd (by rw[c];simp [quo]) b e
 rw[this,fM,La]
def KH(d:Bs)(b:Bool)(ps:List Pt)(fr:Nat)(w st n tx:Int)(k:Nat)(a raw t:Bs)(hd:d.length<=50000)(c:d=a++(quo raw++t))(q:IM t)(g:clS raw=true)(C:0<=n/\n<=100)(D:1<=k/\k<=900)(r:n<w)(j:dcd 3 raw=none):
  ErM (aC G9 dN (SSh d b ps fr a.length w n k st n tx)):=by
 have m:=MI d a raw t hd c g q;have B:d.length=a.length+(raw.length+2)+t.length:=by
  have:=pz List.length c
  rw[jb,jb,fM] at this;omega
 rw[fM] at m;have s:¬ (k:Int)=0:=by omega
 have l:0<(k:Int):=by omega
 have y:¬ w<=n:=by omega
 have v:=wI (n:=a.length) (by omega)
 have x:IntKind.i64.wrap (((a.length+(raw.length+2):Nat):Int)-1)=(a.length+1+raw.length:Nat):=by rw[w6 (by omega)];omega
 have o:=ss3 d (a.length+1) (a.length+1+raw.length) (by omega) (by omega);have p:(d.take (a.length+1+raw.length)).drop (a.length+1)=raw:=by
  have:=tW (i:=d) (u:=a++[34]) (bc:=raw) (cy:=34::t) (by rw[c];simp [quo])
  rwa [jb,jy] at this
 rw[p] at o;obtain⟨A,ev,f,e⟩:=(J1 3 raw (by omega)).2 j;unfold SSh;apply BT
 case h =>
  rw[aB dN rfl];simp only[go_sem,m,l,s,y,v,x,o,e,f]
  try rfl
 case h4=>rfl
 case h5=>rfl
 case h6=>rfl
 case hne=>first | exact f | decide
def lh(w st n tx:Int)(a:Bs)(hd:bc.length<=50000)(b:bc=cy++(quo a++44::u))(h:clS a=true)(K:0<=n/\n<=100)(L:1<=q/\q<=900)(E:n<w)(e:List It)(k:dcd 3 a=some (e,r))(C:j<=cy.length)(l:A.length<=1000000):
  aC G9 dN (SSh bc U A j cy.length w n q st n tx)=aC G9 dN (SSh bc true (A++[(false,[],(cy++[34]).drop j),(true,Nt.dec q,a)]) (cy.length+1+a.length) (cy.length+(quo a).length+1) w n q st (n+1) tx):=by
 have v:=MI bc cy a (44::u) hd b h (.inr (.inl rfl));have J:bc.length=cy.length+(a.length+2)+u.length+1:=by
  have:=pz List.length b
  rw[jb,jb,fM,jd] at this;omega
 have s:bc[cy.length+(quo a).length]?=some 44:=C4 b;rw[fM] at v s;rw[fM];have F:¬ (q:Int)=0:=by omega
 have m:0<(q:Int):=by omega
 have I:¬ w<=n:=by omega
 have G:=wI (n:=cy.length) (by omega)
 have H:IntKind.i64.wrap (((cy.length+(a.length+2):Nat):Int)-1)=(cy.length+1+a.length:Nat):=by rw[w6 (by omega)];omega
 have x:=ss3 bc (cy.length+1) (cy.length+1+a.length) (by omega) (by omega);have d:bc=(cy++[34])++(a++34::(44::u)):=by rw[b];simp [quo]
 have p:(bc.take (cy.length+1+a.length)).drop (cy.length+1)=a:=by
  have:=tW d
  rwa [jb,jy] at this
 have y:bc.take (cy.length+1)=cy++[34]:=by
  rw[d];exact aj1 (by simp)
 rw[p] at x;have g:=(J1 3 a (by omega)).1 e r k;have o:IntKind.i64.wrap (n+1)=n+1:=w6 (by omega);have hg:¬ (bc.length:Int)<=((cy.length+(a.length+2):Nat):Int):=by omega
 have B:(0:Int)<=((cy.length+(a.length+2):Nat):Int):=by omega
 have i:((44:UInt8).toNat:Int)=44:=rfl;have D:IntKind.i64.wrap (((cy.length+(a.length+2):Nat):Int)+1)=((cy.length+(a.length+2)+1:Nat):Int):=by rw[w6 (by omega)];rfl
 have f:=up (c79 q (by omega)) rfl;have c:=Y7 bc (Nt.dec q) U A j (cy.length+1) (cy.length+1+a.length) (by omega) (by omega) (by omega) l;rw[p,y] at c;unfold SSh obS;rw[show md true=.own from rfl]
 conv=>lhs;rw[aB dN rfl]
 simp only[go_sem,v,m,F,I,G,H,x,g,f,c,o,hg,B,s,i,D]
 try rfl
def MY(d:Bs)(b:Bool)(fr:Nat)(w st n tx:Int)(k:Nat)(a raw t:Bs)(hd:d.length<=50000)(g:d=a++(quo raw++t))(q:t=[]\/t.head?=some 10)(p:clS raw=true)(O:0<=n/\n<=100)(P:1<=k/\k<=900)(N:n<w)(e:List It)(y:dcd 3 raw=some (e,r))(M:fr<=a.length)(B:A.length<=1000000):
  aC G9 dN (SSh d b A fr a.length w n k st n tx)=some (.ex 2,ST [(0,.str d),(5,.ptr 0 0),(6,.int .i64 ((a.length+(quo raw).length:Nat):Int)),(7,.int .i64 w),(8,.int .i64 n),(9,.int .i64 k),(10,.int .i64 st),(11,.int .i64 (n+1)),(12,.int .i64 tx),(18,.int .i64 0),(19,.int .i64 0),(30,.bool true),(60,.bool false),(70,.bool false),(80,.bool true),(94,.bool false),(120,.bool true)] [] (obS d true (A++[(false,[],(a++[34]).drop fr),(true,Nt.dec k,raw)]) (a.length+1+raw.length))):=by
 have v:=MI d a raw t hd g p (by rcases q with h | h;exact .inl h;exact .inr (.inr h));have E:d.length=a.length+(raw.length+2)+t.length:=by
  have:=pz List.length g
  rw[jb,jb,fM] at this;omega
 have G:¬ (k:Int)=0:=by omega
 have o:0<(k:Int):=by omega
 have J:¬ w<=n:=by omega
 have H:=wI (n:=a.length) (by omega)
 have I:IntKind.i64.wrap (((a.length+(raw.length+2):Nat):Int)-1)=(a.length+1+raw.length:Nat):=by rw[w6 (by omega)];omega
 have C:=ss3 d (a.length+1) (a.length+1+raw.length) (by omega) (by omega);have l:d=(a++[34])++(raw++34::t):=by rw[g];simp [quo]
 have D:(d.take (a.length+1+raw.length)).drop (a.length+1)=raw:=by
  have:=tW l
  rwa [jb,jy] at this
 have K:d.take (a.length+1)=a++[34]:=by
  rw[l];exact aj1 (by simp)
 rw[D] at C;have j:=(J1 3 raw (by omega)).1 e r y;have s:IntKind.i64.wrap (n+1)=n+1:=w6 (by omega);have L:(0:Int)<=((a.length+(raw.length+2):Nat):Int):=by omega
 have x:((10:UInt8).toNat:Int)=10:=rfl;have i:=up (c79 k (by omega)) rfl;have f:=Y7 d (Nt.dec k) b A fr (a.length+1) (a.length+1+raw.length) (by omega) (by omega) (by omega) B;rw[D,K] at f
 cases t with
 | nil =>
  have hg:(d.length:Int)<=((a.length+(raw.length+2):Nat):Int):=by simp only[jz] at E;omega
  rw[fM] at v;rw[fM];unfold SSh obS;rw[show md true=.own from rfl];rw[aB dN rfl];simp only[go_sem,v,o,G,J,H,I,C,j,i,f,s,hg]
  try rfl
 | cons c u =>
  simp only[jd] at E;have m:c=10:=by
   rcases q with h | h
   ·cases h
   ·simpa using h
  subst m;have hg:¬ (d.length:Int)<=((a.length+(raw.length+2):Nat):Int):=by omega
  have F:d[a.length+(quo raw).length]?=some 10:=C4 g;rw[fM] at v F;rw[fM];unfold SSh obS;rw[show md true=.own from rfl];rw[aB dN rfl];simp only[go_sem,v,o,G,J,H,I,C,j,i,f,s,hg,L,F,x]
  try rfl
def X5(f:FuncId)(d:Bs)(ok:Prop)(ps:List Pt):Prop:=
 (∃ a e:Int,e≠0/\G9 f [.str d] []=some (.tup [.sl .no 3 [],.int .i64 a,.int .i64 e],[]))\/(ok/\G9 f [.str d] []=some (.tup [.sl .no 3 (pts ps),.int .i64 0,.int .i64 0],[]))
def Jx(d h:Bs)(rs:List vP)(hd:d.length<=50000)(v:hdM h)(w:∀ r∈rs,OkM r)(F:rs.length<=900)(c:d=h++rs.flatMap fE):
  X5 141 d (∀ r∈rs,∃ g cc,dcd 1 r.2.2.1=some (g,cc)) (eC h rs 0)/\((∀ r∈rs,∃ g cc,dcd 1 r.2.2.1=some (g,cc))->G9 141 [.str d] []=some (.tup [.sl .no 3 (pts (eC h rs 0)),.int .i64 0,.int .i64 0],[])):=by
 have o:=Qc (i:=d) (U:=false) [] 0 0 h (rs.flatMap fE) hd v c;have f:=vk d hd rs false [] 0 0 h w c (lv _) rfl (by omega);rw[<- o] at f;unfold SM at f;rw[show ((0:Nat):Int)=0 from rfl,show md false=.full from rfl,show pts []=[] from rfl] at f;rcases f with ⟨⟨z,C,D⟩,G,E,sh',n,e,j,h,p,s,u⟩ | ⟨k,ps',b,n',x,y,H,B,m⟩
 ·refine⟨.inl ⟨n,e,j,?_⟩,λq=>by obtain⟨g,cc,q⟩:=q z C;rw[D] at q;cases q⟩
  refine aA YO ?_;simp only[YO,go_sem,h,p,s,u]
  try rfl
 ·have key:G9 141 [.str d] []=some (.tup [.sl .no 3 (pts (eC h rs 0)),.int .i64 0,.int .i64 0],[]):=?_
  ·exact⟨.inr ⟨x,key⟩,λ_=>key⟩
  obtain⟨b2,a⟩:=yo d k ps' b y (by omega);rw[B,kg,kc] at a;have l:=endM (i:=d) (U:=k) (A:=ps') b d.length n' (by omega);unfold SM at l;rw[l] at m;refine aA YO ?_;simp only[YO,go_sem,m,a]
  try rfl
abbrev FW:=UInt8×Bs×Bs
def kK(r:FW):Bs:=107::r.1::61::(r.2.1++10::r.2.2)
structure OkR (r:FW):Prop where
 nm:49<=(r.1.toNat:Int)/\(r.1.toNat:Int)<=51
 cl:prR r.2.1=true
 tl:r.2.2=[]\/r.2.2=[35,120,10]\/r.2.2=[10]
def kI:Bs->List FW->List Pt
 | sk,[]=>[(false,[],sk)]
 | sk,r::rs=>(false,[],sk++[107,r.1,61])::(true,[107,r.1],r.2.1)::kI (10::r.2.2) rs
def Ko(tl:Bs)(hd:i.length<=50000)(a:i=u++(tl++bc))(h:tl=[]\/tl=[35,120,10]\/tl=[10]):
  aC G9 fS (SR i U A n u.length)=aC G9 fS (SR i U A n (u.length+tl.length)):=by
 rcases h with rfl | rfl | rfl
 ·rfl
 ·exact zJ i U A n u [] [35,120] bc hd a (λc b=>by cases b) (.inr rfl) (by decide)
 ·exact zJ i U A n u [] [] bc hd a (λc b=>by cases b) (.inl rfl) (by decide)
def hdR(h:Bs):Prop:=h=[]\/h=[35,32,99,10]\/h=[10,32,10]
def Qa(ps:List Pt)(fr:Nat)(h rest:Bs)(hd:i.length<=50000)(f:hdR h)(a:i=h++rest):
  aC G9 fS (SR i U ps fr 0)=aC G9 fS (SR i U ps fr h.length):=by
 rcases f with rfl | rfl | rfl
 ·rfl
 ·exact zJ i U ps fr [] [] [35,32,99] rest hd a (λc b=>by cases b) (.inr rfl) (by decide)
 ·have d:=zJ i U ps fr [] [] [] ([32,10]++rest) hd (by rw[a];rfl) (λc b=>by cases b) (.inl rfl) (by decide)
  have e:=zJ i U ps fr [10] [32] [] rest hd (by rw[a];rfl) (by decide) (.inl rfl) (by decide);exact d.trans e
def vi(d:Bs)(hd:d.length<=50000):∀ (rs:List FW) (b:Bool) (ps:List Pt) (fr:Nat) (a:Bs),(∀ r∈rs,OkR r)->d=a++rs.flatMap kK->fr<=a.length->ps.length+2*rs.length<=1800 ->
  ErM (aC G9 fS (SR d b ps fr a.length))\/∃ u ps' c,(∀ r∈rs,∃ g cc,dcd 2 r.2.1=some (g,cc))/\c<=d.length/\ps'.length<=1800/\ps'++[(false,[],d.drop c)]=ps++kI (a.drop fr) rs/\aC G9 fS (SR d b ps fr a.length)=aC G9 fS (SR d u ps' c d.length)
 | [],b,ps,fr,a,v,f,h,s=>by
  rw[ae5,ka] at f;subst f;exact .inr ⟨b,ps,fr,(λr l=>by cases l),h,by omega,rfl,rfl⟩
 | r::rs,b,ps,fr,a,v,f,h,s=>by
  obtain⟨k,raw,tl⟩:=r;obtain⟨o1,o3,w⟩:=v _ (wa);simp only at o1 o3 w;simp only[jd] at s;have j:d=a++(107::k::61::(raw++10::(tl++rs.flatMap kK))):=by
   rw[f,sb];simp [kK]
  rcases zh (i:=d) (U:=b) (A:=ps) (n:=fr) a raw (tl++rs.flatMap kK) (p:=k) o1 hd j o3 h (by omega) with q | ⟨g,cc,I,J⟩
  ·exact .inl q
  ·have m:d=(a++(107::k::61::(raw++[10])))++(tl++rs.flatMap kK):=by rw[j];simp
   have o:d=(a++kK (k,raw,tl))++rs.flatMap kK:=by rw[f,sb,kb]
   have x:a.length+3+raw.length+1=(a++(107::k::61::(raw++[10]))).length:=by simp;omega
   have y:(a++(107::k::61::(raw++[10]))).length+tl.length=(a++kK (k,raw,tl)).length:=by simp [kK];omega
   rw[J,x,Ko (i:=d) (U:=true) tl hd m w,y];have B:(a++[107,k,61]).drop fr=a.drop fr++[107,k,61]:=ag8 h;have C:(a++kK (k,raw,tl)).drop (a.length+3+raw.length)=10::tl:=by
    have e:a++kK (k,raw,tl)=(a++(107::k::61::raw))++(10::tl):=by simp [kK]
    rw[e];exact af6 (by simp;omega)
   rcases vi d hd rs true (ps++[(false,[],(a++[107,k,61]).drop fr),(true,[107,k],raw)]) (a.length+3+raw.length) (a++kK (k,raw,tl)) (λr l=>v r (xa _ l)) o (by simp [kK];omega) (by simp;omega) with q | ⟨u,ps',c,D,E,F,G,H⟩
   ·exact .inl q
   ·refine .inr ⟨u,ps',c,?_,E,F,?_,H⟩
    ·intro r l
     rcases la.1 l with rfl | l
     ·exact⟨g,cc,I⟩
     ·exact D r l
    ·rw[G,B,C]
     simp [kI]
def Xu(h:Bs)(rs:List FW)(hd:i.length<=50000)(s:hdR h)(u:∀ r∈rs,OkR r)(B:rs.length<=900)(c:i=h++rs.flatMap kK):
  X5 142 i (∀ r∈rs,∃ g cc,dcd 2 r.2.1=some (g,cc)) (kI h rs):=by
 have n:=Qa (i:=i) (U:=false) [] 0 h (rs.flatMap kK) hd s c;have d:=vi i hd rs false [] 0 h u c (lv _) (by simp;omega);rw[<- n] at d;unfold SR at d;rw[show ((0:Nat):Int)=0 from rfl,show md false=.full from rfl,show pts []=[] from rfl] at d;rcases d with ⟨C,y,sh',m,e,f,h,o,p,q⟩ | ⟨j,ps',b,v,w,D,x,l⟩
 ·refine .inl ⟨m,e,f,?_⟩
  refine aA YN ?_;simp only[YN,go_sem,h,o,p,q]
  try rfl
 ·refine .inr ⟨v,?_⟩
  obtain⟨b2,a⟩:=yo i j ps' b w (by omega);rw[x,kg,kc] at a;have k:=endR (i:=i) (U:=j) (A:=ps') b i.length (by omega);unfold SR at k;rw[k] at l;refine aA YN ?_;simp only[YN,go_sem,l,a]
  try rfl
def SO(d:Bs)(b:Bool)(ps:List Pt)(fr a:Nat)(w col c:Int):AS:=ST [(0,.str d),(5,.ptr 0 0),(6,.int .i64 a),(7,.int .i64 w),(8,.int .i64 col),(9,.int .i64 c)] [] (obS d b ps fr)
def hdS(h:Bs)(w col:Int):Prop:=(h=[116,101,120,116]/\w=1/\col=0)\/(h=[105,100,44,116,101,120,116]/\w=2/\col=1)\/(h=[34,97,44,98,34,44,116,101,120,116,44,99]/\w=3/\col=1)
def tE(h:i=[]\/i.head?=some 10):IM i:=by
 rcases h with h | h
 ·exact .inl h
 ·exact .inr (.inr h)
def Da(h t:Bs)(w k:Int)(hd:i.length<=50000)(l:hdS h w k)(a:i=h++t)(b:t=[]\/t.head?=some 10):
  ∃ q:Bool,aC G9 dN (SSh i U A n 0 0 (-1) 0 0 0 0)=some (.ex 2,ST [(0,.str i),(5,.ptr 0 0),(6,.int .i64 (h.length:Nat)),(7,.int .i64 0),(8,.int .i64 k),(9,.int .i64 0),(10,.int .i64 0),(11,.int .i64 w),(12,.int .i64 1),(30,.bool true),(60,.bool false),(70,.bool q),(80,.bool false),(120,.bool true)] [] (obS i U A n)):=by
 have tx:∀ c∈txB,c≠34/\c≠44/\c≠10:=by decide
 rcases l with ⟨rfl,rfl,rfl⟩ | ⟨rfl,rfl,rfl⟩ | ⟨rfl,rfl,rfl⟩
 ·have f:=tO i [] txB t hd a tx (by decide) (tE b)
  have:=K9 i U A n 0 (-1) 0 0 0 [] txB t false hd a b f (by decide) (by decide)
  rw[iw rfl,iw rfl] at this;exact⟨_,this⟩
 ·have f1:=tO i [] [105,100] (44::(txB++t)) hd a (by decide) (by decide) (.inr (.inl rfl))
  have d:=LA i U A n 0 (-1) 0 0 0 [] [105,100] (txB++t) false hd a f1 (by decide) (by decide);rw[ie (by decide),ie (by decide)] at d;have f2:=tO i [105,100,44] txB t hd a tx (by decide) (tE b);have e:=K9 i U A n 0 (-1) 0 1 0 [105,100,44] txB t false hd a b f2 (by decide) (by decide);rw[iw rfl,iw rfl] at e;exact⟨_,d.trans e⟩
 ·have f1:=uq i [] [97,44,98] (44::(txB++(44::([99]++t)))) hd (by rw[a];rfl) (by decide) (.inr (.inl rfl))
  have d:=LA i U A n 0 (-1) 0 0 0 [] [34,97,44,98,34] (txB++(44::([99]++t))) true hd (by rw[a];rfl) f1 (by decide) (by decide);rw[ie (by decide),ie (by decide)] at d;have f2:=tO i [34,97,44,98,34,44] txB (44::([99]++t)) hd (by rw[a];rfl) tx (by decide) (.inr (.inl rfl));have e:=LA i U A n 0 (-1) 0 1 0 [34,97,44,98,34,44] txB ([99]++t) false hd (by rw[a];rfl) f2 (by decide) (by decide);rw[iw rfl,iw rfl] at e;have j:=tO i [34,97,44,98,34,44,116,101,120,116,44] [99] t hd a (by decide) (by decide) (tE b);have g:=K9 i U A n 0 1 0 2 1 [34,97,44,98,34,44,116,101,120,116,44] [99] t false hd a b j (by decide) (by decide);rw[ie (by decide),ie (by decide)] at g;exact⟨_,(d.trans e).trans g⟩
def Pz(ps:List Pt)(fr:Nat)(h t:Bs)(w col:Int)(hd:u.length<=50000)(b:hdS h w col)(a:u=h++t)(f:t=[]\/t.head?=some 10):
  aC G9 fR (SO u U ps fr 0 0 (-1) 0)=aC G9 fR (SO u U ps fr (h.length+1) w col 1):=by
 obtain⟨q,e⟩:=Da (i:=u) (U:=U) (A:=ps) (n:=fr) h t w col hd b a f;have j:0<w/\w<=3:=by rcases b with ⟨_,rfl,_⟩ | ⟨_,rfl,_⟩ | ⟨_,rfl,_⟩<;>decide
 have d:h.length<=12:=by rcases b with ⟨rfl,_⟩ | ⟨rfl,_⟩ | ⟨rfl,_⟩<;>decide
 generalize h.length=L at e d ⊢;have g:=wI (n:=L) (by omega)
 have c:¬ w<w:=by omega
 unfold SSh obS at e;rw[show ((0:Nat):Int)=0 from rfl] at e;unfold SO obS;rw[show ((0:Nat):Int)=0 from rfl]
 conv=>lhs;rw[aB fR rfl]
 simp only[go_sem,e,g,c]
 try rfl
def endS(n:Nat)(w k a:Int)(d:¬ j<i.length)(e:0<a):aC G9 fR (SO i U A n j w k a)=some (.ex 0,ST [(0,.str i),(5,.ptr 0 0),(6,.int .i64 j),(7,.int .i64 w),(8,.int .i64 k),(9,.int .i64 a),(30,.bool false)] [] (obS i U A n)):=by
 have b:¬ (j:Int)<i.length:=by omega
 have c:¬ a=0:=by omega
 unfold SO obS;rw[aB fR rfl];simp only[go_sem,b,c]
 try rfl
def Ys(n a:Nat)(w D:Int)(p:a<i.length)(q:1<=j)(h:ErM (aC G9 dN (SSh i U A n a w D j a 0 0))):ErM (aC G9 fR (SO i U A n a w D j)):=by
 obtain⟨m,c,sh',d,e,b,h,f,g,k⟩:=h;have l:(a:Int)<i.length:=by omega
 have o:¬ (j:Int)=0:=by omega
 refine⟨m,c,sh',d,e,b,?_,f,g,k⟩;unfold SSh obS at h;unfold SO obS;rw[aB fR rfl];simp only[go_sem,l,o,h]
 try rfl
def vw(d:Bs)(b:Bool)(fr a:Nat)(w col:Int)(k:Nat)(m:a<d.length)(o:1<=k/\k<=900)(l:n<=60000)(h:aC G9 dN (SSh d b A fr a w col k a 0 0)=some (.ex 2,ST [(0,.str d),(5,.ptr 0 0),(6,.int .i64 (n:Nat)),(7,.int .i64 w),(8,.int .i64 col),(9,.int .i64 k),(10,.int .i64 a),(11,.int .i64 w),(12,.int .i64 0),(18,.int .i64 0),(19,.int .i64 0),(30,.bool true),(60,.bool false),(70,.bool false),(80,.bool true),(94,.bool false),(120,.bool true)] [] (obS d U ps' j))):aC G9 fR (SO d b A fr a w col k)=aC G9 fR (SO d U ps' j (n+1) w col ((k+1:Nat):Int)):=by
 have f:(a:Int)<d.length:=by omega
 have i:¬ (k:Int)=0:=by omega
 have c:¬ w<w:=by omega
 have g:=wI (n:=n) (by omega)
 have e:=wI (n:=k) (by omega)
 unfold SSh obS at h;unfold SO obS
 conv=>lhs;rw[aB fR rfl]
 simp only[go_sem,f,i,h,c,g,e]
 try rfl
def Mg(n a:Nat)(w D:Int)(i:a<u.length)(k:1<=j/\j<=900)(g:q<=60000)(h:aC G9 dN (SSh u U A n a w D j a 0 0)=some (.ex 2,ST [(0,.str u),(5,.ptr 0 0),(6,.int .i64 (q:Nat)),(7,.int .i64 w),(8,.int .i64 D),(9,.int .i64 j),(10,.int .i64 a),(11,.int .i64 w),(12,.int .i64 0),(30,.bool true),(60,.bool false),(70,.bool false),(80,.bool false),(120,.bool true)] [] (obS u bm ps' v))):aC G9 fR (SO u U A n a w D j)=aC G9 fR (SO u bm ps' v (q+1) w D ((j+1:Nat):Int)):=by
 have d:(a:Int)<u.length:=by omega
 have f:¬ (j:Int)=0:=by omega
 have b:¬ w<w:=by omega
 have e:=wI (n:=q) (by omega)
 have c:=wI (n:=j) (by omega)
 unfold SSh obS at h;unfold SO obS
 conv=>lhs;rw[aB fR rfl]
 simp only[go_sem,d,f,h,b,e,c]
 try rfl
inductive Cl:Int->Int->Bs->Bs->Bs->Prop
 | c0:Cl 1 0 [116,101,120,116] [] []
 | c1:Cl 2 1 [105,100,44,116,101,120,116] [55,44] []
 | c2:Cl 3 1 [34,97,44,98,34,44,116,101,120,116,44,99] [120,44] [44,34,121,34]
def Cl.hd(c:Cl k D i u bc):hdS i k D:=by
 cases c
 ·exact .inl ⟨rfl,rfl,rfl⟩
 ·exact .inr (.inl ⟨rfl,rfl,rfl⟩)
 ·exact .inr (.inr ⟨rfl,rfl,rfl⟩)
def Yp{iy:Int}(c:Cl D iy i u bc)(a d e:Bs)(hd:cy.length<=50000)(b:cy=a++(u++(quo d++(bc++e))))(l:e=[]\/e.head?=some 10)(f:clS d=true)(m:1<=j/\j<=900)(w:n<=a.length)(s:A.length<=1000000):
  ErM (aC G9 fR (SO cy U A n a.length D iy j))\/∃ g cc,dcd 3 d=some (g,cc)/\aC G9 fR (SO cy U A n a.length D iy j)=aC G9 fR (SO cy true (A++[(false,[],(a++(u++[34])).drop n),(true,Nt.dec j,d)]) (a.length+u.length+1+d.length) (a.length+u.length+(quo d).length+bc.length+1) D iy ((j+1:Nat):Int)):=by
 have y:cy.length=a.length+u.length+(d.length+2)+bc.length+e.length:=by
  have:=pz List.length b
  rw[jb,jb,jb,jb,fM] at this;omega
 have v:a.length<cy.length:=by omega
 cases k:dcd 3 d with
 | none =>
  refine .inl (Ys (i:=cy) (U:=U) (A:=A) n a.length D iy (j:=j) v m.1 ?_)
  cases c with
  | c0=>exact KH cy U A n 1 a.length 0 0 j a d e hd b (tE l) f (by decide) m (by decide) k
  | c1 =>
   have f1:=tO cy a [55] (44::(quo d++e)) hd b (by decide) (by decide) (.inr (.inl rfl));have p:=EA cy U A n 2 1 j a.length 0 0 a [55] (quo d++e) false hd b f1 (by decide) (by omega) (by decide) (by decide);rw[p];have h:=KH cy U A n 2 a.length 1 0 j (a++[55,44]) d e hd (by rw[b];simp) (tE l) f (by decide) m (by decide) k;rw[jb] at h;exact h
  | c2 =>
   have f1:=tO cy a [120] (44::(quo d++([44,34,121,34]++e))) hd b (by decide) (by decide) (.inr (.inl rfl));have p:=EA cy U A n 3 1 j a.length 0 0 a [120] (quo d++([44,34,121,34]++e)) false hd b f1 (by decide) (by omega) (by decide) (by decide);rw[p];have h:=KH cy U A n 3 a.length 1 0 j (a++[120,44]) d ([44,34,121,34]++e) hd (by rw[b];simp) (.inr (.inl rfl)) f (by decide) m (by decide) k;rw[jb] at h;exact h
 | some z =>
  obtain⟨g,cc⟩:=z
  refine .inr ⟨g,cc,rfl,?_⟩
  cases c with
  | c0 =>
   have h:=MY cy U (A:=A) n 1 a.length 0 0 j a d e hd b l f (by decide) m (by decide) g (r:=cc) k w s
   have:=vw cy U (A:=A) n a.length 1 0 j v m (by rw[fM];omega) h
   rw[this];simp only[jz,rh,kg]
  | c1 =>
   have f1:=tO cy a [55] (44::(quo d++e)) hd b (by decide) (by decide) (.inr (.inl rfl));have p:=EA cy U A n 2 1 j a.length 0 0 a [55] (quo d++e) false hd b f1 (by decide) (by omega) (by decide) (by decide);have h:=MY cy U (A:=A) n 2 a.length 1 0 j (a++[55,44]) d e hd (by rw[b];simp) l f (by decide) m (by decide) g (r:=cc) k (by simp;omega) s;rw[jb] at h
   have:=vw cy U (A:=A) n a.length 2 1 j v m (by rw[fM];simp;simp at y;omega) (p.trans h)
   rw[this];simp only[jz,rh,kb]
  | c2 =>
   have f1:=tO cy a [120] (44::(quo d++([44,34,121,34]++e))) hd b (by decide) (by decide) (.inr (.inl rfl));have p:=EA cy U A n 3 1 j a.length 0 0 a [120] (quo d++([44,34,121,34]++e)) false hd b f1 (by decide) (by omega) (by decide) (by decide);have h:=lh (bc:=cy) (U:=U) (A:=A) (j:=n) 3 a.length 1 0 (q:=j) (cy:=a++[120,44]) d (u:=quo [121]++e) hd (by rw[b];simp [quo]) f (by decide) m (by decide) g (r:=cc) k (by simp;omega) s;rw[jb] at h;have o:cy=(a++[120,44]++quo d++[44])++(quo [121]++e):=by rw[b];simp [quo]
   have C:=MI cy (a++[120,44]++quo d++[44]) [121] e hd o (by decide) (tE l);have x:=Ai (i:=cy) (U:=true) (A:=A++[(false,[],(a++[120,44]++[34]).drop n),(true,Nt.dec j,d)]) (j:=a.length+2+1+d.length) 3 1 j a.length 2 0 (bc:=a++[120,44]++quo d++[44]) (cy:=quo [121]) e (bm:=true) hd o l C (by decide) (by omega) (by decide) (by decide);have B:(a++[120,44]++quo d++[44]).length=a.length+2+(quo d).length+1:=by simp [quo];omega
   rw[B] at x
   have:=Mg (u:=cy) (U:=U) (A:=A) n a.length 3 1 (j:=j) v m (by rw[fM,fM];simp at y ⊢;omega) ((p.trans h).trans x)
   rw[this];simp only[kb];rfl
def kJ(p q raw:Bs):Bs:=10::(p++(quo raw++q))
def kH(p q:Bs):Bs->List Bs->Nat->List Pt
 | sk,[],_=>[(false,[],sk)]
 | sk,raw::rs,k=>(false,[],sk++10::(p++[34]))::(true,Nt.dec k,raw)::kH p q (34::q) rs (k+1)
def OT(p q:Bs)(co:List Bs):co.flatMap (kJ p q)=[]\/(co.flatMap (kJ p q)).head?=some 10:=by
 cases co with
 | nil=>exact .inl rfl
 | cons r co=>exact .inr rfl
def vt{w col:Int}{h p q:Bs}(c:Cl w col h p q)(d:Bs)(hd:d.length<=50000):∀ (rs:List Bs) (b:Bool) (ps:List Pt) (fr k:Nat) (a:Bs),(∀ r∈rs,clS r=true)->d=a++rs.flatMap (kJ p q)->fr<=a.length->ps.length+2*rs.length<=1800->1<=k->k+rs.length<=900 ->
  ErM (aC G9 fR (SO d b ps fr (a.length+1) w col k))\/∃ x ps' f k',(∀ r∈rs,∃ g cc,dcd 3 r=some (g,cc))/\f<=d.length/\ps'.length<=1800/\1<=k'/\ps'++[(false,[],d.drop f)]=ps++kH p q (a.drop fr) rs k/\aC G9 fR (SO d b ps fr (a.length+1) w col k)=aC G9 fR (SO d x ps' f (d.length+1) w col ((k':Nat):Int))
 | [],b,ps,fr,k,a,B,i,m,v,y,u=>by
  rw[ae5,ka] at i;subst i;exact .inr ⟨b,ps,fr,k,(λr l=>by cases l),m,by omega,y,rfl,rfl⟩
 | raw::rs,b,ps,fr,k,a,B,i,m,v,y,u=>by
  have o3:=B _ (wa);simp only[jd] at v u;have o:d=(a++[10])++(p++(quo raw++(q++rs.flatMap (kJ p q)))):=by
   rw[i,sb];simp [kJ]
  have s:d=(a++kJ p q raw)++rs.flatMap (kJ p q):=by rw[i,sb,kb]
  have l:=Yp c (cy:=d) (U:=b) (A:=ps) (n:=fr) (j:=k) (a++[10]) raw _ hd o (OT p q rs) o3 ⟨y,by omega⟩ (by simp;omega) (by omega);have eP:(a++[(10:UInt8)]).length=a.length+1:=by simp
  rw[eP] at l;rcases l with z | ⟨g,cc,L,M⟩
  ·exact .inl z
  ·have C:a.length+1+p.length+(quo raw).length+q.length+1=(a++kJ p q raw).length+1:=by simp [kJ];omega
   rw[M,C];have D:(a++[10]++(p++[34])).drop fr=a.drop fr++10::(p++[34]):=by
    rw[kb];exact ag8 m
   have E:(a++kJ p q raw).drop (a.length+1+p.length+1+raw.length)=34::q:=by
    have e:a++kJ p q raw=(a++(10::(p++(34::raw))))++(34::q):=by simp [kJ,quo]
    rw[e];exact af6 (by simp;omega)
   rcases vt c d hd rs true (ps++[(false,[],(a++[10]++(p++[34])).drop fr),(true,Nt.dec k,raw)]) (a.length+1+p.length+1+raw.length) (k+1) (a++kJ p q raw) (λr l=>B r (xa _ l)) s (by simp [kJ,quo];omega) (by simp;omega) (by omega) (by omega) with z | ⟨x,ps',f,k',F,G,H,K,I,J⟩
   ·exact .inl z
   ·refine .inr ⟨x,ps',f,k',?_,G,H,K,?_,J⟩
    ·intro r l
     rcases la.1 l with rfl | l
     ·exact⟨g,cc,L⟩
     ·exact F r l
    ·rw[I,D,E]
     simp [kH]
def Xt(c:Cl k D i u bc)(co:List Bs)(hd:cy.length<=50000)(w:∀ r∈co,clS r=true)(E:co.length<=800)(d:cy=i++co.flatMap (kJ u bc)):
  X5 143 cy (∀ r∈co,∃ g cc,dcd 3 r=some (g,cc)) (kH u bc i co 1):=by
 have p:=Pz (u:=cy) (U:=false) [] 0 i (co.flatMap (kJ u bc)) k D hd c.hd d (OT u bc co);have f:=vt c cy hd co false [] 0 1 i w d (lv _) (by simp;omega) (by omega) (by omega);rw[show ((1:Nat):Int)=1 from rfl,<- p] at f;unfold SO obS at f;rw[show ((0:Nat):Int)=0 from rfl,show md false=.full from rfl,show pts []=[] from rfl] at f;rcases f with ⟨F,C,sh',o,e,h,i,q,s,v⟩ | ⟨l,ps',b,k',x,y,G,H,B,n⟩
 ·refine .inl ⟨o,e,h,?_⟩
  refine aA YM ?_;simp only[YM,go_sem,i,q,s,v]
  try rfl
 ·refine .inr ⟨x,?_⟩
  obtain⟨b2,a⟩:=yo cy l ps' b y (by omega);rw[B,kg,kc] at a;have m:=endS (i:=cy) (U:=l) (A:=ps') b (j:=cy.length+1) k D k' (by omega) (by omega);unfold SO obS at m;rw[m] at n;refine aA YM ?_;simp only[YM,go_sem,n,a]
  try rfl
def tdF:List Bs:=[[],[35,120,10],[10]]
theorem mF1:gX 1 [.str []] 3 [0,1,2] [.str [],.str [35,120,10],.str [10]]=some (.sl .full 1 (cH tdF)):=by rfl
def Oh(l:List Int):∀ (k n:Nat) (a:Bs),n+600*k<=70000->a.length+2000*k<=30000->k<=3 ->
  ∃ (rs:List FW) (n':Nat),rs.length=k/\n'<=n+600*k/\(∀ r∈rs,OkR r/\RawOK 2 r.2.1)/\(rs.flatMap kK).length<=2000*k /\
  aC G9 rV (ST [(0,.ptr 0 0),(1,.int .i64 2),(7,.str a),(8,.int .i64 0),(9,.int .i64 k),(18,.bool false),(25,.bool true),(33,.bool false)] [] [num l n])=some (.ex 1,ST [(0,.ptr 0 0),(1,.int .i64 2),(7,.str (a++rs.flatMap kK)),(8,.int .i64 0),(9,.int .i64 0),(18,.bool false),(25,.bool true),(33,.bool false),(42,.bool false)] [] [num l n'])
 | 0,n,a,C,D,E=>by
  refine⟨[],n,rfl,by omega,by simp,by simp,?_⟩;rw[ae5,ka];rw[aB rV rfl];simp only[go_sem,jm]
  try rfl
 | k+1,n,a,C,D,E=>by
  have F:(0:Int)<((k+1:Nat):Int):=by omega
  have s:IntKind.i64.wrap (((k+1:Nat):Int)-1)=(k:Int):=by rw[w6 (by omega)];omega
  obtain⟨f,M,raw,u,b,G,c,g⟩:=U0 (k:=2) (.inr (.inl rfl)) l n (by omega);obtain⟨tl,i,v,tl0⟩:=pA tdF l u 3 (by decide) rfl;have B:=up (c41 l u 3 (by omega) (by decide) (by decide)) rfl;have e:=up (c79 (k+1) (by omega)) rfl;obtain⟨dg,o,m⟩:∃ d:UInt8,Nt.dec (k+1)=[d]/\49<=(d.toNat:Int)/\(d.toNat:Int)<=51:=by
   have:k=0\/k=1\/k=2:=by omega
   rcases this with rfl | rfl | rfl
   ·exact⟨49,by decide,by decide,by decide⟩
   ·exact⟨50,by decide,by decide,by decide⟩
   ·exact⟨51,by decide,by decide,by decide⟩
  rw[o] at e;have I:tl.length<=5:=(by decide:∀ x∈tdF,x.length<=5) tl i;have J:=b.ln;have p:OkR (dg,raw,tl):=⟨m,b.cl,by simpa [tdF] using i⟩
  have H:(kK (dg,raw,tl)).length<=1900:=by simp [kK];omega
  obtain⟨rs,n',w,K,y,L,A⟩:=Oh l k (u+1) (a++kK (dg,raw,tl)) (by omega) (by rw[jb];omega) (by omega);refine⟨(dg,raw,tl)::rs,n',by simp [w],by omega,?_,?_,?_⟩
  ·intro r q
   rcases la.1 q with rfl | q
   ·exact⟨p,b⟩
   ·exact y r q
  ·rw[sb,jb];omega
  ·rw[sb,<- kb,<- A]
   have h:=mS l;have j:decide ((2:Int)=1)=false:=rfl;rw[j] at c
   conv=>lhs;rw[aB rV rfl]
   simp only[go_sem,F,c,g,mF1,B,e,v,tl0,h,s]
   repeat (refine (iw ?_).trans ?_;· first | omega | (simp only[jb,jd,jz];omega))
   rw[show (107:UInt8)::dg::61::(raw++[10]++tl)=kK (dg,raw,tl) by simp [kK]]
def Kk:List Bs:=[[],[55,44],[120,44]]
def Kj:List Bs:=[[],[],[44,34,121,34]]
theorem mQ1:gX 1 [.str []] 3 [0,1,2] [.str [],.str [55,44],.str [120,44]]=some (.sl .full 1 (cH Kk)):=by rfl
theorem mQ2:gX 1 [.str []] 3 [0,1,2] [.str [],.str [],.str [44,34,121,34]]=some (.sl .full 1 (cH Kj)):=by rfl
def oc(l:List Int)(c:Nat)(p q:Bs)(u:(cH Kk)[c]?=some [.str p])(v:(cH Kj)[c]?=some [.str q])(j:p.length<=5)(m:q.length<=5):∀ (k n:Nat) (a:Bs),n+600*k<=70000->a.length+2000*k<=30000->k<=100 ->
  ∃ (rs:List Bs) (n':Nat),rs.length=k/\n'<=n+600*k/\(∀ r∈rs,RawOK 3 r)/\(rs.flatMap (kJ p q)).length<=2000*k /\
  aC G9 rV (ST [(0,.ptr 0 0),(1,.int .i64 3),(7,.str a),(8,.int .i64 c),(9,.int .i64 k),(18,.bool false),(25,.bool false),(33,.bool true)] [] [num l n])=some (.ex 1,ST [(0,.ptr 0 0),(1,.int .i64 3),(7,.str (a++rs.flatMap (kJ p q))),(8,.int .i64 c),(9,.int .i64 0),(18,.bool false),(25,.bool false),(33,.bool true),(42,.bool false)] [] [num l n'])
 | 0,n,a,A,B,C=>by
  refine⟨[],n,rfl,by omega,by simp,by simp,?_⟩;rw[ae5,ka];rw[aB rV rfl];simp only[go_sem,jm]
  try rfl
 | k+1,n,a,A,B,C=>by
  have D:(0:Int)<((k+1:Nat):Int):=by omega
  have h:0<=(c:Int):=by omega
  have s:IntKind.i64.wrap (((k+1:Nat):Int)-1)=(k:Int):=by rw[w6 (by omega)];omega
  obtain⟨f,K,raw,G,d,E,b,e⟩:=U0 (k:=3) (.inr (.inr rfl)) l n (by omega);have H:=d.ln;have F:(kJ p q raw).length<=1900:=by simp [kJ,quo];omega
  obtain⟨rs,n',w,I,x,J,y⟩:=oc l c p q u v j m k G (a++kJ p q raw) (by omega) (by rw[jb];omega) (by omega);refine⟨raw::rs,n',by simp [w],by omega,?_,?_,?_⟩
  ·intro r o
   rcases la.1 o with rfl | o
   ·exact d
   ·exact x r o
  ·rw[sb,jb];omega
  ·rw[sb,<- kb,<- y]
   have g:=mS l;have i:decide ((3:Int)=1)=false:=rfl;rw[i] at b
   conv=>lhs;rw[aB rV rfl]
   simp only[go_sem,D,b,e,mQ1,mQ2,u,v,h,g,s]
   repeat (refine (iw ?_).trans ?_;· first | omega | (simp only[jb,jd,jz];omega))
   rw[show (10:UInt8)::(p++[34]++raw++[34]++q)=kJ p q raw by simp [kJ,quo]]
def Ke(h:fmK k):G9 102 [.int .i64 k] []=some (.bool true,[]):=by
 refine aA Gp ?_;rcases h with rfl | rfl | rfl<;>simp only[Gp,go_sem]
def Te(fm:Int)(d:Bs)(ok:Prop)(ps:List Pt):Prop:=
 (∃ a e:Int,e≠0/\G9 103 [.int .i64 fm,.str d] []=some (.tup [.sl .no 3 [],.int .i64 a,.int .i64 e],[]))\/(ok/\G9 103 [.int .i64 fm,.str d] []=some (.tup [.sl .no 3 (pts ps),.int .i64 0,.int .i64 0],[]))
def yq(d:(k=1/\Y=141)\/(k=2/\Y=142)\/(k=3/\Y=143))(hd:i.length<=50000)(h:X5 Y i cz A):Te k i cz A:=by
 have hg:¬ 65536<(i.length:Int):=by omega
 unfold X5 at h;rcases d with ⟨rfl,rfl⟩ | ⟨rfl,rfl⟩ | ⟨rfl,rfl⟩
 ·rcases h with ⟨a,e,b,h⟩ | ⟨c,h⟩
  ·refine .inl ⟨a,e,b,?_⟩
   refine aA tM ?_;simp only[tM,go_sem,hg,h]
   try rfl
  ·refine .inr ⟨c,?_⟩
   refine aA tM ?_;simp only[tM,go_sem,hg,h]
   try rfl
 ·rcases h with ⟨a,e,b,h⟩ | ⟨c,h⟩
  ·refine .inl ⟨a,e,b,?_⟩
   refine aA tM ?_;simp only[tM,go_sem,hg,h]
   try rfl
  ·refine .inr ⟨c,?_⟩
   refine aA tM ?_;simp only[tM,go_sem,hg,h]
   try rfl
 ·rcases h with ⟨a,e,b,h⟩ | ⟨c,h⟩
  ·refine .inl ⟨a,e,b,?_⟩
   refine aA tM ?_;simp only[tM,go_sem,hg,h]
   try rfl
  ·refine .inr ⟨c,?_⟩
   refine aA tM ?_;simp only[tM,go_sem,hg,h]
   try rfl
def Ti(fm:Int)(d:Bs)(ok:Prop)(ps:List Pt):Prop:=
 (∃ a e:Int,e≠0/\G9 58 [.int .i64 fm,.str d] []=some (.tup [.agg [.int .i64 0,.sl .full 3 []],.int .i64 a,.int .i64 e],[]))\/(ok/\G9 58 [.int .i64 fm,.str d] []=some (.tup [.agg [.int .i64 fm,.sl .no 3 (pts ps)],.int .i64 0,.int .i64 0],[]))
def u58(d:fmK k)(h:Te k i cz A):Ti k i cz A:=by
 have b:=Ke d;rcases h with ⟨a,e,c,h⟩ | ⟨f,h⟩
 ·refine .inl ⟨a,e,c,?_⟩
  refine aA F58 ?_;simp only[F58,go_sem,b,h,c]
  try rfl
 ·refine .inr ⟨f,?_⟩
  refine aA F58 ?_;simp only[F58,go_sem,b,h]
  try rfl
def ZG:List Bs:=[[],[60,104,116,109,108,62],[60,33,45,45,32,60,112,62,32,45,45,62,120]]
def ZF:List Bs:=[[],[35,32,99,10],[10,32,10]]
def ZE:List Bs:=[[116,101,120,116],[105,100,44,116,101,120,116],[34,97,44,98,34,44,116,101,120,116,44,99]]
theorem mH1:gX 1 [.str []] 3 [0,1,2] [.str [],.str [60,104,116,109,108,62],.str [60,33,45,45,32,60,112,62,32,45,45,62,120]]=some (.sl .full 1 (cH ZG)):=by rfl
theorem mH2:gX 1 [.str []] 3 [0,1,2] [.str [],.str [35,32,99,10],.str [10,32,10]]=some (.sl .full 1 (cH ZF)):=by rfl
theorem mH3:gX 1 [.str []] 3 [0,1,2] [.str [116,101,120,116],.str [105,100,44,116,101,120,116],.str [34,97,44,98,34,44,116,101,120,116,44,99]]=some (.sl .full 1 (cH ZE)):=by rfl
def Wx(q:n<=60000):∃ (h:Bs) (rs:List vP) (n':Nat),hdM h/\rs.length<=3/\(∀ r∈rs,OkM r/\RawOK 1 r.2.2.1)/\(h++rs.flatMap fE).length<=50000/\G9 59 [.ptr 0 0,.int .i64 1,.int .i64 3] [num L n]=some (.str (h++rs.flatMap fE),[num L n']):=by
 obtain⟨h,c,i,g⟩:=pA ZG L n 3 (by decide) rfl;have e:=up (c41 L n 3 (by omega) (by decide) (by decide)) rfl;have f:=up (c41 L (n+1) 4 (by omega) (by decide) (by decide)) rfl;have o:=jL L (n+1) 4 (by decide);have j:(((nxt L (n+1) 4).toNat:Nat):Int)=nxt L (n+1) 4:=by omega
 have p:h.length<=13:=(by decide:∀ x∈ZG,x.length<=13) h c;obtain⟨rs,n',k,l,d,m,b⟩:=Oi L (nxt L (n+1) 4).toNat (n+1+1) h (by omega) (by omega) (by omega);rw[j] at b;refine⟨h,rs,n',by simpa [ZG,hdM] using c,by omega,d,by rw[jb];omega,?_⟩;have a:=mS L;refine aA F59 ?_;simp only[F59,go_sem,mH1,e,i,g,f,b,a]
 try rfl
def Ww(q:n<=60000):∃ (h:Bs) (rs:List FW) (n':Nat),hdR h/\rs.length<=3/\(∀ r∈rs,OkR r/\RawOK 2 r.2.1)/\(h++rs.flatMap kK).length<=50000/\G9 59 [.ptr 0 0,.int .i64 2,.int .i64 3] [num L n]=some (.str (h++rs.flatMap kK),[num L n']):=by
 obtain⟨h,c,i,g⟩:=pA ZF L n 3 (by decide) rfl;have e:=up (c41 L n 3 (by omega) (by decide) (by decide)) rfl;have f:=up (c41 L (n+1) 4 (by omega) (by decide) (by decide)) rfl;have o:=jL L (n+1) 4 (by decide);have j:(((nxt L (n+1) 4).toNat:Nat):Int)=nxt L (n+1) 4:=by omega
 have p:h.length<=13:=(by decide:∀ x∈ZF,x.length<=13) h c;obtain⟨rs,n',k,l,d,m,b⟩:=Oh L (nxt L (n+1) 4).toNat (n+1+1) h (by omega) (by omega) (by omega);rw[j] at b;refine⟨h,rs,n',by simpa [ZF,hdR] using c,by omega,d,by rw[jb];omega,?_⟩;have a:=mS L;refine aA F59 ?_;simp only[F59,go_sem,mH2,e,i,g,f,b,a]
 try rfl
def Wv(y:n<=60000):∃ (w col:Int) (h p q:Bs) (rs:List Bs) (n':Nat),Cl w col h p q/\rs.length<=3/\(∀ r∈rs,RawOK 3 r)/\(h++rs.flatMap (kJ p q)).length<=50000/\G9 59 [.ptr 0 0,.int .i64 3,.int .i64 3] [num L n]=some (.str (h++rs.flatMap (kJ p q)),[num L n']):=by
 obtain⟨h,s,j,i⟩:=pA ZE L n 3 (by decide) rfl;have f:=up (c41 L n 3 (by omega) (by decide) (by decide)) rfl;have g:=up (c41 L (n+1) 4 (by omega) (by decide) (by decide)) rfl;have u:=jL L (n+1) 4 (by decide);have k:(((nxt L (n+1) 4).toNat:Nat):Int)=nxt L (n+1) 4:=by omega
 have v:h.length<=13:=(by decide:∀ x∈ZE,x.length<=13) h s;have a:=mS L;have b:h=[116,101,120,116]\/h=[105,100,44,116,101,120,116]\/h=[34,97,44,98,34,44,116,101,120,116,44,99]:=by simpa [ZE] using s
 rcases b with rfl | rfl | rfl
 ·obtain⟨rs,n',l,m,d,o,c⟩:=oc L 0 [] [] rfl rfl (by simp) (by simp) (nxt L (n+1) 4).toNat (n+1+1) [116,101,120,116] (by omega) (by omega) (by omega)
  have e:IntKind.i64.wrap (Int.tdiv 4 6)=0:=by decide
  rw[k,show ((0:Nat):Int)=0 from rfl] at c;refine⟨_,_,_,_,_,rs,n',.c0,by omega,d,by rw[jb];omega,?_⟩;refine aA F59 ?_;simp only[F59,go_sem,mH3,f,j,i,g,c,a,e]
  try rfl
 ·obtain⟨rs,n',l,m,d,o,c⟩:=oc L 1 [55,44] [] rfl rfl (by simp) (by simp) (nxt L (n+1) 4).toNat (n+1+1) [105,100,44,116,101,120,116] (by omega) (by omega) (by omega)
  have e:IntKind.i64.wrap (Int.tdiv 7 6)=1:=by decide
  rw[k,show ((1:Nat):Int)=1 from rfl] at c;refine⟨_,_,_,_,_,rs,n',.c1,by omega,d,by rw[jb];omega,?_⟩;refine aA F59 ?_;simp only[F59,go_sem,mH3,f,j,i,g,c,a,e]
  try rfl
 ·obtain⟨rs,n',l,m,d,o,c⟩:=oc L 2 [120,44] [44,34,121,34] rfl rfl (by simp) (by simp) (nxt L (n+1) 4).toNat (n+1+1) [34,97,44,98,34,44,116,101,120,116,44,99] (by omega) (by omega) (by omega)
  have e:IntKind.i64.wrap (Int.tdiv 12 6)=2:=by decide
  rw[k,show ((2:Nat):Int)=2 from rfl] at c;refine⟨_,_,_,_,_,rs,n',.c2,by omega,d,by rw[jb];omega,?_⟩;refine aA F59 ?_;simp only[F59,go_sem,mH3,f,j,i,g,c,a,e]
  try rfl
end Go.Av
