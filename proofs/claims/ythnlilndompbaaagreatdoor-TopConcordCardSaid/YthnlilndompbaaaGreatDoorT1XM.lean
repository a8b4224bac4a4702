/- Functions walked, and plain facts. No conditions. -/
import Derived.Test.YthnlilndompbaaaGreatDoorT1XL
import Derived.Test.YthnlilndompbaaaGreatDoorT1Sy
import Derived.Test.YthnlilndompbaaaGreatDoorT1XG
import Derived.Test.YthnlilndompbaaaGreatDoorT1XD
import Derived.Test.YthnlilndompbaaaGreatDoorT1Ev21to28
import Derived.SizedLaws
import Derived.Deep.Strs
import Derived.Deep.Fields
open List
set_option linter.all false
set_option maxRecDepth 100000
set_option maxHeartbeats 16000000
namespace Go.Av
open Go.Nt
variable{bu:List Tk}{e:List It}{ge:List (List It)}{il:List Pc}{n:Nat}{p:Pc}
variable [Mx]
def XE(b:vld e=0)(f:tot e<=1750):vld (can e)=0/\(can e).length<=512/\tot (can e)<=50000:=by
 obtain⟨d,a⟩:=iG (jU b (by decide:vld ([]:List It)=0)) b;have g:=qH a;obtain⟨_,c,_⟩:=(cG _).1 a;exact⟨a,c,by have:tot (can e)=tot (i6 e []):=rfl;omega⟩
def xk(c:vld e=0)(b:tot e<=1750):BE (eP e):=by
 obtain⟨d,f,a⟩:=XE c b;exact⟨by show (can e).length<=600;omega,a,by show (can e).length<=600;omega,a,lv _,lv _,lv _,lv _⟩
def Qx(c:vld e=0)(b:tot e<=1750):BE (eQ e):=by
 obtain⟨d,f,a⟩:=XE c b;exact⟨by show (can e).length<=600;omega,a,lv _,lv _,lv _,lv _,lv _,lv _⟩
def GP(l:List (List It)):Prop:=∀ s∈l,vld s=0/\s≠[]/\tot s<=1750
def MP.be(h:MP ge)(hg:GP ge):∀ e∈gI ge,BE e:=by
 intro e b;obtain⟨s,a,rfl⟩:=h.all e b;exact xk (hg s a).1 (hg s a).2.2
def gA(P:List Pc):List (List It):=P.map λp=>p.2.2.2
def KR(h:il[n]?=some p):(pcs il)[n]?=some [.int .i64 p.1,.int .i64 p.2.1,.int .i64 p.2.2.1,.sl .no 3 (tks p.2.2.2)]:=by simp [pcs,pcR,h]
def CG(i:Nat)(h:il[i]?=some p):gA (il.take (i+1))=gA (il.take i)++[p.2.2.2]:=by
 unfold gA;rw[ab7,h];simp
def FX(P:List Pc)(hg:GP (gA P)):∀ i,i<=P.length->MP (gA (P.take i))
 | 0,_=>MP.nil
 | i+1,h=>by
  have hi:i<P.length:=by omega
  have d:=FX P hg i (by omega);have e:=CG (il:=P) i (ii hi);have b:∀ s∈gA (P.take i),s∈gA P:=by
   intro s a;obtain⟨p,c,rfl⟩:=yd.1 a;exact yd.2 ⟨p,ai3 c,rfl⟩
  have a:=hg _ (yd.2 ⟨P[i],xd hi,rfl⟩);rw[e];exact d.snoc (λs a=>⟨(hg s (b s a)).1,(hg s (b s a)).2.1⟩) a.1 a.2.1
def BX(hg:GP (gA il)):GP (gA (il.take n)):=by
 intro s b;obtain⟨p,a,rfl⟩:=yd.1 b;exact hg _ (yd.2 ⟨p,ai3 a,rfl⟩)
def l3a(w:Int)(P:List Pc)(C:P.length<=1000)(hg:GP (gA P)):∀ (k i:Nat) (d:Own),d≠.own->i+k=P.length ->
  ∃ a,(a=d\/a=.no)/\(i<P.length->a=.no)/\aC G11 JG (ST [(1,.int .i64 w),(6,.sl .no 4 (pcs P)),(7,.bool true),(8,.sl d 8 (ens (gI (gA (P.take i))))),(25,.bool false),(36,.int .i64 P.length),(37,.int .i64 i)] [] []) =
   some (.ex 0,ST [(1,.int .i64 w),(6,.sl .no 4 (pcs P)),(7,.bool true),(8,.sl a 8 (ens (gI (gA P)))),(25,.bool false),(36,.int .i64 P.length),(37,.int .i64 P.length),(38,.bool false)] [] [])
 | 0,i,d,v,h=>by
  have:i=P.length:=by omega
  subst this;have E:¬ (P.length:Int)<P.length:=by omega
  rw[Ut];refine⟨d,.inl rfl,λq=>absurd q (by omega),?_⟩;rw[aB JG rfl];simp only[go_sem,E]
  try rfl
 | k+1,i,d,v,h=>by
  have hi:i<P.length:=by omega
  have u:(i:Int)<P.length:=by omega
  have f:0<=(i:Int):=by omega
  have y:=wI (n:=i) (by omega)
  have c:P[i]?=some P[i]:=ii hi;have b:=xd hi;generalize P[i]=p at c b;have x:=KR c;obtain⟨j,s,G⟩:=hg p.2.2.2 (yd.2 ⟨p,b,rfl⟩);have o:=FX P hg i (by omega);have e:=CG (il:=P) i (p:=p) c;have m:=oR (up (k60 p.2.2.2 p.2.2.2 j j) rfl) rfl rfl;obtain⟨A,B⟩:=O5 j;rw[A,B] at m;have D:=o.ln;have H:(gA (P.take i)).length<=1000:=by unfold gA;rw[zt,tr];omega
  have l:=oR (up (k27 (gI (gA (P.take i))) (by omega) (o.be (BX (il:=P) hg (n:=i))) (F:=eP p.2.2.2) (xk j G)) rfl) rfl rfl;have ok:okM (gI (gA (P.take i)))=true:=(uJ).2 ⟨by omega,o.mem⟩;obtain⟨J,K⟩:=zX (F:=eP p.2.2.2) ok ((rW _).2 (IR j s)) (λq=>by have:=q.2;omega);rw[J,K,<- nF,<- e] at l;simp only[cD,eP] at l;obtain⟨a,r,_,I⟩:=l3a w P C hg k (i+1) .no (by decide) (by omega);have g:a=.no:=by rcases r with h | h<;>exact h
  refine⟨a,.inr g,λ_=>g,?_⟩;rw[<- I]
  cases d with
  | own=>exact absurd rfl v
  | no =>
   conv=>lhs;rw[aB JG rfl]
   simp only[go_sem,u,f,pcs_len,x,m,l,y]
   try rfl
  | full =>
   conv=>lhs;rw[aB JG rfl]
   simp only[go_sem,u,f,pcs_len,x,m,l,y]
   try rfl
def l3b(w:Int)(B E c:AV)(p r s u o v A:Int)(f:Int)(key:Bs)(m:List En)(l:E=.sl .no 8 (ens m))(R:B=.sl .no 4 (pcs [])\/True)(H:List Ht)(J:Int)(O:H.length<=1000000000000)(i:G11 14 [.sl .no 8 (ens m),.str key] []=some (.int .i64 J,[]))(P:List Pc)(j:B=.sl .no 4 (pcs P))(T:List Tk)(a:c=.sl .no 3 (tks T)):∀ (k q:Nat) (b:Bool),q+k=H.length->(b=true\/∃ x∈H.drop q,x.1=J) ->
  aC G11 DM (ST [(1,.int .i64 w),(6,B),(7,.bool true),(8,E),(14,.int .i64 o),(18,.int .i64 f),(19,.str key),(20,.bool b),(25,.bool false),(36,.int .i64 p),(37,.int .i64 r),(38,.bool false),(67,.int .i64 s),(68,.int .i64 u),(69,.bool true),(76,c),(77,.int .i64 v),(78,.int .i64 A),(79,.bool true),(84,.bool false),(103,.sl .no 3 (hts H)),(104,.int .i64 H.length),(105,.int .i64 q)] [] []) =
   some (.ex 6,ST [(1,.int .i64 w),(6,B),(7,.bool true),(8,E),(14,.int .i64 o),(18,.int .i64 f),(19,.str key),(20,.bool true),(25,.bool false),(36,.int .i64 p),(37,.int .i64 r),(38,.bool false),(67,.int .i64 s),(68,.int .i64 u),(69,.bool true),(76,c),(77,.int .i64 v),(78,.int .i64 A),(79,.bool true),(84,.bool false),(103,.sl .no 3 (hts H)),(104,.int .i64 H.length),(105,.int .i64 H.length),(106,.bool false)] [] [])
 | 0,q,b,h,d=>by
  have:q=H.length:=by omega
  subst this;have Q:¬ (H.length:Int)<H.length:=by omega
  have d:b=true:=by
   rcases d with h | ⟨x,N,_⟩
   ·exact h
   ·rw[lb] at N;cases N
  subst d;subst j l a;rw[aB DM rfl];simp only[go_sem,Q]
  try rfl
 | k+1,q,b,h,d=>by
  have M:q<H.length:=by omega
  have F:(q:Int)<H.length:=by omega
  have g:0<=(q:Int):=by omega
  have I:=wI (n:=q) (by omega)
  have C:H[q]?=some H[q]:=ii M;have hd:H.drop q=H[q]::H.drop (q+1):=je M;generalize H[q]=x at C hd;have G:=Cy C;rw[hd] at d;have L:=l3b w B E c p r s u o v A f key m l R H J O i P j T a k (q+1);subst j l a
  cases b with
  | true =>
   rw[<- L true (by omega) (.inl rfl)]
   conv=>lhs;rw[aB DM rfl]
   simp only[go_sem,F,g,oA,G,I]
   try rfl
  | false =>
   by_cases e:x.1=J
   ·rw[<- L true (by omega) (.inl rfl)]
    conv=>lhs;rw[aB DM rfl]
    simp only[go_sem,F,g,oA,G,I,i,e]
    try rfl
   ·rw[<- L false (by omega) (.inr (by
     rcases d with d | ⟨y,K,D⟩
     ·cases d
     ·rcases la.1 K with rfl | K
      ·exact absurd D e
      ·exact⟨y,K,D⟩))]
    conv=>lhs;rw[aB DM rfl]
    simp only[go_sem,F,g,oA,G,I,i,e]
    try rfl
def l3c(w:Int)(P:List Pc)(R:P.length<=1000)(hg:GP (gA P))(i:Nat)(p:Pc)(hi:P[i]?=some p)(e:Int):∀ (k j:Nat),j+k=(eN p.2.2.2).length ->
  aC G11 JF (ST [(1,.int .i64 w),(6,.sl .no 4 (pcs P)),(7,.bool true),(8,.sl .no 8 (ens (gI (gA P)))),(14,.int .i64 i),(25,.bool false),(36,.int .i64 P.length),(37,.int .i64 e),(38,.bool false),(67,.int .i64 P.length),(68,.int .i64 i),(69,.bool true),(76,.sl .no 3 (tks (eN p.2.2.2))),(77,.int .i64 (eN p.2.2.2).length),(78,.int .i64 j)] [] []) =
   some (.ex 4,ST [(1,.int .i64 w),(6,.sl .no 4 (pcs P)),(7,.bool true),(8,.sl .no 8 (ens (gI (gA P)))),(14,.int .i64 i),(25,.bool false),(36,.int .i64 P.length),(37,.int .i64 e),(38,.bool false),(67,.int .i64 P.length),(68,.int .i64 i),(69,.bool true),(76,.sl .no 3 (tks (eN p.2.2.2))),(77,.int .i64 (eN p.2.2.2).length),(78,.int .i64 (eN p.2.2.2).length),(79,.bool false)] [] [])
 | 0,j,h=>by
  have:j=(eN p.2.2.2).length:=by omega
  subst this;have U:¬ ((eN p.2.2.2).length:Int)<((eN p.2.2.2).length:Int):=by omega
  rw[aB JF rfl];simp only[go_sem,U]
  try rfl
 | k+1,j,h=>by
  have S:i<P.length:=by
   rcases aa7 i P.length with q | q
   ·exact q
   ·rw[getElem?_eq_none_iff.2 q] at hi;cases hi
  have G:p∈P:=ab4 hi;have l:p.2.2.2∈gA P:=yd.2 ⟨p,G,rfl⟩;obtain⟨B,y,Z⟩:=hg p.2.2.2 l;have X:=KR hi;have u:=FX P hg P.length (ji _);rw[Ut] at u;have Y:(gA P).length<=1000:=by unfold gA;rw[zt];omega
  have T:=u.ln;have g:=u.be hg;have M:j<(eN p.2.2.2).length:=by omega
  have K:(j:Int)<((eN p.2.2.2).length:Int):=by omega
  have r:0<=(j:Int):=by omega
  have i0:0<=(i:Int):=by omega
  have i1:(i:Int)<P.length:=by omega
  have I:=lD p.2.2.2;have V:p.2.2.2.length<=512:=((cG _).1 B).2.1;have N:=wI (n:=j) (by omega)
  have v:(eN p.2.2.2)[j]?=some (eN p.2.2.2)[j]:=ii M;have c:=xd M;have ih:=l3c w P R hg i p hi e k (j+1) (by omega);generalize (eN p.2.2.2)[j]=t at v c;have A:=cQ v;have av:=I.2 t c;rw[<- ih];by_cases o:t.1=6
  ·obtain⟨ok,J,j1,j2⟩:okM (gI (gA P))=true/\∃ J:Nat,WJ (gI (gA P)) (bU (eQ p.2.2.2))=(J:Int)/\∀ fl,∃ x∈srF (nD t.2.1) fl 0 (gI (gA P)),x.1=(J:Int):=by
    have a:=N8 u (by omega) l B y c o true;have b:=N8 u (by omega) l B y c o false;obtain⟨ok,J,O,q2⟩:=a;obtain⟨_,Q,q3,q4⟩:=b
    have:J=Q:=by rw[O] at q3;omega
    subst this;exact⟨ok,J,O,λfl=>by cases fl;exact q4;exact q2⟩
   have E:nD t.2.1≠[]:=by rw[zA c o];simp
   have C:∀ fl,G11 11 [.sl .no 8 (ens (gI (gA P))),.str t.2.1,.bool fl] []=some (.tup [.sl .no 3 (hts (srF (nD t.2.1) fl 0 (gI (gA P)))),.int .i64 0],[]):=λfl=>oR (up (k17 (by omega) g ok t.2.1 (by omega) (d:=fl) E) rfl) rfl rfl
   have D:=Y6 (u13 (b:=p.2.2.2) B) rfl;have f:=oR (up (k24 (F:=eQ p.2.2.2) (Qx B Z)) rfl) rfl rfl;simp only[cD,eQ,cW] at f;rw[show (⟨can p.2.2.2,[],[],[],[],[],0,1⟩:En)=eQ p.2.2.2 from rfl] at f;have s:=oR (up (k35 (m:=gI (gA P)) (by omega) g (i:=bU (eQ p.2.2.2))) rfl) rfl rfl;rw[j1] at s;have H:∀ fl,(srF (nD t.2.1) fl 0 (gI (gA P))).length<=1000000000000:=λfl=>by
    have:=MM (nD t.2.1) (by rw[zA c o];simp) fl (gI (gA P)) 0 g
    omega
   have L:∀ fl,_:=λfl=>l3b w _ _ _ (P.length:Int) e (P.length:Int) (i:Int) (i:Int) ((eN p.2.2.2).length:Int) (j:Int) 0 (bU (eQ p.2.2.2)) (gI (gA P)) rfl (.inr trivial) (srF (nD t.2.1) fl 0 (gI (gA P))) (J:Int) (H fl) s P rfl (eN p.2.2.2) rfl (srF (nD t.2.1) fl 0 (gI (gA P))).length 0 false (by omega) (.inr (by rw[kc];exact j2 fl))
   rw[show ((0:Nat):Int)=0 from rfl] at L
   conv=>lhs;rw[aB JF rfl]
   simp only[go_sem,K,r,aD,A,o,C,pcs_len,i0,i1,X,D,f,oA,L,N]
   try rfl
  ·conv=>lhs;rw[aB JF rfl]
   simp only[go_sem,K,r,aD,A,o,N]
   try rfl
def l3d(w:Int)(P:List Pc)(j:P.length<=1000)(hg:GP (gA P))(a:Int)(g:Own)(m:P≠[]->g=.no):∀ (k i:Nat),i+k=P.length ->
  aC G11 PQ (ST [(1,.int .i64 w),(6,.sl .no 4 (pcs P)),(7,.bool true),(8,.sl g 8 (ens (gI (gA P)))),(25,.bool false),(36,.int .i64 P.length),(37,.int .i64 a),(38,.bool false),(67,.int .i64 P.length),(68,.int .i64 i)] [] []) =
   some (.ex 2,ST [(1,.int .i64 w),(6,.sl .no 4 (pcs P)),(7,.bool true),(8,.sl g 8 (ens (gI (gA P)))),(25,.bool false),(36,.int .i64 P.length),(37,.int .i64 a),(38,.bool false),(67,.int .i64 P.length),(68,.int .i64 P.length),(69,.bool false)] [] [])
 | 0,i,h=>by
  have:i=P.length:=by omega
  subst this;have r:¬ (P.length:Int)<P.length:=by omega
  rw[aB PQ rfl];simp only[go_sem,r]
  try rfl
 | k+1,i,h=>by
  have hi:i<P.length:=by omega
  have f:=m (λq=>by rw[q] at hi;simp at hi);subst f;have o:(i:Int)<P.length:=by omega
  have d:0<=(i:Int):=by omega
  have y:=wI (n:=i) (by omega)
  have c:P[i]?=some P[i]:=ii hi;have b:=xd hi;generalize P[i]=p at c b;have v:=KR c;obtain⟨x,s,A⟩:=hg p.2.2.2 (yd.2 ⟨p,b,rfl⟩);have u:p.2.2.2.length<=512:=((cG _).1 x).2.1;have e:=oR (up (k93 p.2.2.2 (by omega) (by omega)) rfl) rfl rfl;have l:=l3c w P j hg i p c a (eN p.2.2.2).length 0 (by omega);rw[show ((0:Nat):Int)=0 from rfl] at l;rw[<- l3d w P j hg a .no m k (i+1) (by omega)]
  conv=>lhs;rw[aB PQ rfl]
  simp only[go_sem,o,d,pcs_len,v,e,aD,l,y]
  try rfl
def u3(k:G11 4 [] []=some (.bool true,[]))(l:List Int)(w:Int):G11 3 [.sl .no 1 (fG l),.int .i64 w] []=some (.bool true,[]):=by
 by_cases F:l.length<=200
 case neg =>
  have hg:200<(l.length:Int):=by omega
  refine aA F3z ?_;simp only[F3z,go_sem,eE,hg,k]
  try rfl
 have hg:¬ 200<(l.length:Int):=by omega
 obtain⟨fm,ps,r,v,f⟩:=u5 l;have f:=oR f rfl rfl;have o:=oR u7 rfl rfl;have un:=v.un;have j:=un.pcs_len;have B:=nW ps 0;have C:=un.un;have u:=un.ln;have d:=oR (u6 (D:=fm) r (A:=ps) (by omega) un.ok (by omega)) rfl rfl;rw[show (fD ps 0).flatMap (l6 fm ps)=KS fm ps from rfl] at d;unfold fT at d;have e:GP (gA (KS fm ps)):=by
  intro s y;obtain⟨p,x,rfl⟩:=yd.1 y;obtain⟨_,_,_,_,_,_,_,_,_,_,a,b,c⟩:=un.pc p x;exact⟨a,b,c⟩
 generalize KS fm ps=P at d j e;obtain⟨n,g,i,m⟩:=l3a w P (by omega) e P.length 0 .full (by decide) (by omega);rw[Tv,show ens (gI (gA []))=[] from rfl,show ((0:Nat):Int)=0 from rfl] at m;have hd:=l3d w P (by omega) e P.length n (λq=>i (length_pos_iff.2 q)) P.length 0 (by omega);rw[show ((0:Nat):Int)=0 from rfl] at hd;have E:n≠.own:=by rcases g with h | h<;>rw[h]<;>decide
 refine aA F3z ?_;simp only[F3z,go_sem,eE,hg,f,o,d,pcs_len,m,hd,k]
 try rfl
open Go.Proofs Go.Nt
def k_bt:btF (kPs.set 1 (true,Nt.dec 1,K4))=C0:=by kernel_rfl
def k_r2:iA (tZ kG)=[[.int .i64 0,.int .i64 5],[.int .i64 6,.int .i64 16]]:=by rw[Pj];rfl
def u4:G11 4 [] []=some (.bool true,[]):=by
 have d:G11 15 [.int .i64 1,.str oh] []=some (.tup [.agg [.int .i64 1,.sl .no 3 (pts kPs)],.int .i64 0,.int .i64 0],[]):=Y6 xe rfl;have b:=oR (u16 (D:=1) (.inl rfl) kPs 1 (Nt.dec 1) QX (by kernel_rfl) (by decide) (by decide) VQ) rfl rfl;rw[show ((1:Nat):Int)=1 from rfl] at b;have g:=AZ VQ;have c:=oR (u17 kG g.1 (by omega) (by have:=g.2.2.2;have:QX.length=21:=rfl;omega)) rfl rfl;have h:=oR u7 rfl rfl;have a:G11 18 H7 []=some (VR,[]):=f9 lu;have e:G11 19 [.agg [.int .i64 1,.sl .no 3 (pts (kPs.set 1 (true,Nt.dec 1,K4)))]] []=some (.str C0,[]):=by
  refine Y6 (f9 ?_) rfl
  have:=FN (k:=1) (A:=kPs.set 1 (true,Nt.dec 1,K4)) ⟨by decide,by decide⟩
  rw[k_bt] at this;exact this
 unfold fT at c;rw[k_r2] at c;have ek:H7=[.agg [.int .i64 1,.sl .no 3 (pts kPs)],.int .i64 1,.sl .no 2 [[.int .i64 0,.int .i64 5]],.sl .no 1 [[.sl .no 3 [[.int .i64 1,.str kT,.int .i64 0]]]]]:=rfl;rw[ek] at a;unfold VR at a;unfold oh at d;unfold kT at a;have f:(C0==C0)=true:=by decide
 generalize kPs.set 1 (true,Nt.dec 1,K4)=j at a e;generalize kPs=i at d b a;generalize kG=l at b c;unfold C0 at f;rw[show C0=[60,112,62,83,105,99,104,101,114,110,46,32,60,98,62,82,101,100,60,47,98,62,32,99,97,114,33,60,47,112,62] from rfl] at e;refine aA F4z ?_;simp only[F4z,go_sem,d,b,h,c,a,e,f]
 done
open Go.Proofs Go.RowKit Go.Nt
set_option maxHeartbeats 4000000
def Qr:∀ vs w,(callFunc 64 vs).run Tryz.prog w=.ok (.enter 64 vs) w:=enters_of Tryz.func64 (by kernel_rfl) rfl
def Q6:∀ s:Bs,(∀ c∈s,c≠60/\c≠38/\c≠123)->sP 1 [(1,s,0)]=s:=by
 intro s h;have e:sP 1 [(1,s,0)]=s.flatMap (byB 1):=by
  show List.flatMap (j9 1) [(1,s,0)]=_;rw[sb,ae5,ka];rfl
 rw[e]
 clear e
 induction s with
 | nil=>rfl
 | cons c s b =>
  have a:=h c (by simp);rw[sb,b (λd hd=>h d (by simp [hd]))]
  have:byB 1 c=[c]:=by unfold byB;simp [a.1,a.2.1,a.2.2]
  rw[this];rfl
def pm(h:DS 1 bu):fB Tryz.prog 95 [.sl .no 3 (tks bu)] [] (.tup [.str (sP 1 bu),.int .i64 0]) []:=by
 obtain⟨_,s,rfl,R,T,G⟩:=h;rw[Q6 s G];refine wD λS0 w l c U Z hn f a=>?_
 match l,a with
 | [v],⟨k,_⟩ =>
  have k:aG c.S c.w (.sl .no 3 (tks [(1,s,0)])) v:=k;have m:=k;simp only[aG] at k;obtain⟨A,Q,L,M,_,_,q⟩:=k;rw[U,Z] at q m;rcases q with q | ⟨b,o,rfl,q4⟩
  ·simp [tks] at q
  ·have X:(tks [((1:Int),s,(0:Int))]).length=1:=rfl
   rw[X] at L M;obtain⟨_,D⟩:=q4.get (i:=0) (e:=tkR (1,s,0)) rfl;obtain⟨s0,v0,I,E⟩:=D.get (j:=0) (x:=.int .i64 1) rfl;obtain⟨O,v1,J,b1,rfl,N⟩:=D.get (j:=1) (x:=.str s) rfl;obtain⟨P,v2,K,F⟩:=D.get (j:=2) (x:=.int .i64 0) rfl;have E:v0=.int .i64 1:=E;have F:v2=.int .i64 0:=F;subst E F;simp only[ai8,rh] at s0 I O J P K;have B:vld [((1:Int),s,(0:Int))]=0:=by
    refine (cG _).2 ⟨?_,by simp,?_⟩
    ·have y:chk [] ((1:Int),s,(0:Int))=0:=(dY rfl).2 ⟨R,rfl,by simp [cX]⟩
     show dV [] [((1:Int),s,(0:Int))]=0;simp [dV,y]
    ·simp [len,wid];omega
   have d:=up (c46 [((1:Int),s,(0:Int))] (by simp) (λt H=>by rw[kj] at H;subst H;unfold eZ;simp only;omega)) rfl;rw[B] at d;have n:Calls Tryz.prog 64 #[v] w λe w'=>e=.returned (.int .i64 0)/\Below w.heap.size w w':=by
    refine (QJ d Qr f.lt f.gl (bk:=#[v]) ⟨m,trivial⟩).mono ?_
    rintro e w' ⟨u,_,_,_,rfl,C,p2⟩
    have C:u=.int .i64 0:=C;exact⟨by rw[C],p2⟩
   subst L;have g:=J5 N;refine (Rpl.enc_x b o Q (cr:=b1) w M (λW r=>⟨(f.cell r _ _ s0).trans I,(f.cell r _ _ O).trans J,(f.cell r _ _ P).trans K⟩) n ?_ ?_).mono ?_
   ·rw[g];simpa [ByteArray.size] using T
   ·intro i hi
    subst g;have Y:(ByteArray.mk s.toArray)[i]∈s:=by
     show s.toArray[i]∈s;simp
    have p:=G _ Y;generalize (ByteArray.mk s.toArray)[i]=c at p;simp only[la,ad8,ak3,not_or];refine⟨λe=>p.1 (Lc.1 e),λe=>p.2.1 (Lc.1 e),λe=>p.2.2 (Lc.1 e)⟩
   ·rintro e w' ⟨rfl,V⟩
    exact⟨_,rfl,λc=>⟨_,rfl,⟨_,rfl,N⟩,rfl,trivial⟩,V⟩
def JW:fK Tryz.prog B10:=by
 intro f args sh r sh' h;unfold B10 at h
 split at h
 all_goals first | (cases h;done) | skip
 ·
  unfold Cw at h
  split at h
  ·split at h
   ·rename_i s t c
    cases h;exact .inl ⟨⟨Tryz.f120,Tryz.func120,by kernel_rfl,by kernel_rfl⟩,Cq s t c⟩
   ·cases h
  ·cases h
 ·unfold qx at h
  split at h
  ·rename_i q
   obtain⟨b,a⟩:=q.2.choose_spec;simp only[jc,jg] at h;obtain⟨rfl,rfl⟩:=h;generalize q.2.choose=m at b a ⊢;rw[q.1,b];exact .inl ⟨⟨Tryz.f19,Tryz.func19,by kernel_rfl,by kernel_rfl⟩,Ei (k:=m.1) (ps:=m.2) a.1 a.2⟩
  ·cases h
 ·unfold pr at h
  split at h
  ·rename_i q
   obtain⟨b,a⟩:=q.2.choose_spec;simp only[jc,jg] at h;obtain⟨rfl,rfl⟩:=h;generalize q.2.choose=m at b a ⊢;rw[q.1,b];exact .inl ⟨⟨Tryz.f95,Tryz.func95,by kernel_rfl,by kernel_rfl⟩,pm a⟩
  ·cases h
 ·unfold qr at h
  split at h
  ·split at h
   ·split at h
    ·rename_i q
     cases h;obtain⟨d,e,g,i⟩:=q;exact .inl ⟨⟨Tryz.f139,Tryz.func139,by kernel_rfl,by kernel_rfl⟩,qq (by assumption) d e g i⟩
    ·cases h
   ·cases h
  ·cases h
 ·exact PV _ _ _ _ _ h
def YB:fK Tryz.prog G10:=vV mix JW X0
def YW:fK Tryz.prog B11:=by
 intro f args sh r sh' h;unfold B11 at h
 split at h
 ·cases h
 ·cases h
 ·unfold Ao at h
  split at h
  ·rename_i q
   cases h;rw[q.1,q.2];exact .inl (k18 JW)
  ·cases h
 ·exact YB _ _ _ _ _ h
def YA:fK Tryz.prog G11:=vV mix YW Ew
def c3(l:List Int)(w:Int):G11 3 [.sl .no 1 (fG l),.int .i64 w] []=some (.bool true,[]):=u3 u4 l w
open Go.ChangeShapes Go.WideShapes Go.ChangeAt Go.RowKit
section
variable{H:Type}{enc:TypeId×Value->H}{P:Program}{w:World}{base:Nat}{spare:Nat->Bool}{held:Bool}
end
section
open Go.Deep
section
variable{H:Type}{enc:TypeId×Value->H}{P:Program}{w:World}{base:Nat}{spare:Nat->Bool}{held:Bool}
end
end
end Go.Av
