/- The law of the best earlier element. No conditions. The law of the greatest number of elements. No conditions. -/
import Derived.Test.YtgbjlnijjonidaaDoorG1XG
import Derived.Test.YtgbjlnijjonidaaDoorG1XF
open List
set_option linter.unusedSimpArgs false
set_option linter.unusedVariables false
set_option linter.unusedSectionVars false
set_option maxRecDepth 100000
set_option maxHeartbeats 16000000
namespace Go.Av
open Go.Nt
theorem C5 (a:Tk):smT a a=true:=lB.2 ⟨rfl,rfl⟩
theorem pC:∀ l:List Tk,smL l l=true
 | []=>rfl
 | a :: l=>by simp only[smL];rw[C5,pC l];rfl
theorem yL:∀ {l m l' m':List Tk},smL l m=true->smL l' m'=true->smL (l++l') (m++m')=true
 | [],[],_,_,_,h=>h
 | [],b :: m,_,_,h,_=>by simp [smL] at h
 | a :: l,[],_,_,h,_=>by simp [smL] at h
 | a :: l,b :: m,l',m',h,h2=>by
  simp only[smL,Bool.and_eq_true] at h;simp only[cons_append,smL,Bool.and_eq_true];exact⟨h.1,yL h.2 h2⟩
theorem HT {a b:Tk} (h1:a.1=b.1) (h2:a.2.1=b.2.1):smL (tkT a) (tkT b)=true:=by
 unfold tkT;rw[h1,h2];split
 ·exact pC _
 ·split
  ·simp only[smL,Bool.and_true];exact lB.2 ⟨h1,h2⟩
  ·rfl
theorem yH:∀ {f g:List Tk},ktx f=ktx g->smL (dG f) (dG g)=true
 | [],[],_=>rfl
 | [],b :: g,h=>by simp [ktx] at h
 | a :: f,[],h=>by simp [ktx] at h
 | a :: f,b :: g,h=>by
  unfold ktx at h;rw[map_cons,map_cons] at h
  injection h with e1 e2
  injection e1 with e3 e4
  simp only[dG];exact yL (HT e3 e4) (yH e2)
theorem MG {L:List (List Tk)} {i:Nat} {f:List Tk} (h:L[i]?=some f) (hv:vld f=0) (hp:gF L i < (i:Int)):mxP (fun k=>pcL L k i) i=100:=by
 rw[SK h hv] at hp;cases hq:ff L (fM f) i with
 | none=>rw[hq] at hp;simp at hp
 | some v =>
  obtain⟨h1,h2⟩:=K6 L _ _ _ hq;unfold cnd at h2;cases hg:L[v]? with
  | none=>rw[hg] at h2;cases h2
  | some g =>
   rw[hg] at h2;simp only[Bool.and_eq_true,decide_eq_true_eq,beq_iff_eq] at h2;have hk:=H4 ((NE h2.1 hv).1 h2.2.symm);have h100:pcL L v i=100:=by
    unfold pcL;rw[getD_eq_getElem?_getD,getD_eq_getElem?_getD,h,hg];exact yJ (yH hk)
   have h3:=D4 (fun k=>pcL L k i) h1;have h4:=D3 (fun k=>pcL L k i) (fun k=>(MK L k i).2) i
   try simp only[] at h3
   rw[h100] at h3;omega
theorem SD {V:AV} {sh:LL} {L:List (List Tk)} (hV:LV V sh L) (hL:L.length<=64) (hb:∀ f∈L,vld f=0) (T:Int) (M:LL) (F:List Int) (i:Nat) (hi:i < L.length):∀ (d k:Nat),k+d=i ->
  aD G0 KE (ST [(5,V),(6,.int .i64 T),(7,.sl .no 5 M),(9,.sl .no 1 (aZ F)),(10,.int .i64 i),(11,.int .i64 (mxP (fun k=>pcL L k i) k)),(12,.int .i64 k),(16,.bool false),(37,.bool false),(44,.bool false),(46,.int .i64 L.length),(47,.int .i64 i),(48,.bool true)] [] sh)
  =some (.ex 2,ST [(5,V),(6,.int .i64 T),(7,.sl .no 5 M),(9,.sl .no 1 (aZ F)),(10,.int .i64 i),(11,.int .i64 (mxP (fun k=>pcL L k i) i)),(12,.int .i64 i),(16,.bool false),(37,.bool false),(44,.bool false),(46,.int .i64 L.length),(47,.int .i64 i),(48,.bool true),(52,.bool false)] [] sh)
 | 0,k,h=>by
  have:k=i:=by omega
  subst this;have hs:=hV.scrub;rw[aA (L:=KE) rfl];simp only[go_sem,hs,Int.lt_irrefl]
 | d+1,k,h=>by
  have hs:=hV.scrub;have hdv:=hV.dem;have hk:k < i:=by omega
  have h4:(k:Int) < (i:Int):=by omega
  have h0:(0:Int)<=(k:Int):=by omega
  have hi0:(0:Int)<=(i:Int):=by omega
  have hw:IntKind.i64.wrap ((k:Int)+1)=((k+1:Nat):Int):=by rw[w64 (by omega) (by omega)];rfl
  obtain⟨f,hf⟩:∃ f,L[k]?=some f:=⟨_,getElem?_eq_getElem (by omega)⟩
  obtain⟨g,hg⟩:∃ g,L[i]?=some g:=⟨_,getElem?_eq_getElem hi⟩
  obtain⟨f1,f2,f3,f4⟩:=o7 (hb f (mem_of_getElem? hf));obtain⟨g1,g2,g3,g4⟩:=o7 (hb g (mem_of_getElem? hg));obtain⟨P,b1,b2⟩:=hV.at_ k f hf;obtain⟨Q,c1,c2⟩:=hV.at_ i g hg;have b2:=b2 [];have c2:=c2 [];simp only[append_nil] at b2 c2;have kf:=k11 f f3 f4;have kg:=k11 g g3 g4;have t10:=t10 (dG f) (dG g) f1 g1 f2 g2;have hp:pcL L k i=prT (dG f) (dG g):=by unfold pcL;rw[getD_eq_getElem?_getD,getD_eq_getElem?_getD,hf,hg];rfl
  rw[<- hp] at t10;have ih:=SD hV hL hb T M F i hi d (k+1) (by omega);have hm:mxP (fun k=>pcL L k i) (k+1)=max (mxP (fun k=>pcL L k i) k) (pcL L k i):=rfl;rw[hm] at ih;rw[<- ih]
  conv=>lhs;rw[aA (L:=KE) rfl]
  simp only[go_sem,hs,hdv,h4,h0,hi0,hw,b1,b2,c1,c2,kf,kg,t10]
theorem SC {V:AV} {sh:LL} {L:List (List Tk)} (hV:LV V sh L) (hL:L.length<=64) (hb:∀ f∈L,vld f=0) (T:Int) (hT:1<=T/\T<=100):∀ (d i:Nat),i+d=L.length ->
  aD G0 KD (ST [(5,V),(6,.int .i64 T),(7,.sl .no 5 (mts (iZ (pcL L) T L.length))),(9,.sl .no 1 (aZ (gU L))),(16,.bool false),(37,.bool false),(44,.bool false),(46,.int .i64 L.length),(47,.int .i64 i)] [] sh)
  =some (.ex 0,ST [(5,V),(6,.int .i64 T),(7,.sl .no 5 (mts (iZ (pcL L) T L.length))),(9,.sl .no 1 (aZ (gU L))),(16,.bool false),(37,.bool false),(44,.bool false),(46,.int .i64 L.length),(47,.int .i64 L.length),(48,.bool false)] [] sh)
 | 0,i,h=>by
  have:i=L.length:=by omega
  subst this;have hs:=hV.scrub;rw[aA (L:=KD) rfl];simp only[go_sem,hs,Int.lt_irrefl]
 | d+1,i,h=>by
  have hs:=hV.scrub;have hdv:=hV.dem;have hi:i < L.length:=by omega
  have h4:(i:Int) < (L.length:Int):=by omega
  have h0:(0:Int)<=(i:Int):=by omega
  have hw:=wI (i:=i) (by omega)
  obtain⟨g,hg⟩:∃ g,L[i]?=some g:=⟨_,getElem?_eq_getElem hi⟩
  have hvg:=hb g (mem_of_getElem? hg);have hin:=SD hV hL hb T (mts (iZ (pcL L) T L.length)) (gU L) i hi i 0 (by omega);have ec:((0:Nat):Int)=0:=rfl;have em:mxP (fun k=>pcL L k i) 0=0:=rfl;rw[ec,em] at hin;have r7:=D8 (yN (pcL L) T hi);have r9:=fA (l:=gU L) (i:=i) (x:=gF L i) (by unfold gU;rw[getElem?_map,getElem?_range hi];rfl);have ih:=SC hV hL hb T hT d (i+1) (by omega);have hsp:=vZ (fun k=>pcL L k i) T hT.1 i;have h100:=fun q=>MG hg hvg q
  rw[<- ih]
  conv=>lhs;rw[aA (L:=KD) rfl]
  generalize bst (fun k=>pcL L k i) T i=B at hsp r7;generalize mxP (fun k=>pcL L k i) i=M at hsp hin h100;obtain⟨B1,B2⟩:=B;simp only[mtR] at r7 hsp;rcases hsp with ⟨q1,q2,q3,q4⟩ | ⟨q1,q2⟩
  ·subst q4
   have q3':¬ (i:Int)<=B1:=by omega
   by_cases hf:gF L i < (i:Int)
   ·have:=h100 hf
    subst this;simp only[go_sem,hs,hdv,h4,h0,hw,hin,r7,r9,q1,q2,q3',hf]
   ·simp only[go_sem,hs,hdv,h4,h0,hw,hin,r7,r9,q1,q2,q3',hf]
  ·have q5:¬ T<=M:=by omega
   have hf:¬ gF L i < (i:Int):=fun q=>by have:=h100 q;omega
   injection q2 with e1 e2
   subst e1;subst e2;simp only[go_sem,hs,hdv,h4,h0,hw,hin,r7,r9,q5,hf]
theorem yM {L:List (List Tk)} (hL:L.length<=64) (hb:∀ f∈L,vld f=0) {T:Int} (hT:1<=T/\T<=100):wV L T=(iZ (pcL L) T L.length,0):=by
 unfold wV;rw[if_neg (by omega),if_neg (by omega),if_pos (AC hb)]
theorem k3 (l:List Int) (T:Int):G0 3 [.sl .no 1 (aZ l),.int .i64 T] []=some (.bool true,[]):=by
 refine aB F3 rfl rfl rfl ?_;by_cases h1:(200:Int) < (l.length:Int)
 ·simp only[F3,go_sem,aW,h1,c16]
 obtain⟨v,R,L,p,q1,q2,q3,h6⟩:=k6 l 7 (by decide) (by decide);have hs0:=q1.scrub;have hd0:=q1.dem;have hlen:=q1.len;have hvl:∀ f∈L,vld f=0:=fun f hf=>(q2 f hf).vld
 have hsm:∀ g∈L,pB g:=by
  intro g hg;have hz:=(q2 g hg).1;exact⟨by have:=hz.1;omega,fun t ht=>by have:=sT t ht;have:=hz.2;simp only[gL];omega⟩
 have hV:=q1.lv l p;have hRef:=fun n=>q1.ref n l p
 generalize num l p :: R=A at h6 hV hRef;have hR:=J9 (hRef _);have h7:=c18 T 100 (by decide) (by decide);have b1:=Int.emod_nonneg T (show (100:Int)≠0 by decide);have b2:=Int.emod_lt_of_pos T (show (0:Int) < 100 by decide);generalize T % 100=t at h7 b1 b2;have hw:IntKind.i64.wrap (1+t)=1+t:=w64 (by omega) (by omega);have h8:=t8 hV hR hsm (1+t);rw[yM (by omega) hvl (by omega)] at h8;have h9:=c25 hV hR (by omega) hsm;rw[vQ] at h9;have hfl:(gU L).length=L.length:=by simp [gU]
 have hlp:=SC hV (by omega) hvl (1+t) (by omega) L.length 0 (by omega);have ec:((0:Nat):Int)=0:=rfl;rw[ec] at hlp;have ha1:=hV.arg;simp only[F3,go_sem,aW,h1,h6,hs0,hd0,hlen,h7,hw,h8,h9,tC,pE,hfl,hlp,ha1,c16]
end Go.Av
namespace Go.Av
open Go.Nt
theorem AG (L:List (List Tk)) (sh:LL):LV (.sl .no 1 (frs L)) sh L:=by
 refine⟨by rw[<- oV L];rfl,fun _=>rfl,rfl,rfl,fun i f h=>?_⟩;refine⟨.ip [.sl .no 3 (tks f)],?_,fun X m=>rfl⟩;have h0:(0:Int)<=(i:Int):=by omega
 rw[EW,if_pos h0,Int.toNat_natCast,tO h];rfl
def slt:List Tk:=[(5,[110],0)]
def slL (n:Nat):List (List Tk):=List.replicate n slt
theorem QO (n:Nat):slL (n+1)=slL n++[slt]:=replicate_succ' ..
theorem lC (n:Nat):(slL n).length=n:=by simp [slL]
theorem WN:fD 3 [.int .i64 0,.str [],.int .i64 0] 1 [0] [.agg [.int .i64 5,.str [110],.int .i64 0]]=some (.sl .full 3 (tks slt)):=rfl
theorem RS:fD 1 [.sl .full 3 []] 1 [0] [.sl .full 3 (tks slt)]=some (.sl .full 1 [[.sl .no 3 (tks slt)]]):=rfl
theorem l4 (n:Nat) (hn:n<=1000):∀ (d i:Nat) (md:Own),md≠.no->i+d=n ->
  ∃ md',aD G0 KC (ST [(0,.int .i64 n),(3,.sl md 1 (frs (slL i))),(4,.int .i64 i)] [] [])=some (.ex 0,ST [(0,.int .i64 n),(3,.sl md' 1 (frs (slL n))),(4,.int .i64 n),(14,.bool false)] [] [])
 | 0,i,md,hm,h=>by
  have:i=n:=by omega
  subst this;refine⟨md,?_⟩;rw[aA (L:=KC) rfl];simp only[go_sem,Int.lt_irrefl]
 | d+1,i,md,hm,h=>by
  have h4:(i:Int) < (n:Int):=by omega
  have hw:=wI (i:=i) (by omega)
  obtain⟨md',ih⟩:=l4 n hn d (i+1) .own (by decide) (by omega);rw[QO,vI] at ih;have ha:cG 24 ((slL i).length+1)=true:=bH (by decide) (by rw[lC];omega);refine⟨md',?_⟩;rw[<- ih]
  conv=>lhs;rw[aA (L:=KC) rfl]
  simp only[go_sem,h4,hw,WN,RS,bV md .full hm 1 24 (by decide),oV,ha]
theorem C6 {n i:Nat} (h:i < n):(slL n)[i]?=some slt:=by
 unfold slL;rw[getElem?_replicate,if_pos h]
theorem QK:vld slt=0:=by decide +kernel
theorem KL {n k i:Nat} (hk:k < n) (hi:i < n):pcL (slL n) k i=100:=by
 unfold pcL;rw[getD_eq_getElem?_getD,getD_eq_getElem?_getD,C6 hk,C6 hi];exact yJ (pC _)
theorem C9 {n i:Nat} (hi:i < n):∀ k,k+1<=i->bst (fun k=>pcL (slL n) k i) 100 (k+1)=(0,100)
 | 0,h=>by
  have e:=KL (show 0 < n by omega) hi;have y:=LB (P:=fun k=>pcL (slL n) k i) (t:=100) (k:=0) (by show 100<=pcL (slL n) 0 i;omega) (by show (0:Int) < pcL (slL n) 0 i;omega);refine y.trans ?_;show (((0:Nat):Int),pcL (slL n) 0 i)=_;rw[e];rfl
 | k+1,h=>by
  have e:=KL (show k+1 < n by omega) hi;have ih:=C9 hi k (by omega);refine (LC fun q=>?_).trans ih;rw[ih] at q
  have:=q.2
  simp only[] at this;rw[e] at this;omega
theorem QM:(vH [] [] 0 (fJ (slL 63))).length=1:=by decide +kernel
theorem QL:(vH [] [] 0 (fJ (slL 64))).length=1:=by decide +kernel
theorem C8 (n:Nat):∀ f∈slL n,pB f:=fun f hf=>by
 rw[(mem_replicate.1 hf).2];exact⟨by decide,by decide⟩
theorem EK (n:Nat) (h1:n=63\/n=64) (hg:(vH [] [] 0 (fJ (slL n))).length=1) (x:Int) (hx:IntKind.i64.wrap (63+IntKind.i64.wrap ((IntKind.u64.wrap x).tmod 4))=(n:Int)):G0 4 [.int .i64 x] []=some (.bool true,[]):=by
 obtain⟨md,hl⟩:=l4 n (by omega) n 0 .full (by decide) (by omega);have ec:((0:Nat):Int)=0:=rfl;have ef:frs (slL 0)=[]:=rfl;rw[ec,ef] at hl;have hV:LV (.sl (tV (tV md)) 1 (frs (slL n))) [] (slL n):=by
  cases md
  ·exact AG (slL n) []
  ·exact wA (slL n) []
  ·exact AG (slL n) []
 have hR:jX []:=rfl;have hvl:∀ f∈slL n,vld f=0:=fun f hf=>by rw[(mem_replicate.1 hf).2];exact QK
 have h8:=t8 hV hR (C8 n) 100;rw[yM (by rw[lC];omega) hvl (by decide),lC] at h8;obtain⟨w,m,E,hG,h12⟩:=c28 hV hR (by rw[lC];omega) (C8 n);have hgl:=hG.len;rw[hg] at hgl;have hb:¬ (64:Int) < (n:Int):=by omega
 have hw:IntKind.i64.wrap ((n:Int) - 1)=((n - 1:Nat):Int):=by rw[w64 (by omega) (by omega)];omega
 have h0:(0:Int)<=((n - 1:Nat):Int):=by omega
 have r:=D8 (yN (pcL (slL n)) 100 (show n - 1 < n by omega));have eb:=C9 (n:=n) (i:=n - 1) (by omega) (n - 2) (by omega);rw[show n - 2+1=n - 1 by omega] at eb;rw[eb] at r;simp only[mtR] at r;refine aB F4 rfl rfl rfl ?_;simp only[F4,go_sem,hx,hl,h8,hb,tC,pE,hw,h0,r,h12,hgl,c16]
theorem EL (n:Nat) (h1:n=65\/n=66) (x:Int) (hx:IntKind.i64.wrap (63+IntKind.i64.wrap ((IntKind.u64.wrap x).tmod 4))=(n:Int)):G0 4 [.int .i64 x] []=some (.bool true,[]):=by
 obtain⟨md,hl⟩:=l4 n (by omega) n 0 .full (by decide) (by omega);have ec:((0:Nat):Int)=0:=rfl;have ef:frs (slL 0)=[]:=rfl;rw[ec,ef] at hl;have hV:LV (.sl (tV (tV md)) 1 (frs (slL n))) [] (slL n):=by
  cases md
  ·exact AG (slL n) []
  ·exact wA (slL n) []
  ·exact AG (slL n) []
 have hR:jX []:=rfl;have h8:=t8 hV hR (C8 n) 100;have es:wV (slL n) 100=([],3):=by unfold wV;rw[lC,if_pos (by omega)]
 rw[es] at h8;have hb:(64:Int) < (n:Int):=by omega
 refine aB F4 rfl rfl rfl ?_;simp only[F4,go_sem,hx,hl,h8,hb,lS,c16]
theorem k4 (x:Int):G0 4 [.int .i64 x] []=some (.bool true,[]):=by
 have hu:∃ r:Nat,r < 4/\(IntKind.u64.wrap x).tmod 4=(r:Int):=by
  have h1:0<=IntKind.u64.wrap x:=by
   show 0<=x % 18446744073709551616;omega
  have h2:=Int.tmod_eq_emod_of_nonneg (b:=4) h1;refine⟨(IntKind.u64.wrap x % 4).toNat,by omega,by rw[h2];omega⟩
 obtain⟨r,hr,hu⟩:=hu;have e2:IntKind.i64.wrap (r:Int)=(r:Int):=w64 (by omega) (by omega);have e3:IntKind.i64.wrap (63+(r:Int))=((63+r:Nat):Int):=by rw[w64 (by omega) (by omega)];omega
 have hx:IntKind.i64.wrap (63+IntKind.i64.wrap ((IntKind.u64.wrap x).tmod 4))=((63+r:Nat):Int):=by rw[hu,e2,e3]
 have hc:r=0\/r=1\/r=2\/r=3:=by omega
 rcases hc with rfl | rfl | rfl | rfl
 ·exact EK 63 (.inl rfl) QM x hx
 ·exact EK 64 (.inr rfl) QL x hx
 ·exact EL 65 (.inl rfl) x hx
 ·exact EL 66 (.inr rfl) x hx
end Go.Av
