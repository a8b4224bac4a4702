/- The law ExchangeParses. No conditions. The reference's Format of a memory. No conditions. The law's memories out of numbers, long lists; the law ExchangeRoundTrips. No conditions. Two lists of numbers: a call that sees the second of two shared objects. No conditions. Import; the law ExchangeUnions. No conditions. The law ExchangeFormats, within the bound of a bulk. No conditions. -/
import Derived.Test.YtmjfblcmbcfkcaaGreatDoorG3XM
import Derived.Test.YtmjfblcmbcfkcaaGreatDoorG3XL
import Derived.Test.YtmjfblcmbcfkcaaGreatDoorG3XI
import Derived.Test.YtmjfblcmbcfkcaaGreatDoorG3XK
import Derived.Test.YtmjfblcmbcfkcaaGreatDoorG3XO
open List
set_option linter.unusedSimpArgs false
set_option linter.unusedVariables false
set_option linter.unusedSectionVars false
set_option maxRecDepth 100000
set_option maxHeartbeats 16000000
namespace Go.Av
open Go.Nt
theorem V6 (n:Nat) (rr:Bs) (q:Int × Nat × Rd) (h:(CA n rr q).2.2≠0):(CA n rr q).1=[]:=by
 unfold CA at h ⊢;by_cases q1:q.1≠0
 ·rw[if_pos q1]
 ·rw[if_neg q1] at h ⊢
  by_cases q2:rr≠[]\/q.2.2.k≠0
  ·rw[if_pos q2]
  ·rw[if_neg q2] at h ⊢
   by_cases q3:q.2.2.m.length≠n
   ·rw[if_pos q3]
   ·rw[if_neg q3] at h;exact absurd rfl h
theorem pM_e {s:Bs} (h:(pM s).2.2≠0):(pM s).1=[]:=by
 by_cases hs:1048576 < s.length
 ·unfold pM;rw[if_pos hs]
 obtain⟨ls,rr⟩:List Bs × Bs:=lns s;cases hl:(lns s).1 with
 | nil=>rw[UH (rr:=(lns s).2) (by omega) (by rw[<- hl])]
 | cons a l =>
  have e:=UI (s:=s) (h:=a) (ls:=l) (rr:=(lns s).2) (by omega) (by rw[<- hl]);rw[e] at h ⊢;unfold pL at h ⊢
  cases q:hdN a with
  | none=>rfl
  | some n =>
   rw[q] at h;exact V6 _ _ _ h
theorem zAC (s:Bs):(pM s).1.length<=1024/\Mem (pM s).1:=by
 by_cases h:(pM s).2.2=0
 ·obtain⟨_,h2,h3,_⟩:=OZ (s:=s) (m:=(pM s).1) (k:=(pM s).2.1) (by rw[<- h])
  exact⟨h3,h2⟩
 ·rw[pM_e h]
  exact⟨by simp,rE⟩
theorem FE {m:List En} (h:Mem m):∀ e∈m,BE e:=fun e he=>VE.be (h.1 e he)
theorem k19 (s:Bs) (hs:s.length<=50000):G0 19 [.str s] []=some (.bool true,[]):=by
 have a:=K6 s hs;have b:=PO s hs;obtain⟨h1,h2⟩:=zAC s;have c:=k28 (pM s).1 (by omega) (FE h2);refine aA F19 rfl rfl rfl ?_;generalize pM s=q at *;obtain⟨m,n,e⟩:=q;simp only[F19,go_sem,a,b,c,cU,decide_true]
def em:En:=⟨[(1,[97],0)],[(1,[98],0)],[],[],[],[],0,1⟩
theorem em_v:vE em=0:=by decide +kernel
theorem zCH:GE em:=⟨(lB em).1 em_v,by decide,by decide +kernel,by decide,by decide +kernel,by decide,by decide,by decide,by decide⟩
def kT:Bs:=[98,105,116,101,120,116,45,109,101,109,111,114,121,32,49,10,115,111,117,114,99,101,32,97,10,116,97,114,103,101,116,32,98,10,111,114,105,103,105,110,32,104,117,109,97,110,10]
theorem CD:txM [em]=kT:=by
 have h:dcN 1=[49]:=by rw[eZ (by decide)];rfl
 have h1:hdT [em].length=hdB++[49]:=by show hdB++dcN 1=_;rw[h]
 have h2:([em].flatMap iM)=[[115,111,117,114,99,101,32,97],[116,97,114,103,101,116,32,98],[111,114,105,103,105,110,32,104,117,109,97,110]]:=by decide +kernel
 unfold txM;rw[h1,h2];rfl
theorem QB:Mem [em]:=(mg1 zCH).1
theorem zCI:fmM [em]=(kT,0):=by
 rw[LO QB (by decide) (by rw[CD];decide),CD]
theorem zCG:pM kT=([em],0,0):=by
 rw[<- CD];exact UG QB (by decide) (by rw[CD];decide)
theorem WB:FOK [em]:=⟨by decide,(FE QB),fun _=>⟨fun e h=>by rw[mem_singleton.1 h];decide,by rw[CD];decide⟩⟩
theorem k12:G9 12 [] []=some (.bool true,[]):=by
 have a:=k17 WB;have b:=up (K6 kT (by decide)) (by decide) rfl;have c:=up (k28 [em] (by decide) (FE QB)) (by decide) rfl;rw[zCI] at a;rw[zCG] at b;have e1:ens [em]=[[.sl .no 3 [[.int .i64 1,.str [97],.int .i64 0]],.sl .no 3 [[.int .i64 1,.str [98],.int .i64 0]],.str [],.str [],.str [],.str [],.int .i64 0,.int .i64 1]]:=rfl;have ec0:((0:Nat):Int)=0:=rfl;simp only[e1,kT] at a b c;refine aA F12 rfl rfl rfl ?_;simp only[F12,go_sem,a,b,c,KQ,ec0,cU,decide_true,beq_self_eq_true]
theorem k4 (s:Bs):G9 4 [.str s] []=some (.bool true,[]):=by
 have k:=k12;refine aA F4 rfl rfl rfl ?_;by_cases h:4000 < (s.length:Int)
 ·simp only[F4,go_sem,h,k]
 ·have a:=up (k19 s (by omega)) (by decide) rfl
  have b:=up (k19 (98 :: 105 :: 116 :: 101 :: 120 :: 116 :: 45 :: 109 :: 101 :: 109 :: 111 :: 114 :: 121 :: 32 :: 49 :: 10 :: s) (by simp;omega)) (by decide) rfl;have hl:16+s.length<=140737488355328:=by omega
  simp only[F4,go_sem,h,a,b,k,hl]
end Go.Av
namespace Go.Av
open Go.Nt
def vlL (e:En):List Bs:=[vlE e 0,vlE e 1,vlE e 2,vlE e 3,vlE e 4,vlE e 5,vlE e 6,vlE e 7]
theorem S7 (e:En) {k:Nat} (hk:k < 8):(vlL e)[k]?=some (vlE e k):=by
 match k,hk with
 | 0,_ | 1,_ | 2,_ | 3,_ | 4,_ | 5,_ | 6,_ | 7,_=>rfl
theorem UJ {o:Int} (h1:1<=o) (h3:o<=3):orn[(o - 1).toNat]?=some (orn.getD (o - 1).toNat []):=by
 have:(o - 1).toNat < 3:=by omega
 match (o - 1).toNat,this with
 | 0,_ | 1,_ | 2,_=>rfl
def DOK (n:Nat):Prop:=G0 23 [.int .i64 n] []=some (.str (dcN n),[])
theorem dok {n:Nat} (h:n<=1073741824):DOK n:=kDec n (by omega)
theorem kVal (e:En) (h:VE e) (hd:DOK e.c.toNat):G0 39 [.agg (aN e)] []=some (.sl .no 1 (dP (vlL e)),[]):=by
 obtain⟨l1,l2,l3⟩:=(VE.be h).lS;obtain⟨l4,l5,l6⟩:=(VE.be h).lT;have a:=c33 e.S (by omega) l3;have b:=c33 e.T (by omega) l6;rw[h.vS,wA] at a;rw[h.vT,wA] at b;have c71:=WQ;have h1:=h.o1;have h3:=h.o3;have ho:=gR (UJ h1 h3);have hw:IntKind.i64.wrap (e.o - 1)=e.o - 1:=w64 (by omega) (by omega);have h0:(0:Int)<=e.o - 1:=by omega
 have e7:vlE e 7=orn.getD (e.o - 1).toNat []:=rfl;have hm:∀ a b c d e f g h:Bs,gO 1 [.str []] 8 [0,1,2,3,4,5,6,7] [.str a,.str b,.str c,.str d,.str e,.str f,.str g,.str h]=some (.sl .full 1 [[.str a],[.str b],[.str c],[.str d],[.str e],[.str f],[.str g],[.str h]]):=fun _ _ _ _ _ _ _ _=>rfl
 have hc0:=h.c0;have hv:dP (vlL e)=[[.str (fmE e.S)],[.str (fmE e.T)],[.str e.p],[.str e.n],[.str e.a],[.str e.j],[.str (vlE e 6)],[.str (vlE e 7)]]:=rfl;rw[hv];refine aA F39 rfl rfl rfl ?_;by_cases hz:e.c=0
 ·have h6:vlE e 6=[]:=if_pos hz
  have g:(0 < e.c)=False:=eq_false (by omega);rw[h6];simp only[F39,aN,go_sem,a,b,c71,ho,hw,h0,hm,g,e7]
 ·have h6:vlE e 6=dcN e.c.toNat:=if_neg hz
  have g:(0 < e.c)=True:=eq_true (by omega);have d:G0 23 [.int .i64 e.c] []=some (.str (vlE e 6),[]):=by
   have:=hd
   unfold DOK at this;rw[show ((e.c.toNat:Nat):Int)=e.c by omega,<- h6] at this;exact this
  simp only[F39,aN,go_sem,a,b,c71,ho,hw,h0,hm,g,d,e7]
theorem l18a (m:List En) (i:Nat) (e:En) (h:VE e) (A:Bs) (hA:A.length<=1000000000):∀ (d k:Nat),k+d=8 ->
  aC G0 yR (ST [(0,.sl .no 8 (ens m)),(4,.int .i64 0),(5,.str (A++jn (gJ e k))),(6,.int .i64 i),(12,.bool false),(22,.bool true),(29,.sl .no 1 (dP (vlL e))),(30,.int .i64 8),(31,.int .i64 k)] [] [])=some (.ex 2,ST [(0,.sl .no 8 (ens m)),(4,.int .i64 0),(5,.str (A++jn (iM e))),(6,.int .i64 i),(12,.bool false),(22,.bool true),(29,.sl .no 1 (dP (vlL e))),(30,.int .i64 8),(31,.int .i64 8),(32,.bool false)] [] [])
 | 0,k,hk=>by
  have:k=8:=by omega
  subst this;have ec:((8:Nat):Int)=8:=rfl;have el:iM e=gJ e 8:=rfl;rw[aB (L:=yR) rfl,el];simp only[go_sem,ec,Int.lt_irrefl]
 | d+1,k,hk=>by
  have hi:k < 8:=by omega
  have h0:(0:Int)<=(k:Int):=by omega
  have h1:(k:Int) < 8:=by omega
  have hw:IntKind.i64.wrap ((k:Int)+1)=((k+1:Nat):Int):=by rw[w64 (by omega) (by omega)];rfl
  have hr:=gR (S7 e hi);have hf:=gR (LK hi);have c40:=c40';have hl1:=LJ k;have hl2:(vlE e k).length<=60000:=by
   have:=yT h k
   have q:vsF (fmE e.S) (fmE e.T) e.p e.n e.a e.j (vlE e 6) (orn.getD (e.o - 1).toNat []) k=vlE e k:=by
    match k,hi with
    | 0,_ | 1,_ | 2,_ | 3,_ | 4,_ | 5,_ | 6,_ | 7,_=>rfl
   rwa [q] at this
  have hl3:(jn (gJ e k)).length<=k*60010:=by
   have:=zO (yT h) k
   have q:nG (vsF (fmE e.S) (fmE e.T) e.p e.n e.a e.j (vlE e 6) (orn.getD (e.o - 1).toNat [])) k=gJ e k:=by
    match k,hi with
    | 0,_ | 1,_ | 2,_ | 3,_ | 4,_ | 5,_ | 6,_ | 7,_=>rfl
   rwa [q] at this
  have ih:=l18a m i e h A hA d (k+1) (by omega);have hs:gJ e (k+1)=gJ e k++lnE k (vlE e k):=rfl;generalize vlE e k=v at *;by_cases hq:2<=k/\v=[]
  ·have hv:lnE k v=[]:=if_pos hq
   rw[hs,hv,append_nil] at ih;rw[<- ih];have g:((k:Int) < 2)=False:=eq_false (by omega);have g2:(v == [])=true:=by rw[hq.2];rfl
   have g3:(v != [])=false:=by rw[hq.2];rfl
   conv=>lhs;rw[aB (L:=yR) rfl]
   simp only[go_sem,h0,h1,hr,hw,g,g2,g3]
  ·have hv:lnE k v=[lnK k v]:=if_neg hq
   rw[hs,hv,vV,<- append_assoc] at ih;have hj:jn [lnK k v]=(fnm.getD k []++[32]++v)++[10]:=by simp [jn,lnK]
   rw[hj] at ih;have hT:(A++jn (gJ e k)).length<=1001000000:=by rw[length_append];omega
   rw[<- ih]
   clear ih hs hv hl3 hj
   generalize A++jn (gJ e k)=T at hT ⊢;have g1:(fnm.getD k []).length<=140737488355327:=by omega
   have g2:(fnm.getD k []++[32]).length+v.length<=140737488355328:=by rw[length_append,length_singleton];omega
   have g3:(fnm.getD k []++[32]++v).length<=140737488355327:=by rw[length_append,length_append,length_singleton];omega
   have g4:T.length+(fnm.getD k []++[32]++v++[10]).length<=140737488355328:=by rw[length_append,length_append,length_append,length_singleton,length_singleton];omega
   generalize fnm.getD k []=q at hf g1 g2 g3 g4 ⊢;by_cases hk2:k < 2
   ·have g:((k:Int) < 2)=True:=eq_true (by omega)
    conv=>lhs;rw[aB (L:=yR) rfl]
    simp only[go_sem,h0,h1,hr,hf,hw,g,c40,g1,g2,g3,g4]
   ·have g:((k:Int) < 2)=False:=eq_false (by omega)
    have hne:v≠[]:=fun z=>hq ⟨by omega,z⟩
    have g5:(v == [])=false:=by simpa using hne
    have g6:(v != [])=true:=by simpa using hne
    conv=>lhs;rw[aB (L:=yR) rfl]
    simp only[go_sem,h0,h1,hr,hf,hw,g,g5,g6,c40,g1,g2,g3,g4]
theorem l18b (m:List En) (hm:m.length<=1024) (hV:∀ e∈m,VE e/\DOK e.c.toNat) (hK:∀ i,(txK m i).length<=1000000000):∀ (d i:Nat),i+d=m.length ->
  aC G0 GX (ST [(0,.sl .no 8 (ens m)),(4,.int .i64 0),(5,.str (txK m i)),(6,.int .i64 i),(12,.bool false)] [] [])=some (.ex 0,ST [(0,.sl .no 8 (ens m)),(4,.int .i64 0),(5,.str (txK m m.length)),(6,.int .i64 m.length),(12,.bool false),(22,.bool false)] [] [])
 | 0,i,hi=>by
  have:i=m.length:=by omega
  subst this;rw[aB (L:=GX) rfl];simp only[go_sem,aW,Int.lt_irrefl]
 | d+1,i,hi=>by
  have hl:i < m.length:=by omega
  have h0:(0:Int)<=(i:Int):=by omega
  have h1:(i:Int) < (m.length:Int):=by omega
  have hw:=wI (i:=i) (by omega)
  have hg:m[i]?=some m[i]:=getElem?_eq_getElem hl;obtain⟨hv,hd⟩:=hV _ (getElem_mem hl);generalize m[i]=e at hg hv hd;have hr:=jK hg;have a:=kVal e hv hd;have hl8:(dP (vlL e)).length=8:=rfl;have ec0:((0:Nat):Int)=0:=rfl;have ec8:((8:Nat):Int)=8:=rfl;have l:=l18a m i e hv (txK m i) (hK i) 8 0 rfl;rw[ec0,show gJ e 0=[] from rfl,zQ,append_nil,<- RQ hg] at l;have ih:=l18b m hm hV hK d (i+1) (by omega);rw[<- ih];simp only[aN] at a
  conv=>lhs;rw[aB (L:=GX) rfl]
  simp only[go_sem,aW,h0,h1,hr,hw,a,hl8,ec8,l]
structure FOR (m:List En):Prop where
 l:m.length<=100
 b:∀ e∈m,BE e
 c:pC m=0->∀ e∈m,DOK e.c.toNat
theorem M2 (m:List En):txK m m.length=txM m:=by
 unfold txK;rw[take_length,CY]
theorem zBN (m:List En) (h:FOR m):G0 18 [.sl .no 8 (ens m)] []=some (.tup [.str (fmM m).1,.int .i64 (fmM m).2],[]):=by
 obtain⟨hl,hb,hc⟩:=h;have a:=zBP m (by omega) hb;refine aA F18 rfl rfl rfl ?_;unfold fmM;by_cases q:pC m=0
 case neg =>
  rw[if_pos q];simp only[F18,go_sem,a,q,decide_true,decide_false,not_false_eq_true]
 rw[if_neg (fun z=>z q)];rw[q] at a;have hM:=((wJ m).1 q).2;have hd:=dok (n:=m.length) (by omega);unfold DOK at hd;have hK:∀ i,(txK m i).length<=1000000000:=fun i=>Nat.le_trans (yV hl hM.1 i) (by decide)
 have l:=l18b m (by omega) (fun e he=>⟨hM.1 e he,hc q e he⟩) hK m.length 0 (by omega);have e0:((0:Nat):Int)=0:=rfl;have g1:(dcN m.length).length<=1000:=by
  have:=(wG 9 m.length (by omega)).2.2.2.1
  omega
 have g2:14+(dcN m.length).length<=140737488355328:=by omega
 have g3:(dcN m.length).length<=140737488355313:=by omega
 have ht:txK m 0=98 :: 105 :: 116 :: 101 :: 120 :: 116 :: 45 :: 109 :: 101 :: 109 :: 111 :: 114 :: 121 :: 32 :: (dcN m.length++[10]):=by
  unfold txK hdT;rw[take_zero,flatMap_nil,append_assoc];rfl
 rw[e0,ht,M2] at l;by_cases h4:1048576 < (txM m).length
 ·have h4':(1048576:Int) < ((txM m).length:Int):=by omega
  rw[if_pos h4];simp only[F18,go_sem,aW,a,hd,g2,g3,l,h4',decide_true,decide_false,not_true_eq_false]
 ·have h4':¬ (1048576:Int) < ((txM m).length:Int):=by omega
  rw[if_neg h4];simp only[F18,go_sem,aW,a,hd,g2,g3,l,h4',decide_true,decide_false,not_true_eq_false]
end Go.Av
namespace Go.Av
open Go.Nt
def MS (m:List En):Prop:=MG m/\∀ e∈m,szE e<=4700/\e.c<=49
theorem MS.nil:MS []:=⟨MG.nil,by simp⟩
theorem MS.put {m:List En} (h:MS m) {e:En} (he:GE e) (hs:szE e<=4700/\e.c<=49):MS (mM m e):=by
 refine⟨h.1.put he,fun z hz=>?_⟩;rcases zJ.1 hz with q | q
 ·rw[q];exact hs
 ·exact h.2 z q.1
theorem l13k (l:List Int):∀ (k n:Nat) (m:List En) (md:Own),MS m->m.length+k<=100->n+1000*k<=50000 ->
  ∃ n' m' md',MS m'/\m'.length<=m.length+k/\aC G0 GY (ST [(0,.ptr 0 0),(5,.sl md 8 (ens m)),(6,.int .i64 k)] [] [num l n])=some (.ex 0,ST [(0,.ptr 0 0),(5,.sl md' 8 (ens m')),(6,.int .i64 0),(14,.bool false)] [] [num l n'])
 | 0,n,m,md,h,h1,h2=>by
  refine⟨n,m,md,h,by omega,?_⟩;have ec:((0:Nat):Int)=0:=rfl;rw[aB (L:=GY) rfl];simp only[go_sem,ec,Int.lt_irrefl]
 | k+1,n,m,md,h,h1,h2=>by
  obtain⟨n1,e,a1,a2,a8,a3⟩:=k55 l n (by omega);have b1:=k30 m (by omega) h.1.be e a2.2;rw[(h.1.putE (by omega) a2).1,(h.1.putE (by omega) a2).2] at b1;have hp:=J2 m h.1.1.2 e;obtain⟨n',m',md',c1,c2,c3⟩:=l13k l k n1 (mM m e) .no (h.put a2 a8) (by omega) (by omega);refine⟨n',m',md',c1,by omega,?_⟩;have hk:(0:Int) < ((k+1:Nat):Int):=by omega
  have hwk:IntKind.i64.wrap (((k+1:Nat):Int) - 1)=(k:Int):=by rw[w64 (by omega) (by omega)];omega
  simp only[aN] at a3 b1;rw[aB (L:=GY) rfl];simp only[go_sem,hk,hwk,a3,b1];exact c3
theorem k13 (l:List Int) (N:Nat) (hN:N<=20):∃ n' m,MS m/\m.length<=N/\G0 13 [.ptr 0 0,.int .i64 N] [num l 0]=some (.sl .no 8 (ens m),[num l n']):=by
 have hb:=gH l 0 ((N:Int)+1) (by omega);have h36:=c41 l 0 ((N:Int)+1) (by omega) (by omega) (by omega);have hc:(((nxt l 0 ((N:Int)+1)).toNat:Nat):Int)=nxt l 0 ((N:Int)+1):=by omega
 obtain⟨n',m,md,a1,a2,a3⟩:=l13k l (nxt l 0 ((N:Int)+1)).toNat 1 [] .full MS.nil (by simp;omega) (by omega);rw[hc,F9] at a3;refine⟨n',m,a1,by simp at a2;omega,?_⟩;have hw:IntKind.i64.wrap ((N:Int)+1)=(N:Int)+1:=w64 (by omega) (by omega);have h0:(0:Nat)+1=1:=rfl;rw[h0] at h36;refine aA F13 rfl rfl rfl ?_;simp only[F13,go_sem,hw,h36,a3,pW]
theorem k14 (l:List Int):G9 14 [.sl .no 1 (cL l)] []=some (.ptr 0 0,[num l 0]):=by
 refine aA IL rfl rfl rfl ?_;simp only[IL,go_sem,num]
theorem k11 (l:List Int):G0 11 [.sl .no 1 [[.sl .no 1 (cL l)]]] []=some (.bool (decide (160 < IntKind.i64.wrap (l.length:Int))),[]):=by
 refine aA F11 rfl rfl rfl ?_;have x:∀ b:Bool,aC G0 GZ (ST [(3,.int .i64 0),(6,.sl .no 1 [[.sl .no 1 (cL l)]]),(7,.int .i64 1),(8,.int .i64 0)] [] [])=some (.ex 0,ST [(3,.int .i64 (IntKind.i64.wrap (l.length:Int))),(6,.sl .no 1 [[.sl .no 1 (cL l)]]),(7,.int .i64 1),(8,.int .i64 1),(9,.bool false)] [] []):=fun _=>by
  rw[aB (L:=GZ) rfl];simp only[go_sem,b9];rw[aB (L:=GZ) rfl];simp only[go_sem,Int.lt_irrefl]
 simp only[F11,go_sem,x true]
end Go.Av
namespace Go.Av
def tW:AV->Bool
 | .int .. | .str _ | .bool _ | .sl .no _ _=>true
 | _=>false
theorem KF {c c':Cx} {ow ow':Value->Nat->Nat->Prop} (hS:∀ b o,c.S b o->c'.S b o/\c'.w.cell? ⟨b,o,none⟩=c.w.cell? ⟨b,o,none⟩) {x:AV} {v:Value} (h:tW x=true) (r:bB c ow x v):bB c' ow' x v:=by
 have m:aE c.S c.w x v->aE c'.S c'.w x v:=aE.mono hS _ _
 cases x with
 | int=>exact m r
 | str=>exact m r
 | bool=>exact m r
 | sl o z l =>
  cases o with
  | no=>exact m r
  | _=>cases h
 | _=>cases h
theorem vG {c c':Cx} {ow ow':Nat->Value->Nat->Nat->Prop} (hS:∀ b o,c.S b o->c'.S b o/\c'.w.cell? ⟨b,o,none⟩=c.w.cell? ⟨b,o,none⟩) {w w':World} {b n:Nat} {cells:List AV} (hp:cells.all tW=true) (hb:w'.heap[b]?=w.heap[b]?) (r:r8 c ow w b n cells):r8 c' ow' w' b n cells:=by
 obtain⟨r1,r2⟩:=r;rw[all_eq_true] at hp;refine⟨fun hk=>?_,?_⟩
 ·obtain⟨arr,ty,fz,q1,q2,q3,q4⟩:=r1 hk
  refine⟨arr,ty,fz,hb.trans q1,q2,q3,fun j x hx=>?_⟩;obtain⟨v,q5,q6⟩:=q4 j x hx;exact⟨v,q5,KF hS (hp x (mem_of_getElem? hx)) q6⟩
 ·unfold nU
  split
  ·have:=hp _ mem_cons_self
   cases this
  ·trivial
theorem nA {c:List AV} (h:c.all tW=true):c≠aZ:=by
 intro e;subst e
 revert h
 decide
def OK:AV->Bool
 | .sl .no _ _=>true
 | .agg _=>true
 | _=>false
theorem HR {c c':Cx} {ow:Value->Nat->Nat->Prop} (hS:∀ b o,c.S b o->c'.S b o/\c'.w.cell? ⟨b,o,none⟩=c.w.cell? ⟨b,o,none⟩) {x:AV} {v:Value} (h:OK x=true) (r:aP c ow x v):aP c' ow x v:=by
 cases x with
 | agg l =>
  obtain⟨cs,h1,h2⟩:=r;exact⟨cs,h1,h2.mono (aE.mono hS)⟩
 | sl o z l =>
  cases o with
  | no =>
   have m:aE c.S c.w (.sl .no z l) v->aE c'.S c'.w (.sl .no z l) v:=aE.mono hS _ _;exact m r
  | _=>cases h
 | _=>cases h
def PV:AV->Bool
 | .int ..=>true
 | _=>false
theorem intL {c c':Cx} {ow ow':Value->Nat->Nat->Prop}:∀ {l:List AV} {vs:List Value},l.all PV=true->aJ (aP c ow) l vs->aJ (aP c' ow') l vs
 | [],[],_,_=>trivial
 | [],_ :: _,_,h=>h
 | _ :: _,[],_,h=>h
 | x :: l,v :: vs,hl,⟨h1,h2⟩=>by
  rw[all_cons,Bool.and_eq_true] at hl;refine⟨?_,intL hl.2 h2⟩
  cases x with
  | int k n=>exact h1
  | _=>cases hl.1
theorem AZ {a c c':List AV} {r:AV} (hr:OK r=true) (ha:a.all tW=true) (hc:c.all tW=true) (hc':c'.all tW=true) {kd:Nat->BK} {β bs:Nat->Nat} {S0:Nat->Nat->Prop} {O0:Nat->Option Nat} {w:World} (hE:n7 [a,c] kd β bs S0 O0 w) :
  ∃ kd1,n7 [c] kd1 (fun _=>β 1) (fun _=>bs 1) S0 (fun _=>none) w/\∀ v kd' β' bs' w',After S0 (fun _=>none) (fun _=>β 1) (fun _=>bs 1) w [c] [c'] r v kd' β' bs' w'->∃ kd2,After S0 O0 β bs w [a,c] [a,c'] r v kd2 β bs w':=by
 obtain⟨⟨e1,e1'⟩,e2,e3,e4,e5⟩:=hE;have l0:0 < [a,c].length:=Nat.zero_lt_succ _;have l1:1 < [a,c].length:=Nat.lt_succ_self 1;have m0:0 < [c].length:=Nat.zero_lt_succ _;obtain⟨a1,a2⟩:=e1 0 a rfl (nA ha);obtain⟨c1,c2⟩:=e1 1 c rfl (nA hc);have b0:=(e1' 0 l0).1;have b1:=(e1' 1 l1).1;have hne:β 1≠β 0:=fun q=>by rw[q,a1] at c1;cases c1
 classical
 refine⟨fun b=>if b=β 1 then .shr 0 else .stab,⟨⟨fun i cells hi hd=>?_,fun i hi=>⟨b1,0,if_pos rfl⟩⟩,fun b o hS=>?_,fun b k hk=>(by cases hk),fun b t k hk hb=>?_,e5⟩,fun v kd' β' bs' w' A=>?_⟩
 ·match i,hi with
  | 0,hi =>
   cases hi;exact⟨if_pos rfl,vG (c:=cx0 β bs S0 w [a,c].length) (c':=cx0 (fun _=>β 1) (fun _=>bs 1) S0 w [c].length) (fun b o h=>⟨h,rfl⟩) hc rfl c2⟩
 ·obtain⟨k1,k2,_⟩:=e2 b o hS
  exact⟨k1,fun i hi=>k2 1 l1,fun k hk=>(by cases hk)⟩
 ·have hk:(if b=β 1 then BK.shr 0 else BK.stab)=BK.own t k:=hk
  split at hk<;>cases hk
 ·obtain⟨s1,s2⟩:=A.same 0 m0
  obtain⟨o1,o2⟩:=A.shok.1 0 c' rfl (nA hc');rw[s1] at o1 o2;rw[s2] at o2
  let kd2:Nat->BK:=fun b=>if b < w.heap.size then kd b else kd' b
  have hsz:=A.size;have hk1:∀ {b},b < w.heap.size->kd2 b=kd b:=fun {b} h=>if_pos h
  have hk2:∀ {b},w.heap.size<=b->kd2 b=kd' b:=fun {b} h=>if_neg (by omega)
  have hSm:∀ b o,S1 S0 w w' kd' b o->S1 S0 w w' kd2 b o:=by
   rintro b o (q | ⟨q1,q2,q3⟩ | ⟨q1,t,k,q2,q3⟩)
   ·exact .inl q
   ·exact .inr (.inl ⟨q1,q2,(hk2 q1).trans q3⟩)
   ·rcases A.own0 b t k q2 with q | q
    ·exact .inr (.inr ⟨q1,t,k,(hk2 q).trans q2,q3⟩)
    ·cases q
  have hf:∀ {b},b < w.heap.size->β 1≠b->w'.heap[b]?=w.heap[b]?:=fun {b} h1 h2=>A.frame b h1 (fun _ _=>h2) rfl
  refine⟨kd2,fun _ _=>⟨rfl,rfl⟩,Nat.le_refl _,⟨fun i cells hi hd=>?_,fun i hi=>?_⟩,?_,A.os,A.tape,A.output,A.size,fun b hb hn ho=>hf hb (hn 1 l1),A.sframe,fun b k hk=>?_,fun b t k hk=>?_,fun i h1 h2=>?_,fun i hi=>?_⟩
  ·match i,hi with
   | 0,hi =>
    cases hi;exact⟨(hk1 b0).trans a1,vG (c:=cx0 β bs S0 w [a,c].length) (c':=cx0 β bs (S1 S0 w w' kd2) w' [a,c'].length) (fun b o h=>⟨Or.inl h,A.sframe b o h⟩) ha (hf b0 hne) a2⟩
   | 1,hi =>
    cases hi;exact⟨(hk1 b1).trans c1,vG (c:=cx0 β' bs' (S1 S0 w w' kd') w' [c'].length) (c':=cx0 β bs (S1 S0 w w' kd2) w' [a,c'].length) (fun b o h=>⟨hSm b o h,rfl⟩) hc' rfl o2⟩
  ·obtain⟨k1,j,k2⟩:=e1' i hi
   exact⟨by omega,j,(hk1 k1).trans k2⟩
  ·exact HR (c:=cx0 β' bs' (S1 S0 w w' kd') w' [c'].length) (c':=cx0 β bs (S1 S0 w w' kd2) w' [a,c'].length) (fun b o h=>⟨hSm b o h,rfl⟩) hr A.rep
  ·obtain⟨k1,k2,t,k',k3,k4⟩:=e3 b k hk
   exact⟨t,k',(hk1 k1).trans k3,k4⟩
  ·by_cases q:b < w.heap.size
   ·rw[hk1 q] at hk
    exact .inr (e4 b t k hk q)
   ·exact .inl (by omega)
  ·have:i < 2:=h2
   have:2<=i:=h1
   omega
  ·match i,hi with
   | 0,hi=>exact absurd (Option.some.inj hi) (nA ha)
   | 1,hi=>exact absurd (Option.some.inj hi) (nA hc)
def HF (G:aM) (f:FuncId) (args:List AV) (sh:LL):Option (AV × LL):=
 match args,sh with
 | .ptr 1 0 :: l,[a,c]=>if l.all PV=true then (G f (.ptr 0 0 :: l) [c]).bind fun p=>match p with
  | (r,[c'])=>if a.all tW=true/\c.all tW=true/\c'.all tW=true/\OK r=true then some (r,[a,c']) else none
  | _=>none
  else none
 | _,_=>none
theorem OF {G:aM} {f:FuncId} {l:List AV} {a c c':List AV} {r:AV} (hl:l.all PV=true) (h:G f (.ptr 0 0 :: l) [c]=some (r,[c'])) (ha:a.all tW=true) (hc:c.all tW=true) (hc':c'.all tW=true) (hr:OK r=true):HF G f (.ptr 1 0 :: l) [a,c]=some (r,[a,c']):=by
 show (if l.all PV=true then (G f (.ptr 0 0 :: l) [c]).bind _ else none)=_;rw[if_pos hl,h];exact if_pos ⟨ha,hc,hc',hr⟩
theorem C6 {P:Program} {G:aM} (hG:gQ P G) {f:FuncId} {args:List AV} {sh sh':LL} {r:AV} (h:HF G f args sh=some (r,sh')):(xE P f/\gZ P f args sh r sh')\/MR P f args sh r sh':=by
 unfold HF at h
 split at h
 case h_2=>cases h
 rename_i l a c;obtain⟨hl,h⟩:=jI h;obtain⟨⟨r1,s1⟩,h1,h2⟩:=Option.bind_eq_some_iff.1 h
 split at h2
 case h_2=>cases h2
 rename_i r2 c' heq;obtain⟨rfl,rfl⟩:=Prod.mk.inj heq;obtain⟨⟨ha,hc,hc',hr⟩,h3⟩:=jI h2;simp only[Option.some.injEq,Prod.mk.injEq] at h3;obtain⟨rfl,rfl⟩:=h3;have hargs':∀ {β bs:Nat->Nat} {S0:Nat->Nat->Prop} {w:World} {vs:List Value},aJ (aP (cx0 β bs S0 w 2) aR) (.ptr 1 0 :: l) vs->aJ (aP (cx0 (fun _=>β 1) (fun _=>bs 1) S0 w 1) aR) (.ptr 0 0 :: l) vs:=fun {β bs S0 w vs} q=>by
  match vs,q with
  | x :: vs,⟨⟨_,q1⟩,q2⟩=>exact⟨⟨Nat.zero_lt_one,q1⟩,intL hl q2⟩
  | [],q=>exact q
 rcases hG f _ _ _ _ h1 with ⟨hre,hs⟩ | hs
 ·refine .inl ⟨hre,fun kd β bs S0 O0 w vs hE hargs=>?_⟩
  obtain⟨kd1,hE1,hA⟩:=AZ hr ha hc hc' hE;refine (hs kd1 _ _ S0 _ w vs hE1 (hargs' hargs)).mono ?_
  rintro e w' ⟨v,kd',β',bs',he,A⟩
  obtain⟨kd2,A2⟩:=hA v kd' β' bs' w' A;exact⟨v,kd2,β,bs,he,A2⟩
 ·refine .inr (fun kd β bs S0 O0 w vs hE hargs=>?_)
  obtain⟨kd1,hE1,hA⟩:=AZ hr ha hc hc' hE;obtain⟨v,w',kd',β',bs',hrr,A⟩:=hs kd1 _ _ S0 _ w vs hE1 (hargs' hargs);obtain⟨kd2,A2⟩:=hA v kd' β' bs' w' A;exact⟨v,w',kd2,β,bs,hrr,A2⟩
def T8:FuncId->Option AFun
 | 3=>some F3z
 | _=>none
theorem zDN:∀ f F,T8 f=some F->jY Go.Proofs.Tryz.prog f F=true:=by
 intro f F h;unfold T8 at h
 split at h
 ·cases h;exact ok3z
 ·cases h
noncomputable def B8:aM:=fun f args sh=>if (T8 f).isSome=true then none else match HF G9 f args sh with
 | some r=>some r
 | none=>G9 f args sh
theorem RL:gQ Go.Proofs.Tryz.prog B8:=by
 intro f args sh r sh' h;unfold B8 at h
 split at h
 ·cases h
 ·split at h
  ·rename_i q
   cases h;exact C6 G2 q
  ·exact G2 _ _ _ _ _ h
noncomputable abbrev G8:aM:=Gx B8 T8
theorem Q5:gQ Go.Proofs.Tryz.prog G8:=uU mix RL zDN
theorem up8 {f:FuncId} {args:List AV} {sh:LL} {r:AV × LL} (h:G9 f args sh=some r) (hT:T8 f=none) (hs:HF G9 f args sh=none:=by rfl):G8 f args sh=some r:=by
 refine oZ ?_;unfold B8;rw[hT,if_neg (by simp),hs];exact h
theorem up82 {f:FuncId} {l:List AV} {a c:List AV} {r:AV × LL} (h:HF G9 f (.ptr 1 0 :: l) [a,c]=some r) (hT:T8 f=none):G8 f (.ptr 1 0 :: l) [a,c]=some r:=by
 refine oZ ?_;unfold B8;rw[hT,if_neg (by simp),h]
end Go.Av
namespace Go.Av
open Go.Nt
theorem k14b (l k:List Int) (n:Nat):G9 14 [.sl .no 1 (cL k)] [num l n]=some (.ptr 1 0,[num l n,num k 0]):=by
 refine aA IL rfl rfl rfl ?_;simp only[IL,go_sem,num]
end Go.Av
namespace Go.Av
open Go.Nt
theorem yX {B:Nat}:∀ {f:List Tk},(∀ t∈f,t.2.1.length<=B)->tot f<=f.length*B
 | [],_=>by rw[cJ];omega
 | t :: f,h=>by
  have h1:=yX (B:=B) (f:=f) (fun x hx=>h x (mem_cons_of_mem _ hx));have h2:=h t mem_cons_self;rw[bC,length_cons,Nat.succ_mul];omega
def WE (e:En):Prop:=BE e/\(VE e->szE e<=110000)
theorem UE.we {e:En} (h:UE e) (h1:e.S.length+e.T.length<=30) (h2:e.p.length+e.n.length<=300):WE e:=by
 have s1:=yX h.sT;have s2:=yX h.tT;have s3:e.S.length*1048576<=30*1048576:=Nat.mul_le_mul_right _ (by omega);have s4:e.T.length*1048576<=30*1048576:=Nat.mul_le_mul_right _ (by omega);have ha:=h.a;have hj:=h.j;refine⟨⟨by omega,by omega,by omega,by omega,by omega,by omega,by omega,by omega⟩,fun hv=>?_⟩;have h0:=iI (f:=e.S);have h1:=iI (f:=e.T);have h4:=nE hv.na;have h5:=nE hv.nj;unfold szE;omega
theorem GE.we {e:En} (h:GE e) (hs:szE e<=4700/\e.c<=49):WE e:=⟨h.2,fun _=>by omega⟩
theorem MS.we {m:List En} (h:MS m):∀ e∈m,WE e:=fun e he=>⟨FE h.1.1 e he,fun _=>by have:=(h.2 e he).1;omega⟩
theorem WE.ok {m:List En} (hl:m.length<=8) (h:∀ e∈m,WE e):FOK m/\FOR m:=by
 refine⟨⟨by omega,fun e he=>(h e he).1,fun hc=>?_⟩,⟨by omega,fun e he=>(h e he).1,fun hc e he=>?_⟩⟩
 ·have hM:=((wJ m).1 hc).2
  have h1:=M1 (B:=110000) (m:=m) (by omega) (fun e he=>⟨hM.1 e he,(h e he).2 (hM.1 e he)⟩);have h2:m.length*(110000+100)<=8*(110000+100):=Nat.mul_le_mul_right _ hl;exact⟨fun e he=>(hM.1 e he).c1,by omega⟩
 ·have hV:=(((wJ m).1 hc).2).1 e he
  have:=hV.c1
  exact dok (by omega)
theorem l3 (sh:LL) (L:List (List En)) (hL:∀ x∈L,FOK x/\FOR x) (hLl:L.length<=10):∀ (d i:Nat),i+d=L.length ->
  aC G8 GU (ST [(40,.bool false),(80,.sl .full 1 (L.map fun x=>[.sl .no 8 (ens x)])),(81,.int .i64 L.length),(82,.int .i64 i)] [] sh)=some (.ex 0,ST [(40,.bool false),(80,.sl .full 1 (L.map fun x=>[.sl .no 8 (ens x)])),(81,.int .i64 L.length),(82,.int .i64 L.length),(83,.bool false)] [] sh)
 | 0,i,h=>by
  have:i=L.length:=by omega
  subst this;rw[aB (L:=GU) rfl];simp only[go_sem,Int.lt_irrefl]
 | d+1,i,h=>by
  have hi:i < L.length:=by omega
  have h0:(0:Int)<=(i:Int):=by omega
  have h1:(i:Int) < (L.length:Int):=by omega
  have hw:=wI (i:=i) (by omega)
  have hg:L[i]?=some L[i]:=getElem?_eq_getElem hi;have hs:=hL _ (getElem_mem hi);generalize L[i]=x at hg hs;have hr:(L.map fun x=>[AV.sl .no 8 (ens x)])[i]?=some [.sl .no 8 (ens x)]:=by rw[getElem?_map,hg];rfl
  have a1:=up8 (k17 hs.1) rfl;have a2:=up8 (up (zBN x hs.2) (by decide) rfl) rfl;have ih:=l3 sh L hL hLl d (i+1) (by omega);rw[<- ih]
  conv=>lhs;rw[aB (L:=GU) rfl]
  generalize fmM x=q at a1 a2;obtain⟨a,b⟩:=q;simp only[] at a1 a2;have e1:(a != a)=false:=by simp
  simp only[go_sem,length_map,h0,h1,hr,hw,a1,a2,e1,not_true_eq_false,decide_true,decide_false]
set_option pp.maxSteps 20000 in
set_option pp.deepTerms true in
theorem k3 (l:List Int) (e:En) (hu:UE e) (z:Int):G8 3 [.sl .no 1 (cL l),.agg (aN e),.int .i64 z] []=some (.bool true,[]):=by
 have g1:=up8 (up (k11 l) (by decide) rfl) rfl;have g2:=up8 k12 rfl;have hS:=hu.S;have hT:=hu.T;have hp:=hu.p;have hn:=hu.n;have w1:IntKind.i64.wrap ((e.S.length:Int)+(e.T.length:Int))=(e.S.length:Int)+(e.T.length:Int):=w64 (by omega) (by omega);have w2:IntKind.i64.wrap ((e.p.length:Int)+(e.n.length:Int))=(e.p.length:Int)+(e.n.length:Int):=w64 (by omega) (by omega);refine aA F3z rfl rfl rfl ?_;by_cases h:160 < IntKind.i64.wrap (l.length:Int)
 ·simp only[F3z,aN,go_sem,g1,g2,h,decide_true]
 by_cases q1:(30:Int) < (e.S.length:Int)+(e.T.length:Int)
 ·simp only[F3z,aN,go_sem,g1,g2,h,aD,w1,q1,decide_true,decide_false]
 by_cases q2:(300:Int) < (e.p.length:Int)+(e.n.length:Int)
 ·simp only[F3z,aN,go_sem,g1,g2,h,aD,w1,w2,q1,q2,decide_true,decide_false]
 have hwe:=hu.we (by omega) (by omega);obtain⟨n1,m,a1,a2,a3⟩:=k13 l 6 (by decide);obtain⟨n2,o,b1,b2,b3,b4⟩:=k55 l 0 (by omega);have e6:((6:Nat):Int)=6:=rfl;rw[e6] at a3;have g3:=up8 (k14 l) rfl;have g4:=up8 (up a3 (by decide) rfl) rfl;have g5:=up8 (k14b l l n1) rfl;have g6:G8 16 [.ptr 1 0] [num l n1,num l 0]=some (.agg (aN o),[num l n1,num l n2]):=up82 (OF rfl (up b4 (by decide) rfl) rfl rfl rfl rfl) rfl;have w3:IntKind.i64.wrap ((m.length:Int)+1)=(m.length:Int)+1:=w64 (by omega) (by omega);have g7:=up8 (up (c18 z ((m.length:Int)+1) (by omega) (by omega)) (by decide) rfl) rfl;have z1:=Int.emod_nonneg z (b:=(m.length:Int)+1) (by omega);have z2:=Int.emod_lt_of_pos z (b:=(m.length:Int)+1) (by omega);obtain⟨k,hk,hz⟩:∃ k:Nat,k<=m.length/\z % ((m.length:Int)+1)=(k:Int):=⟨(z % ((m.length:Int)+1)).toNat,by omega,by omega⟩
 rw[hz] at g7;have h0:(0:Int)<=(k:Int):=by omega
 have h1:(k:Int)<=(m.length:Int):=by omega
 have en:ens []=[]:=rfl;have ap:∀ (x:En),iF false 8 128 (.sl .full 8 []) (.sl .no 8 (ens (m.take k)))=some (.sl .own 8 (ens (m.take k)))/\iF false 8 128 (.sl .own 8 (ens (m.take k))) (.sl .full 8 [aN x])=some (.sl .own 8 (ens (m.take k++[x])))/\iF false 8 128 (.sl .own 8 (ens (m.take k++[x]))) (.sl .no 8 (ens (m.drop k)))=some (.sl .own 8 (ens (m.take k++[x]++m.drop k))):=fun x=>by
  have t1:(m.take k).length<=6:=by rw[length_take];omega
  have t2:(m.drop k).length<=6:=by rw[length_drop];omega
  refine⟨?_,?_,?_⟩
  ·have:=IJ (md:=.full) (o:=.no) (by decide) [] (m.take k) (by simp;omega)
   rwa [en,nil_append] at this
  ·exact IJ (md:=.own) (o:=.full) (by decide) (m.take k) [x] (by simp;omega)
  ·exact IJ (md:=.own) (o:=.no) (by decide) (m.take k++[x]) (m.drop k) (by simp only[length_append,length_singleton];omega)
 obtain⟨r1,r2,r3⟩:=ap e;obtain⟨r4,r5,r6⟩:=ap o;have hm:∀ x:En,WE x->∀ y∈m.take k++[x]++m.drop k,WE y:=fun x hx y hy=>by
  rcases mem_append.1 hy with q | q
  ·rcases mem_append.1 q with q | q
   ·exact a1.we y (mem_of_mem_take q)
   ·rw[mem_singleton.1 q];exact hx
  ·exact a1.we y (mem_of_mem_drop q)
 have hl:∀ x:En,(m.take k++[x]++m.drop k).length<=8:=fun x=>by
  simp only[length_append,length_take,length_drop,length_singleton];omega
 have x:=l3 [num l n1,num l n2] [m,m.take k++[e]++m.drop k,m.take k++[o]++m.drop k] (fun x hx=>by
  rcases mem_cons.1 hx with q | q
  ·rw[q];exact WE.ok (by omega) a1.we
  ·rcases mem_cons.1 q with q | q
   ·rw[q];exact WE.ok (hl e) (hm e hwe)
   ·rw[mem_singleton.1 q];exact WE.ok (hl o) (hm o (b2.we b3))) (by simp) 3 0 rfl
 have e0:((0:Nat):Int)=0:=rfl;have e3:(([m,m.take k++[e]++m.drop k,m.take k++[o]++m.drop k]:List (List En)).length:Int)=3:=rfl;rw[e0,e3] at x;simp only[map_cons,map_nil] at x;simp only[aN] at r2 r5 g6;have mk0:gO 8 [.sl .full 3 [],.sl .full 3 [],.str [],.str [],.str [],.str [],.int .i64 0,.int .i64 0] 0 [] []=some (.sl .full 8 []):=rfl;have mk1:∀ a b:LL,∀ c d e f:Bs,∀ g h:Int,gO 8 [.sl .full 3 [],.sl .full 3 [],.str [],.str [],.str [],.str [],.int .i64 0,.int .i64 0] 1 [0] [.agg [.sl .no 3 a,.sl .no 3 b,.str c,.str d,.str e,.str f,.int .i64 g,.int .i64 h]]=some (.sl .full 8 [[.sl .no 3 a,.sl .no 3 b,.str c,.str d,.str e,.str f,.int .i64 g,.int .i64 h]]):=fun _ _ _ _ _ _ _ _=>rfl
 have mk3:∀ a b c:LL,gO 1 [.sl .full 8 []] 3 [0,1,2] [.sl .no 8 a,.sl .own 8 b,.sl .own 8 c]=some (.sl .full 1 [[.sl .no 8 a],[.sl .no 8 b],[.sl .no 8 c]]):=fun _ _ _=>rfl
 simp only[F3z,aN,go_sem,g1,g2,g3,g4,g5,g6,g7,w1,w2,w3,h0,h1,h,q1,q2,aD,aW,CB,CC,Int.toNat_natCast,r1,r2,r3,r4,r5,r6,mk0,mk1,mk3,x,decide_true,decide_false]
end Go.Av
