/- The law ExchangeParses. No conditions. The reference's Format of a memory. No conditions. The law's memories out of numbers, long lists; the law ExchangeRoundTrips. No conditions. Two lists of numbers: a call that sees the second of two shared objects. No conditions. Import; the law ExchangeUnions. No conditions. The law ExchangeImports. No conditions. -/
import Derived.Test.YtmjfblcmbcfkcaaGreatDoorG2XN
import Derived.Test.YtmjfblcmbcfkcaaGreatDoorG2XM
import Derived.Test.YtmjfblcmbcfkcaaGreatDoorG2XJ
import Derived.Test.YtmjfblcmbcfkcaaGreatDoorG2XL
open List
set_option linter.unusedSimpArgs false
set_option linter.unusedVariables false
set_option linter.unusedSectionVars false
set_option maxRecDepth 100000
set_option maxHeartbeats 16000000
namespace Go.Av
open Go.Nt
theorem X5 (n:Nat) (rr:Bs) (q:Int × Nat × Rd) (h:(DK n rr q).2.2≠0):(DK n rr q).1=[]:=by
 unfold DK at h ⊢;by_cases q1:q.1≠0
 ·rw[if_pos q1]
 ·rw[if_neg q1] at h ⊢
  by_cases q2:rr≠[]\/q.2.2.k≠0
  ·rw[if_pos q2]
  ·rw[if_neg q2] at h ⊢
   by_cases q3:q.2.2.m.length≠n
   ·rw[if_pos q3]
   ·rw[if_neg q3] at h;exact absurd rfl h
theorem pM_e {s:Bs} (h:(pM s).2.2≠0):(pM s).1=[]:=by
 by_cases hs:1048576 < s.length
 ·unfold pM;rw[if_pos hs]
 obtain⟨ls,rr⟩:List Bs × Bs:=lns s;cases hl:(lns s).1 with
 | nil=>rw[WB (rr:=(lns s).2) (by omega) (by rw[<- hl])]
 | cons a l =>
  have e:=WC (s:=s) (h:=a) (ls:=l) (rr:=(lns s).2) (by omega) (by rw[<- hl]);rw[e] at h ⊢;unfold pL at h ⊢
  cases q:hdN a with
  | none=>rfl
  | some n =>
   rw[q] at h;exact X5 _ _ _ h
theorem MC (s:Bs):(pM s).1.length<=1024/\Mem (pM s).1:=by
 by_cases h:(pM s).2.2=0
 ·obtain⟨_,h2,h3,_⟩:=QW (s:=s) (m:=(pM s).1) (k:=(pM s).2.1) (by rw[<- h])
  exact⟨h3,h2⟩
 ·rw[pM_e h]
  exact⟨by simp,mV⟩
theorem kR {m:List En} (h:Mem m):∀ e∈m,BE e:=fun e he=>VE.be (h.1 e he)
theorem k19 (s:Bs) (hs:s.length<=50000):G0 19 [.str s] []=some (.bool true,[]):=by
 have a:=E7 s hs;have b:=HR s hs;obtain⟨h1,h2⟩:=MC s;have c:=k28 (pM s).1 (by omega) (kR h2);refine aA F19 rfl rfl rfl ?_;generalize pM s=q at *;obtain⟨m,n,e⟩:=q;simp only[F19,go_sem,a,b,c,cL,decide_true]
def em:En:=⟨[(1,[97],0)],[(1,[98],0)],[],[],[],[],0,1⟩
theorem em_v:vE em=0:=by decide +kernel
theorem zEW:GE em:=⟨(lA em).1 em_v,by decide,by decide +kernel,by decide,by decide +kernel,by decide,by decide,by decide,by decide⟩
def kT:Bs:=[98,105,116,101,120,116,45,109,101,109,111,114,121,32,49,10,115,111,117,114,99,101,32,97,10,116,97,114,103,101,116,32,98,10,111,114,105,103,105,110,32,104,117,109,97,110,10]
theorem DL:txM [em]=kT:=by
 have h:dcN 1=[49]:=by rw[fJ (by decide)];rfl
 have h1:hdT [em].length=hdB++[49]:=by show hdB++dcN 1=_;rw[h]
 have h2:([em].flatMap i6)=[[115,111,117,114,99,101,32,97],[116,97,114,103,101,116,32,98],[111,114,105,103,105,110,32,104,117,109,97,110]]:=by decide +kernel
 unfold txM;rw[h1,h2];rfl
theorem SD:Mem [em]:=(mg1 zEW).1
theorem zEX:fmM [em]=(kT,0):=by
 rw[FC SD (by decide) (by rw[DL];decide),DL]
theorem zEV:pM kT=([em],0,0):=by
 rw[<- DL];exact MB SD (by decide) (by rw[DL];decide)
theorem YA:FOK [em]:=⟨by decide,(kR SD),fun _=>⟨fun e h=>by rw[mem_singleton.1 h];decide,by rw[DL];decide⟩⟩
theorem k12:G9 12 [] []=some (.bool true,[]):=by
 have a:=k17 YA;have b:=up (E7 kT (by decide)) (by decide) rfl;have c:=up (k28 [em] (by decide) (kR SD)) (by decide) rfl;rw[zEX] at a;rw[zEV] at b;have e1:ens [em]=[[.sl .no 3 [[.int .i64 1,.str [97],.int .i64 0]],.sl .no 3 [[.int .i64 1,.str [98],.int .i64 0]],.str [],.str [],.str [],.str [],.int .i64 0,.int .i64 1]]:=rfl;have ec0:((0:Nat):Int)=0:=rfl;simp only[e1,kT] at a b c;refine aA F12 rfl rfl rfl ?_;simp only[F12,go_sem,a,b,c,wX,ec0,cL,decide_true,beq_self_eq_true]
theorem k4 (s:Bs):G9 4 [.str s] []=some (.bool true,[]):=by
 have k:=k12;refine aA F4 rfl rfl rfl ?_;by_cases h:4000 < (s.length:Int)
 ·simp only[F4,go_sem,h,k]
 ·have a:=up (k19 s (by omega)) (by decide) rfl
  have b:=up (k19 (98 :: 105 :: 116 :: 101 :: 120 :: 116 :: 45 :: 109 :: 101 :: 109 :: 111 :: 114 :: 121 :: 32 :: 49 :: 10 :: s) (by simp;omega)) (by decide) rfl;have hl:16+s.length<=140737488355328:=by omega
  simp only[F4,go_sem,h,a,b,k,hl]
end Go.Av
namespace Go.Av
open Go.Nt
def vlL (e:En):List Bs:=[vlE e 0,vlE e 1,vlE e 2,vlE e 3,vlE e 4,vlE e 5,vlE e 6,vlE e 7]
theorem VA (e:En) {k:Nat} (hk:k < 8):(vlL e)[k]?=some (vlE e k):=by
 match k,hk with
 | 0,_ | 1,_ | 2,_ | 3,_ | 4,_ | 5,_ | 6,_ | 7,_=>rfl
theorem WE {o:Int} (h1:1<=o) (h3:o<=3):orn[(o - 1).toNat]?=some (orn.getD (o - 1).toNat []):=by
 have:(o - 1).toNat < 3:=by omega
 match (o - 1).toNat,this with
 | 0,_ | 1,_ | 2,_=>rfl
def DOK (n:Nat):Prop:=G0 23 [.int .i64 n] []=some (.str (dcN n),[])
theorem dok {n:Nat} (h:n<=1073741824):DOK n:=kDec n (by omega)
theorem kVal (e:En) (h:VE e) (hd:DOK e.c.toNat):G0 39 [.agg (aN e)] []=some (.sl .no 1 (cP (vlL e)),[]):=by
 obtain⟨l1,l2,l3⟩:=(VE.be h).lS;obtain⟨l4,l5,l6⟩:=(VE.be h).lT;have a:=c33 e.S (by omega) l3;have b:=c33 e.T (by omega) l6;rw[h.vS,rC] at a;rw[h.vT,rC] at b;have c71:=YP;have h1:=h.o1;have h3:=h.o3;have ho:=eW (WE h1 h3);have hw:IntKind.i64.wrap (e.o - 1)=e.o - 1:=w64 (by omega) (by omega);have h0:(0:Int)<=e.o - 1:=by omega
 have e7:vlE e 7=orn.getD (e.o - 1).toNat []:=rfl;have hm:∀ a b c d e f g h:Bs,iE 1 [.str []] 8 [0,1,2,3,4,5,6,7] [.str a,.str b,.str c,.str d,.str e,.str f,.str g,.str h]=some (.sl .full 1 [[.str a],[.str b],[.str c],[.str d],[.str e],[.str f],[.str g],[.str h]]):=fun _ _ _ _ _ _ _ _=>rfl
 have hc0:=h.c0;have hv:cP (vlL e)=[[.str (fmE e.S)],[.str (fmE e.T)],[.str e.p],[.str e.n],[.str e.a],[.str e.j],[.str (vlE e 6)],[.str (vlE e 7)]]:=rfl;rw[hv];refine aA F39 rfl rfl rfl ?_;by_cases hz:e.c=0
 ·have h6:vlE e 6=[]:=if_pos hz
  have g:(0 < e.c)=False:=eq_false (by omega);rw[h6];simp only[F39,aN,go_sem,a,b,c71,ho,hw,h0,hm,g,e7]
 ·have h6:vlE e 6=dcN e.c.toNat:=if_neg hz
  have g:(0 < e.c)=True:=eq_true (by omega);have d:G0 23 [.int .i64 e.c] []=some (.str (vlE e 6),[]):=by
   have:=hd
   unfold DOK at this;rw[show ((e.c.toNat:Nat):Int)=e.c by omega,<- h6] at this;exact this
  simp only[F39,aN,go_sem,a,b,c71,ho,hw,h0,hm,g,d,e7]
theorem l18a (m:List En) (i:Nat) (e:En) (h:VE e) (A:Bs) (hA:A.length<=1000000000):∀ (d k:Nat),k+d=8 ->
  aC G0 zY (ST [(0,.sl .no 8 (ens m)),(4,.int .i64 0),(5,.str (A++jn (g9 e k))),(6,.int .i64 i),(12,.bool false),(22,.bool true),(29,.sl .no 1 (cP (vlL e))),(30,.int .i64 8),(31,.int .i64 k)] [] [])=some (.ex 2,ST [(0,.sl .no 8 (ens m)),(4,.int .i64 0),(5,.str (A++jn (i6 e))),(6,.int .i64 i),(12,.bool false),(22,.bool true),(29,.sl .no 1 (cP (vlL e))),(30,.int .i64 8),(31,.int .i64 8),(32,.bool false)] [] [])
 | 0,k,hk=>by
  have:k=8:=by omega
  subst this;have ec:((8:Nat):Int)=8:=rfl;have el:i6 e=g9 e 8:=rfl;rw[aB (L:=zY) rfl,el];simp only[go_sem,ec,Int.lt_irrefl]
 | d+1,k,hk=>by
  have hi:k < 8:=by omega
  have h0:(0:Int)<=(k:Int):=by omega
  have h1:(k:Int) < 8:=by omega
  have hw:IntKind.i64.wrap ((k:Int)+1)=((k+1:Nat):Int):=by rw[w64 (by omega) (by omega)];rfl
  have hr:=eW (VA e hi);have hf:=eW (NH hi);have c40:=c40';have hl1:=NG k;have hl2:(vlE e k).length<=60000:=by
   have:=z8 h k
   have q:vsF (fmE e.S) (fmE e.T) e.p e.n e.a e.j (vlE e 6) (orn.getD (e.o - 1).toNat []) k=vlE e k:=by
    match k,hi with
    | 0,_ | 1,_ | 2,_ | 3,_ | 4,_ | 5,_ | 6,_ | 7,_=>rfl
   rwa [q] at this
  have hl3:(jn (g9 e k)).length<=k*60010:=by
   have:=A3 (z8 h) k
   have q:oM (vsF (fmE e.S) (fmE e.T) e.p e.n e.a e.j (vlE e 6) (orn.getD (e.o - 1).toNat [])) k=g9 e k:=by
    match k,hi with
    | 0,_ | 1,_ | 2,_ | 3,_ | 4,_ | 5,_ | 6,_ | 7,_=>rfl
   rwa [q] at this
  have ih:=l18a m i e h A hA d (k+1) (by omega);have hs:g9 e (k+1)=g9 e k++lnE k (vlE e k):=rfl;generalize vlE e k=v at *;by_cases hq:2<=k/\v=[]
  ·have hv:lnE k v=[]:=if_pos hq
   rw[hs,hv,append_nil] at ih;rw[<- ih];have g:((k:Int) < 2)=False:=eq_false (by omega);have g2:(v == [])=true:=by rw[hq.2];rfl
   have g3:(v != [])=false:=by rw[hq.2];rfl
   conv=>lhs;rw[aB (L:=zY) rfl]
   simp only[go_sem,h0,h1,hr,hw,g,g2,g3]
  ·have hv:lnE k v=[lnK k v]:=if_neg hq
   rw[hs,hv,xD,<- append_assoc] at ih;have hj:jn [lnK k v]=(fnm.getD k []++[32]++v)++[10]:=by simp [jn,lnK]
   rw[hj] at ih;have hT:(A++jn (g9 e k)).length<=1001000000:=by rw[length_append];omega
   rw[<- ih]
   clear ih hs hv hl3 hj
   generalize A++jn (g9 e k)=T at hT ⊢;have g1:(fnm.getD k []).length<=140737488355327:=by omega
   have g2:(fnm.getD k []++[32]).length+v.length<=140737488355328:=by rw[length_append,length_singleton];omega
   have g3:(fnm.getD k []++[32]++v).length<=140737488355327:=by rw[length_append,length_append,length_singleton];omega
   have g4:T.length+(fnm.getD k []++[32]++v++[10]).length<=140737488355328:=by rw[length_append,length_append,length_append,length_singleton,length_singleton];omega
   generalize fnm.getD k []=q at hf g1 g2 g3 g4 ⊢;by_cases hk2:k < 2
   ·have g:((k:Int) < 2)=True:=eq_true (by omega)
    conv=>lhs;rw[aB (L:=zY) rfl]
    simp only[go_sem,h0,h1,hr,hf,hw,g,c40,g1,g2,g3,g4]
   ·have g:((k:Int) < 2)=False:=eq_false (by omega)
    have hne:v≠[]:=fun z=>hq ⟨by omega,z⟩
    have g5:(v == [])=false:=by simpa using hne
    have g6:(v != [])=true:=by simpa using hne
    conv=>lhs;rw[aB (L:=zY) rfl]
    simp only[go_sem,h0,h1,hr,hf,hw,g,g5,g6,c40,g1,g2,g3,g4]
theorem l18b (m:List En) (hm:m.length<=1024) (hV:∀ e∈m,VE e/\DOK e.c.toNat) (hK:∀ i,(txK m i).length<=1000000000):∀ (d i:Nat),i+d=m.length ->
  aC G0 IT (ST [(0,.sl .no 8 (ens m)),(4,.int .i64 0),(5,.str (txK m i)),(6,.int .i64 i),(12,.bool false)] [] [])=some (.ex 0,ST [(0,.sl .no 8 (ens m)),(4,.int .i64 0),(5,.str (txK m m.length)),(6,.int .i64 m.length),(12,.bool false),(22,.bool false)] [] [])
 | 0,i,hi=>by
  have:i=m.length:=by omega
  subst this;rw[aB (L:=IT) rfl];simp only[go_sem,aK,Int.lt_irrefl]
 | d+1,i,hi=>by
  have hl:i < m.length:=by omega
  have h0:(0:Int)<=(i:Int):=by omega
  have h1:(i:Int) < (m.length:Int):=by omega
  have hw:=wI (i:=i) (by omega)
  have hg:m[i]?=some m[i]:=getElem?_eq_getElem hl;obtain⟨hv,hd⟩:=hV _ (getElem_mem hl);generalize m[i]=e at hg hv hd;have hr:=fI hg;have a:=kVal e hv hd;have hl8:(cP (vlL e)).length=8:=rfl;have ec0:((0:Nat):Int)=0:=rfl;have ec8:((8:Nat):Int)=8:=rfl;have l:=l18a m i e hv (txK m i) (hK i) 8 0 rfl;rw[ec0,show g9 e 0=[] from rfl,A5,append_nil,<- TU hg] at l;have ih:=l18b m hm hV hK d (i+1) (by omega);rw[<- ih];simp only[aN] at a
  conv=>lhs;rw[aB (L:=IT) rfl]
  simp only[go_sem,aK,h0,h1,hr,hw,a,hl8,ec8,l]
structure FOR (m:List En):Prop where
 l:m.length<=100
 b:∀ e∈m,BE e
 c:qH m=0->∀ e∈m,DOK e.c.toNat
theorem O4 (m:List En):txK m m.length=txM m:=by
 unfold txK;rw[take_length,EB]
theorem zEC (m:List En) (h:FOR m):G0 18 [.sl .no 8 (ens m)] []=some (.tup [.str (fmM m).1,.int .i64 (fmM m).2],[]):=by
 obtain⟨hl,hb,hc⟩:=h;have a:=UN m (by omega) hb;refine aA F18 rfl rfl rfl ?_;unfold fmM;by_cases q:qH m=0
 case neg =>
  rw[if_pos q];simp only[F18,go_sem,a,q,decide_true,decide_false,not_false_eq_true]
 rw[if_neg (fun z=>z q)];rw[q] at a;have hM:=((BM m).1 q).2;have hd:=dok (n:=m.length) (by omega);unfold DOK at hd;have hK:∀ i,(txK m i).length<=1000000000:=fun i=>Nat.le_trans (AE hl hM.1 i) (by decide)
 have l:=l18b m (by omega) (fun e he=>⟨hM.1 e he,hc q e he⟩) hK m.length 0 (by omega);have e0:((0:Nat):Int)=0:=rfl;have g1:(dcN m.length).length<=1000:=by
  have:=(xQ 9 m.length (by omega)).2.2.2.1
  omega
 have g2:14+(dcN m.length).length<=140737488355328:=by omega
 have g3:(dcN m.length).length<=140737488355313:=by omega
 have ht:txK m 0=98 :: 105 :: 116 :: 101 :: 120 :: 116 :: 45 :: 109 :: 101 :: 109 :: 111 :: 114 :: 121 :: 32 :: (dcN m.length++[10]):=by
  unfold txK hdT;rw[take_zero,flatMap_nil,append_assoc];rfl
 rw[e0,ht,O4] at l;by_cases h4:1048576 < (txM m).length
 ·have h4':(1048576:Int) < ((txM m).length:Int):=by omega
  rw[if_pos h4];simp only[F18,go_sem,aK,a,hd,g2,g3,l,h4',decide_true,decide_false,not_true_eq_false]
 ·have h4':¬ (1048576:Int) < ((txM m).length:Int):=by omega
  rw[if_neg h4];simp only[F18,go_sem,aK,a,hd,g2,g3,l,h4',decide_true,decide_false,not_true_eq_false]
end Go.Av
namespace Go.Av
open Go.Nt
def MS (m:List En):Prop:=MG m/\∀ e∈m,szE e<=4700/\e.c<=49
theorem MS.nil:MS []:=⟨MG.nil,by simp⟩
theorem MS.put {m:List En} (h:MS m) {e:En} (he:GE e) (hs:szE e<=4700/\e.c<=49):MS (jG m e):=by
 refine⟨h.1.put he,fun z hz=>?_⟩;rcases sH.1 hz with q | q
 ·rw[q];exact hs
 ·exact h.2 z q.1
theorem l13k (l:List Int):∀ (k n:Nat) (m:List En) (md:Own),MS m->m.length+k<=100->n+1000*k<=50000 ->
  ∃ n' m' md',MS m'/\m'.length<=m.length+k/\aC G0 IU (ST [(0,.ptr 0 0),(5,.sl md 8 (ens m)),(6,.int .i64 k)] [] [num l n])=some (.ex 0,ST [(0,.ptr 0 0),(5,.sl md' 8 (ens m')),(6,.int .i64 0),(14,.bool false)] [] [num l n'])
 | 0,n,m,md,h,h1,h2=>by
  refine⟨n,m,md,h,by omega,?_⟩;have ec:((0:Nat):Int)=0:=rfl;rw[aB (L:=IU) rfl];simp only[go_sem,ec,Int.lt_irrefl]
 | k+1,n,m,md,h,h1,h2=>by
  obtain⟨n1,e,a1,a2,a8,a3⟩:=k55 l n (by omega);have b1:=k30 m (by omega) h.1.be e a2.2;rw[(h.1.putE (by omega) a2).1,(h.1.putE (by omega) a2).2] at b1;have hp:=CE m h.1.1.2 e;obtain⟨n',m',md',c1,c2,c3⟩:=l13k l k n1 (jG m e) .no (h.put a2 a8) (by omega) (by omega);refine⟨n',m',md',c1,by omega,?_⟩;have hk:(0:Int) < ((k+1:Nat):Int):=by omega
  have hwk:IntKind.i64.wrap (((k+1:Nat):Int) - 1)=(k:Int):=by rw[w64 (by omega) (by omega)];omega
  simp only[aN] at a3 b1;rw[aB (L:=IU) rfl];simp only[go_sem,hk,hwk,a3,b1];exact c3
theorem k13 (l:List Int) (N:Nat) (hN:N<=20):∃ n' m,MS m/\m.length<=N/\G0 13 [.ptr 0 0,.int .i64 N] [num l 0]=some (.sl .no 8 (ens m),[num l n']):=by
 have hb:=gY l 0 ((N:Int)+1) (by omega);have h36:=c41 l 0 ((N:Int)+1) (by omega) (by omega) (by omega);have hc:(((nxt l 0 ((N:Int)+1)).toNat:Nat):Int)=nxt l 0 ((N:Int)+1):=by omega
 obtain⟨n',m,md,a1,a2,a3⟩:=l13k l (nxt l 0 ((N:Int)+1)).toNat 1 [] .full MS.nil (by simp;omega) (by omega);rw[hc,vW] at a3;refine⟨n',m,a1,by simp at a2;omega,?_⟩;have hw:IntKind.i64.wrap ((N:Int)+1)=(N:Int)+1:=w64 (by omega) (by omega);have h0:(0:Nat)+1=1:=rfl;rw[h0] at h36;refine aA F13 rfl rfl rfl ?_;simp only[F13,go_sem,hw,h36,a3,qY]
theorem k14 (l:List Int):G9 14 [.sl .no 1 (bZ l)] []=some (.ptr 0 0,[num l 0]):=by
 refine aA J9 rfl rfl rfl ?_;simp only[J9,go_sem,num]
theorem MS.tx {m:List En} (h:MS m) (hl:m.length<=8):Mem m/\fmM m=(txM m,0)/\(txM m).length<=45000/\FOK m/\FOR m:=by
 have hM:=h.1.1;have h1:=O3 (B:=4700) (m:=m) (by omega) (fun e he=>⟨hM.1 e he,(h.2 e he).1⟩);have h2:m.length*(4700+100)<=8*(4700+100):=Nat.mul_le_mul_right _ hl;have h3:(txM m).length<=45000:=by omega
 have hc:∀ e∈m,e.c<=999:=fun e he=>by have:=(h.2 e he).2;omega
 exact⟨hM,FC hM (by omega) (by omega),h3,⟨by omega,kR hM,fun _=>⟨fun e he=>by have:=hc e he;omega,by omega⟩⟩,⟨by omega,kR hM,fun _ e he=>dok (by have:=hc e he;omega)⟩⟩
theorem AU {m:List En} (h:MS m) (hl:m.length<=8):pM (txM m)=(m,0,0):=by
 obtain⟨h1,_,h3,_⟩:=h.tx hl;exact MB h1 (by omega) (by omega)
end Go.Av
namespace Go.Av
def uY:AV->Bool
 | .int .. | .str _ | .bool _ | .sl .no _ _=>true
 | _=>false
theorem L6 {c c':Cx} {ow ow':Value->Nat->Nat->Prop} (hS:∀ b o,c.S b o->c'.S b o/\c'.w.cell? ⟨b,o,none⟩=c.w.cell? ⟨b,o,none⟩) {x:AV} {v:Value} (h:uY x=true) (r:bB c ow x v):bB c' ow' x v:=by
 have m:aF c.S c.w x v->aF c'.S c'.w x v:=aF.mono hS _ _
 cases x with
 | int=>exact m r
 | str=>exact m r
 | bool=>exact m r
 | sl o z l =>
  cases o with
  | no=>exact m r
  | _=>cases h
 | _=>cases h
theorem wQ {c c':Cx} {ow ow':Nat->Value->Nat->Nat->Prop} (hS:∀ b o,c.S b o->c'.S b o/\c'.w.cell? ⟨b,o,none⟩=c.w.cell? ⟨b,o,none⟩) {w w':World} {b n:Nat} {cells:List AV} (hp:cells.all uY=true) (hb:w'.heap[b]?=w.heap[b]?) (r:tD c ow w b n cells):tD c' ow' w' b n cells:=by
 obtain⟨r1,r2⟩:=r;rw[all_eq_true] at hp;refine⟨fun hk=>?_,?_⟩
 ·obtain⟨arr,ty,fz,q1,q2,q3,q4⟩:=r1 hk
  refine⟨arr,ty,fz,hb.trans q1,q2,q3,fun j x hx=>?_⟩;obtain⟨v,q5,q6⟩:=q4 j x hx;exact⟨v,q5,L6 hS (hp x (mem_of_getElem? hx)) q6⟩
 ·unfold o6
  split
  ·have:=hp _ mem_cons_self
   cases this
  ·trivial
theorem oE {c:List AV} (h:c.all uY=true):c≠aZ:=by
 intro e;subst e
 revert h
 decide
def QK:AV->Bool
 | .sl .no _ _=>true
 | .agg _=>true
 | _=>false
theorem JG {c c':Cx} {ow:Value->Nat->Nat->Prop} (hS:∀ b o,c.S b o->c'.S b o/\c'.w.cell? ⟨b,o,none⟩=c.w.cell? ⟨b,o,none⟩) {x:AV} {v:Value} (h:QK x=true) (r:aQ c ow x v):aQ c' ow x v:=by
 cases x with
 | agg l =>
  obtain⟨cs,h1,h2⟩:=r;exact⟨cs,h1,h2.mono (aF.mono hS)⟩
 | sl o z l =>
  cases o with
  | no =>
   have m:aF c.S c.w (.sl .no z l) v->aF c'.S c'.w (.sl .no z l) v:=aF.mono hS _ _;exact m r
  | _=>cases h
 | _=>cases h
def RV:AV->Bool
 | .int ..=>true
 | _=>false
theorem intL {c c':Cx} {ow ow':Value->Nat->Nat->Prop}:∀ {l:List AV} {vs:List Value},l.all RV=true->aL (aQ c ow) l vs->aL (aQ c' ow') l vs
 | [],[],_,_=>trivial
 | [],_ :: _,_,h=>h
 | _ :: _,[],_,h=>h
 | x :: l,v :: vs,hl,⟨h1,h2⟩=>by
  rw[all_cons,Bool.and_eq_true] at hl;refine⟨?_,intL hl.2 h2⟩
  cases x with
  | int k n=>exact h1
  | _=>cases hl.1
theorem B9 {a c c':List AV} {r:AV} (hr:QK r=true) (ha:a.all uY=true) (hc:c.all uY=true) (hc':c'.all uY=true) {kd:Nat->BK} {β bs:Nat->Nat} {S0:Nat->Nat->Prop} {O0:Nat->Option Nat} {w:World} (hE:pE [a,c] kd β bs S0 O0 w) :
  ∃ kd1,pE [c] kd1 (fun _=>β 1) (fun _=>bs 1) S0 (fun _=>none) w/\∀ v kd' β' bs' w',After S0 (fun _=>none) (fun _=>β 1) (fun _=>bs 1) w [c] [c'] r v kd' β' bs' w'->∃ kd2,After S0 O0 β bs w [a,c] [a,c'] r v kd2 β bs w':=by
 obtain⟨⟨e1,e1'⟩,e2,e3,e4,e5⟩:=hE;have l0:0 < [a,c].length:=Nat.zero_lt_succ _;have l1:1 < [a,c].length:=Nat.lt_succ_self 1;have m0:0 < [c].length:=Nat.zero_lt_succ _;obtain⟨a1,a2⟩:=e1 0 a rfl (oE ha);obtain⟨c1,c2⟩:=e1 1 c rfl (oE hc);have b0:=(e1' 0 l0).1;have b1:=(e1' 1 l1).1;have hne:β 1≠β 0:=fun q=>by rw[q,a1] at c1;cases c1
 classical
 refine⟨fun b=>if b=β 1 then .shr 0 else .stab,⟨⟨fun i cells hi hd=>?_,fun i hi=>⟨b1,0,if_pos rfl⟩⟩,fun b o hS=>?_,fun b k hk=>(by cases hk),fun b t k hk hb=>?_,e5⟩,fun v kd' β' bs' w' A=>?_⟩
 ·match i,hi with
  | 0,hi =>
   cases hi;exact⟨if_pos rfl,wQ (c:=cx0 β bs S0 w [a,c].length) (c':=cx0 (fun _=>β 1) (fun _=>bs 1) S0 w [c].length) (fun b o h=>⟨h,rfl⟩) hc rfl c2⟩
 ·obtain⟨k1,k2,_⟩:=e2 b o hS
  exact⟨k1,fun i hi=>k2 1 l1,fun k hk=>(by cases hk)⟩
 ·have hk:(if b=β 1 then BK.shr 0 else BK.stab)=BK.own t k:=hk
  split at hk<;>cases hk
 ·obtain⟨s1,s2⟩:=A.same 0 m0
  obtain⟨o1,o2⟩:=A.shok.1 0 c' rfl (oE hc');rw[s1] at o1 o2;rw[s2] at o2
  let kd2:Nat->BK:=fun b=>if b < w.heap.size then kd b else kd' b
  have hsz:=A.size;have hk1:∀ {b},b < w.heap.size->kd2 b=kd b:=fun {b} h=>if_pos h
  have hk2:∀ {b},w.heap.size<=b->kd2 b=kd' b:=fun {b} h=>if_neg (by omega)
  have hSm:∀ b o,S1 S0 w w' kd' b o->S1 S0 w w' kd2 b o:=by
   rintro b o (q | ⟨q1,q2,q3⟩ | ⟨q1,t,k,q2,q3⟩)
   ·exact .inl q
   ·exact .inr (.inl ⟨q1,q2,(hk2 q1).trans q3⟩)
   ·rcases A.own0 b t k q2 with q | q
    ·exact .inr (.inr ⟨q1,t,k,(hk2 q).trans q2,q3⟩)
    ·cases q
  have hf:∀ {b},b < w.heap.size->β 1≠b->w'.heap[b]?=w.heap[b]?:=fun {b} h1 h2=>A.frame b h1 (fun _ _=>h2) rfl
  refine⟨kd2,fun _ _=>⟨rfl,rfl⟩,Nat.le_refl _,⟨fun i cells hi hd=>?_,fun i hi=>?_⟩,?_,A.os,A.tape,A.output,A.size,fun b hb hn ho=>hf hb (hn 1 l1),A.sframe,fun b k hk=>?_,fun b t k hk=>?_,fun i h1 h2=>?_,fun i hi=>?_⟩
  ·match i,hi with
   | 0,hi =>
    cases hi;exact⟨(hk1 b0).trans a1,wQ (c:=cx0 β bs S0 w [a,c].length) (c':=cx0 β bs (S1 S0 w w' kd2) w' [a,c'].length) (fun b o h=>⟨Or.inl h,A.sframe b o h⟩) ha (hf b0 hne) a2⟩
   | 1,hi =>
    cases hi;exact⟨(hk1 b1).trans c1,wQ (c:=cx0 β' bs' (S1 S0 w w' kd') w' [c'].length) (c':=cx0 β bs (S1 S0 w w' kd2) w' [a,c'].length) (fun b o h=>⟨hSm b o h,rfl⟩) hc' rfl o2⟩
  ·obtain⟨k1,j,k2⟩:=e1' i hi
   exact⟨by omega,j,(hk1 k1).trans k2⟩
  ·exact JG (c:=cx0 β' bs' (S1 S0 w w' kd') w' [c'].length) (c':=cx0 β bs (S1 S0 w w' kd2) w' [a,c'].length) (fun b o h=>⟨hSm b o h,rfl⟩) hr A.rep
  ·obtain⟨k1,k2,t,k',k3,k4⟩:=e3 b k hk
   exact⟨t,k',(hk1 k1).trans k3,k4⟩
  ·by_cases q:b < w.heap.size
   ·rw[hk1 q] at hk
    exact .inr (e4 b t k hk q)
   ·exact .inl (by omega)
  ·have:i < 2:=h2
   have:2<=i:=h1
   omega
  ·match i,hi with
   | 0,hi=>exact absurd (Option.some.inj hi) (oE ha)
   | 1,hi=>exact absurd (Option.some.inj hi) (oE hc)
def I8 (G:aO) (f:FuncId) (args:List AV) (sh:LL):Option (AV × LL):=
 match args,sh with
 | .ptr 1 0 :: l,[a,c]=>if l.all RV=true then (G f (.ptr 0 0 :: l) [c]).bind fun p=>match p with
  | (r,[c'])=>if a.all uY=true/\c.all uY=true/\c'.all uY=true/\QK r=true then some (r,[a,c']) else none
  | _=>none
  else none
 | _,_=>none
theorem QF {G:aO} {f:FuncId} {l:List AV} {a c c':List AV} {r:AV} (hl:l.all RV=true) (h:G f (.ptr 0 0 :: l) [c]=some (r,[c'])) (ha:a.all uY=true) (hc:c.all uY=true) (hc':c'.all uY=true) (hr:QK r=true):I8 G f (.ptr 1 0 :: l) [a,c]=some (r,[a,c']):=by
 show (if l.all RV=true then (G f (.ptr 0 0 :: l) [c]).bind _ else none)=_;rw[if_pos hl,h];exact if_pos ⟨ha,hc,hc',hr⟩
theorem EJ {P:Program} {G:aO} (hG:iA P G) {f:FuncId} {args:List AV} {sh sh':LL} {r:AV} (h:I8 G f args sh=some (r,sh')):(yM P f/\iJ P f args sh r sh')\/ON P f args sh r sh':=by
 unfold I8 at h
 split at h
 case h_2=>cases h
 rename_i l a c;obtain⟨hl,h⟩:=j7 h;obtain⟨⟨r1,s1⟩,h1,h2⟩:=Option.bind_eq_some_iff.1 h
 split at h2
 case h_2=>cases h2
 rename_i r2 c' heq;obtain⟨rfl,rfl⟩:=Prod.mk.inj heq;obtain⟨⟨ha,hc,hc',hr⟩,h3⟩:=j7 h2;simp only[Option.some.injEq,Prod.mk.injEq] at h3;obtain⟨rfl,rfl⟩:=h3;have hargs':∀ {β bs:Nat->Nat} {S0:Nat->Nat->Prop} {w:World} {vs:List Value},aL (aQ (cx0 β bs S0 w 2) aS) (.ptr 1 0 :: l) vs->aL (aQ (cx0 (fun _=>β 1) (fun _=>bs 1) S0 w 1) aS) (.ptr 0 0 :: l) vs:=fun {β bs S0 w vs} q=>by
  match vs,q with
  | x :: vs,⟨⟨_,q1⟩,q2⟩=>exact⟨⟨Nat.zero_lt_one,q1⟩,intL hl q2⟩
  | [],q=>exact q
 rcases hG f _ _ _ _ h1 with ⟨hre,hs⟩ | hs
 ·refine .inl ⟨hre,fun kd β bs S0 O0 w vs hE hargs=>?_⟩
  obtain⟨kd1,hE1,hA⟩:=B9 hr ha hc hc' hE;refine (hs kd1 _ _ S0 _ w vs hE1 (hargs' hargs)).mono ?_
  rintro e w' ⟨v,kd',β',bs',he,A⟩
  obtain⟨kd2,A2⟩:=hA v kd' β' bs' w' A;exact⟨v,kd2,β,bs,he,A2⟩
 ·refine .inr (fun kd β bs S0 O0 w vs hE hargs=>?_)
  obtain⟨kd1,hE1,hA⟩:=B9 hr ha hc hc' hE;obtain⟨v,w',kd',β',bs',hrr,A⟩:=hs kd1 _ _ S0 _ w vs hE1 (hargs' hargs);obtain⟨kd2,A2⟩:=hA v kd' β' bs' w' A;exact⟨v,w',kd2,β,bs,hrr,A2⟩
def T8:FuncId->Option AFun
 | 9=>some F9z
 | 10=>some KC
 | _=>none
theorem zGC:∀ f F,T8 f=some F->jZ Go.Proofs.Tryz.prog f F=true:=by
 intro f F h;unfold T8 at h
 split at h
 ·cases h;exact ok9z
 ·cases h;exact UD
 ·cases h
noncomputable def B8:aO:=fun f args sh=>if (T8 f).isSome=true then none else match I8 G9 f args sh with
 | some r=>some r
 | none=>G9 f args sh
theorem TQ:iA Go.Proofs.Tryz.prog B8:=by
 intro f args sh r sh' h;unfold B8 at h
 split at h
 ·cases h
 ·split at h
  ·rename_i q
   cases h;exact EJ IV q
  ·exact IV _ _ _ _ _ h
noncomputable abbrev G8:aO:=Gx B8 T8
theorem IW:iA Go.Proofs.Tryz.prog G8:=v9 mix TQ zGC
theorem up8 {f:FuncId} {args:List AV} {sh:LL} {r:AV × LL} (h:G9 f args sh=some r) (hT:T8 f=none) (hs:I8 G9 f args sh=none:=by rfl):G8 f args sh=some r:=by
 refine nH ?_;unfold B8;rw[hT,if_neg (by simp),hs];exact h
theorem up82 {f:FuncId} {l:List AV} {a c:List AV} {r:AV × LL} (h:I8 G9 f (.ptr 1 0 :: l) [a,c]=some r) (hT:T8 f=none):G8 f (.ptr 1 0 :: l) [a,c]=some r:=by
 refine nH ?_;unfold B8;rw[hT,if_neg (by simp),h]
end Go.Av
namespace Go.Av
open Go.Nt
def imM (m:List En) (s:Bs):List En × Int × Int × Int:=
 if (pM s).2.2≠0 then ([],0,((pM s).2.1:Int),(pM s).2.2) else if mK m (pM s).1≠0 then ([],0,0,mK m (pM s).1) else (uni m (pM s).1,((uni m (pM s).1).length:Int) - m.length,0,0)
def imV (q:List En × Int × Int × Int):AV:=.tup [.sl .no 8 (ens q.1),.int .i64 q.2.1,.int .i64 q.2.2.1,.int .i64 q.2.2.2]
theorem M4 (m:List En) (hm:Mem m) (hl:m.length<=100) (s:Bs) (hs:s.length<=50000):G0 25 [.sl .no 8 (ens m),.str s] []=some (imV (imM m s),[])/\G0 26 [.sl .no 8 (ens m),.str s] []=some (imV (imM m s),[]):=by
 have a1:=kChk m (by omega) (kR hm);have a2:=UN m (by omega) (kR hm);rw[(BM m).2 ⟨by omega,hm⟩] at a1 a2;have b1:=E7 s hs;have b2:=HR s hs;obtain⟨h1,h2⟩:=MC s;have c1:=k41 m (pM s).1 (by omega) (by omega) (kR hm) (kR h2);have c2:=k42 m (pM s).1 (by omega) (kR hm) (kR h2);have hu:=kI _ m (pM s).1 (Nat.le_refl _);have en:ens []=[]:=rfl;have hw:IntKind.i64.wrap (((uni m (pM s).1).length:Int) - (m.length:Int))=((uni m (pM s).1).length:Int) - (m.length:Int):=w64 (by omega) (by omega);have hv:wB m (pM s).1=if mK m (pM s).1=0 then uni m (pM s).1 else []:=rfl
 unfold imM imV;generalize pM s=q at *;obtain⟨n,ln,e⟩:=q;simp only[] at *;by_cases he:e=0
 ·subst he
  rw[if_neg (by simp)];by_cases hz:mK m n=0
  ·rw[if_neg (by simp [hz])]
   rw[hv,hz,if_pos rfl] at c1 c2;constructor
   ·refine aA F25 rfl rfl rfl ?_
    simp only[F25,go_sem,a1,b1,c1,aK,hw,not_true_eq_false,decide_false]
   ·refine aA F26 rfl rfl rfl ?_
    simp only[F26,go_sem,a2,b2,c2,aK,hw,not_true_eq_false,decide_false]
  ·rw[if_pos hz]
   constructor
   ·refine aA F25 rfl rfl rfl ?_
    simp only[F25,go_sem,a1,b1,c1,hz,en,not_true_eq_false,not_false_eq_true,decide_true,decide_false]
   ·refine aA F26 rfl rfl rfl ?_
    simp only[F26,go_sem,a2,b2,c2,hz,en,not_true_eq_false,not_false_eq_true,decide_true,decide_false]
 ·rw[if_pos he]
  constructor
  ·refine aA F25 rfl rfl rfl ?_
   simp only[F25,go_sem,a1,b1,he,en,not_true_eq_false,not_false_eq_true,decide_true,decide_false]
  ·refine aA F26 rfl rfl rfl ?_
   simp only[F26,go_sem,a2,b2,he,en,not_true_eq_false,not_false_eq_true,decide_true,decide_false]
theorem k11b (l k:List Int):G0 11 [.sl .no 1 [[.sl .no 1 (bZ l)],[.sl .no 1 (bZ k)]]] []=some (.bool (decide (160 < IntKind.i64.wrap (IntKind.i64.wrap (l.length:Int)+(k.length:Int)))),[]):=by
 refine aA F11 rfl rfl rfl ?_;have x:∀ b:Bool,aC G0 D1 (ST [(3,.int .i64 0),(6,.sl .no 1 [[.sl .no 1 (bZ l)],[.sl .no 1 (bZ k)]]),(7,.int .i64 2),(8,.int .i64 0)] [] [])=some (.ex 0,ST [(3,.int .i64 (IntKind.i64.wrap (IntKind.i64.wrap (l.length:Int)+(k.length:Int)))),(6,.sl .no 1 [[.sl .no 1 (bZ l)],[.sl .no 1 (bZ k)]]),(7,.int .i64 2),(8,.int .i64 2),(9,.bool false)] [] []):=fun _=>by
  rw[aB (L:=D1) rfl];simp only[go_sem,bJ];rw[aB (L:=D1) rfl];simp only[go_sem,bJ];rw[aB (L:=D1) rfl];simp only[go_sem,Int.lt_irrefl]
 simp only[F11,go_sem,x true]
theorem k14b (l k:List Int) (n:Nat):G9 14 [.sl .no 1 (bZ k)] [num l n]=some (.ptr 1 0,[num l n,num k 0]):=by
 refine aA J9 rfl rfl rfl ?_;simp only[J9,go_sem,num]
theorem kTwo (l k:List Int):∃ n1 n2 a b,MS a/\MS b/\a.length<=6/\b.length<=6/\G8 14 [.sl .no 1 (bZ l)] []=some (.ptr 0 0,[num l 0])/\G8 13 [.ptr 0 0,.int .i64 6] [num l 0]=some (.sl .no 8 (ens a),[num l n1]) /\
  G8 14 [.sl .no 1 (bZ k)] [num l n1]=some (.ptr 1 0,[num l n1,num k 0])/\G8 13 [.ptr 1 0,.int .i64 6] [num l n1,num k 0]=some (.sl .no 8 (ens b),[num l n1,num k n2]):=by
 obtain⟨n1,a,a1,a2,a3⟩:=k13 l 6 (by decide);obtain⟨n2,b,b1,b2,b3⟩:=k13 k 6 (by decide);have e6:((6:Nat):Int)=6:=rfl;rw[e6] at b3;refine⟨n1,n2,a,b,a1,b1,a2,b2,up8 (k14 l) rfl,up8 (up a3 (by decide) rfl) rfl,up8 (k14b l k n1) rfl,up82 (QF rfl (up b3 (by decide) rfl) rfl rfl rfl rfl) rfl⟩
theorem k10 (l k:List Int):G8 10 [.sl .no 1 (bZ l),.sl .no 1 (bZ k)] []=some (.bool true,[]):=by
 have g1:=up8 (up (k11b l k) (by decide) rfl) rfl;have g2:=up8 k12 rfl;refine aA KC rfl rfl rfl ?_;by_cases h:160 < IntKind.i64.wrap (IntKind.i64.wrap (l.length:Int)+(k.length:Int))
 ·simp only[KC,go_sem,g1,g2,h,decide_true]
 obtain⟨n1,n2,a,b,a1,b1,a2,b2,g3,g4,g5,g6⟩:=kTwo l k;obtain⟨hA,ta1,ta2,ta3,ta4⟩:=a1.tx (by omega);obtain⟨hB,tb1,tb2,tb3,tb4⟩:=b1.tx (by omega);have g7:=up8 (k17 ta3) rfl;have g8:=up8 (k17 tb3) rfl;rw[ta1] at g7;rw[tb1] at g8;simp only[] at g7 g8;have i1:=up8 (up (M4 a hA (by omega) (txM b) (by omega)).1 (by decide) rfl) rfl;have i2:=up8 (up (M4 b hB (by omega) (txM a) (by omega)).1 (by decide) rfl) rfl;have pa:=AU a1 (by omega);have pb:=AU b1 (by omega);have hab:=AB a1.1 b1.1 (by omega);have hba:=AB b1.1 a1.1 (by omega);have hu:=kI _ a b (Nat.le_refl _);have v1:imM a (txM b)=(uni a b,((uni a b).length:Int) - a.length,0,0):=by unfold imM;rw[pb,if_neg (by simp),if_neg (by simp [hab.1])]
 have v2:imM b (txM a)=(uni a b,((uni a b).length:Int) - b.length,0,0):=by unfold imM;rw[pa,if_neg (by simp),if_neg (by simp [hba.1]),KK hB hA]
 rw[v1] at i1;rw[v2] at i2;have hM:=gT hA hB;have s1:=up8 (up (k28 (uni a b) (by omega) (kR hM)) (by decide) rfl) rfl;have w1:IntKind.i64.wrap ((a.length:Int)+(((uni a b).length:Int) - (a.length:Int)))=((uni a b).length:Int):=by rw[w64 (by omega) (by omega)];omega
 have w2:IntKind.i64.wrap ((b.length:Int)+(((uni a b).length:Int) - (b.length:Int)))=((uni a b).length:Int):=by rw[w64 (by omega) (by omega)];omega
 simp only[imV] at i1 i2;simp only[KC,go_sem,g1,g2,g3,g4,g5,g6,g7,g8,i1,i2,s1,w1,w2,aK,h,cL,decide_true,decide_false]
end Go.Av
namespace Go.Av
open Go.Nt
theorem XQ {m:List En} (hm:Mem m) (hl:m.length<=100) (s:Bs):(imM m s).1.length<=1200/\Mem (imM m s).1:=by
 obtain⟨h1,h2⟩:=MC s;have hu:=kI _ m (pM s).1 (Nat.le_refl _);unfold imM;split
 ·exact⟨by simp,mV⟩
 ·split
  ·exact⟨by simp,mV⟩
  ·exact⟨by show (uni m (pM s).1).length<=1200;omega,gT hm h2⟩
theorem mks3 (a b c:Bs):iE 1 [.str []] 3 [0,1,2] [.str a,.str b,.str c]=some (.sl .full 1 (cP [a,b,c])):=rfl
theorem l9 (sh:LL) (m:List En) (hm:Mem m) (hl:m.length<=100) (t:Bs) (L:List Bs) (hL:∀ s∈L,s.length<=50000) (hLl:L.length<=10):∀ (d i:Nat),i+d=L.length ->
  aC G8 IK (ST [(7,.sl .no 8 (ens m)),(8,.str t),(36,.bool false),(53,.sl .full 1 (cP L)),(54,.int .i64 L.length),(55,.int .i64 i)] [] sh)=some (.ex 0,ST [(7,.sl .no 8 (ens m)),(8,.str t),(36,.bool false),(53,.sl .full 1 (cP L)),(54,.int .i64 L.length),(55,.int .i64 L.length),(56,.bool false)] [] sh)
 | 0,i,h=>by
  have:i=L.length:=by omega
  subst this;rw[aB (L:=IK) rfl];simp only[go_sem,Int.lt_irrefl]
 | d+1,i,h=>by
  have hi:i < L.length:=by omega
  have h0:(0:Int)<=(i:Int):=by omega
  have h1:(i:Int) < (L.length:Int):=by omega
  have hw:=wI (i:=i) (by omega)
  have hg:L[i]?=some L[i]:=getElem?_eq_getElem hi;have hs:=hL _ (getElem_mem hi);generalize L[i]=s at hg hs;have hr:=eW hg;obtain⟨i1,i2⟩:=M4 m hm hl s hs;have i1:=up8 (up i1 (by decide) rfl) rfl;have i2:=up8 (up i2 (by decide) rfl) rfl;obtain⟨q1,q2⟩:=XQ hm hl s;have g:=up8 (up (k28 (imM m s).1 (by omega) (kR q2)) (by decide) rfl) rfl;have ih:=l9 sh m hm hl t L hL hLl d (i+1) (by omega);rw[<- ih]
  conv=>lhs;rw[aB (L:=IK) rfl]
  generalize imM m s=q at i1 i2 g;obtain⟨a,b,c,e⟩:=q;simp only[imV] at i1 i2 g;simp only[go_sem,dK,h0,h1,hr,hw,i1,i2,g,cL,not_true_eq_false,decide_true,decide_false]
theorem k9 (l k:List Int) (s:Bs):G8 9 [.sl .no 1 (bZ l),.sl .no 1 (bZ k),.str s] []=some (.bool true,[]):=by
 have g1:=up8 (up (k11b l k) (by decide) rfl) rfl;have g2:=up8 k12 rfl;refine aA F9z rfl rfl rfl ?_;by_cases h:160 < IntKind.i64.wrap (IntKind.i64.wrap (l.length:Int)+(k.length:Int))
 ·simp only[F9z,go_sem,g1,g2,h,decide_true]
 by_cases hs:(2000:Int) < (s.length:Int)
 ·simp only[F9z,go_sem,g1,g2,h,hs,decide_true,decide_false]
 obtain⟨n1,n2,a,b,a1,b1,a2,b2,g3,g4,g5,g6⟩:=kTwo l k;obtain⟨hA,ta1,ta2,ta3,ta4⟩:=a1.tx (by omega);obtain⟨hB,tb1,tb2,tb3,tb4⟩:=b1.tx (by omega);have g7:=up8 (up (zEC b tb4) (by decide) rfl) rfl;rw[tb1] at g7;simp only[] at g7;have u1:(txM b).length+s.length<=140737488355328:=by omega
 have hM:=gT hA hB;have hu:=kI _ a b (Nat.le_refl _);have pb:=AU b1 (by omega);have hab:=AB a1.1 b1.1 (by omega);have hab2:=AB (a1.1.uni b1.1) b1.1 (by omega);have e1:uni (uni a b) b=uni a b:=by rw[IZ hA hB hB,KI hB]
 have v1:imM a (txM b)=(uni a b,((uni a b).length:Int) - a.length,0,0):=by unfold imM;rw[pb,if_neg (by simp),if_neg (by simp [hab.1])]
 have v2:imM (uni a b) (txM b)=(uni a b,0,0,0):=by unfold imM;rw[pb,if_neg (by simp),if_neg (by simp [hab2.1])];simp only[e1,Int.sub_self]
 have i1:=up8 (up (M4 a hA (by omega) (txM b) (by omega)).1 (by decide) rfl) rfl;have i2:=up8 (up (M4 (uni a b) hM (by omega) (txM b) (by omega)).1 (by decide) rfl) rfl;rw[v1] at i1;rw[v2] at i2;simp only[imV] at i1 i2;have s1:=up8 (up (k28 (uni a b) (by omega) (kR hM)) (by decide) rfl) rfl
 have x:=l9 [num l n1,num k n2] a hA (by omega) (txM b) [txM b,s,txM b++s] (fun t ht=>by
  rcases mem_cons.1 ht with q | q
  ·rw[q];omega
  ·rcases mem_cons.1 q with q | q
   ·rw[q];omega
   ·rw[mem_singleton.1 q,length_append];omega) (by simp) 3 0 rfl
 have e0:((0:Nat):Int)=0:=rfl;have e3:(([txM b,s,txM b++s]:List Bs).length:Int)=3:=rfl;have hl3:((cP [txM b,s,txM b++s]).length:Int)=3:=rfl;rw[e0,e3] at x;simp only[F9z,go_sem,g1,g2,g3,g4,g5,g6,g7,u1,mks3,hl3,x,i1,i2,s1,h,hs,cL,decide_true,decide_false]
end Go.Av
