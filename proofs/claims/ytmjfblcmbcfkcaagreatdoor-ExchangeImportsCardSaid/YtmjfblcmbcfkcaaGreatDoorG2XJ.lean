/- Fragments that are nested, out of numbers. No conditions. A target of a source out of numbers: the same tags, other texts. No conditions. Entries and memories out of numbers. No conditions. The law's entries and memories, equal entries, the fixed example. No conditions. -/
import Derived.Test.YtmjfblcmbcfkcaaGreatDoorG2XI
import Derived.Test.YtmjfblcmbcfkcaaGreatDoorG2XB
import Derived.Test.YtmjfblcmbcfkcaaGreatDoorG2XC
open List
set_option linter.unusedSimpArgs false
set_option linter.unusedVariables false
set_option linter.unusedSectionVars false
set_option maxRecDepth 100000
set_option maxHeartbeats 16000000
namespace Go.Av
open Go.Nt
def REF (n:Nat) (E:LL):Prop:=∀ c∈E,∀ x∈c,iN n x=true
theorem GK {n n':Nat} (h:n<=n') {x:AV} (hx:iN n x=true):iN n' x=true:=by
 cases x<;>first | rfl | (simp only[iN,decide_eq_true_eq] at hx ⊢;omega)
theorem REF.app {n:Nat} {E F:LL} (h:REF n E) (h2:REF n F):REF n (E++F):=by
 intro d hd;rcases mem_append.1 hd with q | q
 ·exact h d q
 ·exact h2 d q
theorem QN (n:Nat):REF n []:=fun c hc=>by cases hc
theorem wN (n:Nat) {D:LL} (h:∀ c∈D,c=aZ):REF n D:=fun c hc x hx=>by
 rw[h c hc] at hx;simp only[aZ,mem_singleton] at hx;subst hx;rfl
theorem GJ (n:Nat):∀ (f:List Tk),∀ x∈fl f,iN n x=true
 | [],x,hx=>by cases hx
 | t :: f,x,hx=>by
  rw[mY] at hx;simp only[mem_cons] at hx;rcases hx with rfl | rfl | rfl | hx
  ·rfl
  ·rfl
  ·rfl
  ·exact GJ n f x hx
theorem wM (n:Nat) (f:List Tk):REF n [fl f]:=fun c hc=>by rw[mem_singleton] at hc;rw[hc];exact GJ n f
theorem GI (n:Nat) (l:List Int) (k:Nat):∀ x∈num l k,iN n x=true:=fun x hx=>by
 simp only[num,mem_cons,not_mem_nil,or_false] at hx;rcases hx with rfl | rfl<;>rfl
theorem REF.rok {R:LL} (h:REF 0 R):Rok R:=fun l n=>by
 unfold eY;rw[Bool.false_or,all_eq_true];intro c hc;rw[all_eq_true];intro x hx;rcases mem_cons.1 (mem_of_mem_take hc) with rfl | hc
 ·exact GI _ l n x hx
 ·exact GK (Nat.zero_le _) (h c hc x hx)
theorem REF.rok1 {R:LL} (h:REF 0 R) (m:Nat) (l:List Int) (n:Nat):eY false m (num l n :: R)=true:=by
 unfold eY;rw[Bool.false_or,all_eq_true];intro c hc;rw[all_eq_true];intro x hx;rcases mem_cons.1 (mem_of_mem_take hc) with rfl | hc
 ·exact GI _ l n x hx
 ·exact GK (Nat.zero_le _) (h c hc x hx)
def FR (v:AV) (R:LL) (f:List Tk):Prop:=(f=[]/\v=.sl .full 3 [])\/(∃ so,v=.ss (so+1) 0 f.length 3/\R[so]?=some (fl f)/\f≠[])
theorem FR.scrub {v:AV} {R:LL} {f:List Tk} (h:FR v R f) (k:List Nat):b9 k v=v:=by
 rcases h with ⟨_,rfl⟩ | ⟨so,rfl,_⟩<;>rfl
theorem FR.dem {v:AV} {R:LL} {f:List Tk} (h:FR v R f):aI v=v:=by
 rcases h with ⟨_,rfl⟩ | ⟨so,rfl,_⟩<;>rfl
theorem FR.arg {v:AV} {R:LL} {f:List Tk} (h:FR v R f):gR true v=true:=by
 rcases h with ⟨_,rfl⟩ | ⟨so,rfl,_⟩<;>rfl
theorem FR.fst {v:AV} {R:LL} {f:List Tk} (h:FR v R f) (c:List AV):FSt v (c :: R) f:=by
 rcases h with ⟨h1,h2⟩ | ⟨so,h1,h2,h3⟩
 ·exact .inl ⟨h1,h2⟩
 ·exact .inr ⟨so+1,h1,by omega,by simpa using h2,h3⟩
theorem XX {c:List AV} {R E:LL} {v:AV} {sh:LL} {g:List Tk} (h:StP (c :: R++E) v sh g) (hR:REF 0 R) (hE:REF 0 E):∃ R',sh=c :: R'/\REF 0 R'/\FR v R' g:=by
 rcases h with ⟨rfl,rfl,rfl⟩ | ⟨D,o,t,rfl,rfl,rfl,hD⟩
 ·exact⟨R++E,rfl,hR.app hE,.inl ⟨rfl,rfl⟩⟩
 ·refine⟨R++E++D++[fl (o++[t])],rfl,((hR.app hE).app (wN 0 hD)).app (wM 0 _),.inr ⟨(R++E++D).length,?_,gD _ _,by simp⟩⟩
  simp
theorem JS {n:Nat} (l:List Int) {v:AV} {R:LL} {f:List Tk} (hR:REF 0 R) (hv:FR v R f) (hvl:VL f) (x:Tk) (hf:f.length<=10000) (ht:tot f+x.2.1.length<=100000) :
  ∃ w R2,REF 0 R2/\FR w R2 (pn f x)/\G0 57 [v,.sl .full 3 [[.int .i64 x.1,.str x.2.1,.int .i64 x.2.2]]] (num l n :: R)=some (w,num l n :: R2):=by
 obtain⟨E,w,sh',hE,p1,p2⟩:=k58s (hv.fst (num l n)) x hf ht;have hE':REF 0 E:=by
  rcases hE with rfl | rfl
  ·exact wM 0 _
  ·exact REF.app (E:=[aZ]) (wN 0 (by simp)) (wM 0 _)
 obtain⟨R2,rfl,h1,h2⟩:=XX p1 hR hE';rw[CN hvl] at h2;exact⟨w,R2,h1,h2,nH p2⟩
theorem zGA (l:List Int) {v:AV} {R:LL} {f:List Tk} (hR:REF 0 R) (hv:FR v R f) (x:Tk) (hf:f.length<=10000) :
  ∃ w R2,REF 0 R2/\FR w R2 (f++[x])/\∀ n,gS 3 32 (num l n :: R) (some [[.int .i64 x.1,.str x.2.1,.int .i64 x.2.2]]) v=some (w,num l n :: R2):=by
 rcases hv with ⟨rfl,rfl⟩ | ⟨so,rfl,hs,hne⟩
 ·refine⟨.ss (R.length+1) 0 1 3,R++[fl [x]],hR.app (wM 0 _),.inr ⟨R.length,rfl,gD _ _,by simp⟩,fun n=>?_⟩
  have ha:cU 32 (([]:LL).length+1)=true:=bU (by decide) (by decide);rw[jS 3 32 3 (by decide),if_pos ha];rfl
 ·have hso:so < R.length:=by
   by_cases q:so < R.length
   ·exact q
   ·rw[getElem?_eq_none (by omega)] at hs;cases hs
  refine⟨.ss (R.length+1) 0 (f++[x]).length 3,R.set so aZ++[fl (f++[x])],?_,.inr ⟨R.length,rfl,?_,by simp⟩,fun n=>?_⟩
  ·refine REF.app ?_ (wM 0 _)
   intro c hc;rcases mem_or_eq_of_mem_set hc with q | q
   ·exact hR c q
   ·rw[q];exact wN 0 (D:=[aZ]) (by simp) aZ (by simp)
  ·rw[getElem?_append_right (by simp)]
   simp
  ·have ha:cU 32 (f.length+1)=true:=bU (by decide) (by omega)
   have e6:fl f++[[AV.int .i64 x.1,.str x.2.1,.int .i64 x.2.2]].flatten=fl (f++[x]):=by rw[lG];rfl
   rw[j9 (so+1) f.length 32 3 (by decide),length_singleton,if_pos ha,getElem?_cons_succ,hs];simp only[Option.bind_some];rw[if_pos ⟨oQ f,(iR f).symm,mX f⟩,e6,set_cons_succ];simp
structure FIn (B k n:Nat) (f ops:List Tk) (id:Int) (md:Own):Prop where
 k8:k<=8
 n0:n<=B+20*(9 - k)/\B<=100000
 f0:f.length<=8 - k
 f1:tot f<=18*(8 - k)
 o0:ops.length<=8 - k
 o1:∀ t∈ops,t.2.1.length<=18
 i0:0<=id
 i1:id<=8 - (k:Int)
 md0:md≠.no
theorem E4 (B:Nat) (l:List Int):∀ (k n:Nat) (f ops:List Tk) (id:Int) (v:AV) (R:LL) (md10:Own),FIn B k n f ops id md10->FV f ops id->REF 0 R->FR v R f ->
  ∃ n' f' ops' id' v' R' md10',n'<=B+400/\f'.length<=8/\tot f'<=144/\(ops'.length<=8/\(∀ t∈ops',t.2.1.length<=18)/\id'<=8)/\FV f' ops' id'/\REF 0 R'/\FR v' R' f' /\
   aC G0 mI (ST [(0,.ptr 0 0),(2,.bool true),(3,.bool true),(9,v),(10,.sl md10 3 (tks ops)),(11,.int .i64 id),(12,.int .i64 k)] [] (num l n :: R))=some (.ex 0,ST [(0,.ptr 0 0),(2,.bool true),(3,.bool true),(9,v'),(10,.sl md10' 3 (tks ops')),(11,.int .i64 id'),(12,.int .i64 0),(21,.bool false)] [] (num l n' :: R'))
 | 0,n,f,ops,id,v,R,md10,h,fv,hR0,hv=>by
  obtain⟨k8,⟨n0,nB⟩,f0,f1,o0,o1,i0,i1,md0⟩:=h;refine⟨n,f,ops,id,v,R,md10,by omega,by omega,by omega,⟨by omega,o1,by omega⟩,fv,hR0,hv,?_⟩;have sc:=hv.scrub;rw[aB (L:=mI) rfl];simp only[go_sem,Int.lt_irrefl,sc]
 | k+1,n,f,ops,id,v,R,md10,h,fv,hR0,hv=>by
  obtain⟨k8,⟨n0,nB⟩,f0,f1,o0,o1,i0,i1,md0⟩:=h;have hR:=REF.rok hR0;have sc:=hv.scrub;have dm:=hv.dem;have ag:=hv.arg;have hk:(0:Int) < ((k+1:Nat):Int):=by omega
  have hwk:IntKind.i64.wrap (((k+1:Nat):Int) - 1)=(k:Int):=by rw[w64 (by omega) (by omega)];omega
  have hl:=zDQ l n;have h48:=c63r hR l n 3 (by omega) (by decide) (by decide);generalize hL:nK l n 3=L at hl h48;obtain⟨s,n1⟩:=L;simp only[] at hl h48;have h36:=FK hR l n1 8 (by omega) (by decide) (by decide);have hy:=gY l n1 8 (by decide);generalize nxt l n1 8=y at h36 hy;by_cases y0:y=0\/y=1
  ·obtain⟨x,xm,x5,hx,hx0⟩:=KQ tbA tbA5 l (n1+1) 3 (by decide) rfl
   have h36b:=FK hR l (n1+1) 3 (by omega) (by decide) (by decide);obtain⟨r2,r1⟩:=jU f (5,x,0);obtain⟨w,R2,hR2,hw,r3⟩:=JS (n:=n1+2) l hR0 hv fv.vl (5,x,0) (by omega) (by simp only[length_cons,length_nil];omega);have sw:=hw.scrub;have dw:=hw.dem;have fv':=R4 fv (VN x xm);simp only[length_cons,length_nil] at r1 r2 r3;generalize pn f (5,x,0)=r at r1 r2 r3 fv' hw;obtain⟨n',f',ops',id',v',R',md10',p1,p2,p3,p4,pf,pR,pv,p5⟩:=E4 B l k (n1+2) r ops id w R2 md10 ⟨by omega,⟨by omega,nB⟩,by omega,by omega,by omega,o1,i0,by omega,md0⟩ fv' hR2 hw;refine⟨n',f',ops',id',v',R',md10',p1,p2,p3,p4,pf,pR,pv,?_⟩;rcases y0 with rfl | rfl
   ·rw[aB (L:=mI) rfl]
    simp only[go_sem,hk,h48,h36,h36b,mA,hx,hx0,hR l,sc,dm,ag,sw,dw,r3,hwk];exact p5
   ·rw[aB (L:=mI) rfl]
    simp only[go_sem,hk,h48,h36,h36b,mA,hx,hx0,hR l,sc,dm,ag,sw,dw,r3,hwk];exact p5
  have hid:IntKind.i64.wrap (id+1)=id+1:=w64 (by omega) (by omega);by_cases y2:y=2
  ·obtain⟨x,xm,x5,hx,hx0⟩:=KQ tbB tbB5 l (n1+1) 2 (by decide) rfl
   have h36b:=FK hR l (n1+1) 2 (by omega) (by decide) (by decide);obtain⟨r2,r1⟩:=jU f (4,x,id+1);obtain⟨w,R2,hR2,hw,r3⟩:=JS (n:=n1+2) l hR0 hv fv.vl (4,x,id+1) (by omega) (by simp only[length_cons,length_nil];omega);have sw:=hw.scrub;have dw:=hw.dem;have fv':=XU (k:=4) fv (.inl ⟨rfl,zBO x xm⟩) (by omega);simp only[length_cons,length_nil] at r1 r2 r3;generalize pn f (4,x,id+1)=r at r1 r2 r3 fv' hw;obtain⟨n',f',ops',id',v',R',md10',p1,p2,p3,p4,pf,pR,pv,p5⟩:=E4 B l k (n1+2) r ops (id+1) w R2 md10 ⟨by omega,⟨by omega,nB⟩,by omega,by omega,by omega,o1,by omega,by omega,md0⟩ fv' hR2 hw;refine⟨n',f',ops',id',v',R',md10',p1,p2,p3,p4,pf,pR,pv,?_⟩;subst y2;rw[aB (L:=mI) rfl];simp only[go_sem,hk,h48,h36,h36b,mB,hx,hx0,hR l,sc,dm,ag,sw,dw,r3,hwk,hid];exact p5
  by_cases y3:y=3\/y=4
  ·obtain⟨x,xm,x5,hx,hx0⟩:=KQ tbC tbC5 l (n1+1) 3 (by decide) rfl
   have h36b:=FK hR l (n1+1) 3 (by omega) (by decide) (by decide);obtain⟨r2,r1⟩:=jU f (2,x,id+1);obtain⟨w,R2,hR2,hw,r3⟩:=JS (n:=n1+2) l hR0 hv fv.vl (2,x,id+1) (by omega) (by simp only[length_cons,length_nil];omega);have sw:=hw.scrub;have dw:=hw.dem;have fv':=R5 fv (zBN x xm) (by omega);simp only[length_cons,length_nil] at r1 r2 r3;generalize pn f (2,x,id+1)=r at r1 r2 r3 fv' hw;have ha:cU 32 (ops.length+1)=true:=bU (by decide) (by omega)
   obtain⟨n',f',ops',id',v',R',md10',p1,p2,p3,p4,pf,pR,pv,p5⟩:=E4 B l k (n1+2) r (ops++[(2,x,id+1)]) (id+1) w R2 .own ⟨by omega,⟨by omega,nB⟩,by omega,by omega,by simp only[length_append,length_cons,length_nil];omega,fun t ht=>by
    rcases mem_append.1 ht with h | h
    ·exact o1 t h
    ·simp only[mem_cons,not_mem_nil,or_false] at h;subst h;simp only;omega,by omega,by omega,by decide⟩ fv' hR2 hw
   refine⟨n',f',ops',id',v',R',md10',p1,p2,p3,p4,pf,pR,pv,?_⟩;have e4:tks (ops++[(2,x,id+1)])=tks ops++[[.int .i64 2,.str x,.int .i64 (id+1)]]:=by rw[<- pH];rfl
   rw[e4] at p5;rcases y3 with rfl | rfl
   ·rw[aB (L:=mI) rfl]
    simp only[go_sem,hk,h48,h36,h36b,mC,hx,hx0,hR l,sc,dm,ag,sw,dw,r3,hwk,hid,dP md10 .full md0 3 32 (by decide),aD,ha];exact p5
   ·rw[aB (L:=mI) rfl]
    simp only[go_sem,hk,h48,h36,h36b,mC,hx,hx0,hR l,sc,dm,ag,sw,dw,r3,hwk,hid,dP md10 .full md0 3 32 (by decide),aD,ha];exact p5
  by_cases y5:y=5\/y=6
  ·by_cases hop:1<=ops.length
   ·have hm1:IntKind.i64.wrap ((ops.length:Int) - 1)=((ops.length - 1:Nat):Int):=by rw[w64 (by omega) (by omega)];omega
    have hge:(0:Int)<=((ops.length - 1:Nat):Int):=by omega
    obtain⟨jn,hjn⟩:∃ jn,jn=ops.length - 1:=⟨_,rfl⟩
    rw[<- hjn] at hm1 hge;have hjl:jn < ops.length:=by omega
    have hg:ops[jn]?=some ops[jn]:=getElem?_eq_getElem hjl;have ht:=o1 _ (getElem_mem hjl);generalize ops[jn]=T at hg ht;have hr:=dH hg;have nm2:=c64 T.2.1 (by omega);have nm1:=pS T.2.1;have j0:(0:Int)<=(jn:Int):=by omega
    have j1:(jn:Int)<=(ops.length:Int):=by omega
    have jw:IntKind.i64.wrap ((jn:Int)+1)=((jn+1:Nat):Int):=by rw[w64 (by omega) (by omega)];rfl
    have j2:(0:Int)<=((jn+1:Nat):Int):=by omega
    have j3:((jn+1:Nat):Int)<=(ops.length:Int):=by omega
    obtain⟨r2,r1⟩:=jU f (3,aT T.2.1,T.2.2);obtain⟨w,R2,hR2,hw,r3⟩:=JS (n:=n1+1) l hR0 hv fv.vl (3,aT T.2.1,T.2.2) (by omega) (by simp only[length_cons,length_nil];omega);have sw:=hw.scrub;have dw:=hw.dem;have fv':=DB fv (by omega) (rP hg);simp only[length_cons,length_nil] at r1 r2 r3;generalize pn f (3,aT T.2.1,T.2.2)=r at r1 r2 r3 fv' hw;have ha:cU 32 (ops.take jn).length=true:=bU (by decide) (by simp;omega);have ha2:cU 32 ((ops.take jn).length+(ops.drop (jn+1)).length)=true:=bU (by decide) (by simp;omega);have tk:(tks ops).take jn=tks (ops.take jn):=by simp [tks,map_take]
    have td:(tks ops).drop (jn+1)=tks (ops.drop (jn+1)):=by simp [tks,map_drop]
    obtain⟨n',f',ops',id',v',R',md10',p1,p2,p3,p4,pf,pR,pv,p5⟩:=E4 B l k (n1+1) r (ops.take jn++ops.drop (jn+1)) id w R2 .own ⟨by omega,⟨by omega,nB⟩,by omega,by omega,by simp only[length_append,length_take,length_drop];omega,fun t ht=>by
     rcases mem_append.1 ht with h | h
     ·exact o1 t (mem_of_mem_take h)
     ·exact o1 t (mem_of_mem_drop h),i0,by omega,by decide⟩ fv' hR2 hw
    refine⟨n',f',ops',id',v',R',md10',p1,p2,p3,p4,pf,pR,pv,?_⟩;rcases y5 with rfl | rfl
    ·rw[aB (L:=mI) rfl]
     simp only[go_sem,hk,h48,h36,hR l,hwk,hm1,hge,hr,nm2,j0,j1,j2,j3,jw,Bool.not_true,aD,tk,td,dP .full .no (by decide) 3 32 (by decide),dP .own .no (by decide) 3 32 (by decide),ha,ha2,pH,r3,sc,dm,ag,sw,dw];exact p5
    ·rw[aB (L:=mI) rfl]
     simp only[go_sem,hk,h48,h36,hR l,hwk,hm1,hge,hr,nm2,j0,j1,j2,j3,jw,Bool.not_true,aD,tk,td,dP .full .no (by decide) 3 32 (by decide),dP .own .no (by decide) 3 32 (by decide),ha,ha2,pH,r3,sc,dm,ag,sw,dw];exact p5
   ·have hop0:ops=[]:=eq_nil_of_length_eq_zero (by omega)
    subst hop0;obtain⟨r2,r1⟩:=jU f (1,s,0);obtain⟨w,R2,hR2,hw,r3⟩:=JS (n:=n1+1) l hR0 hv fv.vl (1,s,0) (by omega) (by simp only[length_cons,length_nil];omega);have sw:=hw.scrub;have dw:=hw.dem;have fv':=HZ fv (x:=(1,s,0)) rfl;simp only[length_cons,length_nil] at r1 r2 r3;generalize pn f (1,s,0)=r at r1 r2 r3 fv' hw;obtain⟨n',f',ops',id',v',R',md10',p1,p2,p3,p4,pf,pR,pv,p5⟩:=E4 B l k (n1+1) r [] id w R2 md10 ⟨by omega,⟨by omega,nB⟩,by omega,by omega,by simp,by simp,i0,by omega,md0⟩ fv' hR2 hw;refine⟨n',f',ops',id',v',R',md10',p1,p2,p3,p4,pf,pR,pv,?_⟩;rw[eB] at p5;rcases y5 with rfl | rfl
    ·rw[aB (L:=mI) rfl]
     simp only[go_sem,hk,h48,h36,hR l,hwk,eB,Bool.not_true,r3,sc,dm,ag,sw,dw];exact p5
    ·rw[aB (L:=mI) rfl]
     simp only[go_sem,hk,h48,h36,hR l,hwk,eB,Bool.not_true,r3,sc,dm,ag,sw,dw];exact p5
  ·have y7:y=7:=by omega
   subst y7;obtain⟨r2,r1⟩:=jU f (1,s,0);obtain⟨w,R2,hR2,hw,r3⟩:=JS (n:=n1+1) l hR0 hv fv.vl (1,s,0) (by omega) (by simp only[length_cons,length_nil];omega);have sw:=hw.scrub;have dw:=hw.dem;have fv':=HZ fv (x:=(1,s,0)) rfl;simp only[length_cons,length_nil] at r1 r2 r3;generalize pn f (1,s,0)=r at r1 r2 r3 fv' hw;obtain⟨n',f',ops',id',v',R',md10',p1,p2,p3,p4,pf,pR,pv,p5⟩:=E4 B l k (n1+1) r ops id w R2 md10 ⟨by omega,⟨by omega,nB⟩,by omega,by omega,by omega,o1,i0,by omega,md0⟩ fv' hR2 hw;refine⟨n',f',ops',id',v',R',md10',p1,p2,p3,p4,pf,pR,pv,?_⟩;rw[aB (L:=mI) rfl];simp only[go_sem,hk,h48,h36,hR l,hwk,r3,sc,dm,ag,sw,dw];exact p5
theorem l97c (l:List Int) (n':Nat) (ops:List Tk) (id:Int) (hid:id<=999) (k12:AV) (s12:∀ k,b9 k k12=k12) (md10:Own) (ho:ops.length<=8) (o1:∀ t∈ops,t.2.1.length<=18):∀ (k:Nat) (f:List Tk) (v:AV) (R:LL),k<=ops.length->f.length+k<=16->tot f+18*k<=300->FV f (ops.take k) id->REF 0 R->FR v R f ->
  ∃ g w R2,g.length<=16/\tot g<=300/\FV g [] id/\REF 0 R2/\FR w R2 g /\
   aC G0 IR (ST [(0,.ptr 0 0),(2,.bool true),(3,.bool true),(9,v),(10,.sl md10 3 (tks ops)),(11,.int .i64 id),(12,k12),(15,.int .i64 ((k:Int) - 1)),(21,.bool false)] [] (num l n' :: R))=some (.ex 3,ST [(0,.ptr 0 0),(2,.bool true),(3,.bool true),(9,w),(10,.sl md10 3 (tks ops)),(11,.int .i64 id),(12,k12),(15,.int .i64 (-1)),(21,.bool false),(122,.bool false)] [] (num l n' :: R2))
 | 0,f,v,R,hk,h1,h2,fv,hR,hv=>by
  refine⟨f,v,R,by omega,by omega,by simpa using fv,hR,hv,?_⟩;have sc:=hv.scrub;have hz:¬ (0:Int)<=((0:Nat):Int) - 1:=by decide
  have hz2:((0:Nat):Int) - 1 = -1:=rfl;rw[hz2];have hz:¬ (0:Int)<=(-1:Int):=by decide
  rw[aB (L:=IR) rfl];simp only[go_sem,hz,sc,s12]
 | k+1,f,v,R,hk,h1,h2,fv,hR,hv=>by
  have hg:ops[k]?=some ops[k]:=getElem?_eq_getElem (by omega);have ht:=o1 _ (getElem_mem (show k < ops.length by omega));have hts:ops.take (k+1)=ops.take k++ops[k] :: []:=by rw[take_add_one,hg];rfl
  generalize ops[k]=T at hg ht hts;have hr:=dH hg;have nm2:=c64 T.2.1 (by omega);have nm1:=pS T.2.1;have fv':=DB fv hid hts;rw[L4 (by decide),append_nil] at fv';obtain⟨w,R2,hR2,hw,ha⟩:=zGA l hR hv (3,aT T.2.1,T.2.2) (by omega);have ha:=ha n';simp only[] at ha;obtain⟨g,w',R3,g1,g2,g3,g4,g5,g6⟩:=l97c l n' ops id hid k12 s12 md10 ho o1 k (f++[(3,aT T.2.1,T.2.2)]) w R2 (by omega) (by simp;omega) (by rw[dR,bH,cO];simp only[];omega) fv' hR2 hw;refine⟨g,w',R3,g1,g2,g3,g4,g5,?_⟩;have e1:((k+1:Nat):Int) - 1=(k:Int):=by omega
  have hk0:(0:Int)<=(k:Int):=by omega
  have hw1:IntKind.i64.wrap ((k:Int) - 1)=(k:Int) - 1:=w64 (by omega) (by omega);have sc:=hv.scrub;have dm:=hv.dem;have sw:=hw.scrub;have dw:=hw.dem;rw[e1];rw[aB (L:=IR) rfl];simp only[go_sem,hk0,hr,nm2,aD,ha,hw1,sc,dm,sw,dw,s12];exact g6
theorem k97 (l:List Int) (p:Nat) (hp:p<=90000) (N:Int) (hN:1<=N) (hN8:N<=8):∃ n' f,n'<=p+500/\f.length<=16/\tot f<=300/\vld f=0/\G0 29 [.ptr 0 0,.int .i64 N,.bool true,.bool true] [num l p]=some (.sl .no 3 (tks f),[num l n']):=by
 have hb:=gY l p (N+1) (by omega);have h36:=c41 l p (N+1) (by omega) (by omega) (by omega);have hc:(((nxt l p (N+1)).toNat:Nat):Int)=nxt l p (N+1):=by omega
 obtain⟨n',f,ops,id,v,R,md10,p1,p2,p3,⟨p4,p4b,p4c⟩,pf,pR,pv,p5⟩:=E4 p l (nxt l p (N+1)).toNat (p+1) [] [] 0 (.sl .full 3 []) [] .full ⟨by omega,⟨by omega,by omega⟩,by simp,by rw[cO];omega,by simp,by simp,by omega,by omega,by decide⟩ XV (QN 0) (.inl ⟨rfl,rfl⟩);rw[hc] at p5;simp only[eB] at p5;have hid:id<=999:=by omega
 obtain⟨g,w,R2,g1,g2,g3,g4,g5,g6⟩:=l97c l n' ops id hid (.int .i64 0) (fun _=>rfl) md10 p4 p4b ops.length f v R (Nat.le_refl _) (by omega) (by omega) (by rw[take_length];exact pf) pR pv;have hL:=EY g;refine⟨n',g,by omega,g1,g2,(cX g).2 ⟨g3.vl,by omega,by omega⟩,?_⟩;have hwN:IntKind.i64.wrap (N+1)=N+1:=w64 (by omega) (by omega);have hw:IntKind.i64.wrap ((ops.length:Int) - 1)=(ops.length:Int) - 1:=w64 (by omega) (by omega);have sc:=pv.scrub;have sw:=g5.scrub;have hk:=g4.rok1 1 l n';refine aA F29 rfl rfl rfl ?_;rcases g5 with ⟨rfl,rfl⟩ | ⟨so,rfl,hs,hne⟩
 ·simp only[F29,go_sem,hwN,h36,p5,aD,hw,g6,sc,hk,take_succ_cons,take_zero,eB]
 ·have hr:=wH g
  have hd:eP [num l p] (num l n' :: R2)=true:=rfl;simp only[F29,go_sem,hwN,h36,p5,aD,hw,g6,sc,hk,take_succ_cons,take_zero,hs,hr,hd,getElem?_cons_succ]
end Go.Av
namespace Go.Av
open Go.Nt
theorem U9 {a b:List Tk} (h:VL (a++b)):VL a:=by
 unfold VL at h ⊢;rw[sV] at h
 split at h
 ·rename_i q;exact absurd h q
 ·rename_i q;exact Decidable.not_not.1 q
theorem zAZ {f:List Tk} (h:VL f) {i:Nat} {x:Tk} (hg:f[i]?=some x):VL (f.take i)/\chk (f.take i) x=0/\f.take (i+1)=f.take i++[x]:=by
 have ht:f.take (i+1)=f.take i++[x]:=by rw[take_add_one,hg];rfl
 have h1:VL (f.take (i+1)):=U9 (b:=f.drop (i+1)) (by rw[take_append_drop];exact h);rw[ht] at h1;obtain⟨a,b⟩:=(cJ _ _).1 h1;exact⟨a,b,ht⟩
theorem zDR (l:List Int) (n:Nat):(nK l n 2).1.length<=12/\(nK l n 2).2<=n+8:=by
 have hb:=gY l n 3 (by omega);have h1:=vL l (nxt l n 3).toNat (n+1) [];have h2:=HA l (nxt l n 3).toNat (n+1) [];simp only[length_nil] at h1;show (lnF l (nxt l n 3).toNat (n+1) []).1.length<=12/\(lnF l (nxt l n 3).toNat (n+1) []).2<=n+8;omega
def tbT (s:Bs):List Bs:=[[114,111,116],[100,97,115,32,65,117,116,111],[],[101,105,110,32]++s,s]
theorem VM (s:Bs) (l:List Int) (n:Nat):∃ x:Bs,x.length<=s.length+8/\(cP (tbT s))[(nxt l n 5).toNat]?=some [.str x]/\0<=nxt l n 5:=by
 have hb:=gY l n 5 (by decide);generalize nxt l n 5=y at hb;obtain⟨k,rfl⟩:∃ k:Nat,y=(k:Int):=⟨y.toNat,by omega⟩
 have hk:k < 5:=by omega
 rw[Int.toNat_natCast]
 match k,hk with
 | 0,_=>exact⟨_,by simp,rfl,by omega⟩
 | 1,_=>exact⟨_,by simp,rfl,by omega⟩
 | 2,_=>exact⟨_,by simp,rfl,by omega⟩
 | 3,_=>exact⟨[101,105,110,32]++s,by simp,rfl,by omega⟩
 | 4,_=>exact⟨_,Nat.le_add_right _ _,rfl,by omega⟩
theorem RF (l:List Int) (f:List Tk) (hf:f.length<=16) (hft:tot f<=300) (hv:VL f) (o:Own) (B:Nat) (hB:B<=100000):∀ (k i n:Nat) (t:List Tk) (md:Own),i+k=f.length->n<=B+20*i->VL t->tg t=tg (f.take i)->t.length<=2*i->tot t<=tot (f.take i)+20*i ->
  ∃ n' t' md',n'<=B+20*f.length/\VL t'/\tg t'=tg f/\t'.length<=2*f.length/\tot t'<=tot f+20*f.length /\
   aC G0 zX (ST [(0,.ptr 0 0),(1,.sl o 3 (tks f)),(5,.sl md 3 (tks t)),(9,.int .i64 f.length),(10,.int .i64 i)] [] [num l n])=some (.ex 0,ST [(0,.ptr 0 0),(1,.sl o 3 (tks f)),(5,.sl md' 3 (tks t')),(9,.int .i64 f.length),(10,.int .i64 f.length),(11,.bool false)] [] [num l n'])
 | 0,i,n,t,md,h,hn,h1,h2,h3,h4=>by
  have:i=f.length:=by omega
  subst this;rw[take_length] at h2 h4;refine⟨n,t,md,hn,h1,h2,h3,h4,?_⟩;rw[aB (L:=zX) rfl];simp only[go_sem,Int.lt_irrefl]
 | k+1,i,n,t,md,h,hn,h1,h2,h3,h4=>by
  have hi:i < f.length:=by omega
  have c4:(i:Int) < (f.length:Int):=by omega
  have c0:(0:Int)<=(i:Int):=by omega
  have hw:=wI (i:=i) (by omega)
  have hg:f[i]?=some f[i]:=getElem?_eq_getElem hi;have hs:=AF _ (getElem_mem hi);generalize f[i]=T at hg hs;obtain⟨v1,v2,v3⟩:=zAZ hv hg;have hr:=dH hg;have ht1:tot (f.take (i+1))=tot (f.take i)+T.2.1.length:=by rw[v3,dR,bH,cO];omega
  have htl:tot (f.take i)<=300:=by
   have:tot f=tot (f.take i)+tot (f.drop i):=by rw[<- dR,take_append_drop]
   omega
  obtain⟨kk,s,id⟩:=T;simp only[] at hr hs ht1;by_cases hk:kk=1
  ·subst hk
   obtain⟨x,x1,x2,x3⟩:=VM s l n;have h36:=c41 l n 5 (by omega) (by decide) (by decide);have hcap:[(101:UInt8),105,110,32].length+s.length<=140737488355328:=by simp;omega
   have hcap2:s.length<=140737488355324:=by omega
   have hcap3:4+s.length<=140737488355328:=by omega
   have x2':[[AV.str [114,111,116]],[AV.str [100,97,115,32,65,117,116,111]],[AV.str []],[AV.str (101 :: 105 :: 110 :: 32 :: s)],[AV.str s]][(nxt l n 5).toNat]?=some [.str x]:=x2;obtain⟨r2,r1⟩:=jU t (1,x,id);have r3:=N6 h1 (1,x,id) (by omega) (by simp only[];omega);have p1:=rH (x:=(1,x,id)) h1 rfl;have p2:=mL (f:=t) (x:=(1,x,id)) rfl;simp only[] at r1 r2 r3;have et:tg (f.take (i+1))=tg (f.take i):=by rw[v3,fP,wC (by rfl),append_nil]
   obtain⟨n',t',md',q1,q2,q3,q4,q5,q6⟩:=RF l f hf hft hv o B hB k (i+1) (n+1) (pn t (1,x,id)) .no (by omega) (by omega) p1 (by rw[p2,et];exact h2) (by omega) (by omega);refine⟨n',t',md',q1,q2,q3,q4,q5,?_⟩;rw[aB (L:=zX) rfl];simp only[go_sem,c4,c0,hr,hw,hcap,hcap2,hcap3,h36,x2',x3,qY,r3];exact q6
  ·have h36:=c41 l n 3 (by omega) (by decide) (by decide)
   have hy:=gY l n 3 (by decide);generalize nxt l n 3=y at h36 hy;have et:tg (f.take (i+1))=tg (f.take i++[(kk,s,id)]):=by rw[v3]
   by_cases y0:y=0
   ·subst y0
    obtain⟨w1,w2⟩:=zDR l (n+1);have h48:=c63 l (n+1) 2 (by omega) (by decide) (by decide);generalize hL:nK l (n+1) 2=L at w1 w2 h48;obtain⟨u,n1⟩:=L;simp only[] at w1 w2 h48;obtain⟨r2,r1⟩:=jU t (1,u,0);have r3:=N6 h1 (1,u,0) (by omega) (by simp only[];omega);have p1:=rH (x:=(1,u,0)) h1 rfl;have p2:=mL (f:=t) (x:=(1,u,0)) rfl;simp only[] at r1 r2 r3;generalize pn t (1,u,0)=t1 at r1 r2 r3 p1 p2;obtain⟨e1,e2,e3⟩:=L2 (f:=t1) (g:=f.take i) (x:=(kk,s,id)) hk p1 (by rw[p2];exact h2) v2;obtain⟨r5,r4⟩:=jU t1 (kk,s,id);have r6:=N6 p1 (kk,s,id) (by omega) (by simp only[];omega);simp only[] at r4 r5 r6;generalize pn t1 (kk,s,id)=t2 at r4 r5 r6 e1 e2 e3;obtain⟨n',t',md',q1,q2,q3,q4,q5,q6⟩:=RF l f hf hft hv o B hB k (i+1) n1 t2 .no (by omega) (by omega) e2 (by rw[e3,et]) (by omega) (by omega);refine⟨n',t',md',q1,q2,q3,q4,q5,?_⟩;rw[aB (L:=zX) rfl];simp only[go_sem,c4,c0,hr,hw,hk,h36,h48,qY,r3,r6];exact q6
   ·obtain⟨e1,e2,e3⟩:=L2 (f:=t) (g:=f.take i) (x:=(kk,s,id)) hk h1 h2 v2
    obtain⟨r5,r4⟩:=jU t (kk,s,id);have r6:=N6 h1 (kk,s,id) (by omega) (by simp only[];omega);simp only[] at r4 r5 r6;generalize pn t (kk,s,id)=t2 at r4 r5 r6 e1 e2 e3;obtain⟨n',t',md',q1,q2,q3,q4,q5,q6⟩:=RF l f hf hft hv o B hB k (i+1) (n+1) t2 .no (by omega) (by omega) e2 (by rw[e3,et]) (by omega) (by omega);refine⟨n',t',md',q1,q2,q3,q4,q5,?_⟩;rw[aB (L:=zX) rfl];simp only[go_sem,c4,c0,hr,hw,hk,h36,y0,qY,r6];exact q6
theorem k98 (l:List Int) (p:Nat) (hp:p<=90000) (f:List Tk) (hf:f.length<=16) (hft:tot f<=300) (hv:vld f=0) (o:Own):∃ n' t,n'<=p+400/\t.length<=32/\tot t<=700/\vld t=0/\tg t=tg f/\G0 30 [.ptr 0 0,.sl o 3 (tks f)] [num l p]=some (.sl .no 3 (tks t),[num l n']):=by
 obtain⟨n',t,md,q1,q2,q3,q4,q5,q6⟩:=RF l f hf hft ((cX f).1 hv).1 o p (by omega) f.length 0 p [] .full (by omega) (by omega) rfl rfl (by simp) (by rw[cO];omega);have ec:((0:Nat):Int)=0:=rfl;rw[ec,eB] at q6;have hL:=EY t;refine⟨n',t,by omega,by omega,by omega,(cX t).2 ⟨q2,by omega,by omega⟩,q3,?_⟩;refine aA F30 rfl rfl rfl ?_;simp only[F30,go_sem,aD,q6,qY,take_succ_cons,take_zero]
end Go.Av
namespace Go.Av
open Go.Nt
theorem B4 (tb:List Bs) (l:List Int) (n:Nat) (m:Int) (hm:1<=m) (h:m=(tb.length:Int)):∃ x:Bs,x∈tb/\(cP tb)[(nxt l n m).toNat]?=some [.str x]/\0<=nxt l n m:=by
 have hb:=gY l n m hm;have hi:(nxt l n m).toNat < tb.length:=by omega
 exact⟨tb[(nxt l n m).toNat],getElem_mem hi,eW (getElem?_eq_getElem hi),hb.1⟩
def tbF:List Bs:=[[83,97,118,101],[114,101,100,32,99,97,114],[82,101,100,32,99,97,114,115]]
def tbP:List Bs:=[[],[],[83,97,118,101],[114,101,100,32,99,97,114]]
def tbN:List Bs:=[[],[],[120],[83,97,118,101]]
def tbU:List Bs:=[[],[97,110,110],[98,111,98]]
def tbJ:List Bs:=[[],[112],[113]]
theorem mF:iE 1 [.str []] 3 [0,1,2] [.str [83,97,118,101],.str [114,101,100,32,99,97,114],.str [82,101,100,32,99,97,114,115]]=some (.sl .full 1 (cP tbF)):=by rfl
theorem mP:iE 1 [.str []] 4 [0,1,2,3] [.str [],.str [],.str [83,97,118,101],.str [114,101,100,32,99,97,114]]=some (.sl .full 1 (cP tbP)):=by rfl
theorem mN:iE 1 [.str []] 4 [0,1,2,3] [.str [],.str [],.str [120],.str [83,97,118,101]]=some (.sl .full 1 (cP tbN)):=by rfl
theorem mU:iE 1 [.str []] 3 [0,1,2] [.str [],.str [97,110,110],.str [98,111,98]]=some (.sl .full 1 (cP tbU)):=by rfl
theorem mJ:iE 1 [.str []] 3 [0,1,2] [.str [],.str [112],.str [113]]=some (.sl .full 1 (cP tbJ)):=by rfl
theorem zBL:∀ x∈tbF,vld [(1,x,0)]=0:=by decide +kernel
theorem zBM:∀ x∈tbF,x.length<=8:=by decide
theorem zBF:∀ x∈tbP,kG x=0:=by decide +kernel
theorem zBG:∀ x∈tbP,x.length<=7:=by decide
theorem zBH:∀ x∈tbN,kG x=0:=by decide +kernel
theorem zBI:∀ x∈tbN,x.length<=4:=by decide
theorem zBD:∀ x∈tbU,iD x=true:=by decide
theorem zBE:∀ x∈tbU,x.length<=3:=by decide
theorem zBJ:∀ x∈tbJ,iD x=true:=by decide
theorem zBK:∀ x∈tbJ,x.length<=1:=by decide
def GE (e:En):Prop:=VE e/\BE e
theorem zGG {f t:List Tk} {p n a j:Bs} {c o:Int} (hf:vld f=0) (ht:vld t=0) (hne:f≠[]) (htg:tg t=tg f) (pp:kG p=0) (pn:kG n=0) (na:iD a=true) (nj:iD j=true) (c0:0<=c) (c1:c<=1073741824) (o1:1<=o) (o3:o<=3) (lp:p.length<=50000) (ln:n.length<=50000) (la:a.length<=1000) (lj:j.length<=1000):GE ⟨hZ f t,iH f t,p,n,a,j,c,o⟩:=by
 have hv:=mkVE hf ht hne pp pn na nj c0 c1 o1 o3;have u1:=gE hv.vS;have u2:=gE hv.vT;exact⟨hv,by omega,by omega,by omega,by omega,lp,ln,Nat.le_trans la (by decide),Nat.le_trans lj (by decide)⟩
theorem SE (x:Tk):(elt x).length<=4*x.2.1.length+10:=by
 obtain⟨k,s,i⟩:=x;have h1:=B1 s;have h2:=vY i.toNat;unfold elt;simp only[]
 repeat' split
 all_goals (try simp only[length_append,length_cons,length_nil])
 all_goals omega
theorem H1 (f:List Tk):(fmt f).length<=4*tot f+10*f.length:=by
 induction f with
 | nil=>simp [fmt]
 | cons x f ih =>
  have h:=SE x;unfold fmt at ih ⊢;rw[flatMap_cons,length_append,bH,length_cons];omega
theorem F1 (g f:List Tk):tot (f.map (phi g))=tot f:=by
 induction f with
 | nil=>rfl
 | cons x f ih =>
  rw[map_cons,bH,bH,ih];unfold phi
  split<;>rfl
theorem SZ {f t:List Tk} (hf:vld f=0) (ht:vld t=0):(fmE (hZ f t)).length<=4*tot f+10*f.length/\(fmE (iH f t)).length<=4*tot t+10*t.length:=by
 have hl:=kP hf ht;have a:=H1 (hZ f t);have b:=H1 (iH f t);rw[(jA hl hf).1,F1,length_map,<- (jA hl hf).1] at a;rw[(i9 hl ht).1,F1,length_map,<- (i9 hl ht).1] at b;unfold fmE;constructor
 ·split
  ·exact a
  ·simp
 ·split
  ·exact b
  ·simp
theorem k55 (l:List Int) (p:Nat) (hp:p<=80000):∃ n' e,n'<=p+1000/\GE e/\(szE e<=4700/\e.c<=49)/\G0 16 [.ptr 0 0] [num l p]=some (.agg (aN e),[num l n']):=by
 obtain⟨n1,f,a1,a2,a3,a4,a5⟩:=k97 l p (by omega) 4 (by decide) (by decide);obtain⟨f2,n2,o,b1,b2,b3,b4,b5,b6⟩:∃ (f2:List Tk) (n2:Nat) (o:Own),n2<=p+501/\f2.length<=16/\tot f2<=300/\vld f2=0/\f2≠[] /\
   ((f≠[]/\f2=f/\n2=n1/\o=.no)\/(f=[]/\n2=n1+1/\o=.full/\∃ x,f2=[(1,x,0)]/\(cP tbF)[(nxt l n1 3).toNat]?=some [.str x]/\0<=nxt l n1 3)):=by
  by_cases h:f=[]
  ·obtain⟨x,x1,x2,x3⟩:=B4 tbF l n1 3 (by decide) rfl
   have:=zBM x x1
   exact⟨[(1,x,0)],n1+1,.full,by omega,by simp,by rw[bH,cO];simp only[];omega,zBL x x1,by simp,.inr ⟨h,rfl,rfl,x,rfl,x2,x3⟩⟩
  ·exact⟨f,n1,.no,by omega,a2,a3,a4,h,.inl ⟨h,rfl,rfl,rfl⟩⟩
 obtain⟨n3,t,c1,c2,c3,c4,c5,c6⟩:=k98 l n2 (by omega) f2 b2 b3 b4 o;have d1:=k76 f2 t (by omega) (by omega);obtain⟨xp,p1,p2,p3⟩:=B4 tbP l n3 4 (by decide) rfl;obtain⟨xn,q1,q2,q3⟩:=B4 tbN l (n3+1) 4 (by decide) rfl;obtain⟨xu,u1,u2,u3⟩:=B4 tbU l (n3+2) 3 (by decide) rfl;obtain⟨xj,j1,j2,j3⟩:=B4 tbJ l (n3+3) 3 (by decide) rfl;have e1:=c41 l n3 4 (by omega) (by decide) (by decide);have e2:=c41 l (n3+1) 4 (by omega) (by decide) (by decide);have e3:=c41 l (n3+2) 3 (by omega) (by decide) (by decide);have e4:=c41 l (n3+3) 3 (by omega) (by decide) (by decide);have e5:=c41 l (n3+4) 50 (by omega) (by decide) (by decide);have e6:=c41 l (n3+5) 3 (by omega) (by decide) (by decide);have e7:=c41 l n1 3 (by omega) (by decide) (by decide);have y5:=gY l (n3+4) 50 (by decide);have y6:=gY l (n3+5) 3 (by decide);have hw:IntKind.i64.wrap (1+nxt l (n3+5) 3)=1+nxt l (n3+5) 3:=w64 (by omega) (by omega);have l1:=zBG xp p1;have l2:=zBI xn q1;have l3:=zBE xu u1;have l4:=zBK xj j1;obtain⟨l5,l6⟩:=SZ b4 c4;refine⟨n3+6,⟨hZ f2 t,iH f2 t,xp,xn,xu,xj,nxt l (n3+4) 50,1+nxt l (n3+5) 3⟩,by omega,zGG b4 c4 b5 c5 (zBF xp p1) (zBH xn q1) (zBD xu u1) (zBJ xj j1) y5.1 (by omega) (by omega) (by omega) (by omega) (by omega) (by omega) (by omega),⟨by (show (fmE (hZ f2 t)).length+(fmE (iH f2 t)).length+xp.length+xn.length+xu.length+xj.length<=4700;omega),by (show nxt l (n3+4) 50<=49;omega)⟩,?_⟩;refine aA F16 rfl rfl rfl ?_;rcases b6 with ⟨h,rfl,rfl,rfl⟩ | ⟨rfl,rfl,rfl,x,rfl,x2,x3⟩
 ·have hne:=ES h
  simp only[F16,aN,go_sem,a5,aD,hne,c6,d1,mP,mN,mU,mJ,p2,p3,q2,q3,u2,u3,j2,j3,e1,e2,e3,e4,e5,e6,hw,qY,take_succ_cons,take_zero]
 ·have et:tks [(1,x,0)]=[[.int .i64 1,.str x,.int .i64 0]]:=rfl
  rw[et] at c6 d1;simp only[F16,aN,go_sem,a5,eB,e7,mF,x2,x3,c6,d1,mP,mN,mU,mJ,p2,p3,q2,q3,u2,u3,j2,j3,e1,e2,e3,e4,e5,e6,hw,qY,take_succ_cons,take_zero]
end Go.Av
namespace Go.Av
open Go.Nt
def MG (m:List En):Prop:=Mem m/\∀ e∈m,GE e
theorem MG.nil:MG []:=⟨mV,fun e h=>by cases h⟩
theorem MG.be {m:List En} (h:MG m):∀ e∈m,BE e:=fun e he=>(h.2 e he).2
theorem MG.put {m:List En} (h:MG m) {e:En} (he:GE e):MG (jG m e):=by
 refine⟨MO h.1 he.1,fun z hz=>?_⟩;rcases sH.1 hz with q | q
 ·rw[q];exact he
 ·exact h.2 z q.1
theorem MG.ok {m:List En} (h:MG m) (hl:m.length<=1024):okM m=true:=(pQ m).2 ⟨hl,h.1⟩
theorem MG.putE {m:List En} (h:MG m) (hl:m.length < 1024) {e:En} (he:GE e):Go.Av.putE m e=0/\yH m e=jG m e:=
 wP (h.ok (by omega)) ((lA e).2 he.1) (fun q=>by have:=q.2;omega)
theorem CE (m:List En) (h:Sr m) (e:En):(jG m e).length<=m.length+1:=by
 rw[QR h e]
 split<;>omega
def gO (x y:En):Bool:=decide (x.S=y.S) && (decide (x.T=y.T) && ((x.p == y.p) && ((x.n == y.n) && ((x.a == y.a) && ((x.j == y.j) && (decide (x.c=y.c) && decide (x.o=y.o)))))))
theorem JA (x y:En):gO x y=true↔x=y:=by
 unfold gO;simp only[Bool.and_eq_true,decide_eq_true_eq,beq_iff_eq];constructor
 ·rintro ⟨h1,h2,h3,h4,h5,h6,h7,h8⟩
  exact En.eq h1 h2 h3 h4 h5 h6 h7 h8
 ·rintro rfl
  exact⟨rfl,rfl,rfl,rfl,rfl,rfl,rfl,rfl⟩
theorem k37 (x y:En) (hx:BE x):G0 47 [.agg (aN x),.agg (aN y)] []=some (.bool (gO x y),[]):=by
 have c1:=c22 x.S y.S (by have:=hx.lS;omega);have c2:=c22 x.T y.T (by have:=hx.lT;omega);refine aA F47 rfl rfl rfl ?_;by_cases d1:x.S=y.S
 case neg =>
  have hs:gO x y=false:=by unfold gO;simp [d1]
  rw[hs];rw[decide_eq_false d1] at c1;simp only[F47,aN,go_sem,c1,c2]
 rw[decide_eq_true d1] at c1;by_cases d2:x.T=y.T
 case neg =>
  have hs:gO x y=false:=by unfold gO;simp [d1,d2]
  rw[hs];rw[decide_eq_false d2] at c2;simp only[F47,aN,go_sem,c1,c2]
 rw[decide_eq_true d2] at c2;by_cases d3:x.p=y.p
 case neg =>
  have hs:gO x y=false:=by unfold gO;simp [d1,d2,d3]
  rw[hs];have b3:(x.p == y.p)=false:=by simpa using d3
  simp only[F47,aN,go_sem,c1,c2,b3]
 have b3:(x.p == y.p)=true:=by simpa using d3
 by_cases d4:x.n=y.n
 case neg =>
  have hs:gO x y=false:=by unfold gO;simp [d1,d2,d3,d4]
  rw[hs];have b4:(x.n == y.n)=false:=by simpa using d4
  simp only[F47,aN,go_sem,c1,c2,b3,b4]
 have b4:(x.n == y.n)=true:=by simpa using d4
 by_cases d5:x.a=y.a
 case neg =>
  have hs:gO x y=false:=by unfold gO;simp [d1,d2,d3,d4,d5]
  rw[hs];have b5:(x.a == y.a)=false:=by simpa using d5
  simp only[F47,aN,go_sem,c1,c2,b3,b4,b5]
 have b5:(x.a == y.a)=true:=by simpa using d5
 by_cases d6:x.j=y.j
 case neg =>
  have hs:gO x y=false:=by unfold gO;simp [d1,d2,d3,d4,d5,d6]
  rw[hs];have b6:(x.j == y.j)=false:=by simpa using d6
  simp only[F47,aN,go_sem,c1,c2,b3,b4,b5,b6]
 have b6:(x.j == y.j)=true:=by simpa using d6
 by_cases d7:x.c=y.c
 case neg =>
  have hs:gO x y=false:=by unfold gO;simp [d1,d2,d3,d4,d5,d6,d7]
  rw[hs];simp only[F47,aN,go_sem,c1,c2,b3,b4,b5,b6,d7]
 by_cases d8:x.o=y.o
 case neg =>
  have hs:gO x y=false:=by unfold gO;simp [d1,d2,d3,d4,d5,d6,d7,d8]
  rw[hs];simp only[F47,aN,go_sem,c1,c2,b3,b4,b5,b6,d7,d8]
 have hs:gO x y=true:=by unfold gO;simp [d1,d2,d3,d4,d5,d6,d7,d8]
 rw[hs];simp only[F47,aN,go_sem,c1,c2,b3,b4,b5,b6,d7,d8]
theorem l28k (m:List En) (hl:m.length<=2000) (hB:∀ e∈m,BE e):∀ (k i:Nat),i+k=m.length ->
  aC G0 IS (ST [(0,.sl .no 8 (ens m)),(1,.sl .no 8 (ens m)),(10,.bool false),(12,.int .i64 m.length),(13,.int .i64 i)] [] [])=some (.ex 0,ST [(0,.sl .no 8 (ens m)),(1,.sl .no 8 (ens m)),(10,.bool false),(12,.int .i64 m.length),(13,.int .i64 m.length),(14,.bool false)] [] [])
 | 0,i,h=>by
  have:i=m.length:=by omega
  subst this;rw[aB (L:=IS) rfl];simp only[go_sem,Int.lt_irrefl]
 | k+1,i,h=>by
  have hi:i < m.length:=by omega
  have h4:(i:Int) < (m.length:Int):=by omega
  have h0:(0:Int)<=(i:Int):=by omega
  have hw:=wI (i:=i) (by omega)
  have hg:m[i]?=some m[i]:=getElem?_eq_getElem hi;have hBe:=hB _ (getElem_mem hi);generalize m[i]=e at hg hBe;have hr:=fI hg;have a1:=k37 e e hBe;rw[(JA e e).2 rfl] at a1;simp only[aN] at a1;have ih:=l28k m hl hB k (i+1) (by omega);rw[aB (L:=IS) rfl];simp only[go_sem,h4,h0,hr,hw,a1,Bool.not_true];exact ih
theorem k28 (m:List En) (hl:m.length<=2000) (hB:∀ e∈m,BE e):G0 24 [.sl .no 8 (ens m),.sl .no 8 (ens m)] []=some (.bool true,[]):=by
 have x:=l28k m hl hB m.length 0 (by omega);have ec:((0:Nat):Int)=0:=rfl;rw[ec] at x;have hne:¬ ¬ (m.length:Int)=(m.length:Int):=fun q=>q rfl
 refine aA F24 rfl rfl rfl ?_;simp only[F24,go_sem,aK,ne_eq,not_true_eq_false,decide_false,x]
theorem mg1 {e:En} (h:GE e):MG [e]:=by
 have:=MG.nil.put h
 exact this
end Go.Av
