/- Fragments that are nested, out of numbers. No conditions. A target of a source out of numbers: the same tags, other texts. No conditions. Entries and memories out of numbers. No conditions. The law's entries and memories, equal entries, the fixed example. No conditions. The law MemoryKeys. No conditions. -/
import Derived.Test.YtigalfbihapdnaaGreatDoorXC
import Derived.Test.YtigalfbihapdnaaGreatDoorXA
set_option linter.unusedSimpArgs false
set_option linter.unusedVariables false
namespace Go.Av
open Go.Nt
set_option linter.unusedSimpArgs false
set_option linter.unusedVariables false
set_option maxHeartbeats 16000000
set_option maxRecDepth 100000
def REF (n:Nat) (E:List (List AV)):Prop:=∀ c∈E,∀ x∈c,refLt n x=true
theorem refMono {n n':Nat} (h:n≤n') {x:AV} (hx:refLt n x=true):refLt n' x=true:=by
 cases x <;> first | rfl | (simp only [refLt,decide_eq_true_eq] at hx ⊢; omega)
theorem REF.app {n:Nat} {E F:List (List AV)} (h:REF n E) (h2:REF n F):REF n (E++F):=by
 intro d hd
 rcases List.mem_append.1 hd with q | q
 ·exact h d q
 ·exact h2 d q
theorem ref_nil (n:Nat):REF n []:=fun c hc=>by cases hc
theorem ref_dead (n:Nat) {D:List (List AV)} (h:∀ c∈D,c=dead):REF n D:=fun c hc x hx=>by
 rw [h c hc] at hx
 simp only [dead,List.mem_singleton] at hx
 subst hx; rfl
theorem ref_fl1 (n:Nat):∀ (f:List Tk),∀ x∈fl f,refLt n x=true
 | [],x,hx=>by cases hx
 | t :: f,x,hx=>by
  rw [fl_cons] at hx
  simp only [List.mem_cons] at hx
  rcases hx with rfl | rfl | rfl | hx
  ·rfl
  ·rfl
  ·rfl
  ·exact ref_fl1 n f x hx
theorem ref_fl (n:Nat) (f:List Tk):REF n [fl f]:=fun c hc=>by rw [List.mem_singleton] at hc; rw [hc]; exact ref_fl1 n f
theorem ref_num (n:Nat) (l:List Int) (k:Nat):∀ x∈num l k,refLt n x=true:=fun x hx=>by
 simp only [num,List.mem_cons,List.not_mem_nil,or_false] at hx
 rcases hx with rfl | rfl <;> rfl
theorem REF.rok {R:List (List AV)} (h:REF 0 R):Rok R:=fun l n=>by
 unfold refsOk
 rw [Bool.false_or,List.all_eq_true]
 intro c hc
 rw [List.all_eq_true]
 intro x hx
 rcases List.mem_cons.1 (List.mem_of_mem_take hc) with rfl | hc
 ·exact ref_num _ l n x hx
 ·exact refMono (Nat.zero_le _) (h c hc x hx)
theorem REF.rok1 {R:List (List AV)} (h:REF 0 R) (m:Nat) (l:List Int) (n:Nat):refsOk false m (num l n :: R)=true:=by
 unfold refsOk
 rw [Bool.false_or,List.all_eq_true]
 intro c hc
 rw [List.all_eq_true]
 intro x hx
 rcases List.mem_cons.1 (List.mem_of_mem_take hc) with rfl | hc
 ·exact ref_num _ l n x hx
 ·exact refMono (Nat.zero_le _) (h c hc x hx)
/-- what stands for a fragment that is being made, behind the numbers -/
def FR (v:AV) (R:List (List AV)) (f:List Tk):Prop:=(f=[]∧v=.sl .full 3 [])∨(∃ so,v=.ss (so+1) 0 f.length 3∧R[so]?=some (fl f)∧f≠[])
theorem FR.scrub {v:AV} {R:List (List AV)} {f:List Tk} (h:FR v R f) (k:List Nat):scrubV k v=v:=by
 rcases h with ⟨_,rfl⟩ | ⟨so,rfl,_⟩ <;> rfl
theorem FR.dem {v:AV} {R:List (List AV)} {f:List Tk} (h:FR v R f):demV v=v:=by
 rcases h with ⟨_,rfl⟩ | ⟨so,rfl,_⟩ <;> rfl
theorem FR.arg {v:AV} {R:List (List AV)} {f:List Tk} (h:FR v R f):argB true v=true:=by
 rcases h with ⟨_,rfl⟩ | ⟨so,rfl,_⟩ <;> rfl
theorem FR.fst {v:AV} {R:List (List AV)} {f:List Tk} (h:FR v R f) (c:List AV):FSt v (c :: R) f:=by
 rcases h with ⟨h1,h2⟩ | ⟨so,h1,h2,h3⟩
 ·exact .inl ⟨h1,h2⟩
 ·exact .inr ⟨so+1,h1,by omega,by simpa using h2,h3⟩
theorem fr_stp {c:List AV} {R E:List (List AV)} {v:AV} {sh:List (List AV)} {g:List Tk} (h:StP (c :: R++E) v sh g) (hR:REF 0 R) (hE:REF 0 E):∃ R',sh=c :: R'∧REF 0 R'∧FR v R' g:=by
 rcases h with ⟨rfl,rfl,rfl⟩ | ⟨D,o,t,rfl,rfl,rfl,hD⟩
 ·exact ⟨R++E,rfl,hR.app hE,.inl ⟨rfl,rfl⟩⟩
 ·refine ⟨R++E++D++[fl (o++[t])],rfl,((hR.app hE).app (ref_dead 0 hD)).app (ref_fl 0 _),.inr ⟨(R++E++D).length,?_,gD _ _,by simp⟩⟩
  simp
theorem k58g {n:Nat} (l:List Int) {v:AV} {R:List (List AV)} {f:List Tk} (hR:REF 0 R) (hv:FR v R f) (hvl:VL f) (x:Tk) (hf:f.length≤10000) (ht:tot f+x.2.1.length≤100000) :
  ∃ w R2,REF 0 R2∧FR w R2 (pn f x)∧G0 58 [v,.sl .full 3 [[.int .i64 x.1,.str x.2.1,.int .i64 x.2.2]]] (num l n :: R)=some (w,num l n :: R2):=by
 obtain ⟨E,w,sh',hE,p1,p2⟩:=k58s (hv.fst (num l n)) x hf ht
 have hE':REF 0 E:=by
  rcases hE with rfl | rfl
  ·exact ref_fl 0 _
  ·exact REF.app (E:=[dead]) (ref_dead 0 (by simp)) (ref_fl 0 _)
 obtain ⟨R2,rfl,h1,h2⟩:=fr_stp p1 hR hE'
 rw [nrm_snoc hvl] at h2
 exact ⟨w,R2,h1,h2,Gx_base p2⟩
theorem appFR (l:List Int) {v:AV} {R:List (List AV)} {f:List Tk} (hR:REF 0 R) (hv:FR v R f) (x:Tk) (hf:f.length≤10000) :
  ∃ w R2,REF 0 R2∧FR w R2 (f++[x])∧∀ n,appSA 3 32 (num l n :: R) (some [[.int .i64 x.1,.str x.2.1,.int .i64 x.2.2]]) v=some (w,num l n :: R2):=by
 rcases hv with ⟨rfl,rfl⟩ | ⟨so,rfl,hs,hne⟩
 ·refine ⟨.ss (R.length+1) 0 1 3,R++[fl [x]],hR.app (ref_fl 0 _),.inr ⟨R.length,rfl,gD _ _,by simp⟩,fun n=>?_⟩
  have ha:appOK 32 (([]:List (List AV)).length+1)=true:=appOK_le (by decide) (by decide)
  rw [appSA_nil 3 32 3 (by decide),if_pos ha]
  rfl
 ·have hso:so < R.length:=by
   by_cases q:so < R.length
   ·exact q
   ·rw [List.getElem?_eq_none (by omega)] at hs; cases hs
  refine ⟨.ss (R.length+1) 0 (f++[x]).length 3,R.set so dead++[fl (f++[x])],?_,.inr ⟨R.length,rfl,?_,by simp⟩,fun n=>?_⟩
  ·refine REF.app ?_ (ref_fl 0 _)
   intro c hc
   rcases List.mem_or_eq_of_mem_set hc with q | q
   ·exact hR c q
   ·rw [q]; exact ref_dead 0 (D:=[dead]) (by simp) dead (by simp)
  ·rw [List.getElem?_append_right (by simp)]
   simp
  ·have ha:appOK 32 (f.length+1)=true:=appOK_le (by decide) (by omega)
   have e6:fl f++[[AV.int .i64 x.1,.str x.2.1,.int .i64 x.2.2]].flatten=fl (f++[x]):=by rw [fl_app]; rfl
   rw [appSA_ss (so+1) f.length 32 3 (by decide),List.length_singleton,if_pos ha,List.getElem?_cons_succ,hs]
   simp only [Option.bind_some]
   rw [if_pos ⟨fl_blk f,(fl_len f).symm,fl_nown f⟩,e6,List.set_cons_succ]
   simp
structure FIn (B k n:Nat) (f ops:List Tk) (id:Int) (md:Own):Prop where
 k8:k≤8
 n0:n≤B+20 * (9 - k)∧B≤100000
 f0:f.length≤8 - k
 f1:tot f≤18 * (8 - k)
 o0:ops.length≤8 - k
 o1:∀ t∈ops,t.2.1.length≤18
 i0:0≤id
 i1:id≤8 - (k:Int)
 md0:md≠.no
theorem l97n (B:Nat) (l:List Int):∀ (k n:Nat) (f ops:List Tk) (id:Int) (v:AV) (R:List (List AV)) (md10:Own),FIn B k n f ops id md10→FV f ops id→REF 0 R→FR v R f →
  ∃ n' f' ops' id' v' R' md10',n'≤B+400∧f'.length≤8∧tot f'≤144∧(ops'.length≤8∧(∀ t∈ops',t.2.1.length≤18)∧id'≤8)∧FV f' ops' id'∧REF 0 R'∧FR v' R' f' ∧
   execX G0 L97_0 (ST [(0,.ptr 0 0),(2,.bool true),(3,.bool true),(9,v),(10,.sl md10 3 (tks ops)),(11,.int .i64 id),(12,.int .i64 k)] [] (num l n :: R))=some (.ex 0,ST [(0,.ptr 0 0),(2,.bool true),(3,.bool true),(9,v'),(10,.sl md10' 3 (tks ops')),(11,.int .i64 id'),(12,.int .i64 0),(21,.bool false)] [] (num l n' :: R'))
 | 0,n,f,ops,id,v,R,md10,h,fv,hR0,hv=>by
  obtain ⟨k8,⟨n0,nB⟩,f0,f1,o0,o1,i0,i1,md0⟩:=h
  refine ⟨n,f,ops,id,v,R,md10,by omega,by omega,by omega,⟨by omega,o1,by omega⟩,fv,hR0,hv,?_⟩
  have sc:=hv.scrub
  rw [Y_loop (L:=L97_0) rfl]
  simp only [go_sem,op,mv,↓reduceIte,Nat.reduceAdd,Nat.reduceEqDiff,Nat.reduceLT,Int.reduceNeg,Int.cast_ofNat_Int,Int.reduceLT,Int.reduceAdd,Int.reduceSub,Int.reduceLE,Int.reduceEq,Int.reduceToNat,Nat.reduceSub,Nat.reduceMul,Nat.reduceLeDiff,Int.lt_irrefl,sc]
 | k+1,n,f,ops,id,v,R,md10,h,fv,hR0,hv=>by
  obtain ⟨k8,⟨n0,nB⟩,f0,f1,o0,o1,i0,i1,md0⟩:=h
  have hR:=REF.rok hR0
  have sc:=hv.scrub
  have dm:=hv.dem
  have ag:=hv.arg
  have hk:(0:Int) < ((k+1:Nat):Int):=by omega
  have hwk:IntKind.i64.wrap (((k+1:Nat):Int) - 1)=(k:Int):=by rw [w64 (by omega) (by omega)]; omega
  have hl:=line3 l n
  have h48:=c63r hR l n 3 (by omega) (by decide) (by decide)
  generalize hL:lineF l n 3=L at hl h48
  obtain ⟨s,n1⟩:=L
  simp only [] at hl h48
  have h36:=c41r hR l n1 8 (by omega) (by decide) (by decide)
  have hy:=nxt_bd l n1 8 (by decide)
  generalize nxt l n1 8=y at h36 hy
  by_cases y0:y=0∨y=1
  ·obtain ⟨x,xm,x5,hx,hx0⟩:=tb_at tbA tbA5 l (n1+1) 3 (by decide) rfl
   have h36b:=c41r hR l (n1+1) 3 (by omega) (by decide) (by decide)
   obtain ⟨r2,r1⟩:=tot_pn f (5,x,0)
   obtain ⟨w,R2,hR2,hw,r3⟩:=k58g (n:=n1+2) l hR0 hv fv.vl (5,x,0) (by omega) (by simp only [List.length_cons,List.length_nil]; omega)
   have sw:=hw.scrub
   have dw:=hw.dem
   have fv':=fv_slot fv (tbA_nm x xm)
   simp only [List.length_cons,List.length_nil] at r1 r2 r3
   generalize pn f (5,x,0)=r at r1 r2 r3 fv' hw
   obtain ⟨n',f',ops',id',v',R',md10',p1,p2,p3,p4,pf,pR,pv,p5⟩:=l97n B l k (n1+2) r ops id w R2 md10 ⟨by omega,⟨by omega,nB⟩,by omega,by omega,by omega,o1,i0,by omega,md0⟩ fv' hR2 hw
   refine ⟨n',f',ops',id',v',R',md10',p1,p2,p3,p4,pf,pR,pv,?_⟩
   rcases y0 with rfl | rfl
   ·rw [Y_loop (L:=L97_0) rfl]
    simp only [go_sem,op,mv,↓reduceIte,Nat.reduceAdd,Nat.reduceEqDiff,Nat.reduceLT,Int.reduceNeg,Int.cast_ofNat_Int,Int.reduceLT,Int.reduceAdd,Int.reduceSub,Int.reduceLE,Int.reduceEq,Int.reduceToNat,Nat.reduceSub,Nat.reduceMul,Nat.reduceLeDiff,hk,h48,h36,h36b,mA,hx,hx0,hR l,sc,dm,ag,sw,dw,r3,hwk]
    exact p5
   ·rw [Y_loop (L:=L97_0) rfl]
    simp only [go_sem,op,mv,↓reduceIte,Nat.reduceAdd,Nat.reduceEqDiff,Nat.reduceLT,Int.reduceNeg,Int.cast_ofNat_Int,Int.reduceLT,Int.reduceAdd,Int.reduceSub,Int.reduceLE,Int.reduceEq,Int.reduceToNat,Nat.reduceSub,Nat.reduceMul,Nat.reduceLeDiff,hk,h48,h36,h36b,mA,hx,hx0,hR l,sc,dm,ag,sw,dw,r3,hwk]
    exact p5
  have hid:IntKind.i64.wrap (id+1)=id+1:=w64 (by omega) (by omega)
  by_cases y2:y=2
  ·obtain ⟨x,xm,x5,hx,hx0⟩:=tb_at tbB tbB5 l (n1+1) 2 (by decide) rfl
   have h36b:=c41r hR l (n1+1) 2 (by omega) (by decide) (by decide)
   obtain ⟨r2,r1⟩:=tot_pn f (4,x,id+1)
   obtain ⟨w,R2,hR2,hw,r3⟩:=k58g (n:=n1+2) l hR0 hv fv.vl (4,x,id+1) (by omega) (by simp only [List.length_cons,List.length_nil]; omega)
   have sw:=hw.scrub
   have dw:=hw.dem
   have fv':=fv_tag (k:=4) fv (.inl ⟨rfl,tbB_c x xm⟩) (by omega)
   simp only [List.length_cons,List.length_nil] at r1 r2 r3
   generalize pn f (4,x,id+1)=r at r1 r2 r3 fv' hw
   obtain ⟨n',f',ops',id',v',R',md10',p1,p2,p3,p4,pf,pR,pv,p5⟩:=l97n B l k (n1+2) r ops (id+1) w R2 md10 ⟨by omega,⟨by omega,nB⟩,by omega,by omega,by omega,o1,by omega,by omega,md0⟩ fv' hR2 hw
   refine ⟨n',f',ops',id',v',R',md10',p1,p2,p3,p4,pf,pR,pv,?_⟩
   subst y2
   rw [Y_loop (L:=L97_0) rfl]
   simp only [go_sem,op,mv,↓reduceIte,Nat.reduceAdd,Nat.reduceEqDiff,Nat.reduceLT,Int.reduceNeg,Int.cast_ofNat_Int,Int.reduceLT,Int.reduceAdd,Int.reduceSub,Int.reduceLE,Int.reduceEq,Int.reduceToNat,Nat.reduceSub,Nat.reduceMul,Nat.reduceLeDiff,hk,h48,h36,h36b,mB,hx,hx0,hR l,sc,dm,ag,sw,dw,r3,hwk,hid]
   exact p5
  by_cases y3:y=3∨y=4
  ·obtain ⟨x,xm,x5,hx,hx0⟩:=tb_at tbC tbC5 l (n1+1) 3 (by decide) rfl
   have h36b:=c41r hR l (n1+1) 3 (by omega) (by decide) (by decide)
   obtain ⟨r2,r1⟩:=tot_pn f (2,x,id+1)
   obtain ⟨w,R2,hR2,hw,r3⟩:=k58g (n:=n1+2) l hR0 hv fv.vl (2,x,id+1) (by omega) (by simp only [List.length_cons,List.length_nil]; omega)
   have sw:=hw.scrub
   have dw:=hw.dem
   have fv':=fv_open fv (tbC_c x xm) (by omega)
   simp only [List.length_cons,List.length_nil] at r1 r2 r3
   generalize pn f (2,x,id+1)=r at r1 r2 r3 fv' hw
   have ha:appOK 32 (ops.length+1)=true:=appOK_le (by decide) (by omega)
   obtain ⟨n',f',ops',id',v',R',md10',p1,p2,p3,p4,pf,pR,pv,p5⟩:=l97n B l k (n1+2) r (ops++[(2,x,id+1)]) (id+1) w R2 .own ⟨by omega,⟨by omega,nB⟩,by omega,by omega,by simp only [List.length_append,List.length_cons,List.length_nil]; omega,fun t ht=>by
    rcases List.mem_append.1 ht with h | h
    ·exact o1 t h
    ·simp only [List.mem_cons,List.not_mem_nil,or_false] at h; subst h; simp only; omega,by omega,by omega,by decide⟩ fv' hR2 hw
   refine ⟨n',f',ops',id',v',R',md10',p1,p2,p3,p4,pf,pR,pv,?_⟩
   have e4:tks (ops++[(2,x,id+1)])=tks ops++[[.int .i64 2,.str x,.int .i64 (id+1)]]:=by rw [← tks_app]; rfl
   rw [e4] at p5
   rcases y3 with rfl | rfl
   ·rw [Y_loop (L:=L97_0) rfl]
    simp only [go_sem,op,mv,↓reduceIte,Nat.reduceAdd,Nat.reduceEqDiff,Nat.reduceLT,Int.reduceNeg,Int.cast_ofNat_Int,Int.reduceLT,Int.reduceAdd,Int.reduceSub,Int.reduceLE,Int.reduceEq,Int.reduceToNat,Nat.reduceSub,Nat.reduceMul,Nat.reduceLeDiff,hk,h48,h36,h36b,mC,hx,hx0,hR l,sc,dm,ag,sw,dw,r3,hwk,hid,appA_gen md10 .full md0 3 32 (by decide),tks_len,ha]
    exact p5
   ·rw [Y_loop (L:=L97_0) rfl]
    simp only [go_sem,op,mv,↓reduceIte,Nat.reduceAdd,Nat.reduceEqDiff,Nat.reduceLT,Int.reduceNeg,Int.cast_ofNat_Int,Int.reduceLT,Int.reduceAdd,Int.reduceSub,Int.reduceLE,Int.reduceEq,Int.reduceToNat,Nat.reduceSub,Nat.reduceMul,Nat.reduceLeDiff,hk,h48,h36,h36b,mC,hx,hx0,hR l,sc,dm,ag,sw,dw,r3,hwk,hid,appA_gen md10 .full md0 3 32 (by decide),tks_len,ha]
    exact p5
  by_cases y5:y=5∨y=6
  ·by_cases hop:1≤ops.length
   ·have hm1:IntKind.i64.wrap ((ops.length:Int) - 1)=((ops.length - 1:Nat):Int):=by rw [w64 (by omega) (by omega)]; omega
    have hge:(0:Int)≤((ops.length - 1:Nat):Int):=by omega
    obtain ⟨jn,hjn⟩:∃ jn,jn=ops.length - 1:=⟨_,rfl⟩
    rw [← hjn] at hm1 hge
    have hjl:jn < ops.length:=by omega
    have hg:ops[jn]?=some ops[jn]:=List.getElem?_eq_getElem hjl
    have ht:=o1 _ (List.getElem_mem hjl)
    generalize ops[jn]=T at hg ht
    have hr:=tks_at hg
    have nm2:=c64 T.2.1 (by omega)
    have nm1:=nameOf_le T.2.1
    have j0:(0:Int)≤(jn:Int):=by omega
    have j1:(jn:Int)≤(ops.length:Int):=by omega
    have jw:IntKind.i64.wrap ((jn:Int)+1)=((jn+1:Nat):Int):=by rw [w64 (by omega) (by omega)]; rfl
    have j2:(0:Int)≤((jn+1:Nat):Int):=by omega
    have j3:((jn+1:Nat):Int)≤(ops.length:Int):=by omega
    obtain ⟨r2,r1⟩:=tot_pn f (3,nameOf T.2.1,T.2.2)
    obtain ⟨w,R2,hR2,hw,r3⟩:=k58g (n:=n1+1) l hR0 hv fv.vl (3,nameOf T.2.1,T.2.2) (by omega) (by simp only [List.length_cons,List.length_nil]; omega)
    have sw:=hw.scrub
    have dw:=hw.dem
    have fv':=fv_close fv (by omega) (split_at hg)
    simp only [List.length_cons,List.length_nil] at r1 r2 r3
    generalize pn f (3,nameOf T.2.1,T.2.2)=r at r1 r2 r3 fv' hw
    have ha:appOK 32 (ops.take jn).length=true:=appOK_le (by decide) (by simp; omega)
    have ha2:appOK 32 ((ops.take jn).length+(ops.drop (jn+1)).length)=true:=appOK_le (by decide) (by simp; omega)
    have tk:(tks ops).take jn=tks (ops.take jn):=by simp [tks,List.map_take]
    have td:(tks ops).drop (jn+1)=tks (ops.drop (jn+1)):=by simp [tks,List.map_drop]
    obtain ⟨n',f',ops',id',v',R',md10',p1,p2,p3,p4,pf,pR,pv,p5⟩:=l97n B l k (n1+1) r (ops.take jn++ops.drop (jn+1)) id w R2 .own ⟨by omega,⟨by omega,nB⟩,by omega,by omega,by simp only [List.length_append,List.length_take,List.length_drop]; omega,fun t ht=>by
     rcases List.mem_append.1 ht with h | h
     ·exact o1 t (List.mem_of_mem_take h)
     ·exact o1 t (List.mem_of_mem_drop h),i0,by omega,by decide⟩ fv' hR2 hw
    refine ⟨n',f',ops',id',v',R',md10',p1,p2,p3,p4,pf,pR,pv,?_⟩
    rcases y5 with rfl | rfl
    ·rw [Y_loop (L:=L97_0) rfl]
     simp only [go_sem,op,mv,↓reduceIte,Nat.reduceAdd,Nat.reduceEqDiff,Nat.reduceLT,Int.reduceNeg,Int.cast_ofNat_Int,Int.reduceLT,Int.reduceAdd,Int.reduceSub,Int.reduceLE,Int.reduceEq,Int.reduceToNat,Nat.reduceSub,Nat.reduceMul,Nat.reduceLeDiff,hk,h48,h36,hR l,hwk,hm1,hge,hr,nm2,j0,j1,j2,j3,jw,Bool.not_true,tks_len,tk,td,appA_gen .full .no (by decide) 3 32 (by decide),appA_gen .own .no (by decide) 3 32 (by decide),ha,ha2,tks_app,r3,sc,dm,ag,sw,dw]
     exact p5
    ·rw [Y_loop (L:=L97_0) rfl]
     simp only [go_sem,op,mv,↓reduceIte,Nat.reduceAdd,Nat.reduceEqDiff,Nat.reduceLT,Int.reduceNeg,Int.cast_ofNat_Int,Int.reduceLT,Int.reduceAdd,Int.reduceSub,Int.reduceLE,Int.reduceEq,Int.reduceToNat,Nat.reduceSub,Nat.reduceMul,Nat.reduceLeDiff,hk,h48,h36,hR l,hwk,hm1,hge,hr,nm2,j0,j1,j2,j3,jw,Bool.not_true,tks_len,tk,td,appA_gen .full .no (by decide) 3 32 (by decide),appA_gen .own .no (by decide) 3 32 (by decide),ha,ha2,tks_app,r3,sc,dm,ag,sw,dw]
     exact p5
   ·have hop0:ops=[]:=List.eq_nil_of_length_eq_zero (by omega)
    subst hop0
    obtain ⟨r2,r1⟩:=tot_pn f (1,s,0)
    obtain ⟨w,R2,hR2,hw,r3⟩:=k58g (n:=n1+1) l hR0 hv fv.vl (1,s,0) (by omega) (by simp only [List.length_cons,List.length_nil]; omega)
    have sw:=hw.scrub
    have dw:=hw.dem
    have fv':=fv_text fv (x:=(1,s,0)) rfl
    simp only [List.length_cons,List.length_nil] at r1 r2 r3
    generalize pn f (1,s,0)=r at r1 r2 r3 fv' hw
    obtain ⟨n',f',ops',id',v',R',md10',p1,p2,p3,p4,pf,pR,pv,p5⟩:=l97n B l k (n1+1) r [] id w R2 md10 ⟨by omega,⟨by omega,nB⟩,by omega,by omega,by simp,by simp,i0,by omega,md0⟩ fv' hR2 hw
    refine ⟨n',f',ops',id',v',R',md10',p1,p2,p3,p4,pf,pR,pv,?_⟩
    rw [tks_nil] at p5
    rcases y5 with rfl | rfl
    ·rw [Y_loop (L:=L97_0) rfl]
     simp only [go_sem,op,mv,↓reduceIte,Nat.reduceAdd,Nat.reduceEqDiff,Nat.reduceLT,Int.reduceNeg,Int.cast_ofNat_Int,Int.reduceLT,Int.reduceAdd,Int.reduceSub,Int.reduceLE,Int.reduceEq,Int.reduceToNat,Nat.reduceSub,Nat.reduceMul,Nat.reduceLeDiff,hk,h48,h36,hR l,hwk,tks_nil,Bool.not_true,r3,sc,dm,ag,sw,dw]
     exact p5
    ·rw [Y_loop (L:=L97_0) rfl]
     simp only [go_sem,op,mv,↓reduceIte,Nat.reduceAdd,Nat.reduceEqDiff,Nat.reduceLT,Int.reduceNeg,Int.cast_ofNat_Int,Int.reduceLT,Int.reduceAdd,Int.reduceSub,Int.reduceLE,Int.reduceEq,Int.reduceToNat,Nat.reduceSub,Nat.reduceMul,Nat.reduceLeDiff,hk,h48,h36,hR l,hwk,tks_nil,Bool.not_true,r3,sc,dm,ag,sw,dw]
     exact p5
  ·have y7:y=7:=by omega
   subst y7
   obtain ⟨r2,r1⟩:=tot_pn f (1,s,0)
   obtain ⟨w,R2,hR2,hw,r3⟩:=k58g (n:=n1+1) l hR0 hv fv.vl (1,s,0) (by omega) (by simp only [List.length_cons,List.length_nil]; omega)
   have sw:=hw.scrub
   have dw:=hw.dem
   have fv':=fv_text fv (x:=(1,s,0)) rfl
   simp only [List.length_cons,List.length_nil] at r1 r2 r3
   generalize pn f (1,s,0)=r at r1 r2 r3 fv' hw
   obtain ⟨n',f',ops',id',v',R',md10',p1,p2,p3,p4,pf,pR,pv,p5⟩:=l97n B l k (n1+1) r ops id w R2 md10 ⟨by omega,⟨by omega,nB⟩,by omega,by omega,by omega,o1,i0,by omega,md0⟩ fv' hR2 hw
   refine ⟨n',f',ops',id',v',R',md10',p1,p2,p3,p4,pf,pR,pv,?_⟩
   rw [Y_loop (L:=L97_0) rfl]
   simp only [go_sem,op,mv,↓reduceIte,Nat.reduceAdd,Nat.reduceEqDiff,Nat.reduceLT,Int.reduceNeg,Int.cast_ofNat_Int,Int.reduceLT,Int.reduceAdd,Int.reduceSub,Int.reduceLE,Int.reduceEq,Int.reduceToNat,Nat.reduceSub,Nat.reduceMul,Nat.reduceLeDiff,hk,h48,h36,hR l,hwk,r3,sc,dm,ag,sw,dw]
   exact p5

theorem l97c (l:List Int) (n':Nat) (ops:List Tk) (id:Int) (hid:id≤999) (k12:AV) (s12:∀ k,scrubV k k12=k12) (md10:Own) (ho:ops.length≤8) (o1:∀ t∈ops,t.2.1.length≤18):∀ (k:Nat) (f:List Tk) (v:AV) (R:List (List AV)),k≤ops.length→f.length+k≤16→tot f+18 * k≤300→FV f (ops.take k) id→REF 0 R→FR v R f →
  ∃ g w R2,g.length≤16∧tot g≤300∧FV g [] id∧REF 0 R2∧FR w R2 g ∧
   execX G0 L97_1 (ST [(0,.ptr 0 0),(2,.bool true),(3,.bool true),(9,v),(10,.sl md10 3 (tks ops)),(11,.int .i64 id),(12,k12),(15,.int .i64 ((k:Int) - 1)),(21,.bool false)] [] (num l n' :: R))=some (.ex 3,ST [(0,.ptr 0 0),(2,.bool true),(3,.bool true),(9,w),(10,.sl md10 3 (tks ops)),(11,.int .i64 id),(12,k12),(15,.int .i64 (-1)),(21,.bool false),(122,.bool false)] [] (num l n' :: R2))
 | 0,f,v,R,hk,h1,h2,fv,hR,hv=>by
  refine ⟨f,v,R,by omega,by omega,by simpa using fv,hR,hv,?_⟩
  have sc:=hv.scrub
  have hz:¬ (0:Int)≤((0:Nat):Int) - 1:=by decide
  have hz2:((0:Nat):Int) - 1 = -1:=rfl
  rw [hz2]
  have hz:¬ (0:Int)≤(-1:Int):=by decide
  rw [Y_loop (L:=L97_1) rfl]
  simp only [go_sem,op,mv,↓reduceIte,Nat.reduceAdd,Nat.reduceEqDiff,Nat.reduceLT,Int.reduceNeg,Int.cast_ofNat_Int,Int.reduceLT,Int.reduceAdd,Int.reduceSub,Int.reduceLE,Int.reduceEq,Int.reduceToNat,Nat.reduceSub,Nat.reduceMul,Nat.reduceLeDiff,hz,sc,s12]
 | k+1,f,v,R,hk,h1,h2,fv,hR,hv=>by
  have hg:ops[k]?=some ops[k]:=List.getElem?_eq_getElem (by omega)
  have ht:=o1 _ (List.getElem_mem (show k < ops.length by omega))
  have hts:ops.take (k+1)=ops.take k++ops[k] :: []:=by rw [List.take_add_one,hg]; rfl
  generalize ops[k]=T at hg ht hts
  have hr:=tks_at hg
  have nm2:=c64 T.2.1 (by omega)
  have nm1:=nameOf_le T.2.1
  have fv':=fv_close fv hid hts
  rw [pn_nt (by decide),List.append_nil] at fv'
  obtain ⟨w,R2,hR2,hw,ha⟩:=appFR l hR hv (3,nameOf T.2.1,T.2.2) (by omega)
  have ha:=ha n'
  simp only [] at ha
  obtain ⟨g,w',R3,g1,g2,g3,g4,g5,g6⟩:=l97c l n' ops id hid k12 s12 md10 ho o1 k (f++[(3,nameOf T.2.1,T.2.2)]) w R2 (by omega) (by simp; omega) (by rw [tot_app,tot_cons,tot_nil]; simp only []; omega) fv' hR2 hw
  refine ⟨g,w',R3,g1,g2,g3,g4,g5,?_⟩
  have e1:((k+1:Nat):Int) - 1=(k:Int):=by omega
  have hk0:(0:Int)≤(k:Int):=by omega
  have hw1:IntKind.i64.wrap ((k:Int) - 1)=(k:Int) - 1:=w64 (by omega) (by omega)
  have sc:=hv.scrub
  have dm:=hv.dem
  have sw:=hw.scrub
  have dw:=hw.dem
  rw [e1]
  rw [Y_loop (L:=L97_1) rfl]
  simp only [go_sem,op,mv,↓reduceIte,Nat.reduceAdd,Nat.reduceEqDiff,Nat.reduceLT,Int.reduceNeg,Int.cast_ofNat_Int,Int.reduceLT,Int.reduceAdd,Int.reduceSub,Int.reduceLE,Int.reduceEq,Int.reduceToNat,Nat.reduceSub,Nat.reduceMul,Nat.reduceLeDiff,hk0,hr,nm2,tks_len,ha,hw1,sc,dm,sw,dw,s12]
  exact g6
theorem k97 (l:List Int) (p:Nat) (hp:p≤90000) (N:Int) (hN:1≤N) (hN8:N≤8):∃ n' f,n'≤p+500∧f.length≤16∧tot f≤300∧vld f=0∧G0 97 [.ptr 0 0,.int .i64 N,.bool true,.bool true] [num l p]=some (.sl .no 3 (tks f),[num l n']):=by
 have hb:=nxt_bd l p (N+1) (by omega)
 have h36:=c41 l p (N+1) (by omega) (by omega) (by omega)
 have hc:(((nxt l p (N+1)).toNat:Nat):Int)=nxt l p (N+1):=by omega
 obtain ⟨n',f,ops,id,v,R,md10,p1,p2,p3,⟨p4,p4b,p4c⟩,pf,pR,pv,p5⟩:=l97n p l (nxt l p (N+1)).toNat (p+1) [] [] 0 (.sl .full 3 []) [] .full ⟨by omega,⟨by omega,by omega⟩,by simp,by rw [tot_nil]; omega,by simp,by simp,by omega,by omega,by decide⟩ fv_nil (ref_nil 0) (.inl ⟨rfl,rfl⟩)
 rw [hc] at p5
 simp only [tks_nil] at p5
 have hid:id≤999:=by omega
 obtain ⟨g,w,R2,g1,g2,g3,g4,g5,g6⟩:=l97c l n' ops id hid (.int .i64 0) (fun _=>rfl) md10 p4 p4b ops.length f v R (Nat.le_refl _) (by omega) (by omega) (by rw [List.take_length]; exact pf) pR pv
 have hL:=len_le g
 refine ⟨n',g,by omega,g1,g2,(vld_iff g).2 ⟨g3.vl,by omega,by omega⟩,?_⟩
 have hwN:IntKind.i64.wrap (N+1)=N+1:=w64 (by omega) (by omega)
 have hw:IntKind.i64.wrap ((ops.length:Int) - 1)=(ops.length:Int) - 1:=w64 (by omega) (by omega)
 have sc:=pv.scrub
 have sw:=g5.scrub
 have hk:=g4.rok1 1 l n'
 refine contract F97 rfl rfl rfl ?_
 rcases g5 with ⟨rfl,rfl⟩ | ⟨so,rfl,hs,hne⟩
 ·simp only [F97,go_sem,op,mv,↓reduceIte,Nat.reduceAdd,Nat.reduceEqDiff,Nat.reduceLT,Int.reduceNeg,Int.cast_ofNat_Int,Int.reduceLT,Int.reduceAdd,Int.reduceSub,Int.reduceLE,Int.reduceEq,Int.reduceToNat,Nat.reduceSub,Nat.reduceMul,Nat.reduceLeDiff,hwN,h36,p5,tks_len,hw,g6,sc,hk,List.take_succ_cons,List.take_zero,tks_nil]
 ·have hr:=rowsC_fl g
  have hd:sameDead [num l p] (num l n' :: R2)=true:=rfl
  simp only [F97,go_sem,op,mv,↓reduceIte,Nat.reduceAdd,Nat.reduceEqDiff,Nat.reduceLT,Int.reduceNeg,Int.cast_ofNat_Int,Int.reduceLT,Int.reduceAdd,Int.reduceSub,Int.reduceLE,Int.reduceEq,Int.reduceToNat,Nat.reduceSub,Nat.reduceMul,Nat.reduceLeDiff,hwN,h36,p5,tks_len,hw,g6,sc,hk,List.take_succ_cons,List.take_zero,hs,hr,hd,List.getElem?_cons_succ]
end Go.Av
namespace Go.Av
open Go.Nt
set_option linter.unusedSimpArgs false
set_option linter.unusedVariables false
set_option maxHeartbeats 16000000
set_option maxRecDepth 100000
theorem vl_pre {a b:List Tk} (h:VL (a++b)):VL a:=by
 unfold VL at h ⊢
 rw [chks_app] at h
 split at h
 ·rename_i q; exact absurd h q
 ·rename_i q; exact Decidable.not_not.1 q
theorem vl_at {f:List Tk} (h:VL f) {i:Nat} {x:Tk} (hg:f[i]?=some x):VL (f.take i)∧chk (f.take i) x=0∧f.take (i+1)=f.take i++[x]:=by
 have ht:f.take (i+1)=f.take i++[x]:=by rw [List.take_add_one,hg]; rfl
 have h1:VL (f.take (i+1)):=vl_pre (b:=f.drop (i+1)) (by rw [List.take_append_drop]; exact h)
 rw [ht] at h1
 obtain ⟨a,b⟩:=(chks_snoc _ _).1 h1
 exact ⟨a,b,ht⟩
theorem line2 (l:List Int) (n:Nat):(lineF l n 2).1.length≤12∧(lineF l n 2).2≤n+8:=by
 have hb:=nxt_bd l n 3 (by omega)
 have h1:=lnF_len l (nxt l n 3).toNat (n+1) []
 have h2:=lnF_n l (nxt l n 3).toNat (n+1) []
 simp only [List.length_nil] at h1
 show (lnF l (nxt l n 3).toNat (n+1) []).1.length≤12∧(lnF l (nxt l n 3).toNat (n+1) []).2≤n+8
 omega
def tbT (s:Bs):List Bs:=[[114,111,116],[100,97,115,32,65,117,116,111],[],[101,105,110,32]++s,s]
theorem tbT_at (s:Bs) (l:List Int) (n:Nat):∃ x:Bs,x.length≤s.length+8∧(strs (tbT s))[(nxt l n 5).toNat]?=some [.str x]∧0≤nxt l n 5:=by
 have hb:=nxt_bd l n 5 (by decide)
 generalize nxt l n 5=y at hb
 obtain ⟨k,rfl⟩:∃ k:Nat,y=(k:Int):=⟨y.toNat,by omega⟩
 have hk:k < 5:=by omega
 rw [Int.toNat_natCast]
 match k,hk with
 | 0,_=>exact ⟨_,by simp,rfl,by omega⟩
 | 1,_=>exact ⟨_,by simp,rfl,by omega⟩
 | 2,_=>exact ⟨_,by simp,rfl,by omega⟩
 | 3,_=>exact ⟨[101,105,110,32]++s,by simp,rfl,by omega⟩
 | 4,_=>exact ⟨_,Nat.le_add_right _ _,rfl,by omega⟩
theorem l98k (l:List Int) (f:List Tk) (hf:f.length≤16) (hft:tot f≤300) (hv:VL f) (o:Own) (B:Nat) (hB:B≤100000):∀ (k i n:Nat) (t:List Tk) (md:Own),i+k=f.length→n≤B+20 * i→VL t→tg t=tg (f.take i)→t.length≤2 * i→tot t≤tot (f.take i)+20 * i →
  ∃ n' t' md',n'≤B+20 * f.length∧VL t'∧tg t'=tg f∧t'.length≤2 * f.length∧tot t'≤tot f+20 * f.length ∧
   execX G0 L98_0 (ST [(0,.ptr 0 0),(1,.sl o 3 (tks f)),(5,.sl md 3 (tks t)),(9,.int .i64 f.length),(10,.int .i64 i)] [] [num l n])=some (.ex 0,ST [(0,.ptr 0 0),(1,.sl o 3 (tks f)),(5,.sl md' 3 (tks t')),(9,.int .i64 f.length),(10,.int .i64 f.length),(11,.bool false)] [] [num l n'])
 | 0,i,n,t,md,h,hn,h1,h2,h3,h4=>by
  have:i=f.length:=by omega
  subst this
  rw [List.take_length] at h2 h4
  refine ⟨n,t,md,hn,h1,h2,h3,h4,?_⟩
  rw [Y_loop (L:=L98_0) rfl]
  simp only [go_sem,op,mv,↓reduceIte,Nat.reduceAdd,Nat.reduceEqDiff,Nat.reduceLT,Int.lt_irrefl]
 | k+1,i,n,t,md,h,hn,h1,h2,h3,h4=>by
  have hi:i < f.length:=by omega
  have c4:(i:Int) < (f.length:Int):=by omega
  have c0:(0:Int)≤(i:Int):=by omega
  have hw:IntKind.i64.wrap ((i:Int)+1)=((i+1:Nat):Int):=by rw [w64 (by omega) (by omega)]; rfl
  have hg:f[i]?=some f[i]:=List.getElem?_eq_getElem hi
  have hs:=tot_le' _ (List.getElem_mem hi)
  generalize f[i]=T at hg hs
  obtain ⟨v1,v2,v3⟩:=vl_at hv hg
  have hr:=tks_at hg
  have ht1:tot (f.take (i+1))=tot (f.take i)+T.2.1.length:=by rw [v3,tot_app,tot_cons,tot_nil]; omega
  have htl:tot (f.take i)≤300:=by
   have:tot f=tot (f.take i)+tot (f.drop i):=by rw [← tot_app,List.take_append_drop]
   omega
  obtain ⟨kk,s,id⟩:=T
  simp only [] at hr hs ht1
  by_cases hk:kk=1
  ·subst hk
   obtain ⟨x,x1,x2,x3⟩:=tbT_at s l n
   have h36:=c41 l n 5 (by omega) (by decide) (by decide)
   have hcap:[(101:UInt8),105,110,32].length+s.length≤140737488355328:=by simp; omega
   have hcap2:s.length≤140737488355324:=by omega
   have hcap3:4+s.length≤140737488355328:=by omega
   have x2':[[AV.str [114,111,116]],[AV.str [100,97,115,32,65,117,116,111]],[AV.str []],[AV.str (101 :: 105 :: 110 :: 32 :: s)],[AV.str s]][(nxt l n 5).toNat]?=some [.str x]:=x2
   obtain ⟨r2,r1⟩:=tot_pn t (1,x,id)
   have r3:=c37x h1 (1,x,id) (by omega) (by simp only []; omega)
   have p1:=VL_pn_text (x:=(1,x,id)) h1 rfl
   have p2:=tg_pn_text (f:=t) (x:=(1,x,id)) rfl
   simp only [] at r1 r2 r3
   have et:tg (f.take (i+1))=tg (f.take i):=by rw [v3,tg_app,tg_no (by rfl),List.append_nil]
   obtain ⟨n',t',md',q1,q2,q3,q4,q5,q6⟩:=l98k l f hf hft hv o B hB k (i+1) (n+1) (pn t (1,x,id)) .no (by omega) (by omega) p1 (by rw [p2,et]; exact h2) (by omega) (by omega)
   refine ⟨n',t',md',q1,q2,q3,q4,q5,?_⟩
   rw [Y_loop (L:=L98_0) rfl]
   simp only [go_sem,op,mv,↓reduceIte,Nat.reduceAdd,Nat.reduceEqDiff,Nat.reduceLT,c4,c0,hr,hw,hcap,hcap2,hcap3,h36,x2',x3,num_ok,r3]
   exact q6
  ·have h36:=c41 l n 3 (by omega) (by decide) (by decide)
   have hy:=nxt_bd l n 3 (by decide)
   generalize nxt l n 3=y at h36 hy
   have et:tg (f.take (i+1))=tg (f.take i++[(kk,s,id)]):=by rw [v3]
   by_cases y0:y=0
   ·subst y0
    obtain ⟨w1,w2⟩:=line2 l (n+1)
    have h48:=c63 l (n+1) 2 (by omega) (by decide) (by decide)
    generalize hL:lineF l (n+1) 2=L at w1 w2 h48
    obtain ⟨u,n1⟩:=L
    simp only [] at w1 w2 h48
    obtain ⟨r2,r1⟩:=tot_pn t (1,u,0)
    have r3:=c37x h1 (1,u,0) (by omega) (by simp only []; omega)
    have p1:=VL_pn_text (x:=(1,u,0)) h1 rfl
    have p2:=tg_pn_text (f:=t) (x:=(1,u,0)) rfl
    simp only [] at r1 r2 r3
    generalize pn t (1,u,0)=t1 at r1 r2 r3 p1 p2
    obtain ⟨e1,e2,e3⟩:=pn_tag (f:=t1) (g:=f.take i) (x:=(kk,s,id)) hk p1 (by rw [p2]; exact h2) v2
    obtain ⟨r5,r4⟩:=tot_pn t1 (kk,s,id)
    have r6:=c37x p1 (kk,s,id) (by omega) (by simp only []; omega)
    simp only [] at r4 r5 r6
    generalize pn t1 (kk,s,id)=t2 at r4 r5 r6 e1 e2 e3
    obtain ⟨n',t',md',q1,q2,q3,q4,q5,q6⟩:=l98k l f hf hft hv o B hB k (i+1) n1 t2 .no (by omega) (by omega) e2 (by rw [e3,et]) (by omega) (by omega)
    refine ⟨n',t',md',q1,q2,q3,q4,q5,?_⟩
    rw [Y_loop (L:=L98_0) rfl]
    simp only [go_sem,op,mv,↓reduceIte,Nat.reduceAdd,Nat.reduceEqDiff,Nat.reduceLT,c4,c0,hr,hw,hk,h36,h48,num_ok,r3,r6]
    exact q6
   ·obtain ⟨e1,e2,e3⟩:=pn_tag (f:=t) (g:=f.take i) (x:=(kk,s,id)) hk h1 h2 v2
    obtain ⟨r5,r4⟩:=tot_pn t (kk,s,id)
    have r6:=c37x h1 (kk,s,id) (by omega) (by simp only []; omega)
    simp only [] at r4 r5 r6
    generalize pn t (kk,s,id)=t2 at r4 r5 r6 e1 e2 e3
    obtain ⟨n',t',md',q1,q2,q3,q4,q5,q6⟩:=l98k l f hf hft hv o B hB k (i+1) (n+1) t2 .no (by omega) (by omega) e2 (by rw [e3,et]) (by omega) (by omega)
    refine ⟨n',t',md',q1,q2,q3,q4,q5,?_⟩
    rw [Y_loop (L:=L98_0) rfl]
    simp only [go_sem,op,mv,↓reduceIte,Nat.reduceAdd,Nat.reduceEqDiff,Nat.reduceLT,c4,c0,hr,hw,hk,h36,y0,num_ok,r6]
    exact q6
theorem k98 (l:List Int) (p:Nat) (hp:p≤90000) (f:List Tk) (hf:f.length≤16) (hft:tot f≤300) (hv:vld f=0) (o:Own):∃ n' t,n'≤p+400∧t.length≤32∧tot t≤700∧vld t=0∧tg t=tg f∧G0 98 [.ptr 0 0,.sl o 3 (tks f)] [num l p]=some (.sl .no 3 (tks t),[num l n']):=by
 obtain ⟨n',t,md,q1,q2,q3,q4,q5,q6⟩:=l98k l f hf hft ((vld_iff f).1 hv).1 o p (by omega) f.length 0 p [] .full (by omega) (by omega) rfl rfl (by simp) (by rw [tot_nil]; omega)
 have ec:((0:Nat):Int)=0:=rfl
 rw [ec,tks_nil] at q6
 have hL:=len_le t
 refine ⟨n',t,by omega,by omega,by omega,(vld_iff t).2 ⟨q2,by omega,by omega⟩,q3,?_⟩
 refine contract F98 rfl rfl rfl ?_
 simp only [F98,go_sem,op,mv,↓reduceIte,Nat.reduceAdd,Nat.reduceEqDiff,Nat.reduceLT,tks_len,q6,num_ok,List.take_succ_cons,List.take_zero]
end Go.Av
namespace Go.Av
open Go.Nt
set_option linter.unusedSimpArgs false
set_option linter.unusedVariables false
set_option maxHeartbeats 16000000
set_option maxRecDepth 100000
theorem tb_in (tb:List Bs) (l:List Int) (n:Nat) (m:Int) (hm:1≤m) (h:m=(tb.length:Int)):∃ x:Bs,x∈tb∧(strs tb)[(nxt l n m).toNat]?=some [.str x]∧0≤nxt l n m:=by
 have hb:=nxt_bd l n m hm
 have hi:(nxt l n m).toNat < tb.length:=by omega
 exact ⟨tb[(nxt l n m).toNat],List.getElem_mem hi,strs_at (List.getElem?_eq_getElem hi),hb.1⟩
def tbF:List Bs:=[[83,97,118,101],[114,101,100,32,99,97,114],[82,101,100,32,99,97,114,115]]
def tbP:List Bs:=[[],[],[83,97,118,101],[114,101,100,32,99,97,114]]
def tbN:List Bs:=[[],[],[120],[83,97,118,101]]
def tbU:List Bs:=[[],[97,110,110],[98,111,98]]
def tbJ:List Bs:=[[],[112],[113]]
theorem mF:mksA 1 [.str []] 3 [0,1,2] [.str [83,97,118,101],.str [114,101,100,32,99,97,114],.str [82,101,100,32,99,97,114,115]]=some (.sl .full 1 (strs tbF)):=by rfl
theorem mP:mksA 1 [.str []] 4 [0,1,2,3] [.str [],.str [],.str [83,97,118,101],.str [114,101,100,32,99,97,114]]=some (.sl .full 1 (strs tbP)):=by rfl
theorem mN:mksA 1 [.str []] 4 [0,1,2,3] [.str [],.str [],.str [120],.str [83,97,118,101]]=some (.sl .full 1 (strs tbN)):=by rfl
theorem mU:mksA 1 [.str []] 3 [0,1,2] [.str [],.str [97,110,110],.str [98,111,98]]=some (.sl .full 1 (strs tbU)):=by rfl
theorem mJ:mksA 1 [.str []] 3 [0,1,2] [.str [],.str [112],.str [113]]=some (.sl .full 1 (strs tbJ)):=by rfl
theorem tbF_v:∀ x∈tbF,vld [(1,x,0)]=0:=by decide +kernel
theorem tbF_l:∀ x∈tbF,x.length≤8:=by decide
theorem tbP_p:∀ x∈tbP,perr x=0:=by decide +kernel
theorem tbP_l:∀ x∈tbP,x.length≤7:=by decide
theorem tbN_p:∀ x∈tbN,perr x=0:=by decide +kernel
theorem tbN_l:∀ x∈tbN,x.length≤4:=by decide
theorem tbU_n:∀ x∈tbU,nmOk x=true:=by decide
theorem tbU_l:∀ x∈tbU,x.length≤3:=by decide
theorem tbJ_n:∀ x∈tbJ,nmOk x=true:=by decide
theorem tbJ_l:∀ x∈tbJ,x.length≤1:=by decide
/-- a valid entry of bounded texts, its target with no tag of its own -/
def GE (e:En):Prop:=VE e∧BE e
theorem sub_tg {s t:List Tk} (h:tg t=tg s):∀ i∈nums t,i∈nums s:=by
 intro i hi
 obtain ⟨x,h1,h2,rfl⟩:=nums_from hi
 have:x∈tg t:=List.mem_filter.2 ⟨h1,h2⟩
 rw [h] at this
 exact nums_tag (List.mem_filter.1 this).1 h2
theorem tg_map (g f:List Tk):tg (f.map (phi g))=(tg f).map (phi g):=by
 induction f with
 | nil=>rfl
 | cons x f ih =>
  unfold tg at ih ⊢
  rw [List.map_cons,List.filter_cons,List.filter_cons,phi_tag,ih]
  cases isTag x <;> rfl
theorem GE_mk {f t:List Tk} {p n a j:Bs} {c o:Int} (hf:vld f=0) (ht:vld t=0) (hne:f≠[]) (htg:tg t=tg f) (pp:perr p=0) (pn:perr n=0) (na:nmOk a=true) (nj:nmOk j=true) (c0:0≤c) (c1:c≤1073741824) (o1:1≤o) (o3:o≤3) (lp:p.length≤50000) (ln:n.length≤50000) (la:a.length≤1000) (lj:j.length≤1000):GE ⟨canS f t,canT f t,p,n,a,j,c,o⟩:=by
 have hv:=mkVE hf ht hne pp pn na nj c0 c1 o1 o3
 refine ⟨hv,hv.vS,hv.vT,?_,lp,ln,la,lj⟩
 have hl:=nums_le hf ht
 show ∀ i∈nums (canT f t),i∈nums (canS f t)
 rw [(canS_vld hl hf).1,(canT_vld hl ht).1]
 exact sub_tg (by rw [tg_map,tg_map,htg])
theorem k55 (l:List Int) (p:Nat) (hp:p≤80000):∃ n' e,n'≤p+1000∧GE e∧G0 55 [.ptr 0 0] [num l p]=some (.agg (rowE e),[num l n']):=by
 obtain ⟨n1,f,a1,a2,a3,a4,a5⟩:=k97 l p (by omega) 4 (by decide) (by decide)
 obtain ⟨f2,n2,o,b1,b2,b3,b4,b5,b6⟩:∃ (f2:List Tk) (n2:Nat) (o:Own),n2≤p+501∧f2.length≤16∧tot f2≤300∧vld f2=0∧f2≠[] ∧
   ((f≠[]∧f2=f∧n2=n1∧o=.no)∨(f=[]∧n2=n1+1∧o=.full∧∃ x,f2=[(1,x,0)]∧(strs tbF)[(nxt l n1 3).toNat]?=some [.str x]∧0≤nxt l n1 3)):=by
  by_cases h:f=[]
  ·obtain ⟨x,x1,x2,x3⟩:=tb_in tbF l n1 3 (by decide) rfl
   have:=tbF_l x x1
   exact ⟨[(1,x,0)],n1+1,.full,by omega,by simp,by rw [tot_cons,tot_nil]; simp only []; omega,tbF_v x x1,by simp,.inr ⟨h,rfl,rfl,x,rfl,x2,x3⟩⟩
  ·exact ⟨f,n1,.no,by omega,a2,a3,a4,h,.inl ⟨h,rfl,rfl,rfl⟩⟩
 obtain ⟨n3,t,c1,c2,c3,c4,c5,c6⟩:=k98 l n2 (by omega) f2 b2 b3 b4 o
 have d1:=k76 f2 t (by omega) (by omega)
 obtain ⟨xp,p1,p2,p3⟩:=tb_in tbP l n3 4 (by decide) rfl
 obtain ⟨xn,q1,q2,q3⟩:=tb_in tbN l (n3+1) 4 (by decide) rfl
 obtain ⟨xu,u1,u2,u3⟩:=tb_in tbU l (n3+2) 3 (by decide) rfl
 obtain ⟨xj,j1,j2,j3⟩:=tb_in tbJ l (n3+3) 3 (by decide) rfl
 have e1:=c41 l n3 4 (by omega) (by decide) (by decide)
 have e2:=c41 l (n3+1) 4 (by omega) (by decide) (by decide)
 have e3:=c41 l (n3+2) 3 (by omega) (by decide) (by decide)
 have e4:=c41 l (n3+3) 3 (by omega) (by decide) (by decide)
 have e5:=c41 l (n3+4) 50 (by omega) (by decide) (by decide)
 have e6:=c41 l (n3+5) 3 (by omega) (by decide) (by decide)
 have e7:=c41 l n1 3 (by omega) (by decide) (by decide)
 have y5:=nxt_bd l (n3+4) 50 (by decide)
 have y6:=nxt_bd l (n3+5) 3 (by decide)
 have hw:IntKind.i64.wrap (1+nxt l (n3+5) 3)=1+nxt l (n3+5) 3:=w64 (by omega) (by omega)
 have l1:=tbP_l xp p1
 have l2:=tbN_l xn q1
 have l3:=tbU_l xu u1
 have l4:=tbJ_l xj j1
 refine ⟨n3+6,⟨canS f2 t,canT f2 t,xp,xn,xu,xj,nxt l (n3+4) 50,1+nxt l (n3+5) 3⟩,by omega,GE_mk b4 c4 b5 c5 (tbP_p xp p1) (tbN_p xn q1) (tbU_n xu u1) (tbJ_n xj j1) y5.1 (by omega) (by omega) (by omega) (by omega) (by omega) (by omega) (by omega),?_⟩
 refine contract F55 rfl rfl rfl ?_
 rcases b6 with ⟨h,rfl,rfl,rfl⟩ | ⟨rfl,rfl,rfl,x,rfl,x2,x3⟩
 ·have hne:=nz_len h
  simp only [F55,rowE,go_sem,op,mv,↓reduceIte,Nat.reduceAdd,Nat.reduceEqDiff,Nat.reduceLT,Int.reduceNeg,Int.cast_ofNat_Int,Int.reduceLT,Int.reduceAdd,Int.reduceSub,Int.reduceLE,Int.reduceEq,Int.reduceToNat,Nat.reduceSub,Nat.reduceMul,Nat.reduceLeDiff,a5,tks_len,hne,c6,d1,mP,mN,mU,mJ,p2,p3,q2,q3,u2,u3,j2,j3,e1,e2,e3,e4,e5,e6,hw,num_ok,List.take_succ_cons,List.take_zero]
 ·have et:tks [(1,x,0)]=[[.int .i64 1,.str x,.int .i64 0]]:=rfl
  rw [et] at c6 d1
  simp only [F55,rowE,go_sem,op,mv,↓reduceIte,Nat.reduceAdd,Nat.reduceEqDiff,Nat.reduceLT,Int.reduceNeg,Int.cast_ofNat_Int,Int.reduceLT,Int.reduceAdd,Int.reduceSub,Int.reduceLE,Int.reduceEq,Int.reduceToNat,Nat.reduceSub,Nat.reduceMul,Nat.reduceLeDiff,a5,tks_nil,e7,mF,x2,x3,c6,d1,mP,mN,mU,mJ,p2,p3,q2,q3,u2,u3,j2,j3,e1,e2,e3,e4,e5,e6,hw,num_ok,List.take_succ_cons,List.take_zero]
end Go.Av
namespace Go.Av
open Go.Nt
set_option linter.unusedSimpArgs false
set_option linter.unusedVariables false
set_option maxHeartbeats 16000000
set_option maxRecDepth 100000
/-- an entry out of numbers that is not spoiled -/
theorem k21 (l:List Int):∃ e,GE e∧G0 21 [.sl .no 1 (ints l),.int .i64 0] []=some (.agg (rowE e),[]):=by
 obtain ⟨n',e,_,h,h2⟩:=k55 l 0 (by omega)
 refine ⟨e,h,?_⟩
 have h3:=c18 0 16 (by decide) (by decide)
 have e0:(0:Int) % 16=0:=rfl
 rw [e0] at h3
 have hn:num l 0=[.sl .no 1 (ints l),.int .i64 0]:=rfl
 rw [hn] at h2
 simp only [rowE] at h2
 refine contract F21 rfl rfl rfl ?_
 simp only [F21,rowE,go_sem,op,mv,↓reduceIte,Nat.reduceAdd,Nat.reduceEqDiff,Nat.reduceLT,h2,h3,Int.reduceEq,decide_false]
def MG (m:List En):Prop:=Mem m∧∀ e∈m,GE e
theorem MG.nil:MG []:=⟨mem_nil,fun e h=>by cases h⟩
theorem MG.be {m:List En} (h:MG m):∀ e∈m,BE e:=fun e he=>(h.2 e he).2
theorem MG.put {m:List En} (h:MG m) {e:En} (he:GE e):MG (putM m e):=by
 refine ⟨mem_putM h.1 he.1,fun z hz=>?_⟩
 rcases mem_put.1 hz with q | q
 ·rw [q]; exact he
 ·exact h.2 z q.1
theorem MG.ok {m:List En} (h:MG m) (hl:m.length≤1024):okM m=true:=(okM_iff m).2 ⟨hl,h.1⟩
theorem MG.putE {m:List En} (h:MG m) (hl:m.length < 1024) {e:En} (he:GE e):Go.Av.putE m e=0∧putV m e=putM m e:=
 putE_0 (h.ok (by omega)) ((vE_iff e).2 he.1) (fun q=>by have:=q.2; omega)
/-! equal entries -/
/-! the fixed example -/
def ek:En:=⟨[(1,[83,97,118,101],0)],[(1,[83,105,99,104,101,114,110],0)],[],[120],[],[],0,1⟩
theorem ek_v:vE ek=0:=by decide +kernel
theorem ek_ge:GE ek:=⟨(vE_iff ek).1 ek_v,((vE_iff ek).1 ek_v).vS,((vE_iff ek).1 ek_v).vT,by decide +kernel,by decide,by decide,by decide,by decide⟩
theorem ek_key:keyE ek=[83,97,118,101,10,10,120]:=by decide +kernel
theorem mg1 {e:En} (h:GE e):MG [e]:=by
 have:=MG.nil.put h
 exact this
theorem k20:G0 20 [] []=some (.bool true,[]):=by
 have a1:=k27 [] (by simp) MG.nil.be ek ek_ge.2
 rw [(MG.nil.putE (by simp) ek_ge).1,(MG.nil.putE (by simp) ek_ge).2] at a1
 have e1:putM [] ek=[ek]:=rfl
 rw [e1,ens_nil] at a1
 have hm:=mg1 ek_ge
 have a2:=k24 ek ek_ge.2
 rw [ek_key] at a2
 have a3:=k35 [ek] (by simp) hm.be [83,97,118,101,10,10,120]
 have a4:=k35 [ek] (by simp) hm.be [83,97,118,101]
 have hg:getM [ek] [83,97,118,101,10,10,120]=some ek:=by rw [getM_cons,if_pos ek_key]
 have hg2:getM [ek] [83,97,118,101]=none:=by rw [getM_cons,if_neg (by rw [ek_key]; decide)]; rfl
 have hp:plc [ek] [83,97,118,101,10,10,120]=0:=by
  have:=plc_lt hm.1 hg
  simp only [List.length_singleton] at this
  omega
 have f3:fndI [ek] [83,97,118,101,10,10,120]=0:=by unfold fndI; rw [if_pos (hm.ok (by simp)),hg]; simp only [hp]; rfl
 have f4:fndI [ek] [83,97,118,101] = -1:=by unfold fndI; rw [if_pos (hm.ok (by simp)),hg2]
 rw [f3] at a3
 rw [f4] at a4
 have hr:rowE ek=[.sl .no 3 [[.int .i64 1,.str [83,97,118,101],.int .i64 0]],.sl .no 3 [[.int .i64 1,.str [83,105,99,104,101,114,110],.int .i64 0]],.str [],.str [120],.str [],.str [],.int .i64 0,.int .i64 1]:=rfl
 rw [hr] at a1 a2
 have hn:(ens [ek]).length=1:=rfl
 refine contract F20 rfl rfl rfl ?_
 simp only [F20,go_sem,op,mv,↓reduceIte,Nat.reduceAdd,Nat.reduceEqDiff,Nat.reduceLT,Int.reduceNeg,Int.cast_ofNat_Int,Int.reduceLT,Int.reduceAdd,Int.reduceSub,Int.reduceLE,Int.reduceEq,Int.reduceToNat,Nat.reduceSub,Nat.reduceMul,Nat.reduceLeDiff,a1,a2,a3,a4,hn,beq_self_eq_true]
end Go.Av
namespace Go.Av
open Go.Nt
set_option linter.unusedSimpArgs false
set_option linter.unusedVariables false
set_option maxHeartbeats 16000000
set_option maxRecDepth 100000
attribute [-go_sem] bin_and
theorem and_ex (a b:Int):∃ v,binA .and (.int .i64 a) (.int .i64 b)=some (.int .i64 v):=⟨_,bin_and _ _ _⟩
theorem nums_nil:nums []=[]:=rfl
/-- an entry with the source of another one and no target, and with other contexts -/
theorem GE.src {a b:En} (ha:GE a) (hb:GE b) {p n:Bs} (hp:perr p=0) (hn:perr n=0) (lp:p.length≤50000) (ln:n.length≤50000):GE ⟨a.S,[],p,n,b.a,b.j,b.c,b.o⟩:=by
 obtain ⟨va,wa⟩:=ha
 obtain ⟨vb,wb⟩:=hb
 exact ⟨⟨va.vS,vld_nil,va.ne,by show canS a.S []=a.S; rw [canS_nil a.S a.T]; exact va.cS,canT_nil _,hp,hn,vb.na,vb.nj,vb.c0,vb.c1,vb.o1,vb.o3⟩,wa.S,vld_nil,fun i hi=>(by rw [nums_nil] at hi; cases hi),lp,ln,wb.a,wb.j⟩
theorem GE.ctx {b:En} (hb:GE b) {p n:Bs} (hp:perr p=0) (hn:perr n=0) (lp:p.length≤50000) (ln:n.length≤50000):GE ⟨b.S,b.T,p,n,b.a,b.j,b.c,b.o⟩:=by
 obtain ⟨vb,wb⟩:=hb
 exact ⟨⟨vb.vS,vb.vT,vb.ne,vb.cS,vb.cT,hp,hn,vb.na,vb.nj,vb.c0,vb.c1,vb.o1,vb.o3⟩,wb.S,wb.T,wb.sub,lp,ln,wb.a,wb.j⟩
theorem k4 (l m:List Int) (s:Int):G0 4 [.sl .no 1 (ints l),.sl .no 1 (ints m),.int .i64 s] []=some (.bool true,[]):=by
 refine contract F4 rfl rfl rfl ?_
 by_cases g1:(80:Int) < (l.length:Int)
 ·simp only [F4,go_sem,op,mv,↓reduceIte,Nat.reduceAdd,Nat.reduceEqDiff,Nat.reduceLT,ints_length,g1,k20]
 by_cases g2:(80:Int) < (m.length:Int)
 ·simp only [F4,go_sem,op,mv,↓reduceIte,Nat.reduceAdd,Nat.reduceEqDiff,Nat.reduceLT,ints_length,g1,g2,k20]
 obtain ⟨a,ha,a0⟩:=k21 l
 obtain ⟨b,hb,b0⟩:=k21 m
 obtain ⟨v1,h1⟩:=and_ex s 1
 obtain ⟨v2,h2⟩:=and_ex s 2
 obtain ⟨v4,h4⟩:=and_ex s 4
 have a1:=k23 a ha.2
 rw [(vE_iff a).2 ha.1] at a1
 have a2:=k24 a ha.2
 have ak:(keyE a != [])=true:=by simpa using keyE_ne ha.1
 have la:=ha.2.lS
 simp only [rowE] at a0 b0 a1 a2
 by_cases q1:v1=1
 ·by_cases q2:v2=2
  ·by_cases q4:v4=4
   ·have hc:GE ⟨a.S,[],a.p,a.n,b.a,b.j,b.c,b.o⟩:=GE.src ha hb ha.1.pp ha.1.pn ha.2.p ha.2.n
    have c1:=k23 _ hc.2
    rw [(vE_iff _).2 hc.1] at c1
    have c2:=k24 _ hc.2
    have c3:=c22 a.S a.S (by omega)
    have kq:=keyE_eq ha.1 hc.1
    simp only [rowE,tks_nil] at c1 c2
    generalize keyE (En.mk a.S [] a.p a.n b.a b.j b.c b.o)=K at c2 kq
    rw [decide_eq_true (rfl:a.S=a.S)] at c3
    have hp:(a.p == a.p)=true:=by simp
    have hn:(a.n == a.n)=true:=by simp
    have hk:(keyE a == K)=true:=by simpa using kq.2 ⟨rfl,rfl,rfl⟩
    simp only [F4,go_sem,op,mv,↓reduceIte,Nat.reduceAdd,Nat.reduceEqDiff,Nat.reduceLT,ints_length,g1,g2,a0,b0,h1,h2,h4,a1,a2,ak,c1,c2,c3,q1,q2,q4,hk,hp,hn,k20,beq_self_eq_true]
   ·have hc:GE ⟨a.S,[],a.p,b.n,b.a,b.j,b.c,b.o⟩:=GE.src ha hb ha.1.pp hb.1.pn ha.2.p hb.2.n
    have c1:=k23 _ hc.2
    rw [(vE_iff _).2 hc.1] at c1
    have c2:=k24 _ hc.2
    have c3:=c22 a.S a.S (by omega)
    have kq:=keyE_eq ha.1 hc.1
    simp only [rowE,tks_nil] at c1 c2
    generalize keyE (En.mk a.S [] a.p b.n b.a b.j b.c b.o)=K at c2 kq
    rw [decide_eq_true (rfl:a.S=a.S)] at c3
    have hp:(a.p == a.p)=true:=by simp
    by_cases eN:a.n=b.n
    case neg =>
     have hn:(a.n == b.n)=false:=by simpa using eN
     have hk:(keyE a == K)=false:=by simpa using (fun z=>eN (kq.1 z).2.2)
     simp only [F4,go_sem,op,mv,↓reduceIte,Nat.reduceAdd,Nat.reduceEqDiff,Nat.reduceLT,ints_length,g1,g2,a0,b0,h1,h2,h4,a1,a2,ak,c1,c2,c3,q1,q2,q4,hk,hp,hn,k20,beq_self_eq_true]
    have hn:(a.n == b.n)=true:=by simpa using eN
    have hk:(keyE a == K)=true:=by simpa using kq.2 ⟨rfl,rfl,eN⟩
    simp only [F4,go_sem,op,mv,↓reduceIte,Nat.reduceAdd,Nat.reduceEqDiff,Nat.reduceLT,ints_length,g1,g2,a0,b0,h1,h2,h4,a1,a2,ak,c1,c2,c3,q1,q2,q4,hk,hp,hn,k20,beq_self_eq_true]
  ·by_cases q4:v4=4
   ·have hc:GE ⟨a.S,[],b.p,a.n,b.a,b.j,b.c,b.o⟩:=GE.src ha hb hb.1.pp ha.1.pn hb.2.p ha.2.n
    have c1:=k23 _ hc.2
    rw [(vE_iff _).2 hc.1] at c1
    have c2:=k24 _ hc.2
    have c3:=c22 a.S a.S (by omega)
    have kq:=keyE_eq ha.1 hc.1
    simp only [rowE,tks_nil] at c1 c2
    generalize keyE (En.mk a.S [] b.p a.n b.a b.j b.c b.o)=K at c2 kq
    rw [decide_eq_true (rfl:a.S=a.S)] at c3
    by_cases eP:a.p=b.p
    case neg =>
     have hp:(a.p == b.p)=false:=by simpa using eP
     have hk:(keyE a == K)=false:=by simpa using (fun z=>eP (kq.1 z).2.1)
     simp only [F4,go_sem,op,mv,↓reduceIte,Nat.reduceAdd,Nat.reduceEqDiff,Nat.reduceLT,ints_length,g1,g2,a0,b0,h1,h2,h4,a1,a2,ak,c1,c2,c3,q1,q2,q4,hk,hp,k20,beq_self_eq_true]
    have hp:(a.p == b.p)=true:=by simpa using eP
    have hn:(a.n == a.n)=true:=by simp
    have hk:(keyE a == K)=true:=by simpa using kq.2 ⟨rfl,eP,rfl⟩
    simp only [F4,go_sem,op,mv,↓reduceIte,Nat.reduceAdd,Nat.reduceEqDiff,Nat.reduceLT,ints_length,g1,g2,a0,b0,h1,h2,h4,a1,a2,ak,c1,c2,c3,q1,q2,q4,hk,hp,hn,k20,beq_self_eq_true]
   ·have hc:GE ⟨a.S,[],b.p,b.n,b.a,b.j,b.c,b.o⟩:=GE.src ha hb hb.1.pp hb.1.pn hb.2.p hb.2.n
    have c1:=k23 _ hc.2
    rw [(vE_iff _).2 hc.1] at c1
    have c2:=k24 _ hc.2
    have c3:=c22 a.S a.S (by omega)
    have kq:=keyE_eq ha.1 hc.1
    simp only [rowE,tks_nil] at c1 c2
    generalize keyE (En.mk a.S [] b.p b.n b.a b.j b.c b.o)=K at c2 kq
    rw [decide_eq_true (rfl:a.S=a.S)] at c3
    by_cases eP:a.p=b.p
    case neg =>
     have hp:(a.p == b.p)=false:=by simpa using eP
     have hk:(keyE a == K)=false:=by simpa using (fun z=>eP (kq.1 z).2.1)
     simp only [F4,go_sem,op,mv,↓reduceIte,Nat.reduceAdd,Nat.reduceEqDiff,Nat.reduceLT,ints_length,g1,g2,a0,b0,h1,h2,h4,a1,a2,ak,c1,c2,c3,q1,q2,q4,hk,hp,k20,beq_self_eq_true]
    have hp:(a.p == b.p)=true:=by simpa using eP
    by_cases eN:a.n=b.n
    case neg =>
     have hn:(a.n == b.n)=false:=by simpa using eN
     have hk:(keyE a == K)=false:=by simpa using (fun z=>eN (kq.1 z).2.2)
     simp only [F4,go_sem,op,mv,↓reduceIte,Nat.reduceAdd,Nat.reduceEqDiff,Nat.reduceLT,ints_length,g1,g2,a0,b0,h1,h2,h4,a1,a2,ak,c1,c2,c3,q1,q2,q4,hk,hp,hn,k20,beq_self_eq_true]
    have hn:(a.n == b.n)=true:=by simpa using eN
    have hk:(keyE a == K)=true:=by simpa using kq.2 ⟨rfl,eP,eN⟩
    simp only [F4,go_sem,op,mv,↓reduceIte,Nat.reduceAdd,Nat.reduceEqDiff,Nat.reduceLT,ints_length,g1,g2,a0,b0,h1,h2,h4,a1,a2,ak,c1,c2,c3,q1,q2,q4,hk,hp,hn,k20,beq_self_eq_true]
 ·by_cases q2:v2=2
  ·by_cases q4:v4=4
   ·have hc:GE ⟨b.S,b.T,a.p,a.n,b.a,b.j,b.c,b.o⟩:=GE.ctx hb ha.1.pp ha.1.pn ha.2.p ha.2.n
    have c1:=k23 _ hc.2
    rw [(vE_iff _).2 hc.1] at c1
    have c2:=k24 _ hc.2
    have c3:=c22 a.S b.S (by omega)
    have kq:=keyE_eq ha.1 hc.1
    simp only [rowE,tks_nil] at c1 c2
    generalize keyE (En.mk b.S b.T a.p a.n b.a b.j b.c b.o)=K at c2 kq
    by_cases eS:a.S=b.S
    case neg =>
     rw [decide_eq_false eS] at c3
     have hk:(keyE a == K)=false:=by simpa using (fun z=>eS (kq.1 z).1)
     simp only [F4,go_sem,op,mv,↓reduceIte,Nat.reduceAdd,Nat.reduceEqDiff,Nat.reduceLT,ints_length,g1,g2,a0,b0,h1,h2,h4,a1,a2,ak,c1,c2,c3,q1,q2,q4,hk,k20,beq_self_eq_true]
    rw [decide_eq_true eS] at c3
    have hp:(a.p == a.p)=true:=by simp
    have hn:(a.n == a.n)=true:=by simp
    have hk:(keyE a == K)=true:=by simpa using kq.2 ⟨eS,rfl,rfl⟩
    simp only [F4,go_sem,op,mv,↓reduceIte,Nat.reduceAdd,Nat.reduceEqDiff,Nat.reduceLT,ints_length,g1,g2,a0,b0,h1,h2,h4,a1,a2,ak,c1,c2,c3,q1,q2,q4,hk,hp,hn,k20,beq_self_eq_true]
   ·have hc:GE ⟨b.S,b.T,a.p,b.n,b.a,b.j,b.c,b.o⟩:=GE.ctx hb ha.1.pp hb.1.pn ha.2.p hb.2.n
    have c1:=k23 _ hc.2
    rw [(vE_iff _).2 hc.1] at c1
    have c2:=k24 _ hc.2
    have c3:=c22 a.S b.S (by omega)
    have kq:=keyE_eq ha.1 hc.1
    simp only [rowE,tks_nil] at c1 c2
    generalize keyE (En.mk b.S b.T a.p b.n b.a b.j b.c b.o)=K at c2 kq
    by_cases eS:a.S=b.S
    case neg =>
     rw [decide_eq_false eS] at c3
     have hk:(keyE a == K)=false:=by simpa using (fun z=>eS (kq.1 z).1)
     simp only [F4,go_sem,op,mv,↓reduceIte,Nat.reduceAdd,Nat.reduceEqDiff,Nat.reduceLT,ints_length,g1,g2,a0,b0,h1,h2,h4,a1,a2,ak,c1,c2,c3,q1,q2,q4,hk,k20,beq_self_eq_true]
    rw [decide_eq_true eS] at c3
    have hp:(a.p == a.p)=true:=by simp
    by_cases eN:a.n=b.n
    case neg =>
     have hn:(a.n == b.n)=false:=by simpa using eN
     have hk:(keyE a == K)=false:=by simpa using (fun z=>eN (kq.1 z).2.2)
     simp only [F4,go_sem,op,mv,↓reduceIte,Nat.reduceAdd,Nat.reduceEqDiff,Nat.reduceLT,ints_length,g1,g2,a0,b0,h1,h2,h4,a1,a2,ak,c1,c2,c3,q1,q2,q4,hk,hp,hn,k20,beq_self_eq_true]
    have hn:(a.n == b.n)=true:=by simpa using eN
    have hk:(keyE a == K)=true:=by simpa using kq.2 ⟨eS,rfl,eN⟩
    simp only [F4,go_sem,op,mv,↓reduceIte,Nat.reduceAdd,Nat.reduceEqDiff,Nat.reduceLT,ints_length,g1,g2,a0,b0,h1,h2,h4,a1,a2,ak,c1,c2,c3,q1,q2,q4,hk,hp,hn,k20,beq_self_eq_true]
  ·by_cases q4:v4=4
   ·have hc:GE ⟨b.S,b.T,b.p,a.n,b.a,b.j,b.c,b.o⟩:=GE.ctx hb hb.1.pp ha.1.pn hb.2.p ha.2.n
    have c1:=k23 _ hc.2
    rw [(vE_iff _).2 hc.1] at c1
    have c2:=k24 _ hc.2
    have c3:=c22 a.S b.S (by omega)
    have kq:=keyE_eq ha.1 hc.1
    simp only [rowE,tks_nil] at c1 c2
    generalize keyE (En.mk b.S b.T b.p a.n b.a b.j b.c b.o)=K at c2 kq
    by_cases eS:a.S=b.S
    case neg =>
     rw [decide_eq_false eS] at c3
     have hk:(keyE a == K)=false:=by simpa using (fun z=>eS (kq.1 z).1)
     simp only [F4,go_sem,op,mv,↓reduceIte,Nat.reduceAdd,Nat.reduceEqDiff,Nat.reduceLT,ints_length,g1,g2,a0,b0,h1,h2,h4,a1,a2,ak,c1,c2,c3,q1,q2,q4,hk,k20,beq_self_eq_true]
    rw [decide_eq_true eS] at c3
    by_cases eP:a.p=b.p
    case neg =>
     have hp:(a.p == b.p)=false:=by simpa using eP
     have hk:(keyE a == K)=false:=by simpa using (fun z=>eP (kq.1 z).2.1)
     simp only [F4,go_sem,op,mv,↓reduceIte,Nat.reduceAdd,Nat.reduceEqDiff,Nat.reduceLT,ints_length,g1,g2,a0,b0,h1,h2,h4,a1,a2,ak,c1,c2,c3,q1,q2,q4,hk,hp,k20,beq_self_eq_true]
    have hp:(a.p == b.p)=true:=by simpa using eP
    have hn:(a.n == a.n)=true:=by simp
    have hk:(keyE a == K)=true:=by simpa using kq.2 ⟨eS,eP,rfl⟩
    simp only [F4,go_sem,op,mv,↓reduceIte,Nat.reduceAdd,Nat.reduceEqDiff,Nat.reduceLT,ints_length,g1,g2,a0,b0,h1,h2,h4,a1,a2,ak,c1,c2,c3,q1,q2,q4,hk,hp,hn,k20,beq_self_eq_true]
   ·have hc:GE ⟨b.S,b.T,b.p,b.n,b.a,b.j,b.c,b.o⟩:=GE.ctx hb hb.1.pp hb.1.pn hb.2.p hb.2.n
    have c1:=k23 _ hc.2
    rw [(vE_iff _).2 hc.1] at c1
    have c2:=k24 _ hc.2
    have c3:=c22 a.S b.S (by omega)
    have kq:=keyE_eq ha.1 hc.1
    simp only [rowE,tks_nil] at c1 c2
    generalize keyE (En.mk b.S b.T b.p b.n b.a b.j b.c b.o)=K at c2 kq
    by_cases eS:a.S=b.S
    case neg =>
     rw [decide_eq_false eS] at c3
     have hk:(keyE a == K)=false:=by simpa using (fun z=>eS (kq.1 z).1)
     simp only [F4,go_sem,op,mv,↓reduceIte,Nat.reduceAdd,Nat.reduceEqDiff,Nat.reduceLT,ints_length,g1,g2,a0,b0,h1,h2,h4,a1,a2,ak,c1,c2,c3,q1,q2,q4,hk,k20,beq_self_eq_true]
    rw [decide_eq_true eS] at c3
    by_cases eP:a.p=b.p
    case neg =>
     have hp:(a.p == b.p)=false:=by simpa using eP
     have hk:(keyE a == K)=false:=by simpa using (fun z=>eP (kq.1 z).2.1)
     simp only [F4,go_sem,op,mv,↓reduceIte,Nat.reduceAdd,Nat.reduceEqDiff,Nat.reduceLT,ints_length,g1,g2,a0,b0,h1,h2,h4,a1,a2,ak,c1,c2,c3,q1,q2,q4,hk,hp,k20,beq_self_eq_true]
    have hp:(a.p == b.p)=true:=by simpa using eP
    by_cases eN:a.n=b.n
    case neg =>
     have hn:(a.n == b.n)=false:=by simpa using eN
     have hk:(keyE a == K)=false:=by simpa using (fun z=>eN (kq.1 z).2.2)
     simp only [F4,go_sem,op,mv,↓reduceIte,Nat.reduceAdd,Nat.reduceEqDiff,Nat.reduceLT,ints_length,g1,g2,a0,b0,h1,h2,h4,a1,a2,ak,c1,c2,c3,q1,q2,q4,hk,hp,hn,k20,beq_self_eq_true]
    have hn:(a.n == b.n)=true:=by simpa using eN
    have hk:(keyE a == K)=true:=by simpa using kq.2 ⟨eS,eP,eN⟩
    simp only [F4,go_sem,op,mv,↓reduceIte,Nat.reduceAdd,Nat.reduceEqDiff,Nat.reduceLT,ints_length,g1,g2,a0,b0,h1,h2,h4,a1,a2,ak,c1,c2,c3,q1,q2,q4,hk,hp,hn,k20,beq_self_eq_true]
end Go.Av
