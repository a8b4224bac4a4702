/- Entries and memories out of numbers. No conditions. The law's entries and memories, equal entries, the fixed example. No conditions. -/
import Derived.Test.YtigalfbihapdnaaGreatDoorG2XH
set_option linter.unusedSimpArgs false
set_option linter.unusedVariables false
set_option linter.unusedSectionVars false
set_option maxRecDepth 100000
set_option maxHeartbeats 16000000
namespace Go.Av
open Go.Nt
theorem tb_in (tb:List Bs) (l:List Int) (n:Nat) (m:Int) (hm:1≤m) (h:m=(tb.length:Int)):∃ x:Bs,x∈tb∧(strs tb)[(nxt l n m).toNat]?=some [.str x]∧0≤nxt l n m:=by
 have hb:=nxt_bd l n m hm
 have hi:(nxt l n m).toNat < tb.length:=by omega
 exact⟨tb[(nxt l n m).toNat],List.getElem_mem hi,strs_at (List.getElem?_eq_getElem hi),hb.1⟩
def tbF:List Bs:=[[83,97,118,101],[114,101,100,32,99,97,114],[82,101,100,32,99,97,114,115]]
def tbP:List Bs:=[[],[],[83,97,118,101],[114,101,100,32,99,97,114]]
def tbN:List Bs:=[[],[],[120],[83,97,118,101]]
def tbU:List Bs:=[[],[97,110,110],[98,111,98]]
def tbJ:List Bs:=[[],[112],[113]]
theorem mF:mksA 1 [.str []] 3 [0,1,2] [.str [83,97,118,101],.str [114,101,100,32,99,97,114],.str [82,101,100,32,99,97,114,115]]=some (.sl .full 1 (strs tbF)):=by rfl
theorem mP:mksA 1 [.str []] 4 [0,1,2,3] [.str [],.str [],.str [83,97,118,101],.str [114,101,100,32,99,97,114]]=some (.sl .full 1 (strs tbP)):=by rfl
theorem mN:mksA 1 [.str []] 4 [0,1,2,3] [.str [],.str [],.str [120],.str [83,97,118,101]]=some (.sl .full 1 (strs tbN)):=by rfl
theorem mU:mksA 1 [.str []] 3 [0,1,2] [.str [],.str [97,110,110],.str [98,111,98]]=some (.sl .full 1 (strs tbU)):=by rfl
theorem mJ:mksA 1 [.str []] 3 [0,1,2] [.str [],.str [112],.str [113]]=some (.sl .full 1 (strs tbJ)):=by rfl
theorem tbF_v:∀ x∈tbF,vld [(1,x,0)]=0:=by decide +kernel
theorem tbF_l:∀ x∈tbF,x.length≤8:=by decide
theorem tbP_p:∀ x∈tbP,perr x=0:=by decide +kernel
theorem tbP_l:∀ x∈tbP,x.length≤7:=by decide
theorem tbN_p:∀ x∈tbN,perr x=0:=by decide +kernel
theorem tbN_l:∀ x∈tbN,x.length≤4:=by decide
theorem tbU_n:∀ x∈tbU,nmOk x=true:=by decide
theorem tbU_l:∀ x∈tbU,x.length≤3:=by decide
theorem tbJ_n:∀ x∈tbJ,nmOk x=true:=by decide
theorem tbJ_l:∀ x∈tbJ,x.length≤1:=by decide
def GE (e:En):Prop:=VE e∧BE e
theorem GE_mk {f t:List Tk} {p n a j:Bs} {c o:Int} (hf:vld f=0) (ht:vld t=0) (hne:f≠[]) (htg:tg t=tg f) (pp:perr p=0) (pn:perr n=0) (na:nmOk a=true) (nj:nmOk j=true) (c0:0≤c) (c1:c≤1073741824) (o1:1≤o) (o3:o≤3) (lp:p.length≤50000) (ln:n.length≤50000) (la:a.length≤1000) (lj:j.length≤1000):GE ⟨canS f t,canT f t,p,n,a,j,c,o⟩:=by
 have hv:=mkVE hf ht hne pp pn na nj c0 c1 o1 o3
 have u1:=vld_tot hv.vS
 have u2:=vld_tot hv.vT
 exact⟨hv,by omega,by omega,by omega,by omega,lp,ln,la,lj⟩
theorem k55 (l:List Int) (p:Nat) (hp:p≤80000):∃ n' e,n'≤p+1000∧GE e∧G0 55 [.ptr 0 0] [num l p]=some (.agg (rowE e),[num l n']):=by
 obtain⟨n1,f,a1,a2,a3,a4,a5⟩:=k97 l p (by omega) 4 (by decide) (by decide)
 obtain⟨f2,n2,o,b1,b2,b3,b4,b5,b6⟩:∃ (f2:List Tk) (n2:Nat) (o:Own),n2≤p+501∧f2.length≤16∧tot f2≤300∧vld f2=0∧f2≠[] ∧
   ((f≠[]∧f2=f∧n2=n1∧o=.no)∨(f=[]∧n2=n1+1∧o=.full∧∃ x,f2=[(1,x,0)]∧(strs tbF)[(nxt l n1 3).toNat]?=some [.str x]∧0≤nxt l n1 3)):=by
  by_cases h:f=[]
  ·obtain⟨x,x1,x2,x3⟩:=tb_in tbF l n1 3 (by decide) rfl
   have:=tbF_l x x1
   exact⟨[(1,x,0)],n1+1,.full,by omega,by simp,by rw[tot_cons,tot_nil];simp only[];omega,tbF_v x x1,by simp,.inr ⟨h,rfl,rfl,x,rfl,x2,x3⟩⟩
  ·exact⟨f,n1,.no,by omega,a2,a3,a4,h,.inl ⟨h,rfl,rfl,rfl⟩⟩
 obtain⟨n3,t,c1,c2,c3,c4,c5,c6⟩:=k98 l n2 (by omega) f2 b2 b3 b4 o
 have d1:=k76 f2 t (by omega) (by omega)
 obtain⟨xp,p1,p2,p3⟩:=tb_in tbP l n3 4 (by decide) rfl
 obtain⟨xn,q1,q2,q3⟩:=tb_in tbN l (n3+1) 4 (by decide) rfl
 obtain⟨xu,u1,u2,u3⟩:=tb_in tbU l (n3+2) 3 (by decide) rfl
 obtain⟨xj,j1,j2,j3⟩:=tb_in tbJ l (n3+3) 3 (by decide) rfl
 have e1:=c41 l n3 4 (by omega) (by decide) (by decide)
 have e2:=c41 l (n3+1) 4 (by omega) (by decide) (by decide)
 have e3:=c41 l (n3+2) 3 (by omega) (by decide) (by decide)
 have e4:=c41 l (n3+3) 3 (by omega) (by decide) (by decide)
 have e5:=c41 l (n3+4) 50 (by omega) (by decide) (by decide)
 have e6:=c41 l (n3+5) 3 (by omega) (by decide) (by decide)
 have e7:=c41 l n1 3 (by omega) (by decide) (by decide)
 have y5:=nxt_bd l (n3+4) 50 (by decide)
 have y6:=nxt_bd l (n3+5) 3 (by decide)
 have hw:IntKind.i64.wrap (1+nxt l (n3+5) 3)=1+nxt l (n3+5) 3:=w64 (by omega) (by omega)
 have l1:=tbP_l xp p1
 have l2:=tbN_l xn q1
 have l3:=tbU_l xu u1
 have l4:=tbJ_l xj j1
 refine⟨n3+6,⟨canS f2 t,canT f2 t,xp,xn,xu,xj,nxt l (n3+4) 50,1+nxt l (n3+5) 3⟩,by omega,GE_mk b4 c4 b5 c5 (tbP_p xp p1) (tbN_p xn q1) (tbU_n xu u1) (tbJ_n xj j1) y5.1 (by omega) (by omega) (by omega) (by omega) (by omega) (by omega) (by omega),?_⟩
 refine contract F55 rfl rfl rfl ?_
 rcases b6 with ⟨h,rfl,rfl,rfl⟩ | ⟨rfl,rfl,rfl,x,rfl,x2,x3⟩
 ·have hne:=nz_len h
  simp only[F55,rowE,go_sem,a5,tks_len,hne,c6,d1,mP,mN,mU,mJ,p2,p3,q2,q3,u2,u3,j2,j3,e1,e2,e3,e4,e5,e6,hw,num_ok,List.take_succ_cons,List.take_zero]
 ·have et:tks [(1,x,0)]=[[.int .i64 1,.str x,.int .i64 0]]:=rfl
  rw[et] at c6 d1
  simp only[F55,rowE,go_sem,a5,tks_nil,e7,mF,x2,x3,c6,d1,mP,mN,mU,mJ,p2,p3,q2,q3,u2,u3,j2,j3,e1,e2,e3,e4,e5,e6,hw,num_ok,List.take_succ_cons,List.take_zero]
end Go.Av
namespace Go.Av
open Go.Nt
theorem k21 (l:List Int):∃ e,GE e∧G0 21 [.sl .no 1 (ints l),.int .i64 0] []=some (.agg (rowE e),[]):=by
 obtain⟨n',e,_,h,h2⟩:=k55 l 0 (by omega)
 refine⟨e,h,?_⟩
 have h3:=c18 0 16 (by decide) (by decide)
 have e0:(0:Int) % 16=0:=rfl
 rw[e0] at h3
 have hn:num l 0=[.sl .no 1 (ints l),.int .i64 0]:=rfl
 rw[hn] at h2
 simp only[rowE] at h2
 refine contract F21 rfl rfl rfl ?_
 simp only[F21,rowE,go_sem,h2,h3,Int.reduceEq,decide_false]
def MG (m:List En):Prop:=Mem m∧∀ e∈m,GE e
theorem MG.nil:MG []:=⟨mem_nil,fun e h=>by cases h⟩
theorem MG.be {m:List En} (h:MG m):∀ e∈m,BE e:=fun e he=>(h.2 e he).2
theorem MG.put {m:List En} (h:MG m) {e:En} (he:GE e):MG (putM m e):=by
 refine⟨mem_putM h.1 he.1,fun z hz=>?_⟩
 rcases mem_put.1 hz with q | q
 ·rw[q];exact he
 ·exact h.2 z q.1
theorem MG.del {m:List En} (h:MG m) (k:Bs):MG (delM m k):=⟨mem_delM h.1 k,fun z hz=>h.2 z (mem_del.1 hz).1⟩
theorem MG.ok {m:List En} (h:MG m) (hl:m.length≤1024):okM m=true:=(okM_iff m).2 ⟨hl,h.1⟩
theorem MG.putE {m:List En} (h:MG m) (hl:m.length < 1024) {e:En} (he:GE e):Go.Av.putE m e=0∧putV m e=putM m e:=
 putE_0 (h.ok (by omega)) ((vE_iff e).2 he.1) (fun q=>by have:=q.2;omega)
theorem putM_len (m:List En) (h:Sr m) (e:En):(putM m e).length≤m.length+1:=by
 rw[put_len h e]
 split<;>omega
theorem l25k (l:List Int):∀ (k n:Nat) (m:List En) (md:Own),MG m→m.length+k≤100→n+1000*k≤50000 →
  ∃ n' m' md',MG m'∧m'.length≤m.length+k∧execX G0 L25_0 (ST [(5,.sl md 8 (ens m)),(6,.ptr 0 0),(7,.int .i64 k)] [] [num l n])=some (.ex 0,ST [(5,.sl md' 8 (ens m')),(6,.ptr 0 0),(7,.int .i64 0),(16,.bool false)] [] [num l n'])
 | 0,n,m,md,h,h1,h2=>by
  refine⟨n,m,md,h,by omega,?_⟩
  rw[Y_loop (L:=L25_0) rfl]
  simp only[go_sem,Int.lt_irrefl]
 | k+1,n,m,md,h,h1,h2=>by
  obtain⟨n1,e,a1,a2,a3⟩:=k55 l n (by omega)
  have b1:=k30 m (by omega) h.be e a2.2
  rw[(h.putE (by omega) a2).1,(h.putE (by omega) a2).2] at b1
  have hp:=putM_len m h.1.2 e
  obtain⟨n',m',md',c1,c2,c3⟩:=l25k l k n1 (putM m e) .no (h.put a2) (by omega) (by omega)
  refine⟨n',m',md',c1,by omega,?_⟩
  have hk:(0:Int) < ((k+1:Nat):Int):=by omega
  have hwk:IntKind.i64.wrap (((k+1:Nat):Int) - 1)=(k:Int):=by rw[w64 (by omega) (by omega)];omega
  simp only[rowE] at a3 b1
  rw[Y_loop (L:=L25_0) rfl]
  simp only[go_sem,hk,hwk,a3,b1]
  exact c3
theorem k25 (l:List Int) (N:Nat) (hN:N≤20):∃ m,MG m∧m.length≤N∧G0 25 [.sl .no 1 (ints l),.int .i64 N] []=some (.sl .no 8 (ens m),[]):=by
 have hb:=nxt_bd l 0 ((N:Int)+1) (by omega)
 have h36:=c41 l 0 ((N:Int)+1) (by omega) (by omega) (by omega)
 have hc:(((nxt l 0 ((N:Int)+1)).toNat:Nat):Int)=nxt l 0 ((N:Int)+1):=by omega
 obtain⟨n',m,md,a1,a2,a3⟩:=l25k l (nxt l 0 ((N:Int)+1)).toNat 1 [] .full MG.nil (by simp;omega) (by omega)
 rw[hc,ens_nil] at a3
 refine⟨m,a1,by simp at a2;omega,?_⟩
 have hw:IntKind.i64.wrap ((N:Int)+1)=(N:Int)+1:=w64 (by omega) (by omega)
 have hn:num l 0=[.sl .no 1 (ints l),.int .i64 0]:=rfl
 rw[hn] at h36
 refine contract F25 rfl rfl rfl ?_
 simp only[F25,go_sem,hw,h36,a3]
def sameE (x y:En):Bool:=decide (x.S=y.S) && (decide (x.T=y.T) && ((x.p == y.p) && ((x.n == y.n) && ((x.a == y.a) && ((x.j == y.j) && (decide (x.c=y.c) && decide (x.o=y.o)))))))
theorem sameE_iff (x y:En):sameE x y=true↔x=y:=by
 unfold sameE
 simp only[Bool.and_eq_true,decide_eq_true_eq,beq_iff_eq]
 constructor
 ·rintro ⟨h1,h2,h3,h4,h5,h6,h7,h8⟩
  exact En.eq h1 h2 h3 h4 h5 h6 h7 h8
 ·rintro rfl
  exact⟨rfl,rfl,rfl,rfl,rfl,rfl,rfl,rfl⟩
theorem k37 (x y:En) (hx:BE x):G0 37 [.agg (rowE x),.agg (rowE y)] []=some (.bool (sameE x y),[]):=by
 have c1:=c22 x.S y.S (by have:=hx.lS;omega)
 have c2:=c22 x.T y.T (by have:=hx.lT;omega)
 refine contract F37 rfl rfl rfl ?_
 by_cases d1:x.S=y.S
 case neg =>
  have hs:sameE x y=false:=by unfold sameE;simp [d1]
  rw[hs]
  rw[decide_eq_false d1] at c1
  simp only[F37,rowE,go_sem,c1,c2]
 rw[decide_eq_true d1] at c1
 by_cases d2:x.T=y.T
 case neg =>
  have hs:sameE x y=false:=by unfold sameE;simp [d1,d2]
  rw[hs]
  rw[decide_eq_false d2] at c2
  simp only[F37,rowE,go_sem,c1,c2]
 rw[decide_eq_true d2] at c2
 by_cases d3:x.p=y.p
 case neg =>
  have hs:sameE x y=false:=by unfold sameE;simp [d1,d2,d3]
  rw[hs]
  have b3:(x.p == y.p)=false:=by simpa using d3
  simp only[F37,rowE,go_sem,c1,c2,b3]
 have b3:(x.p == y.p)=true:=by simpa using d3
 by_cases d4:x.n=y.n
 case neg =>
  have hs:sameE x y=false:=by unfold sameE;simp [d1,d2,d3,d4]
  rw[hs]
  have b4:(x.n == y.n)=false:=by simpa using d4
  simp only[F37,rowE,go_sem,c1,c2,b3,b4]
 have b4:(x.n == y.n)=true:=by simpa using d4
 by_cases d5:x.a=y.a
 case neg =>
  have hs:sameE x y=false:=by unfold sameE;simp [d1,d2,d3,d4,d5]
  rw[hs]
  have b5:(x.a == y.a)=false:=by simpa using d5
  simp only[F37,rowE,go_sem,c1,c2,b3,b4,b5]
 have b5:(x.a == y.a)=true:=by simpa using d5
 by_cases d6:x.j=y.j
 case neg =>
  have hs:sameE x y=false:=by unfold sameE;simp [d1,d2,d3,d4,d5,d6]
  rw[hs]
  have b6:(x.j == y.j)=false:=by simpa using d6
  simp only[F37,rowE,go_sem,c1,c2,b3,b4,b5,b6]
 have b6:(x.j == y.j)=true:=by simpa using d6
 by_cases d7:x.c=y.c
 case neg =>
  have hs:sameE x y=false:=by unfold sameE;simp [d1,d2,d3,d4,d5,d6,d7]
  rw[hs]
  simp only[F37,rowE,go_sem,c1,c2,b3,b4,b5,b6,d7]
 by_cases d8:x.o=y.o
 case neg =>
  have hs:sameE x y=false:=by unfold sameE;simp [d1,d2,d3,d4,d5,d6,d7,d8]
  rw[hs]
  simp only[F37,rowE,go_sem,c1,c2,b3,b4,b5,b6,d7,d8]
 have hs:sameE x y=true:=by unfold sameE;simp [d1,d2,d3,d4,d5,d6,d7,d8]
 rw[hs]
 simp only[F37,rowE,go_sem,c1,c2,b3,b4,b5,b6,d7,d8]
theorem l28k (m:List En) (hl:m.length≤2000) (hB:∀ e∈m,BE e):∀ (k i:Nat),i+k=m.length →
  execX G0 L28_0 (ST [(0,.sl .no 8 (ens m)),(1,.sl .no 8 (ens m)),(10,.bool false),(12,.int .i64 m.length),(13,.int .i64 i)] [] [])=some (.ex 0,ST [(0,.sl .no 8 (ens m)),(1,.sl .no 8 (ens m)),(10,.bool false),(12,.int .i64 m.length),(13,.int .i64 m.length),(14,.bool false)] [] [])
 | 0,i,h=>by
  have:i=m.length:=by omega
  subst this
  rw[Y_loop (L:=L28_0) rfl]
  simp only[go_sem,Int.lt_irrefl]
 | k+1,i,h=>by
  have hi:i < m.length:=by omega
  have h4:(i:Int) < (m.length:Int):=by omega
  have h0:(0:Int)≤(i:Int):=by omega
  have hw:IntKind.i64.wrap ((i:Int)+1)=((i+1:Nat):Int):=by rw[w64 (by omega) (by omega)];rfl
  have hg:m[i]?=some m[i]:=List.getElem?_eq_getElem hi
  have hBe:=hB _ (List.getElem_mem hi)
  generalize m[i]=e at hg hBe
  have hr:=ens_at hg
  have a1:=k37 e e hBe
  rw[(sameE_iff e e).2 rfl] at a1
  simp only[rowE] at a1
  have ih:=l28k m hl hB k (i+1) (by omega)
  rw[Y_loop (L:=L28_0) rfl]
  simp only[go_sem,h4,h0,hr,hw,a1,Bool.not_true]
  exact ih
theorem k28 (m:List En) (hl:m.length≤2000) (hB:∀ e∈m,BE e):G0 28 [.sl .no 8 (ens m),.sl .no 8 (ens m)] []=some (.bool true,[]):=by
 have x:=l28k m hl hB m.length 0 (by omega)
 have ec:((0:Nat):Int)=0:=rfl
 rw[ec] at x
 have hne:¬ ¬ (m.length:Int)=(m.length:Int):=fun q=>q rfl
 refine contract F28 rfl rfl rfl ?_
 simp only[F28,go_sem,ens_len,ne_eq,not_true_eq_false,decide_false,x]
def ek:En:=⟨[(1,[83,97,118,101],0)],[(1,[83,105,99,104,101,114,110],0)],[],[120],[],[],0,1⟩
theorem ek_v:vE ek=0:=by decide +kernel
theorem ek_ge:GE ek:=⟨(vE_iff ek).1 ek_v,by decide,by decide +kernel,by decide,by decide +kernel,by decide,by decide,by decide,by decide⟩
theorem ek_key:keyE ek=[83,97,118,101,10,10,120]:=by decide +kernel
theorem mg1 {e:En} (h:GE e):MG [e]:=by
 have:=MG.nil.put h
 exact this
theorem k20:G0 20 [] []=some (.bool true,[]):=by
 have a1:=k27 [] (by simp) MG.nil.be ek ek_ge.2
 rw[(MG.nil.putE (by simp) ek_ge).1,(MG.nil.putE (by simp) ek_ge).2] at a1
 have e1:putM [] ek=[ek]:=rfl
 rw[e1,ens_nil] at a1
 have hm:=mg1 ek_ge
 have a2:=k24 ek ek_ge.2
 rw[ek_key] at a2
 have a3:=k35 [ek] (by simp) hm.be [83,97,118,101,10,10,120]
 have a4:=k35 [ek] (by simp) hm.be [83,97,118,101]
 have hg:getM [ek] [83,97,118,101,10,10,120]=some ek:=by rw[getM_cons,if_pos ek_key]
 have hg2:getM [ek] [83,97,118,101]=none:=by rw[getM_cons,if_neg (by rw[ek_key];decide)];rfl
 have hp:plc [ek] [83,97,118,101,10,10,120]=0:=by
  have:=plc_lt hm.1 hg
  simp only[List.length_singleton] at this
  omega
 have f3:fndI [ek] [83,97,118,101,10,10,120]=0:=by unfold fndI;rw[if_pos (hm.ok (by simp)),hg];simp only[hp];rfl
 have f4:fndI [ek] [83,97,118,101] = -1:=by unfold fndI;rw[if_pos (hm.ok (by simp)),hg2]
 rw[f3] at a3
 rw[f4] at a4
 have hr:rowE ek=[.sl .no 3 [[.int .i64 1,.str [83,97,118,101],.int .i64 0]],.sl .no 3 [[.int .i64 1,.str [83,105,99,104,101,114,110],.int .i64 0]],.str [],.str [120],.str [],.str [],.int .i64 0,.int .i64 1]:=rfl
 rw[hr] at a1 a2
 have hn:(ens [ek]).length=1:=rfl
 refine contract F20 rfl rfl rfl ?_
 simp only[F20,go_sem,a1,a2,a3,a4,hn,beq_self_eq_true]
end Go.Av
