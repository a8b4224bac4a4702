/- Entries and memories out of numbers. No conditions. The law's entries and memories, equal entries, the fixed example. No conditions. -/
import Derived.Test.YtmjfblcmbcfkcaaGreatDoorG3XH
import Derived.Test.YtmjfblcmbcfkcaaGreatDoorG3XB
open List
set_option linter.unusedSimpArgs false
set_option linter.unusedVariables false
set_option linter.unusedSectionVars false
set_option maxRecDepth 100000
set_option maxHeartbeats 16000000
namespace Go.Av
open Go.Nt
theorem AT (tb:List Bs) (l:List Int) (n:Nat) (m:Int) (hm:1<=m) (h:m=(tb.length:Int)):∃ x:Bs,x∈tb/\(dP tb)[(nxt l n m).toNat]?=some [.str x]/\0<=nxt l n m:=by
 have hb:=gH l n m hm;have hi:(nxt l n m).toNat < tb.length:=by omega
 exact⟨tb[(nxt l n m).toNat],getElem_mem hi,gR (getElem?_eq_getElem hi),hb.1⟩
def tbF:List Bs:=[[83,97,118,101],[114,101,100,32,99,97,114],[82,101,100,32,99,97,114,115]]
def tbP:List Bs:=[[],[],[83,97,118,101],[114,101,100,32,99,97,114]]
def tbN:List Bs:=[[],[],[120],[83,97,118,101]]
def tbU:List Bs:=[[],[97,110,110],[98,111,98]]
def tbJ:List Bs:=[[],[112],[113]]
theorem mF:gO 1 [.str []] 3 [0,1,2] [.str [83,97,118,101],.str [114,101,100,32,99,97,114],.str [82,101,100,32,99,97,114,115]]=some (.sl .full 1 (dP tbF)):=by rfl
theorem mP:gO 1 [.str []] 4 [0,1,2,3] [.str [],.str [],.str [83,97,118,101],.str [114,101,100,32,99,97,114]]=some (.sl .full 1 (dP tbP)):=by rfl
theorem mN:gO 1 [.str []] 4 [0,1,2,3] [.str [],.str [],.str [120],.str [83,97,118,101]]=some (.sl .full 1 (dP tbN)):=by rfl
theorem mU:gO 1 [.str []] 3 [0,1,2] [.str [],.str [97,110,110],.str [98,111,98]]=some (.sl .full 1 (dP tbU)):=by rfl
theorem mJ:gO 1 [.str []] 3 [0,1,2] [.str [],.str [112],.str [113]]=some (.sl .full 1 (dP tbJ)):=by rfl
theorem ZE:∀ x∈tbF,vld [(1,x,0)]=0:=by decide +kernel
theorem ZF:∀ x∈tbF,x.length<=8:=by decide
theorem Y8:∀ x∈tbP,jR x=0:=by decide +kernel
theorem Y9:∀ x∈tbP,x.length<=7:=by decide
theorem ZA:∀ x∈tbN,jR x=0:=by decide +kernel
theorem ZB:∀ x∈tbN,x.length<=4:=by decide
theorem Y6:∀ x∈tbU,gU x=true:=by decide
theorem Y7:∀ x∈tbU,x.length<=3:=by decide
theorem ZC:∀ x∈tbJ,gU x=true:=by decide
theorem ZD:∀ x∈tbJ,x.length<=1:=by decide
def GE (e:En):Prop:=VE e/\BE e
theorem zDR {f t:List Tk} {p n a j:Bs} {c o:Int} (hf:vld f=0) (ht:vld t=0) (hne:f≠[]) (htg:tg t=tg f) (pp:jR p=0) (pn:jR n=0) (na:gU a=true) (nj:gU j=true) (c0:0<=c) (c1:c<=1073741824) (o1:1<=o) (o3:o<=3) (lp:p.length<=50000) (ln:n.length<=50000) (la:a.length<=1000) (lj:j.length<=1000):GE ⟨gP f t,gX f t,p,n,a,j,c,o⟩:=by
 have hv:=mkVE hf ht hne pp pn na nj c0 c1 o1 o3;have u1:=fQ hv.vS;have u2:=fQ hv.vT;exact⟨hv,by omega,by omega,by omega,by omega,lp,ln,Nat.le_trans la (by decide),Nat.le_trans lj (by decide)⟩
theorem QC (x:Tk):(elt x).length<=4*x.2.1.length+10:=by
 obtain⟨k,s,i⟩:=x;have h1:=AO s;have h2:=uS i.toNat;unfold elt;simp only[]
 repeat' split
 all_goals (try simp only[length_append,length_cons,length_nil])
 all_goals omega
theorem F3 (f:List Tk):(fmt f).length<=4*tot f+10*f.length:=by
 induction f with
 | nil=>simp [fmt]
 | cons x f ih =>
  have h:=QC x;unfold fmt at ih ⊢;rw[flatMap_cons,length_append,bC,length_cons];omega
theorem EH (g f:List Tk):tot (f.map (phi g))=tot f:=by
 induction f with
 | nil=>rfl
 | cons x f ih =>
  rw[map_cons,bC,bC,ih];unfold phi
  split<;>rfl
theorem QV {f t:List Tk} (hf:vld f=0) (ht:vld t=0):(fmE (gP f t)).length<=4*tot f+10*f.length/\(fmE (gX f t)).length<=4*tot t+10*t.length:=by
 have hl:=jZ hf ht;have a:=F3 (gP f t);have b:=F3 (gX f t);rw[(iQ hl hf).1,EH,length_map,<- (iQ hl hf).1] at a;rw[(iP hl ht).1,EH,length_map,<- (iP hl ht).1] at b;unfold fmE;constructor
 ·split
  ·exact a
  ·simp
 ·split
  ·exact b
  ·simp
theorem k55 (l:List Int) (p:Nat) (hp:p<=80000):∃ n' e,n'<=p+1000/\GE e/\(szE e<=4700/\e.c<=49)/\G0 16 [.ptr 0 0] [num l p]=some (.agg (aN e),[num l n']):=by
 obtain⟨n1,f,a1,a2,a3,a4,a5⟩:=k97 l p (by omega) 4 (by decide) (by decide);obtain⟨f2,n2,o,b1,b2,b3,b4,b5,b6⟩:∃ (f2:List Tk) (n2:Nat) (o:Own),n2<=p+501/\f2.length<=16/\tot f2<=300/\vld f2=0/\f2≠[] /\
   ((f≠[]/\f2=f/\n2=n1/\o=.no)\/(f=[]/\n2=n1+1/\o=.full/\∃ x,f2=[(1,x,0)]/\(dP tbF)[(nxt l n1 3).toNat]?=some [.str x]/\0<=nxt l n1 3)):=by
  by_cases h:f=[]
  ·obtain⟨x,x1,x2,x3⟩:=AT tbF l n1 3 (by decide) rfl
   have:=ZF x x1
   exact⟨[(1,x,0)],n1+1,.full,by omega,by simp,by rw[bC,cJ];simp only[];omega,ZE x x1,by simp,.inr ⟨h,rfl,rfl,x,rfl,x2,x3⟩⟩
  ·exact⟨f,n1,.no,by omega,a2,a3,a4,h,.inl ⟨h,rfl,rfl,rfl⟩⟩
 obtain⟨n3,t,c1,c2,c3,c4,c5,c6⟩:=k98 l n2 (by omega) f2 b2 b3 b4 o;have d1:=k76 f2 t (by omega) (by omega);obtain⟨xp,p1,p2,p3⟩:=AT tbP l n3 4 (by decide) rfl;obtain⟨xn,q1,q2,q3⟩:=AT tbN l (n3+1) 4 (by decide) rfl;obtain⟨xu,u1,u2,u3⟩:=AT tbU l (n3+2) 3 (by decide) rfl;obtain⟨xj,j1,j2,j3⟩:=AT tbJ l (n3+3) 3 (by decide) rfl;have e1:=c41 l n3 4 (by omega) (by decide) (by decide);have e2:=c41 l (n3+1) 4 (by omega) (by decide) (by decide);have e3:=c41 l (n3+2) 3 (by omega) (by decide) (by decide);have e4:=c41 l (n3+3) 3 (by omega) (by decide) (by decide);have e5:=c41 l (n3+4) 50 (by omega) (by decide) (by decide);have e6:=c41 l (n3+5) 3 (by omega) (by decide) (by decide);have e7:=c41 l n1 3 (by omega) (by decide) (by decide);have y5:=gH l (n3+4) 50 (by decide);have y6:=gH l (n3+5) 3 (by decide);have hw:IntKind.i64.wrap (1+nxt l (n3+5) 3)=1+nxt l (n3+5) 3:=w64 (by omega) (by omega);have l1:=Y9 xp p1;have l2:=ZB xn q1;have l3:=Y7 xu u1;have l4:=ZD xj j1;obtain⟨l5,l6⟩:=QV b4 c4;refine⟨n3+6,⟨gP f2 t,gX f2 t,xp,xn,xu,xj,nxt l (n3+4) 50,1+nxt l (n3+5) 3⟩,by omega,zDR b4 c4 b5 c5 (Y8 xp p1) (ZA xn q1) (Y6 xu u1) (ZC xj j1) y5.1 (by omega) (by omega) (by omega) (by omega) (by omega) (by omega) (by omega),⟨by (show (fmE (gP f2 t)).length+(fmE (gX f2 t)).length+xp.length+xn.length+xu.length+xj.length<=4700;omega),by (show nxt l (n3+4) 50<=49;omega)⟩,?_⟩;refine aA F16 rfl rfl rfl ?_;rcases b6 with ⟨h,rfl,rfl,rfl⟩ | ⟨rfl,rfl,rfl,x,rfl,x2,x3⟩
 ·have hne:=DG h
  simp only[F16,aN,go_sem,a5,aD,hne,c6,d1,mP,mN,mU,mJ,p2,p3,q2,q3,u2,u3,j2,j3,e1,e2,e3,e4,e5,e6,hw,pW,take_succ_cons,take_zero]
 ·have et:tks [(1,x,0)]=[[.int .i64 1,.str x,.int .i64 0]]:=rfl
  rw[et] at c6 d1;simp only[F16,aN,go_sem,a5,dY,e7,mF,x2,x3,c6,d1,mP,mN,mU,mJ,p2,p3,q2,q3,u2,u3,j2,j3,e1,e2,e3,e4,e5,e6,hw,pW,take_succ_cons,take_zero]
end Go.Av
namespace Go.Av
open Go.Nt
def MG (m:List En):Prop:=Mem m/\∀ e∈m,GE e
theorem MG.nil:MG []:=⟨rE,fun e h=>by cases h⟩
theorem MG.be {m:List En} (h:MG m):∀ e∈m,BE e:=fun e he=>(h.2 e he).2
theorem MG.put {m:List En} (h:MG m) {e:En} (he:GE e):MG (mM m e):=by
 refine⟨KR h.1 he.1,fun z hz=>?_⟩;rcases zJ.1 hz with q | q
 ·rw[q];exact he
 ·exact h.2 z q.1
theorem MG.ok {m:List En} (h:MG m) (hl:m.length<=1024):okM m=true:=(FA m).2 ⟨hl,h.1⟩
theorem MG.putE {m:List En} (h:MG m) (hl:m.length < 1024) {e:En} (he:GE e):Go.Av.putE m e=0/\wZ m e=mM m e:=
 vF (h.ok (by omega)) ((lB e).2 he.1) (fun q=>by have:=q.2;omega)
theorem J2 (m:List En) (h:Sr m) (e:En):(mM m e).length<=m.length+1:=by
 rw[OR h e]
 split<;>omega
def fZ (x y:En):Bool:=decide (x.S=y.S) && (decide (x.T=y.T) && ((x.p == y.p) && ((x.n == y.n) && ((x.a == y.a) && ((x.j == y.j) && (decide (x.c=y.c) && decide (x.o=y.o)))))))
theorem HI (x y:En):fZ x y=true↔x=y:=by
 unfold fZ;simp only[Bool.and_eq_true,decide_eq_true_eq,beq_iff_eq];constructor
 ·rintro ⟨h1,h2,h3,h4,h5,h6,h7,h8⟩
  exact En.eq h1 h2 h3 h4 h5 h6 h7 h8
 ·rintro rfl
  exact⟨rfl,rfl,rfl,rfl,rfl,rfl,rfl,rfl⟩
theorem k37 (x y:En) (hx:BE x):G0 47 [.agg (aN x),.agg (aN y)] []=some (.bool (fZ x y),[]):=by
 have c1:=c22 x.S y.S (by have:=hx.lS;omega);have c2:=c22 x.T y.T (by have:=hx.lT;omega);refine aA F47 rfl rfl rfl ?_;by_cases d1:x.S=y.S
 case neg =>
  have hs:fZ x y=false:=by unfold fZ;simp [d1]
  rw[hs];rw[decide_eq_false d1] at c1;simp only[F47,aN,go_sem,c1,c2]
 rw[decide_eq_true d1] at c1;by_cases d2:x.T=y.T
 case neg =>
  have hs:fZ x y=false:=by unfold fZ;simp [d1,d2]
  rw[hs];rw[decide_eq_false d2] at c2;simp only[F47,aN,go_sem,c1,c2]
 rw[decide_eq_true d2] at c2;by_cases d3:x.p=y.p
 case neg =>
  have hs:fZ x y=false:=by unfold fZ;simp [d1,d2,d3]
  rw[hs];have b3:(x.p == y.p)=false:=by simpa using d3
  simp only[F47,aN,go_sem,c1,c2,b3]
 have b3:(x.p == y.p)=true:=by simpa using d3
 by_cases d4:x.n=y.n
 case neg =>
  have hs:fZ x y=false:=by unfold fZ;simp [d1,d2,d3,d4]
  rw[hs];have b4:(x.n == y.n)=false:=by simpa using d4
  simp only[F47,aN,go_sem,c1,c2,b3,b4]
 have b4:(x.n == y.n)=true:=by simpa using d4
 by_cases d5:x.a=y.a
 case neg =>
  have hs:fZ x y=false:=by unfold fZ;simp [d1,d2,d3,d4,d5]
  rw[hs];have b5:(x.a == y.a)=false:=by simpa using d5
  simp only[F47,aN,go_sem,c1,c2,b3,b4,b5]
 have b5:(x.a == y.a)=true:=by simpa using d5
 by_cases d6:x.j=y.j
 case neg =>
  have hs:fZ x y=false:=by unfold fZ;simp [d1,d2,d3,d4,d5,d6]
  rw[hs];have b6:(x.j == y.j)=false:=by simpa using d6
  simp only[F47,aN,go_sem,c1,c2,b3,b4,b5,b6]
 have b6:(x.j == y.j)=true:=by simpa using d6
 by_cases d7:x.c=y.c
 case neg =>
  have hs:fZ x y=false:=by unfold fZ;simp [d1,d2,d3,d4,d5,d6,d7]
  rw[hs];simp only[F47,aN,go_sem,c1,c2,b3,b4,b5,b6,d7]
 by_cases d8:x.o=y.o
 case neg =>
  have hs:fZ x y=false:=by unfold fZ;simp [d1,d2,d3,d4,d5,d6,d7,d8]
  rw[hs];simp only[F47,aN,go_sem,c1,c2,b3,b4,b5,b6,d7,d8]
 have hs:fZ x y=true:=by unfold fZ;simp [d1,d2,d3,d4,d5,d6,d7,d8]
 rw[hs];simp only[F47,aN,go_sem,c1,c2,b3,b4,b5,b6,d7,d8]
theorem l28k (m:List En) (hl:m.length<=2000) (hB:∀ e∈m,BE e):∀ (k i:Nat),i+k=m.length ->
  aC G0 GW (ST [(0,.sl .no 8 (ens m)),(1,.sl .no 8 (ens m)),(10,.bool false),(12,.int .i64 m.length),(13,.int .i64 i)] [] [])=some (.ex 0,ST [(0,.sl .no 8 (ens m)),(1,.sl .no 8 (ens m)),(10,.bool false),(12,.int .i64 m.length),(13,.int .i64 m.length),(14,.bool false)] [] [])
 | 0,i,h=>by
  have:i=m.length:=by omega
  subst this;rw[aB (L:=GW) rfl];simp only[go_sem,Int.lt_irrefl]
 | k+1,i,h=>by
  have hi:i < m.length:=by omega
  have h4:(i:Int) < (m.length:Int):=by omega
  have h0:(0:Int)<=(i:Int):=by omega
  have hw:=wI (i:=i) (by omega)
  have hg:m[i]?=some m[i]:=getElem?_eq_getElem hi;have hBe:=hB _ (getElem_mem hi);generalize m[i]=e at hg hBe;have hr:=jK hg;have a1:=k37 e e hBe;rw[(HI e e).2 rfl] at a1;simp only[aN] at a1;have ih:=l28k m hl hB k (i+1) (by omega);rw[aB (L:=GW) rfl];simp only[go_sem,h4,h0,hr,hw,a1,Bool.not_true];exact ih
theorem k28 (m:List En) (hl:m.length<=2000) (hB:∀ e∈m,BE e):G0 24 [.sl .no 8 (ens m),.sl .no 8 (ens m)] []=some (.bool true,[]):=by
 have x:=l28k m hl hB m.length 0 (by omega);have ec:((0:Nat):Int)=0:=rfl;rw[ec] at x;have hne:¬ ¬ (m.length:Int)=(m.length:Int):=fun q=>q rfl
 refine aA F24 rfl rfl rfl ?_;simp only[F24,go_sem,aW,ne_eq,not_true_eq_false,decide_false,x]
theorem mg1 {e:En} (h:GE e):MG [e]:=by
 have:=MG.nil.put h
 exact this
end Go.Av
