/- Entries and memories out of numbers. No conditions. The law's entries and memories, equal entries, the fixed example. No conditions. strings.Builder in this program; calls of functions that make no objects, as calls of the model. No conditions. exchange.Format: a walk over the program's code with strings.Builder. No conditions. Whether a list of entries is a memory, and its first error, by both packages. No conditions. exchange.Format as a given contract. No conditions. -/
import Derived.Test.YtmjfblcmbcfkcaaGreatDoorG1XH
import Derived.Test.YtmjfblcmbcfkcaaGreatDoorG1XB
import Derived.Test.YtmjfblcmbcfkcaaGreatDoorG1Sm
import Derived.Shelf.Strings.BuilderK
import Derived.KernelRfl
import Derived.Test.YtmjfblcmbcfkcaaGreatDoorChecked
import Derived.Deep.LoopGhost
import Derived.Deep.RegionHeld3
import Derived.Deep.DeepCutAuto
import Derived.Lib.Walk
import Derived.IntWalk
import Derived.Lib.Hide
open List
set_option linter.unusedSimpArgs false
set_option linter.unusedVariables false
set_option linter.unusedSectionVars false
set_option maxRecDepth 100000
set_option maxHeartbeats 16000000
namespace Go.Av
open Go.Nt
theorem tb_in (tb:List Bs) (l:List Int) (n:Nat) (m:Int) (hm:1<=m) (h:m=(tb.length:Int)):∃ x:Bs,x∈tb/\(strs tb)[(nxt l n m).toNat]?=some [.str x]/\0<=nxt l n m:=by
 have hb:=nxt_bd l n m hm;have hi:(nxt l n m).toNat < tb.length:=by omega
 exact⟨tb[(nxt l n m).toNat],getElem_mem hi,strs_at (getElem?_eq_getElem hi),hb.1⟩
def tbF:List Bs:=[[83,97,118,101],[114,101,100,32,99,97,114],[82,101,100,32,99,97,114,115]]
def tbP:List Bs:=[[],[],[83,97,118,101],[114,101,100,32,99,97,114]]
def tbN:List Bs:=[[],[],[120],[83,97,118,101]]
def tbU:List Bs:=[[],[97,110,110],[98,111,98]]
def tbJ:List Bs:=[[],[112],[113]]
theorem mF:mksA 1 [.str []] 3 [0,1,2] [.str [83,97,118,101],.str [114,101,100,32,99,97,114],.str [82,101,100,32,99,97,114,115]]=some (.sl .full 1 (strs tbF)):=by rfl
theorem mP:mksA 1 [.str []] 4 [0,1,2,3] [.str [],.str [],.str [83,97,118,101],.str [114,101,100,32,99,97,114]]=some (.sl .full 1 (strs tbP)):=by rfl
theorem mN:mksA 1 [.str []] 4 [0,1,2,3] [.str [],.str [],.str [120],.str [83,97,118,101]]=some (.sl .full 1 (strs tbN)):=by rfl
theorem mU:mksA 1 [.str []] 3 [0,1,2] [.str [],.str [97,110,110],.str [98,111,98]]=some (.sl .full 1 (strs tbU)):=by rfl
theorem mJ:mksA 1 [.str []] 3 [0,1,2] [.str [],.str [112],.str [113]]=some (.sl .full 1 (strs tbJ)):=by rfl
theorem tbF_v:∀ x∈tbF,vld [(1,x,0)]=0:=by decide +kernel
theorem tbF_l:∀ x∈tbF,x.length<=8:=by decide
theorem tbP_p:∀ x∈tbP,perr x=0:=by decide +kernel
theorem tbP_l:∀ x∈tbP,x.length<=7:=by decide
theorem tbN_p:∀ x∈tbN,perr x=0:=by decide +kernel
theorem tbN_l:∀ x∈tbN,x.length<=4:=by decide
theorem tbU_n:∀ x∈tbU,nmOk x=true:=by decide
theorem tbU_l:∀ x∈tbU,x.length<=3:=by decide
theorem tbJ_n:∀ x∈tbJ,nmOk x=true:=by decide
theorem tbJ_l:∀ x∈tbJ,x.length<=1:=by decide
def GE (e:En):Prop:=VE e/\BE e
theorem GE_mk {f t:List Tk} {p n a j:Bs} {c o:Int} (hf:vld f=0) (ht:vld t=0) (hne:f≠[]) (htg:tg t=tg f) (pp:perr p=0) (pn:perr n=0) (na:nmOk a=true) (nj:nmOk j=true) (c0:0<=c) (c1:c<=1073741824) (o1:1<=o) (o3:o<=3) (lp:p.length<=50000) (ln:n.length<=50000) (la:a.length<=1000) (lj:j.length<=1000):GE ⟨canS f t,canT f t,p,n,a,j,c,o⟩:=by
 have hv:=mkVE hf ht hne pp pn na nj c0 c1 o1 o3;have u1:=vld_tot hv.vS;have u2:=vld_tot hv.vT;exact⟨hv,by omega,by omega,by omega,by omega,lp,ln,Nat.le_trans la (by decide),Nat.le_trans lj (by decide)⟩
theorem elt_tot (x:Tk):(elt x).length<=4*x.2.1.length+10:=by
 obtain⟨k,s,i⟩:=x;have h1:=wrts_len s;have h2:=dec_len i.toNat;unfold elt;simp only[]
 repeat' split
 all_goals (try simp only[length_append,length_cons,length_nil])
 all_goals omega
theorem fmt_tot (f:List Tk):(fmt f).length<=4*tot f+10*f.length:=by
 induction f with
 | nil=>simp [fmt]
 | cons x f ih =>
  have h:=elt_tot x;unfold fmt at ih ⊢;rw[flatMap_cons,length_append,tot_cons,length_cons];omega
theorem tot_phi (g f:List Tk):tot (f.map (phi g))=tot f:=by
 induction f with
 | nil=>rfl
 | cons x f ih =>
  rw[map_cons,tot_cons,tot_cons,ih];unfold phi
  split<;>rfl
theorem can_len {f t:List Tk} (hf:vld f=0) (ht:vld t=0):(fmE (canS f t)).length<=4*tot f+10*f.length/\(fmE (canT f t)).length<=4*tot t+10*t.length:=by
 have hl:=nums_le hf ht;have a:=fmt_tot (canS f t);have b:=fmt_tot (canT f t);rw[(canS_vld hl hf).1,tot_phi,length_map,<- (canS_vld hl hf).1] at a;rw[(canT_vld hl ht).1,tot_phi,length_map,<- (canT_vld hl ht).1] at b;unfold fmE;constructor
 ·split
  ·exact a
  ·simp
 ·split
  ·exact b
  ·simp
theorem k55 (l:List Int) (p:Nat) (hp:p<=80000):∃ n' e,n'<=p+1000/\GE e/\(szE e<=4700/\e.c<=49)/\G0 16 [.ptr 0 0] [num l p]=some (.agg (rowE e),[num l n']):=by
 obtain⟨n1,f,a1,a2,a3,a4,a5⟩:=k97 l p (by omega) 4 (by decide) (by decide);obtain⟨f2,n2,o,b1,b2,b3,b4,b5,b6⟩:∃ (f2:List Tk) (n2:Nat) (o:Own),n2<=p+501/\f2.length<=16/\tot f2<=300/\vld f2=0/\f2≠[] /\
   ((f≠[]/\f2=f/\n2=n1/\o=.no)\/(f=[]/\n2=n1+1/\o=.full/\∃ x,f2=[(1,x,0)]/\(strs tbF)[(nxt l n1 3).toNat]?=some [.str x]/\0<=nxt l n1 3)):=by
  by_cases h:f=[]
  ·obtain⟨x,x1,x2,x3⟩:=tb_in tbF l n1 3 (by decide) rfl
   have:=tbF_l x x1
   exact⟨[(1,x,0)],n1+1,.full,by omega,by simp,by rw[tot_cons,tot_nil];simp only[];omega,tbF_v x x1,by simp,.inr ⟨h,rfl,rfl,x,rfl,x2,x3⟩⟩
  ·exact⟨f,n1,.no,by omega,a2,a3,a4,h,.inl ⟨h,rfl,rfl,rfl⟩⟩
 obtain⟨n3,t,c1,c2,c3,c4,c5,c6⟩:=k98 l n2 (by omega) f2 b2 b3 b4 o;have d1:=k76 f2 t (by omega) (by omega);obtain⟨xp,p1,p2,p3⟩:=tb_in tbP l n3 4 (by decide) rfl;obtain⟨xn,q1,q2,q3⟩:=tb_in tbN l (n3+1) 4 (by decide) rfl;obtain⟨xu,u1,u2,u3⟩:=tb_in tbU l (n3+2) 3 (by decide) rfl;obtain⟨xj,j1,j2,j3⟩:=tb_in tbJ l (n3+3) 3 (by decide) rfl;have e1:=c41 l n3 4 (by omega) (by decide) (by decide);have e2:=c41 l (n3+1) 4 (by omega) (by decide) (by decide);have e3:=c41 l (n3+2) 3 (by omega) (by decide) (by decide);have e4:=c41 l (n3+3) 3 (by omega) (by decide) (by decide);have e5:=c41 l (n3+4) 50 (by omega) (by decide) (by decide);have e6:=c41 l (n3+5) 3 (by omega) (by decide) (by decide);have e7:=c41 l n1 3 (by omega) (by decide) (by decide);have y5:=nxt_bd l (n3+4) 50 (by decide);have y6:=nxt_bd l (n3+5) 3 (by decide);have hw:IntKind.i64.wrap (1+nxt l (n3+5) 3)=1+nxt l (n3+5) 3:=w64 (by omega) (by omega);have l1:=tbP_l xp p1;have l2:=tbN_l xn q1;have l3:=tbU_l xu u1;have l4:=tbJ_l xj j1;obtain⟨l5,l6⟩:=can_len b4 c4;refine⟨n3+6,⟨canS f2 t,canT f2 t,xp,xn,xu,xj,nxt l (n3+4) 50,1+nxt l (n3+5) 3⟩,by omega,GE_mk b4 c4 b5 c5 (tbP_p xp p1) (tbN_p xn q1) (tbU_n xu u1) (tbJ_n xj j1) y5.1 (by omega) (by omega) (by omega) (by omega) (by omega) (by omega) (by omega),⟨by (show (fmE (canS f2 t)).length+(fmE (canT f2 t)).length+xp.length+xn.length+xu.length+xj.length<=4700;omega),by (show nxt l (n3+4) 50<=49;omega)⟩,?_⟩;refine contract F16 rfl rfl rfl ?_;rcases b6 with ⟨h,rfl,rfl,rfl⟩ | ⟨rfl,rfl,rfl,x,rfl,x2,x3⟩
 ·have hne:=nz_len h
  simp only[F16,rowE,go_sem,a5,tks_len,hne,c6,d1,mP,mN,mU,mJ,p2,p3,q2,q3,u2,u3,j2,j3,e1,e2,e3,e4,e5,e6,hw,num_ok,take_succ_cons,take_zero]
 ·have et:tks [(1,x,0)]=[[.int .i64 1,.str x,.int .i64 0]]:=rfl
  rw[et] at c6 d1;simp only[F16,rowE,go_sem,a5,tks_nil,e7,mF,x2,x3,c6,d1,mP,mN,mU,mJ,p2,p3,q2,q3,u2,u3,j2,j3,e1,e2,e3,e4,e5,e6,hw,num_ok,take_succ_cons,take_zero]
end Go.Av
namespace Go.Av
open Go.Nt
def MG (m:List En):Prop:=Mem m/\∀ e∈m,GE e
theorem MG.nil:MG []:=⟨mem_nil,fun e h=>by cases h⟩
theorem MG.be {m:List En} (h:MG m):∀ e∈m,BE e:=fun e he=>(h.2 e he).2
theorem MG.put {m:List En} (h:MG m) {e:En} (he:GE e):MG (putM m e):=by
 refine⟨mem_putM h.1 he.1,fun z hz=>?_⟩;rcases mem_put.1 hz with q | q
 ·rw[q];exact he
 ·exact h.2 z q.1
theorem MG.ok {m:List En} (h:MG m) (hl:m.length<=1024):okM m=true:=(okM_iff m).2 ⟨hl,h.1⟩
theorem MG.putE {m:List En} (h:MG m) (hl:m.length < 1024) {e:En} (he:GE e):Go.Av.putE m e=0/\putV m e=putM m e:=
 putE_0 (h.ok (by omega)) ((vE_iff e).2 he.1) (fun q=>by have:=q.2;omega)
theorem putM_len (m:List En) (h:Sr m) (e:En):(putM m e).length<=m.length+1:=by
 rw[put_len h e]
 split<;>omega
def sameE (x y:En):Bool:=decide (x.S=y.S) && (decide (x.T=y.T) && ((x.p == y.p) && ((x.n == y.n) && ((x.a == y.a) && ((x.j == y.j) && (decide (x.c=y.c) && decide (x.o=y.o)))))))
theorem sameE_iff (x y:En):sameE x y=true↔x=y:=by
 unfold sameE;simp only[Bool.and_eq_true,decide_eq_true_eq,beq_iff_eq];constructor
 ·rintro ⟨h1,h2,h3,h4,h5,h6,h7,h8⟩
  exact En.eq h1 h2 h3 h4 h5 h6 h7 h8
 ·rintro rfl
  exact⟨rfl,rfl,rfl,rfl,rfl,rfl,rfl,rfl⟩
theorem k37 (x y:En) (hx:BE x):G0 47 [.agg (rowE x),.agg (rowE y)] []=some (.bool (sameE x y),[]):=by
 have c1:=c22 x.S y.S (by have:=hx.lS;omega);have c2:=c22 x.T y.T (by have:=hx.lT;omega);refine contract F47 rfl rfl rfl ?_;by_cases d1:x.S=y.S
 case neg =>
  have hs:sameE x y=false:=by unfold sameE;simp [d1]
  rw[hs];rw[decide_eq_false d1] at c1;simp only[F47,rowE,go_sem,c1,c2]
 rw[decide_eq_true d1] at c1;by_cases d2:x.T=y.T
 case neg =>
  have hs:sameE x y=false:=by unfold sameE;simp [d1,d2]
  rw[hs];rw[decide_eq_false d2] at c2;simp only[F47,rowE,go_sem,c1,c2]
 rw[decide_eq_true d2] at c2;by_cases d3:x.p=y.p
 case neg =>
  have hs:sameE x y=false:=by unfold sameE;simp [d1,d2,d3]
  rw[hs];have b3:(x.p == y.p)=false:=by simpa using d3
  simp only[F47,rowE,go_sem,c1,c2,b3]
 have b3:(x.p == y.p)=true:=by simpa using d3
 by_cases d4:x.n=y.n
 case neg =>
  have hs:sameE x y=false:=by unfold sameE;simp [d1,d2,d3,d4]
  rw[hs];have b4:(x.n == y.n)=false:=by simpa using d4
  simp only[F47,rowE,go_sem,c1,c2,b3,b4]
 have b4:(x.n == y.n)=true:=by simpa using d4
 by_cases d5:x.a=y.a
 case neg =>
  have hs:sameE x y=false:=by unfold sameE;simp [d1,d2,d3,d4,d5]
  rw[hs];have b5:(x.a == y.a)=false:=by simpa using d5
  simp only[F47,rowE,go_sem,c1,c2,b3,b4,b5]
 have b5:(x.a == y.a)=true:=by simpa using d5
 by_cases d6:x.j=y.j
 case neg =>
  have hs:sameE x y=false:=by unfold sameE;simp [d1,d2,d3,d4,d5,d6]
  rw[hs];have b6:(x.j == y.j)=false:=by simpa using d6
  simp only[F47,rowE,go_sem,c1,c2,b3,b4,b5,b6]
 have b6:(x.j == y.j)=true:=by simpa using d6
 by_cases d7:x.c=y.c
 case neg =>
  have hs:sameE x y=false:=by unfold sameE;simp [d1,d2,d3,d4,d5,d6,d7]
  rw[hs];simp only[F47,rowE,go_sem,c1,c2,b3,b4,b5,b6,d7]
 by_cases d8:x.o=y.o
 case neg =>
  have hs:sameE x y=false:=by unfold sameE;simp [d1,d2,d3,d4,d5,d6,d7,d8]
  rw[hs];simp only[F47,rowE,go_sem,c1,c2,b3,b4,b5,b6,d7,d8]
 have hs:sameE x y=true:=by unfold sameE;simp [d1,d2,d3,d4,d5,d6,d7,d8]
 rw[hs];simp only[F47,rowE,go_sem,c1,c2,b3,b4,b5,b6,d7,d8]
theorem l28k (m:List En) (hl:m.length<=2000) (hB:∀ e∈m,BE e):∀ (k i:Nat),i+k=m.length ->
  execX G0 L24_0 (ST [(0,.sl .no 8 (ens m)),(1,.sl .no 8 (ens m)),(10,.bool false),(12,.int .i64 m.length),(13,.int .i64 i)] [] [])=some (.ex 0,ST [(0,.sl .no 8 (ens m)),(1,.sl .no 8 (ens m)),(10,.bool false),(12,.int .i64 m.length),(13,.int .i64 m.length),(14,.bool false)] [] [])
 | 0,i,h=>by
  have:i=m.length:=by omega
  subst this;rw[Y_loop (L:=L24_0) rfl];simp only[go_sem,Int.lt_irrefl]
 | k+1,i,h=>by
  have hi:i < m.length:=by omega
  have h4:(i:Int) < (m.length:Int):=by omega
  have h0:(0:Int)<=(i:Int):=by omega
  have hw:IntKind.i64.wrap ((i:Int)+1)=((i+1:Nat):Int):=by rw[w64 (by omega) (by omega)];rfl
  have hg:m[i]?=some m[i]:=getElem?_eq_getElem hi;have hBe:=hB _ (getElem_mem hi);generalize m[i]=e at hg hBe;have hr:=ens_at hg;have a1:=k37 e e hBe;rw[(sameE_iff e e).2 rfl] at a1;simp only[rowE] at a1;have ih:=l28k m hl hB k (i+1) (by omega);rw[Y_loop (L:=L24_0) rfl];simp only[go_sem,h4,h0,hr,hw,a1,Bool.not_true];exact ih
theorem k28 (m:List En) (hl:m.length<=2000) (hB:∀ e∈m,BE e):G0 24 [.sl .no 8 (ens m),.sl .no 8 (ens m)] []=some (.bool true,[]):=by
 have x:=l28k m hl hB m.length 0 (by omega);have ec:((0:Nat):Int)=0:=rfl;rw[ec] at x;have hne:¬ ¬ (m.length:Int)=(m.length:Int):=fun q=>q rfl
 refine contract F24 rfl rfl rfl ?_;simp only[F24,go_sem,ens_len,ne_eq,not_true_eq_false,decide_false,x]
theorem mg1 {e:En} (h:GE e):MG [e]:=by
 have:=MG.nil.put h
 exact this
end Go.Av
namespace Go.Av
open Go.Proofs Go.Shelf Go.RowKit
def rnB:Ren:=⟨fun i=>match i with | 166=>33 | 240=>64 | 276=>97 | 169=>37 | 170=>36 | _=>0,fun i=>match i with | 72=>73 | 70=>71 | 37=>40 | 164=>127 | 127=>110 | i=>i,fun i=>i⟩
theorem la166:Lays.n166 Tryz.prog rnB:=by constructor<;>first | kernel_rfl | (intro w;kernel_rfl)
theorem la169:Lays.n169 Tryz.prog rnB:=by constructor<;>first | kernel_rfl | (intro w;kernel_rfl)
theorem la170:Lays.n170 Tryz.prog rnB:=by constructor<;>first | kernel_rfl | (intro w;kernel_rfl)
theorem xB72:Builder.X72 Tryz.prog rnB:=by constructor<;>kernel_rfl
theorem xB:Builder.Extra Tryz.prog rnB:={ xB72 with t5:=by kernel_rfl,a5:=fun w=>by kernel_rfl,z5:=fun w=>by kernel_rfl,v5:=fun w=>by kernel_rfl,infoByte:=by kernel_rfl,cellsByte:=by kernel_rfl,sizeByte:=by kernel_rfl,neB5:=by decide }
def Bld (B b:Nat) (s:List UInt8) (w:World):Prop:=Lib.IsBuilderF 73 5 B b (Lib.byteCells s) w
theorem Bld.lt {B b:Nat} {s:List UInt8} {w:World} (h:Bld B b s w):b < w.heap.size:=by
 rcases h with ⟨_,v,h2,_⟩ | ⟨_,v,h2,_⟩<;>exact (Array.getElem?_eq_some_iff.1 h2).1
theorem Bld.keep {B b:Nat} {s:List UInt8} {w w':World} (h:Bld B b s w) (hb:∀ k,k < w.heap.size->w'.heap[k]?=w.heap[k]?):Bld B b s w':=by
 have key:∀ p,Lib.BuilderAtF 73 5 B b p (Lib.byteCells s) w->Lib.BuilderAtF 73 5 B b p (Lib.byteCells s) w':=by
  rintro p ⟨h1,v,h2,⟨h3,h4⟩,h5⟩
  refine⟨h1,v,(hb b (Array.getElem?_eq_some_iff.1 h2).1).trans h2,⟨h3,?_⟩,h5⟩;rcases h4 with h4 | ⟨g,cap,cur,fz,q1,q2,q3,q4⟩
  ·exact .inl h4
  ·exact .inr ⟨g,cap,cur,fz,q1,q2,(hb g (Array.getElem?_eq_some_iff.1 q3).1).trans q3,q4⟩
 exact h.imp (key _) (key _)
theorem Bld.write {B b:Nat} {s t:List UInt8} {w:World} (h:Bld B b s w) (hl:s.length+t.length<=140737488355328) (hB:B<=w.heap.size) :
  Calls Tryz.prog 33 #[.pointer (some ⟨b,0,none⟩),.string ⟨t.toArray⟩] w fun e w'=>e=.returned (.tuple #[.int .i64 (t.length:Int),.nilIface])/\Bld B b (s++t) w'/\Below B w w'/\Lib.OthersKept 5 (some b) w w':=by
 refine (Any.Builder_WriteString_k la166 xB B b (Lib.byteCells s) ⟨t.toArray⟩ w h (by rw[Lib.byteCells_length];simpa [ByteArray.size] using hl) hB).mono ?_
 rintro e w' ⟨rfl,h1,h2,h3⟩
 refine⟨by simp [ByteArray.size],.inr ?_,h2,h3⟩;rw[Lib.strCells_eq,<- Lib.byteCells_append] at h1;exact h1
theorem Bld.writeB {B b:Nat} {s:List UInt8} {w:World} (h:Bld B b s w) (x:ByteArray) (hl:s.length+x.data.toList.length<=140737488355328) (hB:B<=w.heap.size) :
  Calls Tryz.prog 33 #[.pointer (some ⟨b,0,none⟩),.string x] w fun e w'=>(∃ n:Int,e=.returned (.tuple #[.int .i64 n,.nilIface]))/\Bld B b (s++x.data.toList) w'/\Below B w w'/\Lib.OthersKept 5 (some b) w w':=by
 refine (Bld.write (t:=x.data.toList) h hl hB).mono ?_
 rintro e w' ⟨rfl,h1,h2,h3⟩
 exact⟨⟨_,rfl⟩,h1,h2,h3⟩
theorem Bld.len {B b:Nat} {s:List UInt8} {w:World} (h:Bld B b s w) :
  Calls Tryz.prog 36 #[.pointer (some ⟨b,0,none⟩)] w fun e w'=>e=.returned (.int .i64 (s.length:Int))/\w=w':=by
 refine (Any.Builder_Len_f la170 B b (Lib.byteCells s) w h).mono ?_
 rintro e w' ⟨rfl,rfl⟩
 rw[Lib.byteCells_length];exact⟨rfl,rfl⟩
theorem Bld.str {B b:Nat} {s:List UInt8} {w:World} (h:Bld B b s w) (hB:B<=w.heap.size) :
  Calls Tryz.prog 37 #[.pointer (some ⟨b,0,none⟩)] w fun e w'=>e=.returned (.string ⟨s.toArray⟩)/\Below B w w':=by
 refine (Any.Builder_String_any_f la169 xB B b s w h hB).mono ?_
 rintro e w' ⟨rfl,_,h2⟩
 exact⟨rfl,h2⟩
theorem Bld.fresh {w:World}:Bld w.heap.size w.heap.size [] (w.alloc (.cells #[.pointer none,.slice none 0 0] 73)):=by
 refine .inl ⟨Nat.le_refl _,.slice none 0 0,heap_alloc_new w _,⟨rfl,.inl ⟨rfl,rfl⟩⟩,?_⟩
 simp [Value.ownBlock]
theorem pure_call {f:FuncId} {args:List AV} {r:AV} (h:G0 f args []=some (r,[])) (hf:∀ vs w,(callFunc f vs).run Tryz.prog w=.ok (.enter f vs) w) {S0:Nat->Nat->Prop} {w:World} {vs:Array Value} (hS:∀ b o,S0 b o->b < w.heap.size) (hg:GlobOK S0 w)
  (ha:RepL (RepT (cx0 (fun _=>0) (fun _=>0) S0 w 0) noOwn) args vs.toList) :
  Calls Tryz.prog f vs w fun e w'=>∃ v β bs S,e=.returned v/\RepT (cx0 β bs S w' 0) noOwn r v/\Below w.heap.size w w':=by
 have hent:EntOK [] (fun _=>.stab) (fun _=>0) (fun _=>0) S0 (fun _=>none) w:=⟨⟨fun i c hi=>(by simp at hi),fun i hi=>(by simp at hi)⟩,fun b o hs=>⟨hS b o hs,fun i hi=>(by simp at hi),fun k hk=>(by cases hk)⟩,fun b k hk=>(by cases hk),fun b t k hk=>(by cases hk),hg⟩
 rcases G0_good _ _ _ _ _ h with ⟨_,hs⟩ | hx
 ·refine (hs _ _ _ _ _ _ _ hent ha).mono ?_
  rintro e w' ⟨v,kd',β',bs',rfl,A⟩
  exact⟨v,β',bs',_,rfl,A.rep,⟨A.os,A.tape,A.output,A.size,fun k hk=>A.frame k hk (fun i hi=>by simp at hi) rfl⟩⟩
 ·obtain⟨v,w',_,_,_,h1,_⟩:=hx _ _ _ _ _ _ _ hent ha
  rw[hf] at h1;cases h1
end Go.Av
namespace Go.Av
open Go.Proofs Go.Shelf Go.RowKit Go.Nt
set_option maxHeartbeats 4000000
theorem bcell {W w1:World} (hb:Below W.heap.size W w1):(∀ b o,b < W.heap.size->w1.cell? ⟨b,o,none⟩=W.cell? ⟨b,o,none⟩)/\(∀ b o,b < W.heap.size->w1.frozen? ⟨b,o,none⟩=W.frozen? ⟨b,o,none⟩):=
 ⟨fun b o h=>hb.cell (p:=⟨b,o,none⟩) h,fun b o h=>hb.frozen (p:=⟨b,o,none⟩) h⟩
theorem at8 {W:World} {k T:Nat} {c0 c1 c2 c3 c4 c5 c6 c7:Value} (h:W.heap[k]?=some (.cells #[c0,c1,c2,c3,c4,c5,c6,c7] T (0,0))) :
  W.cell? ⟨k,0,none⟩=some c0/\W.cell? ⟨k,1,none⟩=some c1/\W.cell? ⟨k,2,none⟩=some c2/\W.cell? ⟨k,3,none⟩=some c3/\W.cell? ⟨k,4,none⟩=some c4/\W.cell? ⟨k,5,none⟩=some c5/\W.cell? ⟨k,6,none⟩=some c6/\W.cell? ⟨k,7,none⟩=some c7:=by
 refine⟨?_,?_,?_,?_,?_,?_,?_,?_⟩<;>rw[Lib.cell_of_heap h]<;>rfl
theorem run_ix {t e n:Nat} {cs:Array Value} {i:Int} {v:Value} {W:World} (hu:Tryz.prog.underlying t=some (.array n e)) (ha:∀ W,(isAgg e).run Tryz.prog W=.ok false W) (hz:∀ W,(Go.sizeOf e).run Tryz.prog W=.ok 1 W) (h0:0<=i) (hn:i < n) (hv:cs[i.toNat]?=some v) :
  (Instr.index t (.agg cs) (.int .i64 i)).run Tryz.prog W=.ok v W:=by
 simp [Instr.index,asIntOf,run_underlying hu,asAgg,h0,hn,part,ha,hz,hv]
theorem drewH (w:World):w.drew.heap=w.heap:=rfl
theorem keep5 {W X:World} {k T:Nat} {c0 c1 c2 c3 c4 c5 c6 c7:Value} (hx:X.heap[k]?=some (.cells #[c0,c1,c2,c3,c4,c5,c6,c7] T (0,0))) (hW:W.heap[k]?=X.heap[k]?) :
  W.cell? ⟨k,2,none⟩=some c2/\W.cell? ⟨k,3,none⟩=some c3/\W.cell? ⟨k,4,none⟩=some c4/\W.cell? ⟨k,5,none⟩=some c5/\W.cell? ⟨k,7,none⟩=some c7:=by
 obtain⟨_,_,h2,h3,h4,h5,_,h7⟩:=at8 (hW.trans hx);exact⟨h2,h3,h4,h5,h7⟩
theorem orig_x (w:World):Calls Tryz.prog 67 #[] w fun e w'=>e=.returned (.agg #[.string ⟨#[104,117,109,97,110]⟩,.string ⟨#[97,108,105,103,110,101,100]⟩,.string ⟨#[109,97,99,104,105,110,101]⟩])/\Below w.heap.size w w':=by
 go_enter Tryz.func67,Tryz.ntmps67
 go_wp2
 exact bodyPost_ret (v:=.agg #[.string ⟨#[104,117,109,97,110]⟩,.string ⟨#[97,108,105,103,110,101,100]⟩,.string ⟨#[109,97,99,104,105,110,101]⟩]) (by simp [results,Tryz.results67,go_sem]) rfl ⟨rfl,((Below.refl _ _).alloc (Nat.le_refl _) _)⟩
def vsF (t0 t1 p n a j t6 q:List UInt8):Nat->List UInt8
 | 0=>t0 | 1=>t1 | 2=>p | 3=>n | 4=>a | 5=>j | 6=>t6 | _=>q
def linV (f:Nat->List UInt8):Nat->List Bs
 | 0=>[]
 | k+1=>linV f k++lnE k (f k)
theorem flds_x (w:World):Calls Tryz.prog 68 #[] w fun e w'=>e=.returned (.agg #[.string ⟨#[115,111,117,114,99,101]⟩,.string ⟨#[116,97,114,103,101,116]⟩,.string ⟨#[112,114,101,118,105,111,117,115]⟩,.string ⟨#[110,101,120,116]⟩,.string ⟨#[97,117,116,104,111,114]⟩,.string ⟨#[112,114,111,106,101,99,116]⟩,.string ⟨#[99,114,101,97,116,101,100]⟩,.string ⟨#[111,114,105,103,105,110]⟩])/\Below w.heap.size w w':=by
 go_enter Tryz.func68,Tryz.ntmps68
 go_wp2
 exact bodyPost_ret (v:=.agg #[.string ⟨#[115,111,117,114,99,101]⟩,.string ⟨#[116,97,114,103,101,116]⟩,.string ⟨#[112,114,101,118,105,111,117,115]⟩,.string ⟨#[110,101,120,116]⟩,.string ⟨#[97,117,116,104,111,114]⟩,.string ⟨#[112,114,111,106,101,99,116]⟩,.string ⟨#[99,114,101,97,116,101,100]⟩,.string ⟨#[111,114,105,103,105,110]⟩]) (by simp [results,Tryz.results68,go_sem]) rfl ⟨rfl,((Below.refl _ _).alloc (Nat.le_refl _) _)⟩
def vls (t0 t1 p n a j t6 q:List UInt8):Obj:=.cells #[.string ⟨t0.toArray⟩,.string ⟨t1.toArray⟩,.string ⟨p.toArray⟩,.string ⟨n.toArray⟩,.string ⟨a.toArray⟩,.string ⟨j.toArray⟩,.string ⟨t6.toArray⟩,.string ⟨q.toArray⟩] 108 (0,0)
theorem text_x (B b:Nat) (s:List UInt8) (w:World) (h:Bld B b s w) (hB:B<=w.heap.size) (v0 v1:Value) (e:En) (t0 t1 t6 q:List UInt8) (hq:orn.getD (e.o - 1).toNat []=q)
  (h0:∀ W:World,Below B w W->Calls Tryz.prog 66 #[v0] W fun e w'=>e=.returned (.tuple #[.string ⟨t0.toArray⟩,.int .i64 0])/\Below W.heap.size W w')
  (h1:∀ W:World,Below B w W->Calls Tryz.prog 66 #[v1] W fun e w'=>e=.returned (.tuple #[.string ⟨t1.toArray⟩,.int .i64 0])/\Below W.heap.size W w')
  (h6:e.c≠0->∀ W:World,Below B w W->Calls Tryz.prog 34 #[.int .i64 e.c] W fun e w'=>e=.returned (.string ⟨t6.toArray⟩)/\Below W.heap.size W w') (h6z:e.c=0->t6=[]) (o1:1<=e.o) (o3:e.o<=3) (hs1:s.length<=100000000) (hszv:∀ i,(vsF t0 t1 e.p e.n e.a e.j t6 q i).length<=1000000) (hszl:∀ i,i<=8->(jn (linV (vsF t0 t1 e.p e.n e.a e.j t6 q) i)).length<=100000000) :
  Calls Tryz.prog 35 #[.pointer (some ⟨b,0,none⟩),.agg #[v0,v1,.string ⟨e.p.toArray⟩,.string ⟨e.n.toArray⟩,.string ⟨e.a.toArray⟩,.string ⟨e.j.toArray⟩,.int .i64 e.c,.int .i64 e.o]] w fun r w'=>r=.returned (.tuple #[])/\Bld B b (s++jn (linV (vsF t0 t1 e.p e.n e.a e.j t6 q) 8)) w'/\Below B w w':=by
 obtain⟨S,p,n,a,j,c,o,hS⟩:∃ S p n a j c o,e=⟨S.1,S.2,p,n,a,j,c,o⟩:=⟨(e.S,e.T),e.p,e.n,e.a,e.j,e.c,e.o,rfl⟩
 subst hS;simp only[] at h6 h6z o1 o3 hq hszv hszl;have HQ:=Lib.hid hq
 clear hq
 go_enter Tryz.func35,Tryz.ntmps35
 go_upto_if 26 with (first | (go_at_call 66;(with_reducible refine (h0 _ ((Below.refl _ _).alloc hB _)).mono ?_);rintro e w1 ⟨rfl,hb1⟩;have hx1:=(hb1.block w.heap.size (by simp)).trans (heap_alloc_new w _);obtain⟨x10,x11,x12,x13,x14,x15,x16,x17⟩:=at8 hx1;have hz1:w.heap.size+1<=w1.heap.size:=by (have:=hb1.size;simp at this;omega)) | (go_at_call 66;(with_reducible refine (h1 _ (((Below.refl _ _).alloc hB _).trans (hb1.mono (by simp;omega)))).mono ?_);rintro e w2 ⟨rfl,hb2⟩;have hx2:=(hb2.block w.heap.size (by omega)).trans hx1;obtain⟨x20,x21,x22,x23,x24,x25,x26,x27⟩:=at8 hx2;have hz2:=hb2.size))
 go_cut [8] (fun s8 wx=>s8=.string ⟨t6.toArray⟩/\wx.heap[w.heap.size]?=some (.cells #[v0,v1,.string ⟨p.toArray⟩,.string ⟨n.toArray⟩,.string ⟨a.toArray⟩,.string ⟨j.toArray⟩,.int .i64 c,.int .i64 o] 25 (0,0))/\Below w.heap.size w wx/\w.heap.size+1<=wx.heap.size)
 case first =>
  by_cases hc:c=0
  ·have h6:=h6z hc
   subst h6;subst hc
   go_wp2
   go_meet
   exact⟨rfl,hx2,⟨hb2.os.trans hb1.os,hb2.tape.trans hb1.tape,hb2.output.trans hb1.output,by omega,fun k hk=>(hb2.block k (by omega)).trans ((hb1.block k (by simp;omega)).trans (Below.heap_alloc w _ k hk))⟩,by omega⟩
  ·have h6:=h6 hc
   go_wp2_with (go_at_call 34;(with_reducible refine (h6 _ ((((Below.refl _ _).alloc hB _).trans (hb1.mono (by simp;omega))).trans (hb2.mono (by omega)))).mono ?_);rintro e w3 ⟨rfl,hb3⟩;have hx3:=(hb3.block w.heap.size (by omega)).trans hx2;have hz3:=hb3.size)
   go_meet
   exact⟨rfl,hx3,⟨hb3.os.trans (hb2.os.trans hb1.os),hb3.tape.trans (hb2.tape.trans hb1.tape),hb3.output.trans (hb2.output.trans hb1.output),by omega,fun k hk=>(hb3.block k (by omega)).trans ((hb2.block k (by omega)).trans ((hb1.block k (by simp;omega)).trans (Below.heap_alloc w _ k hk)))⟩,by omega⟩
 case rest =>
  obtain⟨rfl,hx,hb,hz⟩:=hcut
  go_upto_region 6 with fail
  go_cut [9] (fun s9 wy=>∃ k:Nat,s9=.pointer (some ⟨k,0,none⟩)/\w.heap.size<=k/\wy.heap[k]?=some (vls t0 t1 p n a j t6 q)/\Below w.heap.size w wy)
  case first =>
   obtain⟨y0,y1,y2,y3,y4,y5,y6,y7⟩:=at8 hx;have hix:∀ W,(Instr.index 106 (.agg #[.string ⟨#[104,117,109,97,110]⟩,.string ⟨#[97,108,105,103,110,101,100]⟩,.string ⟨#[109,97,99,104,105,110,101]⟩]) (.int .i64 (o - 1))).run Tryz.prog W=.ok (.string ⟨q.toArray⟩) W:=fun W=>by
    rw[<- HQ.out];have ho:o=1\/o=2\/o=3:=by omega
    rcases ho with rfl | rfl | rfl<;>exact run_ix (n:=3) (e:=9) (by kernel_rfl) (fun W=>by kernel_rfl) (fun W=>by kernel_rfl) (by decide) (by decide) rfl
   have hw1:IntKind.i64.wrap (o - 1)=o - 1:=IntWalk.i64_in _ (by omega)
   go_region_held3 (fun w'=>w'.cell? ⟨w.heap.size,2,none⟩=some (.string ⟨p.toArray⟩)/\w'.cell? ⟨w.heap.size,3,none⟩=some (.string ⟨n.toArray⟩)/\w'.cell? ⟨w.heap.size,4,none⟩=some (.string ⟨a.toArray⟩)/\w'.cell? ⟨w.heap.size,5,none⟩=some (.string ⟨j.toArray⟩)/\w'.cell? ⟨w.heap.size,7,none⟩=some (.int .i64 o))
    ((refine keep5 hx ?_;first | (simp (disch:=(first | omega | (simp;omega) | (have:=hb4.size;simp at this ⊢;omega))) only [drewH,Below.heap_setCell,Below.heap_alloc];done) | (simp (disch:=(first | omega | (simp;omega) | (have:=hb4.size;simp at this ⊢;omega))) only [drewH,Below.heap_setCell,Below.heap_alloc,hb4.block];done)))
    (first | (go_at_call 67;refine (orig_x _).mono ?_;rintro e w4 ⟨rfl,hb4⟩;obtain⟨hc4,hf4⟩:=bcell hb4) | simp only[hix])
   all_goals go_wp2_with fail
   all_goals go_meet
   ·exact⟨_,rfl,by have:=hb4.size;simp at this;omega,heap_alloc_new _ _,((hb.drew).trans (hb4.mono (by simp;omega))).alloc (by have:=hb4.size;simp at this;omega) _⟩
   ·exact⟨_,rfl,by have:=hb4.size;simp at this;omega,heap_alloc_new _ _,((hb.drew).trans (hb4.mono (by simp;omega))).alloc (by have:=hb4.size;simp at this;omega) _⟩
   ·have hx4:=(hb4.block wc.heap.size (by simp)).trans (heap_alloc_new wc _)
    exact⟨_,rfl,by omega,by simp [World.setCell,Array.getElem?_modify,hx4,vls],((((((((((hb.alloc (by omega) _).drew.trans (hb4.mono (by simp;omega))).setCell (by simp;omega) _).setCell (by simp;omega) _).setCell (by simp;omega) _).setCell (by simp;omega) _).setCell (by simp;omega) _).setCell (by simp;omega) _).setCell (by simp;omega) _).setCell (by simp;omega) _)⟩
  case rest =>
   obtain⟨k,rfl,hk,hv,hbw⟩:=hcut;have hks:=(Array.getElem?_eq_some_iff.1 hv).1;have HKB:=Lib.hid (show ¬ k=b from fun e=>by have:=h.lt;omega)
   go_wp2_with (go_at_call 68;refine (flds_x _).mono ?_;rintro e w5 ⟨rfl,hb5⟩)
   have hv5:=(hb5.block k hks).trans hv;have h5:Bld B b s w5:=h.keep (fun k hk=>(hb5.block k (by have:=hbw.size;omega)).trans (hbw.block k hk));have hbw5:Below B w w5:=(hbw.mono hB).trans (hb5.mono (by have:=hbw.size;omega));have hks5:k < w5.heap.size:=by have:=hb5.size;omega
   clear h0 h1 h6 h6z hx hb hz hbw hb5 hv hks h
   go_loopg [48] 8 (fun g s48 wx=>∃ i:Nat,i+g=8/\s48=.int .i64 (i:Int)/\wx.heap[k]?=some (vls t0 t1 p n a j t6 q)/\Bld B b (s++jn (linV (vsF t0 t1 p n a j t6 q) i)) wx/\Below B w wx/\k < wx.heap.size)
   case atStart=>exact⟨0,rfl,rfl,hv5,by simpa [linV,jn] using h5,hbw5,hks5⟩
   case round =>
    obtain⟨i,hi,rfl,hv,hB',hbw',hks⟩:=hrel
    cases gk with
    | zero =>
     obtain rfl:i=8:=by omega
     go_wp2
     go_end0
     exact⟨rfl,hB',hbw'⟩
    | succ g =>
     have hi8:i < 8:=by omega
     have hi0:(0:Int)<=(i:Int):=by omega
     have hi1:(i:Int) < 8:=by omega
     obtain⟨nm,hnm⟩:∃ nm,fnm.getD i []=nm:=⟨_,rfl⟩
     have hix:∀ W,(Instr.index 108 (.agg #[.string ⟨#[115,111,117,114,99,101]⟩,.string ⟨#[116,97,114,103,101,116]⟩,.string ⟨#[112,114,101,118,105,111,117,115]⟩,.string ⟨#[110,101,120,116]⟩,.string ⟨#[97,117,116,104,111,114]⟩,.string ⟨#[112,114,111,106,101,99,116]⟩,.string ⟨#[99,114,101,97,116,101,100]⟩,.string ⟨#[111,114,105,103,105,110]⟩]) (.int .i64 (i:Int))).run Tryz.prog W=.ok (.string ⟨nm.toArray⟩) W:=fun W=>by
      refine run_ix (n:=8) (e:=9) (by kernel_rfl) (fun W=>by kernel_rfl) (fun W=>by kernel_rfl) hi0 hi1 ?_;rw[<- hnm,Int.toNat_natCast]
      match i,hi8 with
      | 0,_ | 1,_ | 2,_ | 3,_ | 4,_ | 5,_ | 6,_ | 7,_=>rfl
     have hc:wr.cell? ⟨k,i,none⟩=some (.string ⟨(vsF t0 t1 p n a j t6 q i).toArray⟩):=by
      rw[Lib.cell_of_heap hv]
      match i,hi8 with
      | 0,_ | 1,_ | 2,_ | 3,_ | 4,_ | 5,_ | 6,_ | 7,_=>rfl
     have hszl':=hszl i (by omega);have hnl:nm.length<=8:=by
      rw[<- hnm]
      match i,hi8 with
      | 0,_ | 1,_ | 2,_ | 3,_ | 4,_ | 5,_ | 6,_ | 7,_=>decide
     have HL:=Lib.hid (show linV (vsF t0 t1 p n a j t6 q) (i+1)=linV (vsF t0 t1 p n a j t6 q) i++lnE i (vsF t0 t1 p n a j t6 q i) from rfl);have HN:=Lib.hid hnm
     clear hnm
     have hsz:=hszv i;generalize vsF t0 t1 p n a j t6 q i=v at hc HL hsz;by_cases hv0:v=[]
     ·subst hv0
      by_cases hi2:2<=i
      ·have hi2':(2:Int)<=(i:Int):=by omega
       go_wp2_with fail
       go_roundg g
       case measure=>omega
       case rel =>
        refine⟨i+1,by omega,by go_num,hv,?_,hbw',hks⟩;rw[HL.out,lnE,if_pos ⟨hi2,rfl⟩,append_nil];exact hB'
      ·have hi2':(i:Int) < 2:=by omega
       go_wp2_with (go_at_call 33;refine (hB'.writeB _ (by simp;omega) (by omega)).mono ?_;rintro e w6 ⟨⟨m,rfl⟩,h6,hb6,ho6⟩)
       go_roundg g
       case measure=>omega
       case rel =>
        have hv6:w6.heap[k]?=some (vls t0 t1 p n a j t6 q):=ho6 k _ hv (by simp;exact HKB.out) (by intro c fz hh;cases hh);refine⟨i+1,by omega,by go_num,hv6,?_,hbw'.trans hb6,by have:=hb6.size;omega⟩;rw[HL.out,lnE,if_neg (by simp_all)];rw[show s++jn (linV (vsF t0 t1 p n a j t6 q) i++[lnK i []])=(s++jn (linV (vsF t0 t1 p n a j t6 q) i))++(nm++32 :: ([]++[10])) by simp [jn,lnK,<- HN.out]];simpa using h6
     ·go_wp2_with (go_at_call 33;refine (hB'.writeB _ (by simp;omega) (by omega)).mono ?_;rintro e w6 ⟨⟨m,rfl⟩,h6,hb6,ho6⟩)
      go_roundg g
      case measure=>omega
      case rel =>
       have hv6:w6.heap[k]?=some (vls t0 t1 p n a j t6 q):=ho6 k _ hv (by simp;exact HKB.out) (by intro c fz hh;cases hh);refine⟨i+1,by omega,by go_num,hv6,?_,hbw'.trans hb6,by have:=hb6.size;omega⟩;rw[HL.out,lnE,if_neg (by simp_all)];rw[show s++jn (linV (vsF t0 t1 p n a j t6 q) i++[lnK i v])=(s++jn (linV (vsF t0 t1 p n a j t6 q) i))++(nm++32 :: (v++[10])) by simp [jn,lnK,<- HN.out]];simpa using h6
end Go.Av
namespace Go.Av
open Go.Proofs Go.Shelf Go.RowKit Go.Nt
set_option maxHeartbeats 4000000
def txK (m:List En) (i:Nat):List UInt8:=hdT m.length++10 :: (m.take i).flatMap fun e=>jn (linE e)
structure RowX (w:World) (bb off:Nat) (e:En) (v0 v1:Value) (t6:List UInt8):Prop where
 c0:∀ W:World,Below w.heap.size w W->W.cell? ⟨bb,off,none⟩=some v0
 c1:∀ W:World,Below w.heap.size w W->W.cell? ⟨bb,off+1,none⟩=some v1
 c2:∀ W:World,Below w.heap.size w W->W.cell? ⟨bb,off+2,none⟩=some (.string ⟨e.p.toArray⟩)
 c3:∀ W:World,Below w.heap.size w W->W.cell? ⟨bb,off+3,none⟩=some (.string ⟨e.n.toArray⟩)
 c4:∀ W:World,Below w.heap.size w W->W.cell? ⟨bb,off+4,none⟩=some (.string ⟨e.a.toArray⟩)
 c5:∀ W:World,Below w.heap.size w W->W.cell? ⟨bb,off+5,none⟩=some (.string ⟨e.j.toArray⟩)
 c6:∀ W:World,Below w.heap.size w W->W.cell? ⟨bb,off+6,none⟩=some (.int .i64 e.c)
 c7:∀ W:World,Below w.heap.size w W->W.cell? ⟨bb,off+7,none⟩=some (.int .i64 e.o)
 f0:∀ W:World,Below w.heap.size w W->Calls Tryz.prog 66 #[v0] W fun e' w'=>e'=.returned (.tuple #[.string ⟨(fmE e.S).toArray⟩,.int .i64 0])/\Below W.heap.size W w'
 f1:∀ W:World,Below w.heap.size w W->Calls Tryz.prog 66 #[v1] W fun e' w'=>e'=.returned (.tuple #[.string ⟨(fmE e.T).toArray⟩,.int .i64 0])/\Below W.heap.size W w'
 f6:e.c≠0->∀ W:World,Below w.heap.size w W->Calls Tryz.prog 34 #[.int .i64 e.c] W fun e' w'=>e'=.returned (.string ⟨t6.toArray⟩)/\Below W.heap.size W w'
 z6:e.c=0->t6=[]
 e6:t6=vlE e 6
 s0:∃ a l k,v0=.slice a l k
 s1:∃ a l k,v1=.slice a l k
 o1:1<=e.o
 o3:e.o<=3
 sz:∀ i,(vsF (fmE e.S) (fmE e.T) e.p e.n e.a e.j t6 (orn.getD (e.o - 1).toNat []) i).length<=1000000
 sl:∀ i,i<=8->(jn (linV (vsF (fmE e.S) (fmE e.T) e.p e.n e.a e.j t6 (orn.getD (e.o - 1).toNat [])) i)).length<=100000000
theorem txK_s {m:List En} {i:Nat} {e:En} (h:m[i]?=some e):txK m (i+1)=txK m i++jn (linE e):=by
 unfold txK;rw[take_add_one,h,flatMap_append,append_assoc];simp
theorem lin_all {e:En} {t6:List UInt8} (h:t6=vlE e 6):linV (vsF (fmE e.S) (fmE e.T) e.p e.n e.a e.j t6 (orn.getD (e.o - 1).toNat [])) 8=linE e:=by
 subst h;rfl
theorem fmt_x (m:List En) (w:World) (v:Value) (A:Option Addr) (bb oo c:Nat) (hv:v=.slice A m.length c) (hA:m≠[]->A=some ⟨bb,oo,none⟩) (hcap:m.length<=c) (hlen:m.length<=1000) (htl:(txM m).length<=1048576) (htk:∀ i,(txK m i).length<=100000000)
  (h0:∀ W:World,Below w.heap.size w W->Calls Tryz.prog 32 #[v] W fun e w'=>e=.returned (.int .i64 0)/\Below W.heap.size W w')
  (h1:∀ W:World,Below w.heap.size w W->Calls Tryz.prog 34 #[.int .i64 (m.length:Int)] W fun e w'=>e=.returned (.string ⟨(dcN m.length).toArray⟩)/\Below W.heap.size W w')
  (hr:∀ (i:Nat) (e:En),m[i]?=some e->∃ v0 v1 t6,RowX w bb (oo+i*8) e v0 v1 t6) :
  Calls Tryz.prog 17 #[v] w fun r w'=>r=.returned (.tuple #[.string ⟨(txM m).toArray⟩,.int .i64 0])/\Below w.heap.size w w':=by
 subst hv;have HTL:=Lib.hid htl;have HTK:=Lib.hid htk
 clear htl htk
 have hd:(dcN m.length).length<=10:=(dcN_p 9 m.length (by omega)).2.2.2.1
 go_enter Tryz.func17,Tryz.ntmps17
 go_wp2_with (first | (go_at_call 32;(with_reducible refine (h0 _ (Below.refl _ _)).mono ?_);rintro e w1 ⟨rfl,hb1⟩) | (go_at_call 34;(with_reducible refine (h1 _ (hb1.trans ((Below.refl _ _).alloc hb1.size _))).mono ?_);rintro e w2 ⟨rfl,hb2⟩;have hB2:=Bld.keep (Bld.fresh (w:=w1)) hb2.block) | (go_at_call 33;refine (hB2.writeB _ (by simp;omega) (by have:=hb2.size;simp at this;omega)).mono ?_;rintro e w3 ⟨⟨k0,rfl⟩,hB3,hb3,_⟩))
 have hb13:Below w1.heap.size w1 w3:=(((Below.refl _ _).alloc (Nat.le_refl _) _).trans (hb2.mono (by simp))).trans hb3;have hB3':Bld w1.heap.size w1.heap.size (txK m 0) w3:=by simpa [txK,hdT,hdB] using hB3
 clear h0 h1 hB2 hb2 hB3 hb3
 go_loopg [21] m.length (fun g s21 wx=>∃ i:Nat,i+g=m.length/\s21=.int .i64 (i:Int)/\Bld w1.heap.size w1.heap.size (txK m i) wx/\Below w1.heap.size w1 wx)
 case atStart=>exact⟨0,by omega,rfl,hB3',hb13⟩
 case round =>
  obtain⟨i,hi,rfl,hB,hbx⟩:=hrel
  cases gk with
  | zero =>
   obtain rfl:i=m.length:=by omega
   have ht:txK m m.length=txM m:=by rw[txM_eq,txK,take_length]
   rw[ht] at hB;have hlen':=hB.len;obtain⟨L,hL⟩:∃ L,(txM m).length=L:=⟨_,rfl⟩
   rw[hL] at hlen';have hLi:(L:Int)<=1048576:=by have:=HTL.out;omega
   have hst:=hB.str hbx.size;obtain⟨tx,htx⟩:∃ tx,(txM m).toArray=tx:=⟨_,rfl⟩
   rw[htx] at hst;have HTX:=Lib.hid htx
   clear ht hL hi htx
   go_wp2_with (first | (go_at_call 36;refine hlen'.mono ?_;rintro e w' ⟨rfl,rfl⟩) | (go_at_call 37;refine hst.mono ?_;rintro e w4 ⟨rfl,hb4⟩))
   go_ret2
   exact⟨by rw[HTX.out];rfl,hb1.trans ((hbx.mono hb1.size).trans (hb4.mono hb1.size))⟩
  | succ g =>
   have him:i < m.length:=by omega
   have hg:m[i]?=some m[i]:=getElem?_eq_getElem him;obtain⟨v0,v1,t6,hx⟩:=hr i _ hg
   obtain rfl:=hA (by intro q;rw[q] at him;simp at him)
   generalize m[i]=e at hx hg;obtain⟨a0,l0,k0',rfl⟩:=hx.s0;obtain⟨a1,l1,k1',rfl⟩:=hx.s1;have HG:=Lib.hid hg
   clear hg
   have hwr:Below w.heap.size w wr:=hb1.trans (hbx.mono hb1.size);have hi0:(0:Int)<=(i:Int):=by omega
   have hi1:(i:Int) < (m.length:Int):=by omega
   have c0:=hx.c0 wr hwr;have c1:=hx.c1 wr hwr;have c2:=hx.c2 wr hwr;have c3:=hx.c3 wr hwr;have c4:=hx.c4 wr hwr;have c5:=hx.c5 wr hwr;have c6:=hx.c6 wr hwr;have c7:=hx.c7 wr hwr;have hsl:(txK m i).length<=100000000:=HTK.out i;have HX:=Lib.hid hx
   go_wp2_with ((go_at_call 35;refine (text_x w1.heap.size w1.heap.size (txK m i) _ (hB.keep fun k hk=>Below.heap_alloc _ _ k hk) (by have:=hbx.size;simp;omega) _ _ e _ _ t6 _ rfl (fun W hW=>HX.out.f0 W (hwr.trans (((Below.refl _ _).alloc hwr.size _).trans (hW.mono hb1.size)))) (fun W hW=>HX.out.f1 W (hwr.trans (((Below.refl _ _).alloc hwr.size _).trans (hW.mono hb1.size)))) (fun hz W hW=>HX.out.f6 hz W (hwr.trans (((Below.refl _ _).alloc hwr.size _).trans (hW.mono hb1.size)))) HX.out.z6 HX.out.o1 HX.out.o3 hsl HX.out.sz HX.out.sl).mono ?_;rintro r w5 ⟨rfl,hB5,hb5⟩))
   go_roundg g
   case measure=>omega
   case rel =>
    refine⟨i+1,by omega,by go_num,?_,hbx.trans (((Below.refl _ _).alloc hbx.size _).trans hb5)⟩;rw[txK_s HG.out,<- lin_all HX.out.e6];exact hB5
theorem fmt_e (v:Value) (w:World) (k:Int) (hk:k≠0) (h0:Calls Tryz.prog 32 #[v] w fun e w'=>e=.returned (.int .i64 k)/\Below w.heap.size w w') :
  Calls Tryz.prog 17 #[v] w fun r w'=>r=.returned (.tuple #[.string ⟨#[]⟩,.int .i64 k])/\Below w.heap.size w w':=by
 go_enter Tryz.func17,Tryz.ntmps17
 go_wp2_with ((go_at_call 32;(with_reducible refine h0.mono ?_);rintro e w1 ⟨rfl,hb1⟩))
 go_ret2
 exact⟨rfl,hb1⟩
end Go.Av
namespace Go.Av
open Go.Nt
theorem kOrd (a b:Bs):G0 63 [.str a,.str b] []=some (.int .i64 (if a=b then 5 else if ltB b a=true then 11 else 0),[]):=by
 refine contract F63 rfl rfl rfl ?_;by_cases q:a=b
 ·subst q
  simp only[F63,go_sem,beq_self_eq_true]
 ·have q':(b == a)=false:=by simpa using fun h:b=a=>q h.symm
  rw[if_neg q]
  cases r:ltB b a<;>simp only[F63,go_sem,q',ltB_def,r]
theorem beh_v {p:List En} {e:En} (h:vE e≠0):behE p e=vE e:=by unfold behE;rw[if_pos h]
theorem beh_0 {e:En} (h:vE e=0):behE [] e=0:=by unfold behE;rw[if_neg (by simp [h])];rfl
theorem beh_s {p:List En} {e f:En} (h:vE e=0) (hp:p.getLast?=some f):behE p e=if keyE f=keyE e then 5 else if ltB (keyE e) (keyE f)=true then 11 else 0:=by
 unfold behE;rw[if_neg (by simp [h]),hp]
theorem last_take {m:List En} {j:Nat} {f:En} (h:m[j]?=some f):(m.take (j+1)).getLast?=some f:=by
 rw[take_add_one,h];simp
theorem take_s {m:List En} {j:Nat} {f:En} (h:m[j]?=some f):m.take j++[f]=m.take (j+1):=by
 rw[take_add_one,h];rfl
theorem chkG_c (p:List En) (e:En) (r:List En):chkG p (e :: r)=if behE p e≠0 then behE p e else chkG (p++[e]) r:=rfl
theorem l32c (m:List En) (hl:m.length<=2000) (hB:∀ e∈m,BE e):∀ (k i:Nat),i+k=m.length ->
  (chkG (m.take i) (m.drop i)=0->execX G0 L32_0 (ST [(3,.str (lst m i)),(11,.bool false),(12,.sl .no 8 (ens m)),(13,.int .i64 m.length),(14,.int .i64 i)] [] [])=some (.ex 0,ST [(3,.str (lst m m.length)),(11,.bool false),(12,.sl .no 8 (ens m)),(13,.int .i64 m.length),(14,.int .i64 m.length),(15,.bool false)] [] [])) /\
  (chkG (m.take i) (m.drop i)≠0->∃ l' M,execX G0 L32_0 (ST [(3,.str (lst m i)),(11,.bool false),(12,.sl .no 8 (ens m)),(13,.int .i64 m.length),(14,.int .i64 i)] [] [])=some (.ret,ST l' M [])/\look .any l' 2=.int .i64 (chkG (m.take i) (m.drop i)))
 | 0,i,h=>by
  have:i=m.length:=by omega
  subst this;rw[drop_length];refine⟨fun _=>?_,fun q=>absurd rfl q⟩;rw[Y_loop (L:=L32_0) rfl];simp only[go_sem,Int.lt_irrefl]
 | k+1,i,h=>by
  have hi:i < m.length:=by omega
  have h4:(i:Int) < (m.length:Int):=by omega
  have h0:(0:Int)<=(i:Int):=by omega
  have hw:IntKind.i64.wrap ((i:Int)+1)=((i+1:Nat):Int):=by rw[w64 (by omega) (by omega)];rfl
  have hg:m[i]?=some m[i]:=getElem?_eq_getElem hi;have hd:m.drop i=m[i] :: m.drop (i+1):=drop_eq_getElem_cons hi;have hBe:=hB _ (getElem_mem hi);generalize m[i]=e at hg hd hBe;have hr:=ens_at hg;have a1:=k23 e hBe;have a2:=k24 e hBe;simp only[rowE] at a1 a2;have ih:=l32c m hl hB k (i+1) (by omega);rw[lst_s hg] at ih;rw[hd,chkG_c,take_s hg];by_cases q:vE e=0
  case neg =>
   rw[beh_v q,if_pos q];refine⟨fun z=>absurd z q,fun _=>?_⟩;refine Exists.intro ?_ (Exists.intro ?_ (And.intro ?_ ?_))
   rotate_left 2
   ·rw[Y_loop (L:=L32_0) rfl]
    simp only[go_sem,h4,h0,hr,hw,a1,q,decide_false,not_false_eq_true,decide_true];rfl
   ·rfl
  rw[q] at a1;by_cases hz0:i=0
  ·have hz:¬ (0:Int) < (i:Int):=by omega
   have hb:behE (m.take i) e=0:=by rw[hz0];exact beh_0 q
   rw[hb,if_neg (by simp)];have step:execX G0 L32_0 (ST [(3,.str (lst m i)),(11,.bool false),(12,.sl .no 8 (ens m)),(13,.int .i64 m.length),(14,.int .i64 i)] [] [])=execX G0 L32_0 (ST [(3,.str (keyE e)),(11,.bool false),(12,.sl .no 8 (ens m)),(13,.int .i64 m.length),(14,.int .i64 ((i+1:Nat):Int))] [] []):=by
    conv=>lhs;rw[Y_loop (L:=L32_0) rfl]
    simp only[go_sem,h4,h0,hr,hw,a1,a2,hz,decide_false,not_true_eq_false]
   rw[step];exact ih
  obtain⟨j,rfl⟩:∃ j,i=j+1:=⟨i - 1,by omega⟩
  have hgj:m[j]?=some m[j]:=getElem?_eq_getElem (by omega);generalize m[j]=f at hgj;have el:lst m (j+1)=keyE f:=lst_s hgj;have hj0:(0:Int) < ((j+1:Nat):Int):=by omega
  have ho:=kOrd (keyE f) (keyE e);rw[<- beh_s q (last_take hgj)] at ho;rw[el];by_cases hb:behE (m.take (j+1)) e=0
  ·rw[hb] at ho ⊢
   rw[if_neg (by simp)];have step:execX G0 L32_0 (ST [(3,.str (keyE f)),(11,.bool false),(12,.sl .no 8 (ens m)),(13,.int .i64 m.length),(14,.int .i64 ((j+1:Nat):Int))] [] [])=execX G0 L32_0 (ST [(3,.str (keyE e)),(11,.bool false),(12,.sl .no 8 (ens m)),(13,.int .i64 m.length),(14,.int .i64 ((j+1+1:Nat):Int))] [] []):=by
    conv=>lhs;rw[Y_loop (L:=L32_0) rfl]
    simp only[go_sem,h4,h0,hr,hw,a1,a2,hj0,ho,decide_true,not_true_eq_false]
   rw[step];exact ih
  ·rw[if_pos hb]
   refine⟨fun z=>absurd z hb,fun _=>?_⟩;refine Exists.intro ?_ (Exists.intro ?_ (And.intro ?_ ?_))
   rotate_left 2
   ·rw[Y_loop (L:=L32_0) rfl]
    simp only[go_sem,h4,h0,hr,hw,a1,a2,hj0,ho,hb,decide_true,decide_false,not_true_eq_false,not_false_eq_true];rfl
   ·rfl
theorem kChk (m:List En) (hl:m.length<=2000) (hB:∀ e∈m,BE e):G0 32 [.sl .no 8 (ens m)] []=some (.int .i64 (chkM m),[]):=by
 refine contract F32 rfl rfl rfl ?_;unfold chkM;by_cases hc:1024 < m.length
 ·have hc':(1024:Int) < (m.length:Int):=by omega
  rw[if_pos hc];simp only[F32,go_sem,ens_len,hc']
 have hc':¬ (1024:Int) < (m.length:Int):=by omega
 rw[if_neg hc];obtain⟨x1,x2⟩:=l32c m hl hB m.length 0 (by omega);have ec:((0:Nat):Int)=0:=rfl;have e3:lst m 0=[]:=rfl;rw[drop_zero,take_zero,ec,e3] at x1 x2;by_cases hq:chkG [] m=0
 ·have y:=x1 hq
  rw[hq];simp only[F32,go_sem,ens_len,hc',y]
 ·obtain⟨l',M,y1,y2⟩:=x2 hq
  simp only[F32,go_sem,ens_len,hc',y1,y2]
theorem kBeh (p:List En) (hl:p.length<=1000000) (hB:∀ e∈p,BE e) (e:En) (he:BE e):G0 69 [.sl .no 8 (ens p),.agg (rowE e)] []=some (.int .i64 (behE p e),[]):=by
 have a1:=k38 e he;have a2:=k26 e he;simp only[rowE] at a1 a2;refine contract F69 rfl rfl rfl ?_;by_cases q:vE e=0
 case neg =>
  rw[beh_v q];simp only[F69,rowE,go_sem,a1,q,decide_false,not_false_eq_true,decide_true]
 rw[q] at a1;rcases eq_nil_or_concat p with rfl | ⟨g,f,hp⟩
 ·rw[beh_0 q]
  simp only[F69,rowE,go_sem,a1,ens,not_true_eq_false,decide_false]
 ·have hp:p=g++[f]:=by rw[hp,concat_eq_append]
  subst hp;rw[beh_s q (f:=f) (by simp)];have hn:(g++[f]).length=g.length+1:=by simp
  have hz:¬ ((g.length+1:Nat):Int)=0:=by omega
  have hw:IntKind.i64.wrap (((g.length+1:Nat):Int) - 1)=(g.length:Int):=by rw[w64 (by omega) (by omega)];omega
  have h0:(0:Int)<=(g.length:Int):=by omega
  have hg:(g++[f])[g.length]?=some f:=by simp
  have hr:=ens_at hg;have hBf:=hB f (by simp);have a3:=k26 f hBf;simp only[rowE] at a3;by_cases r:keyE f=keyE e
  ·have r':(keyE f == keyE e)=true:=by simpa using r
   rw[if_pos r];simp only[F69,rowE,go_sem,a1,a2,a3,ens_len,hn,hz,hw,h0,hr,r',not_true_eq_false,decide_false]
  ·have r':(keyE f == keyE e)=false:=by simpa using r
   rw[if_neg r];have hgt:=gt_str (keyE f) (keyE e)
   cases t:ltB (keyE e) (keyE f) with
   | true =>
    have t2:ltB (keyE f) (keyE e)=false:=ltB_asym t;simp only[F69,rowE,go_sem,a1,a2,a3,ens_len,hn,hz,hw,h0,hr,r',t2,ltB_def,Bool.or_false,Bool.not_false,Bool.not_true,not_true_eq_false,decide_false]
   | false =>
    have t2:ltB (keyE f) (keyE e)=true:=ltB_tri _ _ t (fun h=>r h.symm);simp only[F69,rowE,go_sem,a1,a2,a3,ens_len,hn,hz,hw,h0,hr,r',t2,ltB_def,Bool.or_false,Bool.not_false,Bool.not_true,not_true_eq_false,decide_false]
theorem l38c (m:List En) (hl:m.length<=2000) (hB:∀ e∈m,BE e):∀ (k i:Nat),i+k=m.length ->
  (chkG (m.take i) (m.drop i)=0->execX G0 L38_0 (ST [(0,.sl .no 8 (ens m)),(3,.int .i64 i),(7,.bool false)] [] [])=some (.ex 0,ST [(0,.sl .no 8 (ens m)),(3,.int .i64 m.length),(7,.bool false),(11,.bool false)] [] [])) /\
  (chkG (m.take i) (m.drop i)≠0->∃ l',execX G0 L38_0 (ST [(0,.sl .no 8 (ens m)),(3,.int .i64 i),(7,.bool false)] [] [])=some (.ret,ST l' [] [])/\look .any l' 2=.int .i64 (chkG (m.take i) (m.drop i)))
 | 0,i,h=>by
  have:i=m.length:=by omega
  subst this;rw[drop_length];refine⟨fun _=>?_,fun q=>absurd rfl q⟩;rw[Y_loop (L:=L38_0) rfl];simp only[go_sem,ens_len,Int.lt_irrefl]
 | k+1,i,h=>by
  have hi:i < m.length:=by omega
  have h4:(i:Int) < (m.length:Int):=by omega
  have h5:(i:Int)<=(m.length:Int):=by omega
  have h0:(0:Int)<=(i:Int):=by omega
  have hw:IntKind.i64.wrap ((i:Int)+1)=((i+1:Nat):Int):=by rw[w64 (by omega) (by omega)];rfl
  have hg:m[i]?=some m[i]:=getElem?_eq_getElem hi;have hd:m.drop i=m[i] :: m.drop (i+1):=drop_eq_getElem_cons hi;have hBe:=hB _ (getElem_mem hi);generalize m[i]=e at hg hd hBe;have hr:=ens_at hg;have ht:(ens m).take i=ens (m.take i):=by simp [ens]
  have a1:=kBeh (m.take i) (by simp;omega) (fun e he=>hB e (mem_of_mem_take he)) e hBe;simp only[rowE] at a1;have ih:=l38c m hl hB k (i+1) (by omega);rw[hd,chkG_c,take_s hg];by_cases hb:behE (m.take i) e=0
  ·rw[hb] at a1 ⊢
   rw[if_neg (by simp)];have step:execX G0 L38_0 (ST [(0,.sl .no 8 (ens m)),(3,.int .i64 i),(7,.bool false)] [] [])=execX G0 L38_0 (ST [(0,.sl .no 8 (ens m)),(3,.int .i64 ((i+1:Nat):Int)),(7,.bool false)] [] []):=by
    conv=>lhs;rw[Y_loop (L:=L38_0) rfl]
    simp only[go_sem,ens_len,h4,h5,h0,hr,hw,ht,a1,not_true_eq_false,decide_false]
   rw[step];exact ih
  ·rw[if_pos hb]
   refine⟨fun z=>absurd z hb,fun _=>?_⟩;refine Exists.intro ?_ (And.intro ?_ ?_)
   rotate_left 1
   ·rw[Y_loop (L:=L38_0) rfl]
    simp only[go_sem,ens_len,h4,h5,h0,hr,hw,ht,a1,hb,decide_false,not_false_eq_true,decide_true];rfl
   ·rfl
theorem kChkR (m:List En) (hl:m.length<=2000) (hB:∀ e∈m,BE e):G0 38 [.sl .no 8 (ens m)] []=some (.int .i64 (chkM m),[]):=by
 refine contract F38 rfl rfl rfl ?_;unfold chkM;by_cases hc:1024 < m.length
 ·have hc':(1024:Int) < (m.length:Int):=by omega
  rw[if_pos hc];simp only[F38,go_sem,ens_len,hc']
 have hc':¬ (1024:Int) < (m.length:Int):=by omega
 rw[if_neg hc];obtain⟨x1,x2⟩:=l38c m hl hB m.length 0 (by omega);have ec:((0:Nat):Int)=0:=rfl;rw[drop_zero,take_zero,ec] at x1 x2;by_cases hq:chkG [] m=0
 ·have y:=x1 hq
  rw[hq];simp only[F38,go_sem,ens_len,hc',y]
 ·obtain⟨l',y1,y2⟩:=x2 hq
  simp only[F38,go_sem,ens_len,hc',y1,y2]
end Go.Av
namespace Go.Av
open Go.Proofs Go.RowKit Go.Nt
set_option maxHeartbeats 4000000
theorem str_eq {b:ByteArray} {s:List UInt8} (h:b.data.toList=s):b=⟨s.toArray⟩:=by cases b;subst h;simp
theorem rep_si {c:Cx} {s:List UInt8} {n:Int} {v:Value} (h:RepT c noOwn (.tup [.str s,.int .i64 n]) v):v=.tuple #[.string ⟨s.toArray⟩,.int .i64 n]:=by
 obtain⟨⟨l⟩,rfl,h⟩:=h
 match l,h with
 | [x,y],⟨⟨b,hx,hb⟩,hy,_⟩ =>
  have hy:y=.int .i64 n:=hy;rw[hx,hy,str_eq hb]
theorem glob_mono {S0:Nat->Nat->Prop} {w W:World} (h:GlobOK S0 w) (hc:∀ b o,S0 b o->W.cell? ⟨b,o,none⟩=w.cell? ⟨b,o,none⟩):GlobOK S0 W:=fun i k l hi=>RepC.mono (fun b o hs=>⟨hs,hc b o hs⟩) _ _ _ (h i k l hi)
structure Ent (S0:Nat->Nat->Prop) (w:World):Prop where
 lt:∀ b o,S0 b o->b < w.heap.size
 gl:GlobOK S0 w
theorem Ent.cell {S0:Nat->Nat->Prop} {w W:World} (h:Ent S0 w) (hb:Below w.heap.size w W):∀ b o,S0 b o->W.cell? ⟨b,o,none⟩=w.cell? ⟨b,o,none⟩:=fun b o hs=>hb.cell (p:=⟨b,o,none⟩) (h.lt b o hs)
theorem Ent.next {S0:Nat->Nat->Prop} {w W:World} (h:Ent S0 w) (hb:Below w.heap.size w W):Ent S0 W:=⟨fun b o hs=>Nat.lt_of_lt_of_le (h.lt b o hs) hb.size,glob_mono h.gl (h.cell hb)⟩
theorem ent66:∀ vs w,(callFunc 66 vs).run Tryz.prog w=.ok (.enter 66 vs) w:=enters_of Tryz.func66 (by kernel_rfl) rfl
theorem ent34:∀ vs w,(callFunc 34 vs).run Tryz.prog w=.ok (.enter 34 vs) w:=enters_of Tryz.func34 (by kernel_rfl) rfl
theorem ent32:∀ vs w,(callFunc 32 vs).run Tryz.prog w=.ok (.enter 32 vs) w:=enters_of Tryz.func32 (by kernel_rfl) rfl
theorem fm66 {S0:Nat->Nat->Prop} {w:World} (hE:Ent S0 w) {f:List Tk} (hf:vld f=0) (hl:f.length<=1000000) (hb:∀ t∈f,t.2.1.length<=cap47) {v:Value} (hv:RepF S0 w (.sl .no 3 (tks f)) v) :
  ∀ W:World,Below w.heap.size w W->Calls Tryz.prog 66 #[v] W fun e w'=>e=.returned (.tuple #[.string ⟨(fmE f).toArray⟩,.int .i64 0])/\Below W.heap.size W w':=fun W hW=>by
 have c:=c32 f hl hb;rw[hf,fmE_eq] at c;have hE':=hE.next hW;refine (pure_call c ent66 hE'.lt hE'.gl (vs:=#[v]) ⟨RepF.mono (fun b o hs=>⟨hs,hE.cell hW b o hs⟩) _ _ hv,trivial⟩).mono ?_
 rintro e w' ⟨u,_,_,_,rfl,h1,h2⟩
 exact⟨by rw[rep_si h1],h2⟩
theorem dec_dc {n:Nat} (h:n<=999):Nt.dec n=dcN n:=by
 unfold Nt.dec;split
 ·rename_i q;rw[dcN_lt q]
 ·rename_i q
  rw[dcN_ge q];split
  ·rename_i r;rw[dcN_lt (by omega)];rfl
  ·rename_i r
   rw[dcN_ge (by omega),dcN_lt (by omega),show n / 10 / 10=n / 100 by omega];rfl
theorem it34 (n:Nat) (h:n<=999) {S0:Nat->Nat->Prop} {w:World} (hE:Ent S0 w):∀ W:World,Below w.heap.size w W->Calls Tryz.prog 34 #[.int .i64 (n:Int)] W fun e w'=>e=.returned (.string ⟨(dcN n).toArray⟩)/\Below W.heap.size W w':=fun W hW=>by
 have c:=c50 n h;rw[dec_dc h] at c;have hE':=hE.next hW;refine (pure_call c ent34 hE'.lt hE'.gl (vs:=#[.int .i64 (n:Int)]) ⟨rfl,trivial⟩).mono ?_
 rintro e w' ⟨u,_,_,_,rfl,⟨b,h1,h3⟩,h2⟩
 exact⟨by rw[h1,str_eq h3],h2⟩
theorem ctx_len {s:Bs} (h:perr s=0):s.length<=50000:=by
 obtain⟨c1,c2,_⟩:=parse_canon (s:=s) (g:=(parse s).1) (b:=(parse s).2.1) (by rw[<- h];rfl)
 have:=fmE_len (f:=(parse s).1)
 unfold fmE at this;rw[if_pos c1,c2] at this;exact this
theorem vs_len {e:En} (h:VE e) (i:Nat):(vsF (fmE e.S) (fmE e.T) e.p e.n e.a e.j (vlE e 6) (orn.getD (e.o - 1).toNat []) i).length<=60000:=by
 have h0:=fmE_len (f:=e.S);have h1:=fmE_len (f:=e.T);have h2:=ctx_len h.pp;have h3:=ctx_len h.pn;have h4:=nm_len h.na;have h5:=nm_len h.nj;have h6:=vl6_len h;have h7:=orn_len (e.o - 1).toNat
 match i with
 | 0=>show (fmE e.S).length<=_;omega
 | 1=>show (fmE e.T).length<=_;omega
 | 2=>show e.p.length<=_;omega
 | 3=>show e.n.length<=_;omega
 | 4=>show e.a.length<=_;omega
 | 5=>show e.j.length<=_;omega
 | 6=>show (vlE e 6).length<=_;omega
 | k+7=>show (orn.getD (e.o - 1).toNat []).length<=_;omega
theorem fnm_ln:∀ k,(fnm.getD k []).length<=8
 | 0 | 1 | 2 | 3 | 4 | 5 | 6 | 7=>by decide
 | k+8=>by simp [fnm]
theorem lin_len {f:Nat->List UInt8} (h:∀ i,(f i).length<=60000):∀ i,(jn (linV f i)).length<=i*60010
 | 0=>by simp [linV,jn]
 | i+1=>by
  have h1:=lin_len h i;have h2:=lnE_len i (f i);have h3:=h i;have h4:=fnm_ln i;show (jn (linV f i++lnE i (f i))).length<=_;rw[jn_app,length_append];omega
theorem szE_len {e:En} (h:VE e):szE e<=200048:=by
 have h0:=fmE_len (f:=e.S);have h1:=fmE_len (f:=e.T);have h2:=ctx_len h.pp;have h3:=ctx_len h.pn;have h4:=nm_len h.na;have h5:=nm_len h.nj;unfold szE;omega
theorem txK_len {m:List En} (hl:m.length<=100) (h:∀ e∈m,VE e) (i:Nat):(txK m i).length<=100000000:=by
 have h1:=hdT_len (n:=m.length) (by omega);have h2:=flat_len (B:=200048) (m:=m.take i) (fun e he=>⟨h e (mem_of_mem_take he),szE_len (h e (mem_of_mem_take he))⟩);have h3:(m.take i).length<=100:=by rw[length_take];omega
 have h4:(m.take i).length*(200048+100)<=100*(200048+100):=Nat.mul_le_mul_right _ h3;unfold txK;rw[length_append,length_cons];omega
structure FOK (m:List En):Prop where
 l:m.length<=100
 b:∀ e∈m,BE e
 c:chkM m=0->(∀ e∈m,e.c<=999)/\(txM m).length<=1048576
theorem row_x {S0:Nat->Nat->Prop} {w:World} (hE:Ent S0 w) {e:En} (hV:VE e) (hB:BE e) (hc:e.c<=999) {b o:Nat} (hr:RepC S0 w (rowE e) b o):∃ v0 v1 t6,RowX w b o e v0 v1 t6:=by
 obtain⟨s0,v0,k0,r0⟩:=hr.get (j:=0) (x:=.sl .no 3 (tks e.S)) rfl;obtain⟨s1,v1,k1,r1⟩:=hr.get (j:=1) (x:=.sl .no 3 (tks e.T)) rfl;obtain⟨s2,v2,k2,b2,rfl,r2⟩:=hr.get (j:=2) (x:=.str e.p) rfl;obtain⟨s3,v3,k3,b3,rfl,r3⟩:=hr.get (j:=3) (x:=.str e.n) rfl;obtain⟨s4,v4,k4,b4,rfl,r4⟩:=hr.get (j:=4) (x:=.str e.a) rfl;obtain⟨s5,v5,k5,b5,rfl,r5⟩:=hr.get (j:=5) (x:=.str e.j) rfl;obtain⟨s6,v6,k6,r6⟩:=hr.get (j:=6) (x:=.int .i64 e.c) rfl;obtain⟨s7,v7,k7,r7⟩:=hr.get (j:=7) (x:=.int .i64 e.o) rfl;have r6:v6=.int .i64 e.c:=r6;have r7:v7=.int .i64 e.o:=r7;rw[str_eq r2] at k2;rw[str_eq r3] at k3;rw[str_eq r4] at k4;rw[str_eq r5] at k5;rw[r6] at k6;rw[r7] at k7;obtain⟨l1,l2,l3⟩:=hB.lS;obtain⟨l4,l5,l6⟩:=hB.lT;have hc0:=hV.c0;have q0:∃ a l k,v0=.slice a l k:=by
  have:∃ A c,v0=.slice A (tks e.S).length c/\_:=r0
  obtain⟨A,c,h,_⟩:=this;exact⟨_,_,_,h⟩
 have q1:∃ a l k,v1=.slice a l k:=by
  have:∃ A c,v1=.slice A (tks e.T).length c/\_:=r1
  obtain⟨A,c,h,_⟩:=this;exact⟨_,_,_,h⟩
 refine⟨v0,v1,vlE e 6,⟨fun W h=>(hE.cell h _ _ s0).trans k0,fun W h=>(hE.cell h _ _ s1).trans k1,fun W h=>(hE.cell h _ _ s2).trans k2,fun W h=>(hE.cell h _ _ s3).trans k3,fun W h=>(hE.cell h _ _ s4).trans k4,fun W h=>(hE.cell h _ _ s5).trans k5,fun W h=>(hE.cell h _ _ s6).trans k6,fun W h=>(hE.cell h _ _ s7).trans k7,
  fm66 hE hV.vS (by omega) l3 r0,fm66 hE hV.vT (by omega) l6 r1,fun hz W hW=>?_,fun hz=>?_,rfl,q0,q1,hV.o1,hV.o3,fun i=>by have:=vs_len hV i;omega,fun i hi=>?_⟩⟩
 ·have:=it34 e.c.toNat (by omega) hE W hW
  rw[show ((e.c.toNat:Nat):Int)=e.c by omega] at this;rw[show vlE e 6=dcN e.c.toNat from if_neg hz];exact this
 ·show (if e.c=0 then [] else _)=[]
  rw[if_pos hz]
 ·have:=lin_len (vs_len hV) i
  omega
end Go.Av
