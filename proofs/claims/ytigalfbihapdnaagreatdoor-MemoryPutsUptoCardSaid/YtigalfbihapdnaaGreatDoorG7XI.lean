/- The law's entries and memories, equal entries, the fixed example. No conditions. -/
import Derived.Test.YtigalfbihapdnaaGreatDoorG7XH
open List
set_option linter.unusedSimpArgs false
set_option linter.unusedVariables false
set_option linter.unusedSectionVars false
set_option maxRecDepth 100000
set_option maxHeartbeats 16000000
namespace Go.Av
open Go.Nt
def MG (m:List En):Prop:=Mem m/\∀ e∈m,GE e
theorem MG.nil:MG []:=⟨mem_nil,fun e h=>by cases h⟩
theorem MG.be {m:List En} (h:MG m):∀ e∈m,BE e:=fun e he=>(h.2 e he).2
theorem MG.put {m:List En} (h:MG m) {e:En} (he:GE e):MG (putM m e):=by
 refine⟨mem_putM h.1 he.1,fun z hz=>?_⟩;rcases mem_put.1 hz with q | q
 ·rw[q];exact he
 ·exact h.2 z q.1
theorem MG.ok {m:List En} (h:MG m) (hl:m.length<=1024):okM m=true:=(okM_iff m).2 ⟨hl,h.1⟩
theorem MG.putE {m:List En} (h:MG m) (hl:m.length < 1024) {e:En} (he:GE e):Go.Av.putE m e=0/\putV m e=putM m e:=
 putE_0 (h.ok (by omega)) ((vE_iff e).2 he.1) (fun q=>by have:=q.2;omega)
theorem putM_len (m:List En) (h:Sr m) (e:En):(putM m e).length<=m.length+1:=by
 rw[put_len h e]
 split<;>omega
def sameE (x y:En):Bool:=decide (x.S=y.S) && (decide (x.T=y.T) && ((x.p == y.p) && ((x.n == y.n) && ((x.a == y.a) && ((x.j == y.j) && (decide (x.c=y.c) && decide (x.o=y.o)))))))
theorem sameE_iff (x y:En):sameE x y=true↔x=y:=by
 unfold sameE;simp only[Bool.and_eq_true,decide_eq_true_eq,beq_iff_eq];constructor
 ·rintro ⟨h1,h2,h3,h4,h5,h6,h7,h8⟩
  exact En.eq h1 h2 h3 h4 h5 h6 h7 h8
 ·rintro rfl
  exact⟨rfl,rfl,rfl,rfl,rfl,rfl,rfl,rfl⟩
theorem k37 (x y:En) (hx:BE x):G0 37 [.agg (rowE x),.agg (rowE y)] []=some (.bool (sameE x y),[]):=by
 have c1:=c22 x.S y.S (by have:=hx.lS;omega);have c2:=c22 x.T y.T (by have:=hx.lT;omega);refine contract F37 rfl rfl rfl ?_;by_cases d1:x.S=y.S
 case neg =>
  have hs:sameE x y=false:=by unfold sameE;simp [d1]
  rw[hs];rw[decide_eq_false d1] at c1;simp only[F37,rowE,go_sem,c1,c2]
 rw[decide_eq_true d1] at c1;by_cases d2:x.T=y.T
 case neg =>
  have hs:sameE x y=false:=by unfold sameE;simp [d1,d2]
  rw[hs];rw[decide_eq_false d2] at c2;simp only[F37,rowE,go_sem,c1,c2]
 rw[decide_eq_true d2] at c2;by_cases d3:x.p=y.p
 case neg =>
  have hs:sameE x y=false:=by unfold sameE;simp [d1,d2,d3]
  rw[hs];have b3:(x.p == y.p)=false:=by simpa using d3
  simp only[F37,rowE,go_sem,c1,c2,b3]
 have b3:(x.p == y.p)=true:=by simpa using d3
 by_cases d4:x.n=y.n
 case neg =>
  have hs:sameE x y=false:=by unfold sameE;simp [d1,d2,d3,d4]
  rw[hs];have b4:(x.n == y.n)=false:=by simpa using d4
  simp only[F37,rowE,go_sem,c1,c2,b3,b4]
 have b4:(x.n == y.n)=true:=by simpa using d4
 by_cases d5:x.a=y.a
 case neg =>
  have hs:sameE x y=false:=by unfold sameE;simp [d1,d2,d3,d4,d5]
  rw[hs];have b5:(x.a == y.a)=false:=by simpa using d5
  simp only[F37,rowE,go_sem,c1,c2,b3,b4,b5]
 have b5:(x.a == y.a)=true:=by simpa using d5
 by_cases d6:x.j=y.j
 case neg =>
  have hs:sameE x y=false:=by unfold sameE;simp [d1,d2,d3,d4,d5,d6]
  rw[hs];have b6:(x.j == y.j)=false:=by simpa using d6
  simp only[F37,rowE,go_sem,c1,c2,b3,b4,b5,b6]
 have b6:(x.j == y.j)=true:=by simpa using d6
 by_cases d7:x.c=y.c
 case neg =>
  have hs:sameE x y=false:=by unfold sameE;simp [d1,d2,d3,d4,d5,d6,d7]
  rw[hs];simp only[F37,rowE,go_sem,c1,c2,b3,b4,b5,b6,d7]
 by_cases d8:x.o=y.o
 case neg =>
  have hs:sameE x y=false:=by unfold sameE;simp [d1,d2,d3,d4,d5,d6,d7,d8]
  rw[hs];simp only[F37,rowE,go_sem,c1,c2,b3,b4,b5,b6,d7,d8]
 have hs:sameE x y=true:=by unfold sameE;simp [d1,d2,d3,d4,d5,d6,d7,d8]
 rw[hs];simp only[F37,rowE,go_sem,c1,c2,b3,b4,b5,b6,d7,d8]
theorem l28k (m:List En) (hl:m.length<=2000) (hB:∀ e∈m,BE e):∀ (k i:Nat),i+k=m.length ->
  execX G0 L28_0 (ST [(0,.sl .no 8 (ens m)),(1,.sl .no 8 (ens m)),(10,.bool false),(12,.int .i64 m.length),(13,.int .i64 i)] [] [])=some (.ex 0,ST [(0,.sl .no 8 (ens m)),(1,.sl .no 8 (ens m)),(10,.bool false),(12,.int .i64 m.length),(13,.int .i64 m.length),(14,.bool false)] [] [])
 | 0,i,h=>by
  have:i=m.length:=by omega
  subst this;rw[Y_loop (L:=L28_0) rfl];simp only[go_sem,Int.lt_irrefl]
 | k+1,i,h=>by
  have hi:i < m.length:=by omega
  have h4:(i:Int) < (m.length:Int):=by omega
  have h0:(0:Int)<=(i:Int):=by omega
  have hw:IntKind.i64.wrap ((i:Int)+1)=((i+1:Nat):Int):=by rw[w64 (by omega) (by omega)];rfl
  have hg:m[i]?=some m[i]:=getElem?_eq_getElem hi;have hBe:=hB _ (getElem_mem hi);generalize m[i]=e at hg hBe;have hr:=ens_at hg;have a1:=k37 e e hBe;rw[(sameE_iff e e).2 rfl] at a1;simp only[rowE] at a1;have ih:=l28k m hl hB k (i+1) (by omega);rw[Y_loop (L:=L28_0) rfl];simp only[go_sem,h4,h0,hr,hw,a1,Bool.not_true];exact ih
theorem k28 (m:List En) (hl:m.length<=2000) (hB:∀ e∈m,BE e):G0 28 [.sl .no 8 (ens m),.sl .no 8 (ens m)] []=some (.bool true,[]):=by
 have x:=l28k m hl hB m.length 0 (by omega);have ec:((0:Nat):Int)=0:=rfl;rw[ec] at x;have hne:¬ ¬ (m.length:Int)=(m.length:Int):=fun q=>q rfl
 refine contract F28 rfl rfl rfl ?_;simp only[F28,go_sem,ens_len,ne_eq,not_true_eq_false,decide_false,x]
def ek:En:=⟨[(1,[83,97,118,101],0)],[(1,[83,105,99,104,101,114,110],0)],[],[120],[],[],0,1⟩
theorem ek_v:vE ek=0:=by decide +kernel
theorem ek_ge:GE ek:=⟨(vE_iff ek).1 ek_v,by decide,by decide +kernel,by decide,by decide +kernel,by decide,by decide,by decide,by decide⟩
theorem ek_key:keyE ek=[83,97,118,101,10,10,120]:=by decide +kernel
theorem mg1 {e:En} (h:GE e):MG [e]:=by
 have:=MG.nil.put h
 exact this
theorem k20:G0 20 [] []=some (.bool true,[]):=by
 have a1:=k27 [] (by simp) MG.nil.be ek ek_ge.2;rw[(MG.nil.putE (by simp) ek_ge).1,(MG.nil.putE (by simp) ek_ge).2] at a1;have e1:putM [] ek=[ek]:=rfl;rw[e1,ens_nil] at a1;have hm:=mg1 ek_ge;have a2:=k24 ek ek_ge.2;rw[ek_key] at a2;have a3:=k35 [ek] (by simp) hm.be [83,97,118,101,10,10,120];have a4:=k35 [ek] (by simp) hm.be [83,97,118,101];have hg:getM [ek] [83,97,118,101,10,10,120]=some ek:=by rw[getM_cons,if_pos ek_key]
 have hg2:getM [ek] [83,97,118,101]=none:=by rw[getM_cons,if_neg (by rw[ek_key];decide)];rfl
 have hp:plc [ek] [83,97,118,101,10,10,120]=0:=by
  have:=plc_lt hm.1 hg
  simp only[length_singleton] at this;omega
 have f3:fndI [ek] [83,97,118,101,10,10,120]=0:=by unfold fndI;rw[if_pos (hm.ok (by simp)),hg];simp only[hp];rfl
 have f4:fndI [ek] [83,97,118,101] = -1:=by unfold fndI;rw[if_pos (hm.ok (by simp)),hg2]
 rw[f3] at a3;rw[f4] at a4;have hr:rowE ek=[.sl .no 3 [[.int .i64 1,.str [83,97,118,101],.int .i64 0]],.sl .no 3 [[.int .i64 1,.str [83,105,99,104,101,114,110],.int .i64 0]],.str [],.str [120],.str [],.str [],.int .i64 0,.int .i64 1]:=rfl;rw[hr] at a1 a2;have hn:(ens [ek]).length=1:=rfl;refine contract F20 rfl rfl rfl ?_;simp only[F20,go_sem,a1,a2,a3,a4,hn,beq_self_eq_true]
end Go.Av
