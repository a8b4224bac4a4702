/- Small entries, raw fragments, entries that were spoiled. No conditions. The law MemoryValidates, within the bound of a bulk. No conditions. -/
import Derived.Test.YtigalfbihapdnaaGreatDoorG7XL
open List
set_option linter.unusedSimpArgs false
set_option linter.unusedVariables false
set_option linter.unusedSectionVars false
set_option maxRecDepth 100000
set_option maxHeartbeats 16000000
namespace Go.Av
open Go.Nt
structure UE (e:En):Prop where
 S:e.S.length<=1048576
 sT:∀ t∈e.S,t.2.1.length<=1048576
 T:e.T.length<=1048576
 tT:∀ t∈e.T,t.2.1.length<=1048576
 p:e.p.length<=1048576
 n:e.n.length<=1048576
 a:e.a.length<=1048576
 j:e.j.length<=1048576
def wtl (f:List Tk):Nat:=f.length+tot f
theorem wtl_cons (t:Tk) (f:List Tk):wtl (t :: f)=1+t.2.1.length+wtl f:=by unfold wtl;rw[tot_cons,length_cons];omega
theorem wtl_nil:wtl []=0:=rfl
theorem wtl_app (f g:List Tk):wtl (f++g)=wtl f+wtl g:=by unfold wtl;rw[tot_app,length_append];omega
def wtE (e:En):Nat:=e.p.length+e.n.length+e.a.length+e.j.length+wtl (e.S++e.T)
theorem BE.of_wt {e:En} (h:wtE e<=500):BE e:=by
 unfold wtE at h;rw[wtl_app] at h;unfold wtl at h;exact⟨by omega,by omega,by omega,by omega,by omega,by omega,by omega,by omega⟩
theorem l29k (f:List Tk) (hf:f.length<=2097152) (hb:∀ t∈f,t.2.1.length<=1048576) (md:Own):∀ (k i s:Nat),i+k=f.length->s<=5000000+1048577*i ->
  execX G0 L29_0 (ST [(3,.int .i64 s),(26,.sl md 3 (tks f)),(27,.int .i64 f.length),(28,.int .i64 i)] [] [])=some (.ex 0,ST [(3,.int .i64 ((s+wtl (f.drop i):Nat):Int)),(26,.sl md 3 (tks f)),(27,.int .i64 f.length),(28,.int .i64 f.length),(29,.bool false)] [] [])
 | 0,i,s,h,hs=>by
  have:i=f.length:=by omega
  subst this;rw[drop_length,wtl_nil,Nat.add_zero];rw[Y_loop (L:=L29_0) rfl];simp only[go_sem,Int.lt_irrefl]
 | k+1,i,s,h,hs=>by
  have hi:i < f.length:=by omega
  have h4:(i:Int) < (f.length:Int):=by omega
  have h0:(0:Int)<=(i:Int):=by omega
  have hw:IntKind.i64.wrap ((i:Int)+1)=((i+1:Nat):Int):=by rw[w64 (by omega) (by omega)];rfl
  have hg:f[i]?=some f[i]:=getElem?_eq_getElem hi;have hd:f.drop i=f[i] :: f.drop (i+1):=drop_eq_getElem_cons hi;have ht:=hb _ (getElem_mem hi);generalize f[i]=T at hg hd ht;have hr:=tks_at hg;have w1:IntKind.i64.wrap (1+(T.2.1.length:Int))=((1+T.2.1.length:Nat):Int):=by rw[w64 (by omega) (by omega)];rfl
  have w2:IntKind.i64.wrap ((s:Int)+((1+T.2.1.length:Nat):Int))=((s+(1+T.2.1.length):Nat):Int):=by rw[w64 (by omega) (by omega)];rfl
  have ih:=l29k f hf hb md k (i+1) (s+(1+T.2.1.length)) (by omega) (by omega);rw[hd,wtl_cons,<- Nat.add_assoc];rw[Y_loop (L:=L29_0) rfl];simp only[go_sem,h4,h0,hr,hw,w1,w2];exact ih
theorem k29 (e:En) (h:UE e):G0 29 [.agg (rowE e)] []=some (.bool (decide (wtE e<=500)),[]):=by
 have hS:=h.S;have hT:=h.T;have hp:=h.p;have hn:=h.n;have ha:=h.a;have hj:=h.j;have w1:IntKind.i64.wrap ((e.p.length:Int)+(e.n.length:Int))=((e.p.length+e.n.length:Nat):Int):=by rw[w64 (by omega) (by omega)];rfl
 have w2:IntKind.i64.wrap (((e.p.length+e.n.length:Nat):Int)+(e.a.length:Int))=((e.p.length+e.n.length+e.a.length:Nat):Int):=by rw[w64 (by omega) (by omega)];rfl
 have w3:IntKind.i64.wrap (((e.p.length+e.n.length+e.a.length:Nat):Int)+(e.j.length:Int))=((e.p.length+e.n.length+e.a.length+e.j.length:Nat):Int):=by rw[w64 (by omega) (by omega)];rfl
 have p1:appA false 3 32 (.sl .full 3 []) (.sl .no 3 (tks e.S))=some (.sl .own 3 (tks e.S)):=by
  have e1:(.sl .full 3 []:AV)=.sl .full 3 (tks []):=rfl;rw[e1,appA_gen _ _ (by decide) _ _ (by decide),tks_len,tks_len,if_pos (appOK_le (by decide) (by simp;omega))];rfl
 have p2:appA false 3 32 (.sl .own 3 (tks e.S)) (.sl .no 3 (tks e.T))=some (.sl .own 3 (tks (e.S++e.T))):=by
  rw[appA_gen _ _ (by decide) _ _ (by decide),tks_len,tks_len,if_pos (appOK_le (by decide) (by omega)),tks_app']
 have x:=l29k (e.S++e.T) (by simp;omega) (fun t ht=>by
  rcases mem_append.1 ht with q | q
  ·exact h.sT t q
  ·exact h.tT t q) .own (e.S++e.T).length 0 (e.p.length+e.n.length+e.a.length+e.j.length) (by omega) (by omega)
 have ec:((0:Nat):Int)=0:=rfl;rw[ec,drop_zero] at x;have e2:decide ((((e.p.length+e.n.length+e.a.length+e.j.length+wtl (e.S++e.T)):Nat):Int)<=500)=decide (wtE e<=500):=by
  unfold wtE;rw[decide_eq_decide];omega
 refine contract F29 rfl rfl rfl ?_;simp only[F29,rowE,go_sem,w1,w2,w3,p1,p2,tks_len,x,e2]
def tbR:List Bs:=[[],[98],[97,98,32,99],[97,32,104,61,49],[66],[110,47],[105],[32,120]]
theorem tbR_l:∀ x∈tbR,x.length<=5:=by decide
theorem mR:mksA 1 [.str []] 8 [0,1,2,3,4,5,6,7] [.str [],.str [98],.str [97,98,32,99],.str [97,32,104,61,49],.str [66],.str [110,47],.str [105],.str [32,120]]=some (.sl .full 1 (strs tbR)):=by rfl
theorem appT {md:Own} (hm:md≠.no) (f:List Tk) (x:Tk) (h:f.length<=100000):appA false 3 32 (.sl md 3 (tks f)) (.sl .full 3 [[.int .i64 x.1,.str x.2.1,.int .i64 x.2.2]])=some (.sl .own 3 (tks (f++[x]))):=by
 have e1:[[AV.int .i64 x.1,.str x.2.1,.int .i64 x.2.2]]=tks [x]:=rfl;rw[e1,appA_gen _ _ hm _ _ (by decide),tks_len,tks_len,if_pos (appOK_le (by decide) (by simp;omega)),tks_app']
theorem l57k (l:List Int):∀ (k n:Nat) (f:List Tk) (md:Own),md≠.no->n+4*k<=1000000->f.length+k<=20->tot f+5*k<=100 ->
  ∃ n' f' md',n'<=n+4*k/\f'.length<=f.length+k/\tot f'<=tot f+5*k /\
   execX G0 L57_0 (ST [(0,.ptr 0 0),(5,.sl md 3 (tks f)),(6,.int .i64 k)] [] [num l n])=some (.ex 0,ST [(0,.ptr 0 0),(5,.sl md' 3 (tks f')),(6,.int .i64 0),(13,.bool false)] [] [num l n'])
 | 0,n,f,md,hm,h1,h2,h3=>by
  refine⟨n,f,md,by omega,by omega,by omega,?_⟩;rw[Y_loop (L:=L57_0) rfl];simp only[go_sem,Int.lt_irrefl]
 | k+1,n,f,md,hm,h1,h2,h3=>by
  have hk:(0:Int) < ((k+1:Nat):Int):=by omega
  have hwk:IntKind.i64.wrap (((k+1:Nat):Int) - 1)=(k:Int):=by rw[w64 (by omega) (by omega)];omega
  have a1:=c41 l n 8 (by omega) (by decide) (by decide);have a2:=c41 l (n+1) 8 (by omega) (by decide) (by decide);have a3:=c41 l (n+1+1) 4 (by omega) (by decide) (by decide);have a4:=c41 l (n+1+1+1) 3 (by omega) (by decide) (by decide);have b1:=nxt_bd l n 8 (by decide);obtain⟨x,hx,r1,r0⟩:=tb_in tbR l (n+1) 8 (by decide) rfl;have hxl:=tbR_l x hx;have w1:IntKind.i64.wrap (nxt l n 8 - 1)=nxt l n 8 - 1:=w64 (by omega) (by omega);generalize nxt l n 8=c1 at a1 b1 w1;generalize nxt l (n+1) 8=c2 at a2 r1 r0;generalize nxt l (n+1+1) 4=c3 at a3;generalize nxt l (n+1+1+1) 3=c4 at a4;by_cases q:0 < c4
  ·have p:=appT hm f (c1 - 1,x,0) (by omega)
   obtain⟨n',f',md',q1,q2,q3,q4⟩:=l57k l k (n+1+1+1+1) (f++[(c1 - 1,x,0)]) .own (by decide) (by omega) (by simp;omega) (by rw[tot_app,tot_cons,tot_nil];simp only[];omega);refine⟨n',f',md',by omega,by simp at q2;omega,by rw[tot_app,tot_cons,tot_nil] at q3;simp only[] at q3;omega,?_⟩;simp only[] at p;rw[Y_loop (L:=L57_0) rfl];simp only[go_sem,hk,hwk,a1,a2,a3,a4,w1,mR,r1,r0,q,p,num_ok];exact q4
  ·have p:=appT hm f (c1 - 1,x,c3) (by omega)
   obtain⟨n',f',md',q1,q2,q3,q4⟩:=l57k l k (n+1+1+1+1) (f++[(c1 - 1,x,c3)]) .own (by decide) (by omega) (by simp;omega) (by rw[tot_app,tot_cons,tot_nil];simp only[];omega);refine⟨n',f',md',by omega,by simp at q2;omega,by rw[tot_app,tot_cons,tot_nil] at q3;simp only[] at q3;omega,?_⟩;simp only[] at p;rw[Y_loop (L:=L57_0) rfl];simp only[go_sem,hk,hwk,a1,a2,a3,a4,w1,mR,r1,r0,q,p,num_ok];exact q4
theorem k57 (l:List Int) (n:Nat) (hn:n<=100000):∃ n' f,n'<=n+20/\f.length<=4/\tot f<=20/\G0 57 [.ptr 0 0,.int .i64 4] [num l n]=some (.sl .no 3 (tks f),[num l n']):=by
 have hb:=nxt_bd l n 5 (by decide);have a1:=c41 l n 5 (by omega) (by decide) (by decide);have hc:(((nxt l n 5).toNat:Nat):Int)=nxt l n 5:=by omega
 obtain⟨n',f,md,q1,q2,q3,q4⟩:=l57k l (nxt l n 5).toNat (n+1) [] .full (by decide) (by omega) (by simp;omega) (by rw[tot_nil];omega);rw[hc,tks_nil] at q4;refine⟨n',f,by omega,by simp at q2;omega,by rw[tot_nil] at q3;omega,?_⟩;have w5:IntKind.i64.wrap 5=5:=w64 (by decide) (by decide);refine contract F57 rfl rfl rfl ?_;simp only[F57,go_sem,w5,a1,q4,num_ok]
theorem fold_tot:∀ (f g:List Tk),tot (f.foldl pn g)<=tot g+tot f/\(f.foldl pn g).length<=g.length+f.length
 | [],g=>by simp [tot_nil]
 | x :: f,g=>by
  have h1:=tot_pn g x;have h2:=fold_tot f (pn g x);rw[foldl_cons,tot_cons,length_cons];omega
theorem nrm_tot (f:List Tk):tot (nrm f)<=tot f/\(nrm f).length<=f.length:=by
 have:=fold_tot f []
 unfold nrm;simpa [tot_nil] using this
theorem k21s (l:List Int) (w:Int):∃ e,BE e/\G0 21 [.sl .no 1 (ints l),.int .i64 w] []=some (.agg (rowE e),[]):=by
 obtain⟨n1,e,g1,h,h2⟩:=k55 l 0 (by omega);have h3:=c18 w 16 (by decide) (by decide);generalize w % 16=d at h3;have hn:num l 0=[.sl .no 1 (ints l),.int .i64 0]:=rfl;rw[hn] at h2;obtain⟨n2,f,g2,f1,f2,a1⟩:=k57 l n1 (by omega);have a2:=c41 l n1 3 (by omega) (by decide) (by decide);have hb:=nxt_bd l n1 3 (by decide);generalize nxt l n1 3=y at a2 hb;have wy:IntKind.i64.wrap (40+y)=40+y:=w64 (by omega) (by omega);have hS:=h.2.S;have hsT:=h.2.sT;have hT:=h.2.T;have htT:=h.2.tT;have lp:=h.2.p;have ln:=h.2.n;have la:=h.2.a;have lj:=h.2.j;have a3:=c37 e.T [(4,[98,114],40+y)] (by simp;omega) (by rw[tot_cons,tot_nil];simp;omega);have t1:=nrm_tot (e.T++[(4,[98,114],40+y)]);rw[tot_app,tot_cons,tot_nil,length_append] at t1;have t2:=vld_tot h.1.vT;simp only[length_cons,length_nil] at t1;have e1:tks [((4,[98,114],40+y):Tk)]=[[.int .i64 4,.str [98,114],.int .i64 (40+y)]]:=rfl;rw[e1] at a3;simp only[rowE] at h2;by_cases d1:d=1
 ·refine⟨⟨f,e.T,e.p,e.n,e.a,e.j,e.c,e.o⟩,⟨by show f.length<=600;omega,by show tot f<=50000;omega,hT,htT,lp,ln,la,lj⟩,?_⟩
  refine contract F21 rfl rfl rfl ?_;simp only[F21,rowE,go_sem,h2,h3,a1,d1]
 by_cases d3:d=3
 ·refine⟨⟨e.S,f,e.p,e.n,e.a,e.j,e.c,e.o⟩,⟨hS,hsT,by show f.length<=600;omega,by show tot f<=50000;omega,lp,ln,la,lj⟩,?_⟩
  refine contract F21 rfl rfl rfl ?_;simp only[F21,rowE,go_sem,h2,h3,a1,d3]
 by_cases d5:d=5
 ·refine⟨⟨e.S,e.T,[97,60],e.n,e.a,e.j,e.c,e.o⟩,⟨hS,hsT,hT,htT,by simp,ln,la,lj⟩,?_⟩
  refine contract F21 rfl rfl rfl ?_;simp only[F21,rowE,go_sem,h2,h3,d5]
 by_cases d7:d=7
 ·refine⟨⟨e.S,e.T,e.p,[10],e.a,e.j,e.c,e.o⟩,⟨hS,hsT,hT,htT,lp,by simp,la,lj⟩,?_⟩
  refine contract F21 rfl rfl rfl ?_;simp only[F21,rowE,go_sem,h2,h3,d7]
 by_cases d9:d=9
 ·refine⟨⟨e.S,e.T,e.p,e.n,[65,110,110],e.j,e.c,e.o⟩,⟨hS,hsT,hT,htT,lp,ln,by simp,lj⟩,?_⟩
  refine contract F21 rfl rfl rfl ?_;simp only[F21,rowE,go_sem,h2,h3,d9]
 by_cases d11:d=11
 ·refine⟨⟨e.S,e.T,e.p,e.n,e.a,e.j,-1,e.o⟩,⟨hS,hsT,hT,htT,lp,ln,la,lj⟩,?_⟩
  refine contract F21 rfl rfl rfl ?_;simp only[F21,rowE,go_sem,h2,h3,d11]
 by_cases d13:d=13
 ·refine⟨⟨e.S,e.T,e.p,e.n,e.a,e.j,e.c,4⟩,⟨hS,hsT,hT,htT,lp,ln,la,lj⟩,?_⟩
  refine contract F21 rfl rfl rfl ?_;simp only[F21,rowE,go_sem,h2,h3,d13]
 by_cases d15:d=15
 ·refine⟨⟨e.S,nrm (e.T++[(4,[98,114],40+y)]),e.p,e.n,e.a,e.j,e.c,e.o⟩,⟨hS,hsT,by show (nrm _).length<=600;omega,by show tot (nrm _)<=50000;omega,lp,ln,la,lj⟩,?_⟩
  refine contract F21 rfl rfl rfl ?_;simp only[F21,rowE,go_sem,h2,h3,d15,a2,wy,a3]
 ·refine⟨e,h.2,?_⟩
  refine contract F21 rfl rfl rfl ?_;simp only[F21,rowE,go_sem,h2,h3,d1,d3,d5,d7,d9,d11,d13,d15]
end Go.Av
namespace Go.Av
open Go.Nt
end Go.Av
