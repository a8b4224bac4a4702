/- Keys of long texts; the reference's occurrences. No conditions. The tokens of a fragment: the reference's and the program's; hits. No conditions. Hits of a phrase; the searches. No conditions. -/
import Derived.Test.YtigalfbihapdnaaGreatDoorG6XJ
open List
set_option linter.unusedSimpArgs false
set_option linter.unusedVariables false
set_option linter.unusedSectionVars false
set_option maxRecDepth 100000
set_option maxHeartbeats 16000000
namespace Go.Av
open Go.Nt
theorem dl51g (s:List UInt8) (hs:s.length<=140737488355328):∀ (k i:Nat),i+k=s.length ->
  execX G3 L162_0 (ST [(3,.ss 0 0 s.length 1),(8,.int .i64 s.length),(9,.int .i64 i)] [] [bcells (lowP s i)]) =
  some (.ex 0,ST [(3,.ss 0 0 s.length 1),(8,.int .i64 s.length),(9,.int .i64 s.length),(10,.bool false)] [] [bcells (lowF s)])
 | 0,i,h=>by
  have:i=s.length:=by omega
  subst this;rw[Y_loop (L:=L162_0) rfl];simp only[go_sem,Int.lt_irrefl,lowP_end]
 | k+1,i,h=>by
  have h3:i < s.length:=by omega
  have h4:(i:Int) < (s.length:Int):=by omega
  have h0:(0:Int)<=(i:Int):=by omega
  have hw:IntKind.i64.wrap ((i:Int)+1)=((i+1:Nat):Int):=by rw[w64 (by omega) (by omega)];rfl
  have ih:=dl51g s hs k (i+1) (by omega);have ha:=bcells_at (lowP_at s i h3);by_cases hl:(65:Int)<=((s.getD i 0).toNat:Int)/\((s.getD i 0).toNat:Int)<=90
  ·have hn:=low_nat _ hl
   have hw8:IntKind.u8.wrap (((s.getD i 0).toNat:Int)+32)=((low8 (s.getD i 0)).toNat:Int):=by
    rw[hn,IntKind.wrap_u8];omega
   have hp:∀ x,putL i [x] (bcells (lowP s i))=some ((bcells (lowP s i)).set i x):=fun x=>putL_one _ _ x (by rw[bcells_len,lowP_len];exact h3)
   rw[Y_loop (L:=L162_0) rfl];simp only[go_sem,h4,h0,hw,Nat.mul_one,Nat.zero_add,ha,bcells_blk,hl.1,hl.2,hw8,hp,bcells_set,set_cons_zero,<- lowP_succ s i h3];exact ih
  ·have e:lowP s (i+1)=lowP s i:=lowP_same s i h3 (by unfold low8;rw[if_neg hl])
   rw[e] at ih;rw[Y_loop (L:=L162_0) rfl];by_cases h6:(65:Int)<=((s.getD i 0).toNat:Int)
   ·have h7:¬ ((s.getD i 0).toNat:Int)<=90:=fun h=>hl ⟨h6,h⟩
    simp only[go_sem,h4,h0,hw,Nat.mul_one,Nat.zero_add,ha,bcells_blk,h6,h7];exact ih
   ·simp only[go_sem,h4,h0,hw,Nat.mul_one,Nat.zero_add,ha,bcells_blk,h6]
    exact ih
theorem dc51g (s:List UInt8) (hs:s.length<=140737488355328):G3 162 [.str s] []=some (.str (lowF s),[]):=by
 refine contract F162 rfl rfl rfl ?_;have hx:=dl51g s hs s.length 0 (by omega);rw[lowP_zero] at hx;have hb:s.length<=140737488355328:=by omega
 have hr:=rowsC_b (lowF s);have hll:(lowF s).length=s.length:=by simp [lowF]
 rw[hll] at hr;simp only[go_sem] at hx;simp only[F162,go_sem,hb,hx,hr]
theorem dc23g (k i:Int) (s:List UInt8) (hs:s.length<=140737488355328):G3 136 [.agg [.int .i64 k,.str s,.int .i64 i]] []=some (.str (kyF k s),[]):=by
 refine contract F136 rfl rfl rfl ?_;by_cases h1:k=6
 ·simp only[F136,go_sem,h1,kyF,dc51g s hs]
 ·simp only[F136,go_sem,h1,kyF]
def scn:List Tk->List (List UInt8)->Nat->Option Int
 | [],_,_=>none
 | t :: D,W,p=>if cnt t.1=true then (match W with
   | []=>none
   | x :: W'=>if kyF t.1 t.2.1=x then (if W'=[] then some ((p:Int)+1) else scn D W' (p+1)) else none) else scn D W (p+1)
theorem scn_eq:∀ (D:List Tk) (W:List (List UInt8)) (p:Nat),W≠[]->scn D W p=if (phr D).take W.length=W then some ((plcT p D).getD (W.length - 1) 0+1) else none
 | [],W,p,h=>by
  rw[if_neg]
  ·rfl
  ·intro e;apply h;rw[<- e];simp [phr]
 | t :: D,W,p,h=>by
  by_cases c:cnt t.1=true
  ·have e1:plcT p (t :: D)=(p:Int) :: plcT (p+1) D:=by simp only[plcT,c,if_true]
   rw[phr_yes c,e1]
   cases W with
   | nil=>exact absurd rfl h
   | cons x W' =>
    simp only[scn,c,if_true,length_cons,take_succ_cons,List.cons.injEq];by_cases d:kyF t.1 t.2.1=x
    ·by_cases n:W'=[]
     ·subst n
      simp [d]
     ·rw[if_pos d,if_neg n,scn_eq D W' (p+1) n]
      have hl:1<=W'.length:=by cases W' with | nil=>exact absurd rfl n | cons=>simp
      by_cases q:(phr D).take W'.length=W'
      ·rw[if_pos q,if_pos ⟨d,q⟩]
       obtain⟨m,hm⟩:∃ m,W'.length=m+1:=⟨W'.length - 1,by omega⟩
       rw[hm];simp
      ·rw[if_neg q,if_neg (fun z=>q z.2)]
    ·rw[if_neg d,if_neg (fun z=>d z.1)]
  ·have e1:plcT p (t :: D)=plcT (p+1) D:=by simp [plcT,c]
   rw[e1,phr_no (by simpa using c),<- scn_eq D W (p+1) h]
   cases W<;>simp [scn,c]
def opt (f:Int):Option Int->List (Int × Int)
 | some e=>[(f,e)]
 | none=>[]
theorem dl21i (w:List (List UInt8)) (T:List Tk) (hT:T.length<=4398046511104) (hw:w.length<=8796093022208) (hT2:∀ t∈T,t.2.1.length<=140737488355328) (f:Nat) (tf:Tk) (hf:T[f]?=some tf) (hfc:cnt tf.1=true) :
  ∀ (k to n:Nat) (md:Own) (out:List (Int × Int)),md≠.no->to+k=T.length->n < w.length->n<=to->out.length<=T.length ->
  ∃ md' n' to',md'≠.no /\
   (execX G3 L91_0 (ST [(0,.sl .no 1 (strs w)),(1,.sl .no 3 (tks T)),(5,.sl md 2 (prT out)),(6,.int .i64 f),(7,.int .i64 n),(8,.int .i64 to),(11,.bool false),(13,.int .i64 T.length),(14,.int .i64 f),(15,.bool true)] [] [])=some (.ex 2,ST [(0,.sl .no 1 (strs w)),(1,.sl .no 3 (tks T)),(5,.sl md' 2 (prT (out++opt f (scn (T.drop to) (w.drop n) to)))),(6,.int .i64 f),(7,.int .i64 n'),(8,.int .i64 to'),(11,.bool false),(13,.int .i64 T.length),(14,.int .i64 f),(15,.bool true),(28,.bool false)] [] []) \/
    execX G3 L91_0 (ST [(0,.sl .no 1 (strs w)),(1,.sl .no 3 (tks T)),(5,.sl md 2 (prT out)),(6,.int .i64 f),(7,.int .i64 n),(8,.int .i64 to),(11,.bool false),(13,.int .i64 T.length),(14,.int .i64 f),(15,.bool true)] [] [])=some (.ex 2,ST [(0,.sl .no 1 (strs w)),(1,.sl .no 3 (tks T)),(5,.sl md' 2 (prT (out++opt f (scn (T.drop to) (w.drop n) to)))),(6,.int .i64 f),(7,.int .i64 n'),(8,.int .i64 to'),(11,.bool false),(13,.int .i64 T.length),(14,.int .i64 f),(15,.bool true),(28,.bool true),(36,.bool false),(46,.bool true)] [] []) \/
    execX G3 L91_0 (ST [(0,.sl .no 1 (strs w)),(1,.sl .no 3 (tks T)),(5,.sl md 2 (prT out)),(6,.int .i64 f),(7,.int .i64 n),(8,.int .i64 to),(11,.bool false),(13,.int .i64 T.length),(14,.int .i64 f),(15,.bool true)] [] [])=some (.ex 2,ST [(0,.sl .no 1 (strs w)),(1,.sl .no 3 (tks T)),(5,.sl md' 2 (prT (out++opt f (scn (T.drop to) (w.drop n) to)))),(7,.int .i64 n'),(11,.bool false),(13,.int .i64 T.length),(14,.int .i64 f),(15,.bool true),(28,.bool true),(36,.bool false),(46,.bool false),(52,.bool true)] [] []))
 | 0,to,n,md,out,hm,h1,h2,h3,h4=>by
  have:to=T.length:=by omega
  subst this;refine⟨md,n,T.length,hm,.inl ?_⟩;rw[Y_loop (L:=L91_0) rfl];simp only[go_sem,tks_len,Int.lt_irrefl,drop_length,scn,opt]
 | k+1,to,n,md,out,hm,h1,h2,h3,h4=>by
  have hi:to < T.length:=by omega
  have g4:(to:Int) < (T.length:Int):=by omega
  have g0:(0:Int)<=(to:Int):=by omega
  have f0:(0:Int)<=(f:Int):=by omega
  have n0:(0:Int)<=(n:Int):=by omega
  have hwr:IntKind.i64.wrap ((to:Int)+1)=((to+1:Nat):Int):=by rw[w64 (by omega) (by omega)];rfl
  have hwn:IntKind.i64.wrap ((n:Int)+1)=((n+1:Nat):Int):=by rw[w64 (by omega) (by omega)];rfl
  have hg:T[to]?=some T[to]:=getElem?_eq_getElem hi;have hd:T.drop to=T[to] :: T.drop (to+1):=drop_eq_getElem_cons hi;have hl:T[to].2.1.length<=140737488355328:=hT2 _ (getElem_mem hi);generalize T[to]=t at hg hd hl;have hr:=tks_at hg;have hrf:=tks_at hf;have hwg:w[n]?=some w[n]:=getElem?_eq_getElem h2;have hwd:w.drop n=w[n] :: w.drop (n+1):=drop_eq_getElem_cons h2;generalize w[n]=x at hwg hwd;have hws:=strs_at hwg;rw[hd,hwd];by_cases c:cnt t.1=true
  ·by_cases d:kyF t.1 t.2.1=x
   ·have dx:(kyF t.1 t.2.1 != x)=false:=by simp [d]
    by_cases e:n+1=w.length
    ·have e':((n+1:Nat):Int)=(w.length:Int):=by omega
     have en:w.drop (n+1)=[]:=drop_eq_nil_of_le (by omega);have es:scn (t :: T.drop (to+1)) (x :: w.drop (n+1)) to=some ((to:Int)+1):=by simp [scn,c,d,en]
     have ha:appOK 16 (out.length+1)=true:=by simp only[appOK,decide_eq_true_eq];omega
     have hw1:IntKind.i64.wrap ((to:Int)+1)=(to:Int)+1:=w64 (by omega) (by omega);rw[es];refine⟨.own,w.length,0,by decide,.inr (.inr ?_)⟩;rw[Y_loop (L:=L91_0) rfl];simp only[go_sem,tks_len,g4,g0,f0,n0,hr,hrf,dc47,hfc,c,dc23g _ _ _ hl,hws,dx,hwn,e',hw1,appA_gen md _ hm 2 16 (by decide),prT_len,strs_len,ha,prT_one,prT_app,opt]
    ·have e':¬ ((n+1:Nat):Int)=(w.length:Int):=by omega
     have en:w.drop (n+1)≠[]:=by intro z;have:=congrArg List.length z;simp at this;omega
     have es:scn (t :: T.drop (to+1)) (x :: w.drop (n+1)) to=scn (T.drop (to+1)) (w.drop (n+1)) (to+1):=by simp only[scn,c,d,if_true,en,if_false]
     rw[es];obtain⟨md',n',to',q0,q⟩:=dl21i w T hT hw hT2 f tf hf hfc k (to+1) (n+1) md out hm (by omega) (by omega) (by omega) h4;refine⟨md',n',to',q0,?_⟩;have step:∀ r,execX G3 L91_0 (ST [(0,.sl .no 1 (strs w)),(1,.sl .no 3 (tks T)),(5,.sl md 2 (prT out)),(6,.int .i64 f),(7,.int .i64 (n+1:Nat)),(8,.int .i64 (to+1:Nat)),(11,.bool false),(13,.int .i64 T.length),(14,.int .i64 f),(15,.bool true)] [] [])=r->execX G3 L91_0 (ST [(0,.sl .no 1 (strs w)),(1,.sl .no 3 (tks T)),(5,.sl md 2 (prT out)),(6,.int .i64 f),(7,.int .i64 n),(8,.int .i64 to),(11,.bool false),(13,.int .i64 T.length),(14,.int .i64 f),(15,.bool true)] [] [])=r:=by
      intro r hr2;rw[Y_loop (L:=L91_0) rfl];simp only[go_sem,tks_len,g4,g0,f0,n0,hr,hrf,dc47,hfc,c,dc23g _ _ _ hl,hws,dx,hwn,e',hwr,strs_len];exact hr2
     rcases q with q | q | q
     ·exact .inl (step _ q)
     ·exact .inr (.inl (step _ q))
     ·exact .inr (.inr (step _ q))
   ·have dx:(kyF t.1 t.2.1 != x)=true:=by simp [d]
    have es:scn (t :: T.drop (to+1)) (x :: w.drop (n+1)) to=none:=by simp only[scn,c,d,if_true,if_false]
    rw[es];refine⟨md,n,to,hm,.inr (.inl ?_)⟩;rw[Y_loop (L:=L91_0) rfl];simp only[go_sem,tks_len,g4,g0,f0,n0,hr,hrf,dc47,hfc,c,dc23g _ _ _ hl,hws,dx,opt]
  ·have c':cnt t.1=false:=by simpa using c
   have es:scn (t :: T.drop (to+1)) (x :: w.drop (n+1)) to=scn (T.drop (to+1)) (x :: w.drop (n+1)) (to+1):=by simp only[scn,c',Bool.false_eq_true,if_false]
   rw[es,<- hwd];obtain⟨md',n',to',q0,q⟩:=dl21i w T hT hw hT2 f tf hf hfc k (to+1) n md out hm (by omega) (by omega) (by omega) h4;refine⟨md',n',to',q0,?_⟩;have step:∀ r,execX G3 L91_0 (ST [(0,.sl .no 1 (strs w)),(1,.sl .no 3 (tks T)),(5,.sl md 2 (prT out)),(6,.int .i64 f),(7,.int .i64 n),(8,.int .i64 (to+1:Nat)),(11,.bool false),(13,.int .i64 T.length),(14,.int .i64 f),(15,.bool true)] [] [])=r->execX G3 L91_0 (ST [(0,.sl .no 1 (strs w)),(1,.sl .no 3 (tks T)),(5,.sl md 2 (prT out)),(6,.int .i64 f),(7,.int .i64 n),(8,.int .i64 to),(11,.bool false),(13,.int .i64 T.length),(14,.int .i64 f),(15,.bool true)] [] [])=r:=by
    intro r hr2;rw[Y_loop (L:=L91_0) rfl];simp only[go_sem,tks_len,g4,g0,f0,n0,hr,hrf,dc47,hfc,c',hwr];exact hr2
   rcases q with q | q | q
   ·exact .inl (step _ q)
   ·exact .inr (.inl (step _ q))
   ·exact .inr (.inr (step _ q))
theorem occR_len (w:List (List UInt8)):∀ (T:List Tk) (p:Nat),(occR w p T).length<=T.length
 | [],p=>by simp [occR]
 | t :: T,p=>by
  have:=occR_len w T (p+1)
  simp only[occR]
  split<;>simp only[length_cons]<;>omega
theorem dl21o (w:List (List UInt8)) (hw0:1<=w.length) (T:List Tk) (hT:T.length<=4398046511104) (hw:w.length<=8796093022208) (hT2:∀ t∈T,t.2.1.length<=140737488355328) :
  ∀ (k i:Nat) (md:Own) (out:List (Int × Int)),md≠.no->i+k=T.length->out.length<=i ->
  ∃ md',execX G3 L91_1 (ST [(0,.sl .no 1 (strs w)),(1,.sl .no 3 (tks T)),(5,.sl md 2 (prT out)),(11,.bool false),(13,.int .i64 T.length),(14,.int .i64 i)] [] [])=some (.ex 0,ST [(0,.sl .no 1 (strs w)),(1,.sl .no 3 (tks T)),(5,.sl md' 2 (prT (out++occR w i (T.drop i)))),(11,.bool false),(13,.int .i64 T.length),(14,.int .i64 T.length),(15,.bool false)] [] [])
 | 0,i,md,out,hm,h1,h2=>by
  have:i=T.length:=by omega
  subst this;refine⟨md,?_⟩;rw[Y_loop (L:=L91_1) rfl];simp only[go_sem,Int.lt_irrefl,drop_length,occR]
 | k+1,i,md,out,hm,h1,h2=>by
  have hi:i < T.length:=by omega
  have g4:(i:Int) < (T.length:Int):=by omega
  have g0:(0:Int)<=(i:Int):=by omega
  have hwr:IntKind.i64.wrap ((i:Int)+1)=((i+1:Nat):Int):=by rw[w64 (by omega) (by omega)];rfl
  have hg:T[i]?=some T[i]:=getElem?_eq_getElem hi;have hd:T.drop i=T[i] :: T.drop (i+1):=drop_eq_getElem_cons hi;generalize T[i]=t at hg hd;have hr:=tks_at hg;have hwn:w≠[]:=by intro z;subst z;simp at hw0
  by_cases c:cnt t.1=true
  ·obtain⟨md1,n',to',q0,q⟩:=dl21i w T hT hw hT2 i t hg c (k+1) i 0 md out hm (by omega) (by omega) (by omega) (by omega)
   rw[drop_zero,scn_eq _ _ _ hwn] at q;have eo:out++opt (i:Int) (if (phr (T.drop i)).take w.length=w then some ((plcT i (T.drop i)).getD (w.length - 1) 0+1) else none)++occR w (i+1) (T.drop (i+1))=out++occR w i (T.drop i):=by
    rw[hd];simp only[occR,c,true_and];by_cases z:(phr (t :: T.drop (i+1))).take w.length=w
    ·rw[if_pos z,if_pos z];simp [opt]
    ·rw[if_neg z,if_neg z];simp [opt]
   have hlo:(out++opt (i:Int) (if (phr (T.drop i)).take w.length=w then some ((plcT i (T.drop i)).getD (w.length - 1) 0+1) else none)).length<=i+1:=by
    split<;>simp [opt]<;>omega
   obtain⟨md',ih⟩:=dl21o w hw0 T hT hw hT2 k (i+1) md1 _ q0 (by omega) hlo;rw[eo] at ih;refine⟨md',?_⟩;generalize hO:out++opt (i:Int) (if (phr (T.drop i)).take w.length=w then some ((plcT i (T.drop i)).getD (w.length - 1) 0+1) else none)=O at q ih;rcases q with q | q | q
   all_goals
    simp only[go_sem] at q;rw[Y_loop (L:=L91_1) rfl];simp only[go_sem,g4,g0,q,hwr];exact ih
  ·have c':cnt t.1=false:=by simpa using c
   obtain⟨md',ih⟩:=dl21o w hw0 T hT hw hT2 k (i+1) md out hm (by omega) (by omega);have eo:occR w i (T.drop i)=occR w (i+1) (T.drop (i+1)):=by
    rw[hd];simp only[occR,c',Bool.false_eq_true,false_and,if_false]
   rw[eo];refine⟨md',?_⟩;rw[Y_loop (L:=L91_1) rfl];simp only[go_sem,g4,g0,hwr];rw[Y_loop (L:=L91_0) rfl];simp only[go_sem,g4,g0,hwr,tks_len,hr,dc47,c'];exact ih
theorem dc21 (w:List (List UInt8)) (T:List Tk) (hT:T.length<=4398046511104) (hw:w.length<=8796093022208) (hT2:∀ t∈T,t.2.1.length<=140737488355328):G3 91 [.sl .no 1 (strs w),.sl .no 3 (tks T)] []=some (.sl .no 2 (prT (occF w T)),[]):=by
 refine contract F91 rfl rfl rfl ?_;by_cases h1:w.length=0
 ·have h2:((w.length:Nat):Int)=0:=by omega
  simp only[F91,go_sem,strs_len,h2,occF,h1,prT_nil]
 ·have h2:¬ ((w.length:Nat):Int)=0:=by omega
  obtain⟨md',hx⟩:=dl21o w (by omega) T hT hw hT2 T.length 0 .full [] (by decide) (by omega) (by simp);rw[drop_zero,<- occF_R w (by omega)] at hx;simp only[go_sem,prT_nil] at hx;simp only[F91,go_sem,strs_len,tks_len,h2,hx]
end Go.Av
namespace Go.Av
open Go.Nt
def tkT (t:Tk):List Tk:=if t.1=1 then cutF t.2.1 else if t.1=2\/t.1=3\/t.1=4\/t.1=5 then [t] else []
def tokF:List Tk->List Tk
 | []=>[]
 | t :: l=>tkT t++tokF l
theorem tkT_len (t:Tk):(tkT t).length<=t.2.1.length+1/\∀ x∈tkT t,x.2.1.length<=t.2.1.length:=by
 unfold tkT;split
 ·have h:=cutL_len t.2.1.length t.2.1
  exact⟨by unfold cutF;omega,h.2⟩
 ·split
  ·exact⟨by simp,fun x hx=>by rw[mem_singleton.1 hx];exact Nat.le_refl _⟩
  ·exact⟨by simp,fun x hx=>by cases hx⟩
theorem tokF_len:∀ f:List Tk,(tokF f).length<=tot f+f.length/\∀ x∈tokF f,x.2.1.length<=tot f
 | []=>⟨by simp [tokF,tot],fun x hx=>by cases hx⟩
 | t :: l=>by
  have h1:=tkT_len t;have h2:=tokF_len l;have h3:=tot_cons t l;refine⟨by simp only[tokF,length_append,length_cons];omega,fun x hx=>?_⟩;simp only[tokF] at hx;rcases mem_append.1 hx with q | q
  ·have:=h1.2 x q;omega
  ·have:=h2.2 x q;omega
theorem tkT1 (s:Bs) (n:Int):tkT (1,s,n)=cutF s:=rfl
theorem tkT2 (a:Int) (s:Bs) (n:Int) (h:a=2\/a=3\/a=4\/a=5):tkT (a,s,n)=[(a,s,n)]:=by
 unfold tkT;rw[if_neg (show ¬ a=1 by omega),if_pos h]
theorem tkT0 (a:Int) (s:Bs) (n:Int) (h1:¬ a=1) (h:¬ (a=2\/a=3\/a=4\/a=5)):tkT (a,s,n)=[]:=by
 unfold tkT;rw[if_neg h1,if_neg h]
theorem l49k (f:List Tk) (hf:f.length<=600) (ht:∀ t∈f,t.2.1.length<=1000000):∀ (k i:Nat) (md:Own) (out:List Tk),md≠.no->i+k=f.length->out.length+(tokF (f.drop i)).length<=1000000 ->
  ∃ md',execX G3 L49_0 (ST [(3,.sl md 3 (tks out)),(6,.sl .no 3 (tks f)),(7,.int .i64 f.length),(8,.int .i64 i)] [] [])=some (.ex 0,ST [(3,.sl md' 3 (tks (out++tokF (f.drop i)))),(6,.sl .no 3 (tks f)),(7,.int .i64 f.length),(8,.int .i64 f.length),(9,.bool false)] [] [])
 | 0,i,md,out,hm,h1,h2=>by
  have:i=f.length:=by omega
  subst this;refine⟨md,?_⟩;rw[Y_loop (L:=L49_0) rfl];simp only[go_sem,Int.lt_irrefl,drop_length,tokF,append_nil]
 | k+1,i,md,out,hm,h1,h2=>by
  have h3:i < f.length:=by omega
  have h4:(i:Int) < (f.length:Int):=by omega
  have h0:(0:Int)<=(i:Int):=by omega
  have hw:IntKind.i64.wrap ((i:Int)+1)=((i+1:Nat):Int):=by rw[w64 (by omega) (by omega)];rfl
  have hg:f[i]?=some f[i]:=getElem?_eq_getElem h3;have hd:f.drop i=f[i] :: f.drop (i+1):=drop_eq_getElem_cons h3;have hl:=ht _ (getElem_mem h3);obtain⟨a,s,n,hq⟩:∃ a s n,f[i]=(a,s,n):=⟨_,_,_,rfl⟩
  rw[hq] at hg hd hl;have hr:=tks_at hg;rw[hd] at h2 ⊢;simp only[tokF,length_append] at h2 ⊢;by_cases c1:a=1
  ·subst c1
   rw[tkT1] at h2 ⊢;obtain⟨md',ih⟩:=l49k f hf ht k (i+1) .own (out++cutF s) (by decide) (by omega) (by simp;omega);refine⟨md',?_⟩;rw[append_assoc] at ih;have ha:appOK 32 (out.length+(cutF s).length)=true:=appOK_le (by decide) (by omega);rw[Y_loop (L:=L49_0) rfl];simp only[go_sem,h4,h0,hw,hr,dc46 s hl,appA_gen md .no hm 3 32 (by decide),tks_len,ha,tks_app];exact ih
  ·by_cases c2:a=2\/a=3\/a=4\/a=5
   ·rw[tkT2 _ _ _ c2] at h2 ⊢
    obtain⟨md',ih⟩:=l49k f hf ht k (i+1) .own (out++[(a,s,n)]) (by decide) (by omega) (by simp at h2 ⊢;omega);refine⟨md',?_⟩;rw[append_assoc] at ih;have ha:appOK 32 (out.length+1)=true:=appOK_le (by decide) (by simp at h2;omega);rcases c2 with q | q | q | q
    all_goals
     subst q;rw[Y_loop (L:=L49_0) rfl];simp only[go_sem,h4,h0,hw,hr,Int.reduceEq,appA_gen md _ hm 3 32 (by decide),tks_len,ha,tks_one,tks_app];exact ih
   ·rw[tkT0 _ _ _ c1 c2] at h2 ⊢
    obtain⟨md',ih⟩:=l49k f hf ht k (i+1) md out hm (by omega) (by simpa using h2);refine⟨md',?_⟩;have e2:¬ a=2:=fun q=>c2 (.inl q)
    have e3:¬ a=3:=fun q=>c2 (.inr (.inl q))
    have e4:¬ a=4:=fun q=>c2 (.inr (.inr (.inl q)))
    have e5:¬ a=5:=fun q=>c2 (.inr (.inr (.inr q)))
    rw[Y_loop (L:=L49_0) rfl];simp only[go_sem,h4,h0,hw,hr,c1,e2,e3,e4,e5,nil_append];exact ih
theorem k49 (f:List Tk) (hf:f.length<=600) (ht:tot f<=50000):G3 49 [.sl .no 3 (tks f)] []=some (.sl .no 3 (tks (tokF f)),[]):=by
 have hb:=tokF_len f;obtain⟨md',hx⟩:=l49k f hf (fun t h=>by have:=tot_le t h;omega) f.length 0 .full [] (by decide) (by omega) (by simp;omega);rw[drop_zero,nil_append] at hx;simp only[go_sem,tks_nil] at hx;refine contract F49 rfl rfl rfl ?_;simp only[F49,go_sem,tks_len,hx]
theorem l93i (x:LL) (N i:Int):∀ (k:Nat) (s:List UInt8) (md:Own) (out:List Tk),md≠.no->s.length<=k->s.length<=1000000->out.length+s.length<=2000000 ->
  ∃ md',md'≠.no/\execX G3 L93_0 (ST [(3,.sl md 3 (tks out)),(6,.str s),(9,.sl .no 3 x),(10,.int .i64 N),(11,.int .i64 i),(12,.bool true),(17,.bool false),(26,.bool true)] [] [])=some (.ex 3,ST [(3,.sl md' 3 (tks (out++cutL k s))),(6,.str []),(9,.sl .no 3 x),(10,.int .i64 N),(11,.int .i64 i),(12,.bool true),(17,.bool false),(26,.bool true),(31,.bool false)] [] [])
 | 0,s,md,out,hm,h1,_,h2=>by
  have:s=[]:=eq_nil_of_length_eq_zero (by omega)
  subst this;refine⟨md,hm,?_⟩;rw[Y_loop (L:=L93_0) rfl];simp only[go_sem,cutL,Int.lt_irrefl]
 | k+1,s,md,out,hm,h1,hs,h2=>by
  by_cases h3:1<=s.length
  ·have hn:=nx_le s h3
   obtain⟨md',hm',ih⟩:=l93i x N i k (s.drop (nxN s)) .own (out++[(nxK s,s.take (nxN s),0)]) (by decide) (by simp;omega) (by simp;omega) (by simp;omega);have h6:(0:Int)<=(nxN s:Int):=by omega
   have h7:(nxN s:Int)<=(s.length:Int):=by omega
   have ha:appOK 32 (out.length+1)=true:=appOK_le (by decide) (by omega);refine⟨md',hm',?_⟩;rw[Y_loop (L:=L93_0) rfl];simp only[cutL,h3,if_true];rw[append_assoc] at ih;simp only[go_sem,bne_nil h3,dc61 s hs h3,h6,h7,appA_gen md _ hm 3 32 (by decide),tks_len,ha,tks_one,tks_app];exact ih
  ·have:s=[]:=eq_nil_of_length_eq_zero (by omega)
   subst this;refine⟨md,hm,?_⟩;rw[Y_loop (L:=L93_0) rfl];simp only[go_sem,cutL,Int.lt_irrefl]
theorem l93k (f:List Tk) (hf:f.length<=600) (ht:∀ t∈f,t.2.1.length<=1000000):∀ (k i:Nat) (md:Own) (out:List Tk),md≠.no->i+k=f.length->out.length+(tot (f.drop i)+(f.drop i).length)<=1000000 ->
  ∃ md',execX G3 L93_1 (ST [(3,.sl md 3 (tks out)),(9,.sl .no 3 (tks f)),(10,.int .i64 f.length),(11,.int .i64 i)] [] [])=some (.ex 0,ST [(3,.sl md' 3 (tks (out++tokF (f.drop i)))),(9,.sl .no 3 (tks f)),(10,.int .i64 f.length),(11,.int .i64 f.length),(12,.bool false)] [] [])
 | 0,i,md,out,hm,h1,h2=>by
  have:i=f.length:=by omega
  subst this;refine⟨md,?_⟩;rw[Y_loop (L:=L93_1) rfl];simp only[go_sem,Int.lt_irrefl,drop_length,tokF,append_nil]
 | k+1,i,md,out,hm,h1,h2=>by
  have h3:i < f.length:=by omega
  have h4:(i:Int) < (f.length:Int):=by omega
  have h0:(0:Int)<=(i:Int):=by omega
  have hw:IntKind.i64.wrap ((i:Int)+1)=((i+1:Nat):Int):=by rw[w64 (by omega) (by omega)];rfl
  have hg:f[i]?=some f[i]:=getElem?_eq_getElem h3;have hd:f.drop i=f[i] :: f.drop (i+1):=drop_eq_getElem_cons h3;have hl:=ht _ (getElem_mem h3);obtain⟨a,s,n,hq⟩:∃ a s n,f[i]=(a,s,n):=⟨_,_,_,rfl⟩
  rw[hq] at hg hd hl;have hr:=tks_at hg;have hb:=tokF_len (f.drop (i+1));rw[hd] at h2 ⊢;rw[tot_cons,length_cons] at h2;simp only[tokF] at h2 ⊢;by_cases c1:a=1
  ·subst c1
   rw[tkT1];have hc:=cutL_len s.length s;obtain⟨md1,hm1,hx⟩:=l93i (tks f) f.length i s.length s md out hm (by omega) hl (by omega);obtain⟨md',ih⟩:=l93k f hf ht k (i+1) md1 (out++cutF s) hm1 (by omega) (by simp only[length_append,cutF];omega);refine⟨md',?_⟩;rw[append_assoc] at ih;rw[Y_loop (L:=L93_1) rfl];simp only[go_sem,h4,h0,hw,hr,hx];exact ih
  ·by_cases c2:a=2\/a=3\/a=4\/a=5
   ·rw[tkT2 _ _ _ c2]
    obtain⟨md',ih⟩:=l93k f hf ht k (i+1) .own (out++[(a,s,n)]) (by decide) (by omega) (by simp only[length_append,length_singleton];omega);refine⟨md',?_⟩;rw[append_assoc] at ih;have ha:appOK 32 (out.length+1)=true:=appOK_le (by decide) (by omega);rcases c2 with q | q | q | q
    all_goals
     subst q;rw[Y_loop (L:=L93_1) rfl];simp only[go_sem,h4,h0,hw,hr,Int.reduceEq,appA_gen md _ hm 3 32 (by decide),tks_len,ha,tks_one,tks_app];exact ih
   ·rw[tkT0 _ _ _ c1 c2]
    obtain⟨md',ih⟩:=l93k f hf ht k (i+1) md out hm (by omega) (by omega);refine⟨md',?_⟩;have e2:¬ a=2:=fun q=>c2 (.inl q)
    have e3:¬ a=3:=fun q=>c2 (.inr (.inl q))
    have e4:¬ a=4:=fun q=>c2 (.inr (.inr (.inl q)))
    have e5:¬ a=5:=fun q=>c2 (.inr (.inr (.inr q)))
    rw[Y_loop (L:=L93_1) rfl];simp only[go_sem,h4,h0,hw,hr,c1,e2,e3,e4,e5,nil_append];exact ih
theorem k93 (f:List Tk) (hf:f.length<=600) (ht:tot f<=50000):G3 93 [.sl .no 3 (tks f)] []=some (.sl .no 3 (tks (tokF f)),[]):=by
 obtain⟨md',hx⟩:=l93k f hf (fun t h=>by have:=tot_le t h;omega) f.length 0 .full [] (by decide) (by omega) (by simp;omega);rw[drop_zero,nil_append] at hx;simp only[go_sem,tks_nil] at hx;refine contract F93 rfl rfl rfl ?_;simp only[F93,go_sem,tks_len,hx]
end Go.Av
namespace Go.Av
open Go.Nt
abbrev Ht:=Int × Int × Int
def hts (l:List Ht):List (List AV):=l.map fun t=>[.int .i64 t.1,.int .i64 t.2.1,.int .i64 t.2.2]
theorem hts_len (l:List Ht):(hts l).length=l.length:=by simp [hts]
theorem hts_nil:hts []=[]:=rfl
theorem hts_one (x y z:Int):[[AV.int .i64 x,.int .i64 y,.int .i64 z]]=hts [(x,y,z)]:=rfl
theorem hts_app (x y:List Ht):hts x++hts y=hts (x++y):=by simp [hts]
theorem hts_at {l:List Ht} {i:Nat} {t:Ht} (h:l[i]?=some t):(hts l)[i]?=some [.int .i64 t.1,.int .i64 t.2.1,.int .i64 t.2.2]:=by simp [hts,h]
def hsR (i:Int) (l:List (Int × Int)):List Ht:=l.map fun p=>(i,p.1,p.2)
theorem hsR_len (i:Int) (l:List (Int × Int)):(hsR i l).length=l.length:=by simp [hsR]
def sdE (e:En) (t:Bool):List Tk:=if t=true then e.T else e.S
def hsE (w:List Bs) (i:Int) (e:En) (t:Bool):List Ht:=hsR i (occF w (tokF (sdE e t)))
theorem h56a (p:Int) (l:List (Int × Int)) (hl:l.length<=1000000):∀ (k i:Nat) (md:Own) (out:List Ht),md≠.no->i+k=l.length->out.length<=i ->
  ∃ md',execX G3 L56_0 (ST [(1,.int .i64 p),(10,.sl md 3 (hts out)),(15,.bool true),(21,.sl .no 2 (prT l)),(22,.int .i64 l.length),(23,.int .i64 i)] [] [])=some (.ex 0,(ST [(1,.int .i64 p),(10,.sl md' 3 (hts (out++hsR p (l.drop i)))),(15,.bool true),(21,.sl .no 2 (prT l)),(22,.int .i64 l.length),(23,.int .i64 l.length),(24,.bool false)] [] []))
 | 0,i,md,out,hm,h1,h2=>by
  have:i=l.length:=by omega
  subst this;refine⟨md,?_⟩;rw[Y_loop (L:=L56_0) rfl];simp only[go_sem,Int.lt_irrefl,drop_length,hsR,map_nil,append_nil]
 | k+1,i,md,out,hm,h1,h2=>by
  have h3:i < l.length:=by omega
  have h4:(i:Int) < (l.length:Int):=by omega
  have h0:(0:Int)<=(i:Int):=by omega
  have hw:IntKind.i64.wrap ((i:Int)+1)=((i+1:Nat):Int):=by rw[w64 (by omega) (by omega)];rfl
  have hr:=prT_at (getElem?_eq_getElem h3);have hd:l.drop i=l[i] :: l.drop (i+1):=drop_eq_getElem_cons h3;obtain⟨md',ih⟩:=h56a p l hl k (i+1) .own (out++[(p,l[i].1,l[i].2)]) (by decide) (by omega) (by simp;omega);refine⟨md',?_⟩;have e:hsR p (l.drop i)=(p,l[i].1,l[i].2) :: hsR p (l.drop (i+1)):=by rw[hd];rfl
  rw[e];rw[append_assoc] at ih;have ha:appOK 24 (out.length+1)=true:=appOK_le (by decide) (by omega);rw[Y_loop (L:=L56_0) rfl];simp only[go_sem,h4,h0,hw,hr,appA_gen md _ hm 3 24 (by decide),hts_len,ha,hts_one,hts_app];exact ih
theorem h56b (p:Int) (l:List (Int × Int)) (hl:l.length<=1000000) (cs:List AV):∀ (k i:Nat) (md:Own) (out:List Ht),md≠.no->i+k=l.length->out.length<=i ->
  ∃ md',execX G3 L56_0 (ST [(1,.int .i64 p),(6,.loc 6 0),(10,.sl md 3 (hts out)),(15,.bool false),(21,.sl .no 2 (prT l)),(22,.int .i64 l.length),(23,.int .i64 i)] [(6,some cs)] [])=some (.ex 0,(ST [(1,.int .i64 p),(6,.loc 6 0),(10,.sl md' 3 (hts (out++hsR p (l.drop i)))),(15,.bool false),(21,.sl .no 2 (prT l)),(22,.int .i64 l.length),(23,.int .i64 l.length),(24,.bool false)] [(6,some cs)] []))
 | 0,i,md,out,hm,h1,h2=>by
  have:i=l.length:=by omega
  subst this;refine⟨md,?_⟩;rw[Y_loop (L:=L56_0) rfl];simp only[go_sem,Int.lt_irrefl,drop_length,hsR,map_nil,append_nil]
 | k+1,i,md,out,hm,h1,h2=>by
  have h3:i < l.length:=by omega
  have h4:(i:Int) < (l.length:Int):=by omega
  have h0:(0:Int)<=(i:Int):=by omega
  have hw:IntKind.i64.wrap ((i:Int)+1)=((i+1:Nat):Int):=by rw[w64 (by omega) (by omega)];rfl
  have hr:=prT_at (getElem?_eq_getElem h3);have hd:l.drop i=l[i] :: l.drop (i+1):=drop_eq_getElem_cons h3;obtain⟨md',ih⟩:=h56b p l hl cs k (i+1) .own (out++[(p,l[i].1,l[i].2)]) (by decide) (by omega) (by simp;omega);refine⟨md',?_⟩;have e:hsR p (l.drop i)=(p,l[i].1,l[i].2) :: hsR p (l.drop (i+1)):=by rw[hd];rfl
  rw[e];rw[append_assoc] at ih;have ha:appOK 24 (out.length+1)=true:=appOK_le (by decide) (by omega);rw[Y_loop (L:=L56_0) rfl];simp only[go_sem,h4,h0,hw,hr,appA_gen md _ hm 3 24 (by decide),hts_len,ha,hts_one,hts_app];exact ih
theorem occF_len (w:List Bs) (hw:1<=w.length) (T:List Tk):(occF w T).length<=T.length:=by
 rw[occF_R w hw];exact occR_len w T 0
theorem hsE_len (w:List Bs) (hw:1<=w.length) (i:Int) (e:En) (h:BE e) (t:Bool):(hsE w i e t).length<=60000:=by
 unfold hsE sdE;rw[hsR_len];have b:=occF_len w hw;have b1:=tokF_len e.S;have b2:=tokF_len e.T
 have:=h.S;have:=h.sT;have:=h.T;have:=h.tT
 cases t
 ·have:=b (tokF e.S);simp only[Bool.false_eq_true,if_false];omega
 ·have:=b (tokF e.T);simp only[if_true];omega
theorem k56 (w:List Bs) (hw:w.length<=1000000) (hw1:1<=w.length) (i:Int) (e:En) (h:BE e) (t:Bool):G3 56 [.sl .no 1 (strs w),.int .i64 i,.agg (rowE e),.bool t] []=some (.sl .no 3 (hts (hsE w i e t)),[]):=by
 have q1:=k93 e.S h.S h.sT;have q2:=k93 e.T h.T h.tT;have b1:=tokF_len e.S;have b2:=tokF_len e.T;have r1:=occF_len w hw1 (tokF e.S);have r2:=occF_len w hw1 (tokF e.T);have g1:=h.S;have g2:=h.sT;have g3:=h.T;have g4:=h.tT;have o1:=dc20 w (tokF e.S) hw (by omega) (fun t ht=>by have:=b1.2 t ht;omega);have o2:=dc20 w (tokF e.T) hw (by omega) (fun t ht=>by have:=b2.2 t ht;omega);refine contract F56 rfl rfl rfl ?_
 cases t with
 | false =>
  obtain⟨md',hx⟩:=h56b i (occF w (tokF e.S)) (by omega) (rowE e) _ 0 .full [] (by decide) (Nat.zero_add _) (by simp);rw[drop_zero,nil_append] at hx;simp only[go_sem,hts_nil,rowE] at hx;simp only[F56,rowE,go_sem,q1,o1,prT_len,hx,hsE,sdE,Bool.false_eq_true,if_false]
 | true =>
  obtain⟨md',hx⟩:=h56a i (occF w (tokF e.T)) (by omega) _ 0 .full [] (by decide) (Nat.zero_add _) (by simp);rw[drop_zero,nil_append] at hx;simp only[go_sem,hts_nil] at hx;simp only[F56,rowE,go_sem,q2,o2,prT_len,hx,hsE,sdE,if_true]
theorem l48k (a:List Ht) (ha:a.length<=1000000000):∀ (k i:Nat),i+k=a.length ->
  execX G3 L48_0 (ST [(0,.sl .no 3 (hts a)),(1,.sl .no 3 (hts a)),(10,.bool false),(12,.int .i64 a.length),(13,.int .i64 i)] [] [])=some (.ex 0,ST [(0,.sl .no 3 (hts a)),(1,.sl .no 3 (hts a)),(10,.bool false),(12,.int .i64 a.length),(13,.int .i64 a.length),(14,.bool false)] [] [])
 | 0,i,h=>by
  have:i=a.length:=by omega
  subst this;rw[Y_loop (L:=L48_0) rfl];simp only[go_sem,Int.lt_irrefl]
 | k+1,i,h=>by
  have h4:(i:Int) < (a.length:Int):=by omega
  have h0:(0:Int)<=(i:Int):=by omega
  have hw:IntKind.i64.wrap ((i:Int)+1)=((i+1:Nat):Int):=by rw[w64 (by omega) (by omega)];rfl
  have hr:=hts_at (getElem?_eq_getElem (show i < a.length by omega));have ih:=l48k a ha k (i+1) (by omega);rw[Y_loop (L:=L48_0) rfl];simp only[go_sem,h4,h0,hw,hr];exact ih
theorem k48 (a:List Ht) (ha:a.length<=1000000000):G3 48 [.sl .no 3 (hts a),.sl .no 3 (hts a)] []=some (.bool true,[]):=by
 have hx:=l48k a ha a.length 0 (by omega);simp only[go_sem] at hx;refine contract F48 rfl rfl rfl ?_;simp only[F48,go_sem,hts_len,hx]
def srF (w:List Bs) (t:Bool):Nat->List En->List Ht
 | _,[]=>[]
 | i,e :: m=>hsE w i e t++srF w t (i+1) m
theorem srF_len (w:List Bs) (hw:1<=w.length) (t:Bool):∀ (m:List En) (i:Nat),(∀ e∈m,BE e)->(srF w t i m).length<=60000*m.length
 | [],i,h=>by simp [srF]
 | e :: m,i,h=>by
  have h1:=hsE_len w hw i e (h e (by simp)) t;have h2:=srF_len w hw t m (i+1) (fun x hx=>h x (by simp [hx]));simp only[srF,length_append,length_cons];omega
theorem f32 (m:List En) (hl:m.length<=2000) (hB:∀ e∈m,BE e):G3 32 [.sl .no 8 (ens m)] []=some (.bool (okM m),[]):=up (k32 m hl hB) rfl
theorem l17k (w:List Bs) (hw:w.length<=1000000) (hw1:1<=w.length) (t:Bool) (m:List En) (hl:m.length<=2000) (hB:∀ e∈m,BE e):∀ (k i:Nat) (md:Own) (out:List Ht),md≠.no->i+k=m.length->out.length<=60000*i ->
  ∃ md',execX G3 L17_0 (ST [(2,.bool t),(8,.sl .no 1 (strs w)),(9,.sl md 3 (hts out)),(21,.bool false),(22,.sl .no 8 (ens m)),(23,.int .i64 m.length),(24,.int .i64 i)] [] [])=some (.ex 0,ST [(2,.bool t),(8,.sl .no 1 (strs w)),(9,.sl md' 3 (hts (out++srF w t i (m.drop i)))),(21,.bool false),(22,.sl .no 8 (ens m)),(23,.int .i64 m.length),(24,.int .i64 m.length),(25,.bool false)] [] [])
 | 0,i,md,out,hm,h1,h2=>by
  have:i=m.length:=by omega
  subst this;refine⟨md,?_⟩;rw[Y_loop (L:=L17_0) rfl];simp only[go_sem,Int.lt_irrefl,drop_length,srF,append_nil]
 | k+1,i,md,out,hm,h1,h2=>by
  have h3:i < m.length:=by omega
  have h4:(i:Int) < (m.length:Int):=by omega
  have h0:(0:Int)<=(i:Int):=by omega
  have hwr:IntKind.i64.wrap ((i:Int)+1)=((i+1:Nat):Int):=by rw[w64 (by omega) (by omega)];rfl
  have hr:=ens_at (getElem?_eq_getElem h3);have hd:m.drop i=m[i] :: m.drop (i+1):=drop_eq_getElem_cons h3;have hb:=hB _ (getElem_mem h3);have h56:=k56 w hw hw1 i m[i] hb t;have hn:=hsE_len w hw1 i m[i] hb t;obtain⟨md',ih⟩:=l17k w hw hw1 t m hl hB k (i+1) .own (out++hsE w i m[i] t) (by decide) (by omega) (by simp;omega);refine⟨md',?_⟩;rw[hd];simp only[srF];rw[append_assoc] at ih;have ha:appOK 24 (out.length+(hsE w i m[i] t).length)=true:=appOK_le (by decide) (by omega);simp only[rowE] at h56;rw[Y_loop (L:=L17_0) rfl];simp only[go_sem,h4,h0,hwr,hr,h56,appA_gen md .no hm 3 24 (by decide),hts_len,ha,hts_app];exact ih
theorem phr_b (q:Bs) (hq:q.length<=1000000):(phrF q).length<=1000000:=by
 have h1:=phr_le (cutF q);have h2:=cutL_len q.length q;unfold phrF cutF at *;omega
theorem k17 (m:List En) (hl:m.length<=2000) (hB:∀ e∈m,BE e) (hm:okM m=true) (q:Bs) (hq:q.length<=1000000) (t:Bool) (h:phrF q≠[]):G3 17 [.sl .no 8 (ens m),.str q,.bool t] []=some (.tup [.sl .no 3 (hts (srF (phrF q) t 0 m)),.int .i64 0],[]):=by
 have a1:=f31 m hl hB;rw[hm] at a1;have a2:=dc16 q hq;have hp:1<=(phrF q).length:=by have:(phrF q).length≠0:=fun z=>h (eq_nil_of_length_eq_zero z);omega
 have hne:¬ ((phrF q).length:Int)=0:=by omega
 obtain⟨md',hx⟩:=l17k (phrF q) (phr_b q hq) hp t m hl hB m.length 0 .full [] (by decide) (by omega) (by simp);rw[drop_zero,nil_append] at hx;simp only[go_sem,hts_nil] at hx;refine contract F17 rfl rfl rfl ?_;simp only[F17,go_sem,a1,a2,Bool.not_true,strs_len,hne,ens_len,hx]
theorem h47a (p N:Int) (W M:LL) (l:List (Int × Int)) (hl:l.length<=1000000):∀ (k i:Nat) (md:Own) (out:List Ht),md≠.no->i+k=l.length->out.length<=900000000+i ->
  ∃ md',md'≠.no/\execX G3 L47_0 (ST [(2,.bool true),(8,.sl .no 1 W),(9,.sl md 3 (hts out)),(10,.int .i64 p),(24,.bool false),(25,.sl .no 8 M),(26,.int .i64 N),(27,.int .i64 p),(28,.bool true),(34,.bool true),(40,.sl .no 2 (prT l)),(41,.int .i64 l.length),(42,.int .i64 i)] [] [])=some (.ex 2,(ST [(2,.bool true),(8,.sl .no 1 W),(9,.sl md' 3 (hts (out++hsR p (l.drop i)))),(10,.int .i64 p),(24,.bool false),(25,.sl .no 8 M),(26,.int .i64 N),(27,.int .i64 p),(28,.bool true),(34,.bool true),(40,.sl .no 2 (prT l)),(41,.int .i64 l.length),(42,.int .i64 l.length),(43,.bool false)] [] []))
 | 0,i,md,out,hm,h1,h2=>by
  have:i=l.length:=by omega
  subst this;refine⟨md,hm,?_⟩;rw[Y_loop (L:=L47_0) rfl];simp only[go_sem,Int.lt_irrefl,drop_length,hsR,map_nil,append_nil]
 | k+1,i,md,out,hm,h1,h2=>by
  have h3:i < l.length:=by omega
  have h4:(i:Int) < (l.length:Int):=by omega
  have h0:(0:Int)<=(i:Int):=by omega
  have hw:IntKind.i64.wrap ((i:Int)+1)=((i+1:Nat):Int):=by rw[w64 (by omega) (by omega)];rfl
  have hr:=prT_at (getElem?_eq_getElem h3);have hd:l.drop i=l[i] :: l.drop (i+1):=drop_eq_getElem_cons h3;obtain⟨md',hm',ih⟩:=h47a p N W M l hl k (i+1) .own (out++[(p,l[i].1,l[i].2)]) (by decide) (by omega) (by simp;omega);refine⟨md',hm',?_⟩;have e:hsR p (l.drop i)=(p,l[i].1,l[i].2) :: hsR p (l.drop (i+1)):=by rw[hd];rfl
  rw[e];rw[append_assoc] at ih;have ha:appOK 24 (out.length+1)=true:=appOK_le (by decide) (by omega);rw[Y_loop (L:=L47_0) rfl];simp only[go_sem,h4,h0,hw,hr,appA_gen md _ hm 3 24 (by decide),hts_len,ha,hts_one,hts_app];exact ih
theorem h47b (p N:Int) (W M:LL) (cs:List AV) (l:List (Int × Int)) (hl:l.length<=1000000):∀ (k i:Nat) (md:Own) (out:List Ht),md≠.no->i+k=l.length->out.length<=900000000+i ->
  ∃ md',md'≠.no/\execX G3 L47_0 (ST [(2,.bool false),(8,.sl .no 1 W),(9,.sl md 3 (hts out)),(10,.int .i64 p),(11,.loc 11 0),(24,.bool false),(25,.sl .no 8 M),(26,.int .i64 N),(27,.int .i64 p),(28,.bool true),(34,.bool false),(40,.sl .no 2 (prT l)),(41,.int .i64 l.length),(42,.int .i64 i)] [(11,some cs)] [])=some (.ex 2,(ST [(2,.bool false),(8,.sl .no 1 W),(9,.sl md' 3 (hts (out++hsR p (l.drop i)))),(10,.int .i64 p),(11,.loc 11 0),(24,.bool false),(25,.sl .no 8 M),(26,.int .i64 N),(27,.int .i64 p),(28,.bool true),(34,.bool false),(40,.sl .no 2 (prT l)),(41,.int .i64 l.length),(42,.int .i64 l.length),(43,.bool false)] [(11,some cs)] []))
 | 0,i,md,out,hm,h1,h2=>by
  have:i=l.length:=by omega
  subst this;refine⟨md,hm,?_⟩;rw[Y_loop (L:=L47_0) rfl];simp only[go_sem,Int.lt_irrefl,drop_length,hsR,map_nil,append_nil]
 | k+1,i,md,out,hm,h1,h2=>by
  have h3:i < l.length:=by omega
  have h4:(i:Int) < (l.length:Int):=by omega
  have h0:(0:Int)<=(i:Int):=by omega
  have hw:IntKind.i64.wrap ((i:Int)+1)=((i+1:Nat):Int):=by rw[w64 (by omega) (by omega)];rfl
  have hr:=prT_at (getElem?_eq_getElem h3);have hd:l.drop i=l[i] :: l.drop (i+1):=drop_eq_getElem_cons h3;obtain⟨md',hm',ih⟩:=h47b p N W M cs l hl k (i+1) .own (out++[(p,l[i].1,l[i].2)]) (by decide) (by omega) (by simp;omega);refine⟨md',hm',?_⟩;have e:hsR p (l.drop i)=(p,l[i].1,l[i].2) :: hsR p (l.drop (i+1)):=by rw[hd];rfl
  rw[e];rw[append_assoc] at ih;have ha:appOK 24 (out.length+1)=true:=appOK_le (by decide) (by omega);rw[Y_loop (L:=L47_0) rfl];simp only[go_sem,h4,h0,hw,hr,appA_gen md _ hm 3 24 (by decide),hts_len,ha,hts_one,hts_app];exact ih
theorem l47k (w:List Bs) (hw:w.length<=1000000) (hw1:1<=w.length) (t:Bool) (m:List En) (hl:m.length<=2000) (hB:∀ e∈m,BE e):∀ (k i:Nat) (md:Own) (out:List Ht),md≠.no->i+k=m.length->out.length<=60000*i ->
  ∃ md',execX G3 L47_1 (ST [(2,.bool t),(8,.sl .no 1 (strs w)),(9,.sl md 3 (hts out)),(24,.bool false),(25,.sl .no 8 (ens m)),(26,.int .i64 m.length),(27,.int .i64 i)] [] [])=some (.ex 0,ST [(2,.bool t),(8,.sl .no 1 (strs w)),(9,.sl md' 3 (hts (out++srF w t i (m.drop i)))),(24,.bool false),(25,.sl .no 8 (ens m)),(26,.int .i64 m.length),(27,.int .i64 m.length),(28,.bool false)] [] [])
 | 0,i,md,out,hm,h1,h2=>by
  have:i=m.length:=by omega
  subst this;refine⟨md,?_⟩;rw[Y_loop (L:=L47_1) rfl];simp only[go_sem,Int.lt_irrefl,drop_length,srF,append_nil]
 | k+1,i,md,out,hm,h1,h2=>by
  have h3:i < m.length:=by omega
  have h4:(i:Int) < (m.length:Int):=by omega
  have h0:(0:Int)<=(i:Int):=by omega
  have hwr:IntKind.i64.wrap ((i:Int)+1)=((i+1:Nat):Int):=by rw[w64 (by omega) (by omega)];rfl
  have hr:=ens_at (getElem?_eq_getElem h3);have hd:m.drop i=m[i] :: m.drop (i+1):=drop_eq_getElem_cons h3;have hb:=hB _ (getElem_mem h3);have hn:=hsE_len w hw1 i m[i] hb t;have g1:=hb.S;have g2:=hb.sT;have g3:=hb.T;have g4:=hb.tT;rw[hd];simp only[srF];obtain⟨o,ho⟩:∃ o,o=occF w (tokF (sdE m[i] t)):=⟨_,rfl⟩
  have hol:o.length<=60000:=by rw[ho];unfold hsE at hn;rw[hsR_len] at hn;exact hn
  have he:hsE w i m[i] t=hsR i o:=by rw[ho];rfl
  rw[he] at hn ⊢
  cases t with
  | true =>
   have q2:=k49 m[i].T g3 g4;have b2:=tokF_len m[i].T;have o2:=dc21 w (tokF m[i].T) (by omega) (by omega) (fun t ht=>by have:=b2.2 t ht;omega);have ho2:occF w (tokF m[i].T)=o:=by rw[ho];rfl
   rw[ho2] at o2;obtain⟨md1,hm1,hx⟩:=h47a i m.length (strs w) (ens m) o (by omega) o.length 0 md out hm (by omega) (by omega);rw[drop_zero] at hx;obtain⟨md',ih⟩:=l47k w hw hw1 true m hl hB k (i+1) md1 (out++hsR i o) hm1 (by omega) (by simp;omega);refine⟨md',?_⟩;rw[append_assoc] at ih;simp only[go_sem] at hx;rw[Y_loop (L:=L47_1) rfl];simp only[go_sem,h4,h0,hwr,hr,q2,o2,prT_len,hx];exact ih
  | false =>
   have q2:=k49 m[i].S g1 g2;have b2:=tokF_len m[i].S;have o2:=dc21 w (tokF m[i].S) (by omega) (by omega) (fun t ht=>by have:=b2.2 t ht;omega);have ho2:occF w (tokF m[i].S)=o:=by rw[ho];rfl
   rw[ho2] at o2;obtain⟨md1,hm1,hx⟩:=h47b i m.length (strs w) (ens m) (rowE m[i]) o (by omega) o.length 0 md out hm (by omega) (by omega);rw[drop_zero] at hx;obtain⟨md',ih⟩:=l47k w hw hw1 false m hl hB k (i+1) md1 (out++hsR i o) hm1 (by omega) (by simp;omega);refine⟨md',?_⟩;rw[append_assoc] at ih;simp only[go_sem,rowE] at hx;rw[Y_loop (L:=L47_1) rfl];simp only[go_sem,h4,h0,hwr,hr,q2,o2,prT_len,hx];exact ih
theorem k47 (m:List En) (hl:m.length<=2000) (hB:∀ e∈m,BE e) (hm:okM m=true) (q:Bs) (hq:q.length<=1000000) (t:Bool) (h:phrF q≠[]):G3 47 [.sl .no 8 (ens m),.str q,.bool t] []=some (.tup [.sl .no 3 (hts (srF (phrF q) t 0 m)),.int .i64 0],[]):=by
 have a1:=f32 m hl hB;rw[hm] at a1;have a2:=dc17 q hq;have hp:1<=(phrF q).length:=by have:(phrF q).length≠0:=fun z=>h (eq_nil_of_length_eq_zero z);omega
 have hne:¬ ((phrF q).length:Int)=0:=by omega
 obtain⟨md',hx⟩:=l47k (phrF q) (phr_b q hq) hp t m hl hB m.length 0 .full [] (by decide) (by omega) (by simp);rw[drop_zero,nil_append] at hx;simp only[go_sem,hts_nil] at hx;refine contract F47 rfl rfl rfl ?_;simp only[F47,go_sem,a1,a2,Bool.not_true,strs_len,hne,ens_len,hx]
theorem k47n (m:List En) (hl:m.length<=2000) (hB:∀ e∈m,BE e) (q:Bs) (hq:q.length<=1000000) (t:Bool) (h:phrF q=[]):G3 47 [.sl .no 8 (ens m),.str q,.bool t] []=some (.tup [.sl .no 3 [],.int .i64 1],[]):=by
 have a1:=f32 m hl hB;have a2:=dc17 q hq;rw[h,strs_nil] at a2;refine contract F47 rfl rfl rfl ?_;cases ho:okM m<;>(rw[ho] at a1;simp only[F47,go_sem,a1,a2,Bool.not_true,Bool.not_false,length_nil])
end Go.Av
