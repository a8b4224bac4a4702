/- Reading a notation: the program's reader. Reading a notation: one element more. Reading a notation: a tag more. Reading a notation: the program's parser gives what 'parse' says. -/
import Derived.Test.YtmjfblcmbcfkcaaGreatDoorG1XD
open List
set_option linter.unusedSimpArgs false
set_option linter.unusedVariables false
set_option linter.unusedSectionVars false
set_option maxRecDepth 100000
set_option maxHeartbeats 16000000
namespace Go.Av
open Go.Nt
set_option maxHeartbeats 8000000
def md (b:Bool):Own:=if b then .own else .full
def mdn (b:Bool):Own:=if b then .no else .full
theorem md_no (b:Bool):md b≠.no:=by cases b<;>decide
theorem ldV_md (b:Bool) (z:Nat) (l:LL):ldV (.sl (md b) z l)=some (.sl (mdn b) z l):=by cases b<;>rfl
theorem demV_md (b:Bool) (z:Nat) (l:LL):demV (.sl (md b) z l)=.sl (mdn b) z l:=by cases b<;>rfl
theorem demV_mdn (b:Bool) (z:Nat) (l:LL):demV (.sl (mdn b) z l)=.sl (mdn b) z l:=by cases b<;>rfl
def tmr (m:Tm):List (List AV):=m.map fun p=>[.int .i64 p.1,.agg (tkR p.2)]
def Rr (b1:Bool) (fl:List Tk) (b2:Bool) (tx:Bs) (n:Nat):List AV:=[.sl (md b1) 3 (tks fl),.sl (md b2) 1 (bytesRows tx),.int .i64 (n:Int),.mp 0]
theorem lk_tmr (i:Int):∀ m:Tm,lkA [0] (.int .i64 i) (tmr m)=some ((mget m i).map fun y=>.agg (tkR y))
 | []=>rfl
 | (k,y) :: r=>by
  have ih:=lk_tmr i r;have e:tmr ((k,y) :: r)=[.int .i64 k,.agg (tkR y)] :: tmr r:=rfl;rw[e];simp only[lkA,keyEq,eqL,if_true,Option.map_some,Bool.and_true,mget];by_cases h:i=k
  ·subst h;simp
  ·have:(i == k)=false:=by simpa using h
   simp only[this,h,if_false,ih]
theorem mu_tmr (i:Int) (x:Tk):∀ m:Tm,muA [0] (.int .i64 i) (.agg (tkR x)) (tmr m)=some (tmr (mset m i x))
 | []=>rfl
 | (k,y) :: r=>by
  have ih:=mu_tmr i x r;have e:tmr ((k,y) :: r)=[.int .i64 k,.agg (tkR y)] :: tmr r:=rfl;rw[e];simp only[muA,keyEq,eqL,if_true,Option.map_some,Bool.and_true,mset];by_cases h:i=k
  ·subst h;simp [tmr]
  ·have:(i == k)=false:=by simpa using h
   simp only[this,h,if_false,ih,Option.map_some];rfl
theorem ldo_f (Mo:List AV) (b1 b2:Bool) (fl:List Tk) (tx:Bs) (x y:AV):ldoB (sh:=[Mo,[.sl (md b1) 3 (tks fl),.sl (md b2) 1 (bytesRows tx),x,y]]) 1 0 [.sl (md b1) 3 (tks fl),.sl (md b2) 1 (bytesRows tx),x,y] (.sl (md b1) 3 (tks fl))=some (.sl (md b1) 3 (tks fl),[Mo,[.sl (mdn b1) 3 (tks fl),.sl (md b2) 1 (bytesRows tx),x,y]]):=by
 cases b1<;>rfl
theorem ldo_t (Mo:List AV) (b1 b2:Bool) (fl:List Tk) (tx:Bs) (x y:AV):ldoB (sh:=[Mo,[.sl (md b1) 3 (tks fl),.sl (md b2) 1 (bytesRows tx),x,y]]) 1 1 [.sl (md b1) 3 (tks fl),.sl (md b2) 1 (bytesRows tx),x,y] (.sl (md b2) 1 (bytesRows tx))=some (.sl (md b2) 1 (bytesRows tx),[Mo,[.sl (md b1) 3 (tks fl),.sl (mdn b2) 1 (bytesRows tx),x,y]]):=by
 cases b2<;>rfl
theorem app_t (b2:Bool) (tx r:Bs) (h:tx.length+r.length<=1000000):appA true 1 1 (.sl (md b2) 1 (bytesRows tx)) (.str r)=some (.sl .own 1 (bytesRows (tx++r))):=by
 unfold appA;have e:rowsA true 1 (.str r)=some (bytesRows r):=rfl;simp only[e,Option.bind_some];rw[if_pos]
 ·simp [bytesRows]
 ·refine⟨.inl trivial,md_no b2,by decide,?_,?_⟩
  ·rw[bytesRows_len,bytesRows_len];omega
  ·rw[bytesRows_len,bytesRows_len];omega
theorem app_f (b1:Bool) (fl:List Tk) (x:Tk) (h:fl.length<=1000000):appA false 3 32 (.sl (md b1) 3 (tks fl)) (.sl .full 3 [[.int .i64 x.1,.str x.2.1,.int .i64 x.2.2]])=some (.sl .own 3 (tks (fl++[x]))):=by
 have ha:appOK 32 (fl.length+1)=true:=appOK_le (by decide) (by omega);rw[appA_gen (md b1) .full (md_no b1) 3 32 (by decide),tks_len,length_singleton,if_pos ha,<- tks_app];rfl
theorem refs_ok (rows l1 l2:LL) (m1 m2:Own) (n:Int):refsOk false 2 [[.mapv rows],[.sl m1 3 l1,.sl m2 1 l2,.int .i64 n,.mp 0]]=true:=rfl
theorem c55 (rows:LL) (b1 b2:Bool) (fl:List Tk) (tx:Bs) (n:Nat) (h1:fl.length<=1000000):∃ b1' b2',G0 124 [.ptr 1 0] [[.mapv rows],Rr b1 fl b2 tx n]=some (.tup [],[[.mapv rows],Rr b1' (fin fl tx) b2' [] n]):=by
 by_cases h:tx=[]
 ·subst h
  refine⟨b1,b2,?_⟩;rw[fin_nil];refine contract F124 rfl rfl rfl ?_;have hz:bytesRows []=[]:=rfl;simp only[F124,go_sem,Rr,ldV_md,hz,Int.lt_irrefl,refs_ok]
 ·have hp:(0:Int) < (tx.length:Int):=by
   cases tx with
   | nil=>exact absurd rfl h
   | cons c r=>simp only[length_cons];omega
  refine⟨true,false,?_⟩;have ef:fin fl tx=fl++[(1,tx,0)]:=by unfold fin;rw[if_neg h]
  rw[ef];have ha:=app_f b1 fl (1,tx,0) h1;have hb:=bytesOf_bcl tx;have hz:bytesRows []=[]:=rfl;have e1:md true=.own:=rfl;have e2:md false=.full:=rfl;refine contract F124 rfl rfl rfl ?_;simp only[F124,go_sem,Rr,ldV_md,bytesRows_len,hp,ldo_f,hb,ha,demV_md,demV_mdn,e1,e2,hz,refs_ok]
end Go.Av
namespace Go.Av
open Go.Nt
theorem pos_len {tx:Bs} (h:tx≠[]):(0:Int) < (tx.length:Int):=by
 cases tx with
 | nil=>exact absurd rfl h
 | cons c r=>simp only[length_cons];omega
theorem c54t (rows:LL) (b1 b2:Bool) (fl:List Tk) (tx:Bs) (n:Nat) (c:UInt8) (h1:fl.length<=2000) (h2:tx.length<=2000) (h3:n<=2000) :
  (512 < fl.length+1\/1024 < n+1->G0 123 [.ptr 1 0,.agg [.int .i64 1,.str [c],.int .i64 0]] [[.mapv rows],Rr b1 fl b2 tx n]=some (.int .i64 3,[[.mapv rows],Rr b1 fl b2 tx n])) /\
  (¬ (512 < fl.length+1\/1024 < n+1)->G0 123 [.ptr 1 0,.agg [.int .i64 1,.str [c],.int .i64 0]] [[.mapv rows],Rr b1 fl b2 tx n]=some (.int .i64 0,[[.mapv rows],Rr b1 fl true (tx++[c]) (n+1)])):=by
 have w1:IntKind.i64.wrap ((fl.length:Int)+1)=(fl.length:Int)+1:=w64 (by omega) (by omega);have w2:IntKind.i64.wrap ((n:Int)+1)=((n+1:Nat):Int):=by rw[w64 (by omega) (by omega)];rfl
 have ha:=app_t b2 tx [c] (by simp;omega);have e1:md true=.own:=rfl;by_cases ht:tx=[]
 ·subst ht
  have hz:bytesRows []=[]:=rfl;rw[hz] at ha;constructor
  ·intro h
   refine contract F123 rfl rfl rfl ?_;by_cases g1:(512:Int) < (fl.length:Int)+1
   ·simp only[F123,go_sem,Rr,ldV_md,tks_len,hz,Int.lt_irrefl,w1,g1,refs_ok]
   ·have g2:(1024:Int) < ((n+1:Nat):Int):=by omega
    simp only[F123,go_sem,Rr,ldV_md,tks_len,hz,Int.lt_irrefl,w1,w2,g1,g2,refs_ok]
  ·intro h
   have g1:¬ (512:Int) < (fl.length:Int)+1:=by omega
   have g2:¬ (1024:Int) < ((n+1:Nat):Int):=by omega
   refine contract F123 rfl rfl rfl ?_;have hld:=ldo_t [.mapv rows] b1 b2 fl [];rw[hz] at hld;simp only[F123,go_sem,Rr,ldV_md,tks_len,hz,Int.lt_irrefl,w1,w2,g1,g2,refs_ok,hld,ha,demV_md,demV_mdn,e1]
 ·have hp:=pos_len ht
  have hp0:¬ (tx.length:Int)=0:=by omega
  constructor
  ·intro h
   refine contract F123 rfl rfl rfl ?_;by_cases g1:(512:Int) < (fl.length:Int)+1
   ·simp only[F123,go_sem,Rr,ldV_md,tks_len,bytesRows_len,hp,hp0,w1,g1,refs_ok]
   ·have g2:(1024:Int) < ((n+1:Nat):Int):=by omega
    simp only[F123,go_sem,Rr,ldV_md,tks_len,bytesRows_len,hp,hp0,w1,w2,g1,g2,refs_ok]
  ·intro h
   have g1:¬ (512:Int) < (fl.length:Int)+1:=by omega
   have g2:¬ (1024:Int) < ((n+1:Nat):Int):=by omega
   refine contract F123 rfl rfl rfl ?_;simp only[F123,go_sem,Rr,ldV_md,tks_len,bytesRows_len,hp,hp0,w1,w2,g1,g2,refs_ok,ldo_t,ha,demV_md,demV_mdn,e1]
theorem c54s (rows:LL) (b1 b2:Bool) (fl:List Tk) (tx:Bs) (n:Nat) (s:Bs) (h1:fl.length<=2000) (h2:tx.length<=2000) (h3:n<=2000) :
  (512 < (fin fl tx).length+1\/1024 < n+1->G0 123 [.ptr 1 0,.agg [.int .i64 5,.str s,.int .i64 0]] [[.mapv rows],Rr b1 fl b2 tx n]=some (.int .i64 3,[[.mapv rows],Rr b1 fl b2 tx n])) /\
  (¬ (512 < (fin fl tx).length+1\/1024 < n+1)->∃ b2',G0 123 [.ptr 1 0,.agg [.int .i64 5,.str s,.int .i64 0]] [[.mapv rows],Rr b1 fl b2 tx n]=some (.int .i64 0,[[.mapv rows],Rr true (fin fl tx++[(5,s,0)]) b2' [] (n+1)])):=by
 have w1:IntKind.i64.wrap ((fl.length:Int)+1)=(fl.length:Int)+1:=w64 (by omega) (by omega);have w1b:IntKind.i64.wrap ((fl.length:Int)+1+1)=(fl.length:Int)+1+1:=w64 (by omega) (by omega);have w2:IntKind.i64.wrap ((n:Int)+1)=((n+1:Nat):Int):=by rw[w64 (by omega) (by omega)];rfl
 have e1:md true=.own:=rfl;have hfl:=fin_len fl tx;obtain⟨c1,c2,h55⟩:=c55 rows b1 b2 fl tx (n+1) (by omega);have hz:bytesRows []=[]:=rfl;have hfin:(fin fl tx).length<=1000000:=by rw[hfl];split<;>omega
 have ha:=app_f c1 (fin fl tx) (5,s,0) hfin;simp only[Rr,hz] at h55;have hld:=ldo_f [.mapv rows] c1 c2 (fin fl tx) [];rw[hz] at hld;by_cases ht:tx=[]
 ·subst ht
  simp only[length_nil,Nat.lt_irrefl,if_false,Nat.add_zero] at hfl;rw[hfl];rw[hz] at h55;constructor
  ·intro h
   refine contract F123 rfl rfl rfl ?_;by_cases g1:(512:Int) < (fl.length:Int)+1
   ·simp only[F123,go_sem,Rr,ldV_md,tks_len,hz,Int.lt_irrefl,w1,g1,refs_ok]
   ·have g2:(1024:Int) < ((n+1:Nat):Int):=by omega
    simp only[F123,go_sem,Rr,ldV_md,tks_len,hz,Int.lt_irrefl,w1,w2,g1,g2,refs_ok]
  ·intro h
   have g1:¬ (512:Int) < (fl.length:Int)+1:=by omega
   have g2:¬ (1024:Int) < ((n+1:Nat):Int):=by omega
   refine⟨c2,?_⟩;refine contract F123 rfl rfl rfl ?_;simp only[F123,go_sem,Rr,ldV_md,tks_len,hz,Int.lt_irrefl,w1,w2,g1,g2,refs_ok,h55,hld,ha,demV_md,demV_mdn,e1]
 ·have hp:=pos_len ht
  have hp':0 < tx.length:=by omega
  rw[if_pos hp'] at hfl;rw[hfl];constructor
  ·intro h
   refine contract F123 rfl rfl rfl ?_;by_cases g1:(512:Int) < (fl.length:Int)+1+1
   ·simp only[F123,go_sem,Rr,ldV_md,tks_len,bytesRows_len,hp,w1,w1b,g1,refs_ok]
   ·have g2:(1024:Int) < ((n+1:Nat):Int):=by omega
    simp only[F123,go_sem,Rr,ldV_md,tks_len,bytesRows_len,hp,w1,w1b,w2,g1,g2,refs_ok]
  ·intro h
   have g1:¬ (512:Int) < (fl.length:Int)+1+1:=by omega
   have g2:¬ (1024:Int) < ((n+1:Nat):Int):=by omega
   refine⟨c2,?_⟩;refine contract F123 rfl rfl rfl ?_;simp only[F123,go_sem,Rr,ldV_md,tks_len,bytesRows_len,hz,hp,w1,w1b,w2,g1,g2,refs_ok,h55,hld,ha,demV_md,demV_mdn,e1]
end Go.Av
namespace Go.Av
open Go.Nt
theorem lk_none {m:Tm} {i:Int} (h:mget m i=none):lkA [0] (.int .i64 i) (tmr m)=some none:=by rw[lk_tmr,h];rfl
theorem lk_some {m:Tm} {i:Int} {y:Tk} (h:mget m i=some y):lkA [0] (.int .i64 i) (tmr m)=some (some (.agg [.int .i64 y.1,.str y.2.1,.int .i64 y.2.2])):=by rw[lk_tmr,h];rfl
theorem mu_x (m:Tm) (k:Int) (s:Bs) (i:Int):muA [0] (.int .i64 i) (.agg [.int .i64 k,.str s,.int .i64 i]) (tmr m)=some (tmr (mset m i (k,s,i))):=mu_tmr i (k,s,i) m
theorem lkRs (agg:Bool) (z:List AV) (v:AV):lkR true agg z (some v)=some (.tup [v,.bool true]):=rfl
theorem lkRn (z:List AV):lkR true true z none=some (.tup [.agg z,.bool false]):=rfl
theorem scal3 (a b:Int) (s:Bs):([AV.int .i64 a,AV.str s,AV.int .i64 b]:List AV).all scalarB=true:=rfl
theorem mapOf0 (rows:LL) (q:List AV):mapOf [[.mapv rows],q] 0=some rows:=rfl
theorem c54b (m:Tm) (b1 b2:Bool) (fl:List Tk) (tx:Bs) (n:Nat) (k:Int) (s:Bs) (i:Int) (hk:k=2\/k=3\/k=4) (hy:∀ y,mget m i=some y->y.1=2->y.2.1.length<=1000000) (hb:tbad m (k,s,i)=true):G0 123 [.ptr 1 0,.agg [.int .i64 k,.str s,.int .i64 i]] [[.mapv (tmr m)],Rr b1 fl b2 tx n]=some (.int .i64 7,[[.mapv (tmr m)],Rr b1 fl b2 tx n]):=by
 unfold tbad at hb;cases hm:mget m i with
 | none=>rw[hm] at hb;cases hb
 | some y =>
  rw[hm] at hb;have hl:=lk_some hm;have h84:=fun h=>c84 y.2.1 (hy y hm h)
  refine contract F123 rfl rfl rfl ?_;rcases hk with rfl | rfl | rfl
  ·simp only[F123,go_sem,Rr,ldV_md,hl,mapOf0,lkRs,refs_ok]
  ·by_cases h2:y.1=2
   ·have h84:=h84 h2
    simp only[h2,decide_true,Bool.true_and,Bool.not_eq_true',beq_eq_false_iff_ne,ne_eq] at hb;have e:(nameOf y.2.1 != s)=true:=by simp [hb]
    simp only[F123,go_sem,Rr,ldV_md,hl,mapOf0,lkRs,h2,h84,e,refs_ok]
   ·simp only[F123,go_sem,Rr,ldV_md,hl,mapOf0,lkRs,h2,refs_ok]
  ·simp only[F123,go_sem,Rr,ldV_md,hl,mapOf0,lkRs,refs_ok]
theorem c54n (m:Tm) (b1 b2:Bool) (fl:List Tk) (tx:Bs) (n:Nat) (k:Int) (s:Bs) (i:Int) (hk:k=2\/k=3\/k=4) (hm:mget m i=none) (h1:fl.length<=2000) (h2:tx.length<=2000) (h3:n<=2000) :
  (512 < (fin fl tx).length+1\/1024 < n+1->G0 123 [.ptr 1 0,.agg [.int .i64 k,.str s,.int .i64 i]] [[.mapv (tmr m)],Rr b1 fl b2 tx n]=some (.int .i64 3,[[.mapv (tmr m)],Rr b1 fl b2 tx n])) /\
  (¬ (512 < (fin fl tx).length+1\/1024 < n+1)->∃ b2',G0 123 [.ptr 1 0,.agg [.int .i64 k,.str s,.int .i64 i]] [[.mapv (tmr m)],Rr b1 fl b2 tx n]=some (.int .i64 0,[[.mapv (tmr (mset m i (k,s,i)))],Rr true (fin fl tx++[(k,s,i)]) b2' [] (n+1)])):=by
 have hl:=lk_none hm;have w1:IntKind.i64.wrap ((fl.length:Int)+1)=(fl.length:Int)+1:=w64 (by omega) (by omega);have w1b:IntKind.i64.wrap ((fl.length:Int)+1+1)=(fl.length:Int)+1+1:=w64 (by omega) (by omega);have w2:IntKind.i64.wrap ((n:Int)+1)=((n+1:Nat):Int):=by rw[w64 (by omega) (by omega)];rfl
 have e1:md true=.own:=rfl;have hfl:=fin_len fl tx;obtain⟨c1,c2,h55⟩:=c55 (tmr (mset m i (k,s,i))) b1 b2 fl tx (n+1) (by omega);have hz:bytesRows []=[]:=rfl;have hfin:(fin fl tx).length<=1000000:=by rw[hfl];split<;>omega
 have ha:=app_f c1 (fin fl tx) (k,s,i) hfin;simp only[Rr,hz] at h55;have hld:=ldo_f [.mapv (tmr (mset m i (k,s,i)))] c1 c2 (fin fl tx) [];rw[hz] at hld;have hmu:=mu_x m k s i;by_cases ht:tx=[]
 ·subst ht
  simp only[length_nil,Nat.lt_irrefl,if_false,Nat.add_zero] at hfl;rw[hfl];rw[hz] at h55;constructor
  ·intro h
   by_cases g1:(512:Int) < (fl.length:Int)+1
   ·rcases hk with rfl | rfl | rfl
    all_goals
     refine contract F123 rfl rfl rfl ?_;simp only[F123,go_sem,Rr,ldV_md,tks_len,hz,Int.lt_irrefl,w1,g1,refs_ok,mapOf0,lkRs,lkRn,hl]
   ·have g2:(1024:Int) < ((n+1:Nat):Int):=by omega
    rcases hk with rfl | rfl | rfl
    all_goals
     refine contract F123 rfl rfl rfl ?_;simp only[F123,go_sem,Rr,ldV_md,tks_len,hz,Int.lt_irrefl,w1,w2,g1,g2,refs_ok,mapOf0,lkRs,lkRn,hl]
  ·intro h
   have g1:¬ (512:Int) < (fl.length:Int)+1:=by omega
   have g2:¬ (1024:Int) < ((n+1:Nat):Int):=by omega
   refine⟨c2,?_⟩;rcases hk with rfl | rfl | rfl
   all_goals
    refine contract F123 rfl rfl rfl ?_;simp only[F123,go_sem,Rr,ldV_md,tks_len,hz,Int.lt_irrefl,w1,w2,g1,g2,refs_ok,mapOf0,lkRs,lkRn,scal3,hmu,h55,hld,ha,demV_md,demV_mdn,e1,hl]
 ·have hp:=pos_len ht
  have hp':0 < tx.length:=by omega
  rw[if_pos hp'] at hfl;rw[hfl];constructor
  ·intro h
   by_cases g1:(512:Int) < (fl.length:Int)+1+1
   ·rcases hk with rfl | rfl | rfl
    all_goals
     refine contract F123 rfl rfl rfl ?_;simp only[F123,go_sem,Rr,ldV_md,tks_len,bytesRows_len,hp,w1,w1b,g1,refs_ok,mapOf0,lkRs,lkRn,hl]
   ·have g2:(1024:Int) < ((n+1:Nat):Int):=by omega
    rcases hk with rfl | rfl | rfl
    all_goals
     refine contract F123 rfl rfl rfl ?_;simp only[F123,go_sem,Rr,ldV_md,tks_len,bytesRows_len,hp,w1,w1b,w2,g1,g2,refs_ok,mapOf0,lkRs,lkRn,hl]
  ·intro h
   have g1:¬ (512:Int) < (fl.length:Int)+1+1:=by omega
   have g2:¬ (1024:Int) < ((n+1:Nat):Int):=by omega
   refine⟨c2,?_⟩;rcases hk with rfl | rfl | rfl
   all_goals
    refine contract F123 rfl rfl rfl ?_;simp only[F123,go_sem,Rr,ldV_md,tks_len,bytesRows_len,hz,hp,w1,w1b,w2,g1,g2,refs_ok,mapOf0,lkRs,lkRn,scal3,hmu,h55,hld,ha,demV_md,demV_mdn,e1,hl]
theorem c54c (m:Tm) (b1 b2:Bool) (fl:List Tk) (tx:Bs) (n:Nat) (k:Int) (s:Bs) (i:Int) (hk:k=3) (y:Tk) (hm:mget m i=some y) (hy1:y.1=2) (hy2:nameOf y.2.1=s) (hyl:y.2.1.length<=1000000) (h1:fl.length<=2000) (h2:tx.length<=2000) (h3:n<=2000) :
  (512 < (fin fl tx).length+1\/1024 < n+1->G0 123 [.ptr 1 0,.agg [.int .i64 k,.str s,.int .i64 i]] [[.mapv (tmr m)],Rr b1 fl b2 tx n]=some (.int .i64 3,[[.mapv (tmr m)],Rr b1 fl b2 tx n])) /\
  (¬ (512 < (fin fl tx).length+1\/1024 < n+1)->∃ b2',G0 123 [.ptr 1 0,.agg [.int .i64 k,.str s,.int .i64 i]] [[.mapv (tmr m)],Rr b1 fl b2 tx n]=some (.int .i64 0,[[.mapv (tmr (mset m i (k,s,i)))],Rr true (fin fl tx++[(k,s,i)]) b2' [] (n+1)])):=by
 subst hk;have hl:=lk_some hm;have h84:=c84 y.2.1 hyl;rw[hy2] at h84;have e:(s != s)=false:=by simp
 have w1:IntKind.i64.wrap ((fl.length:Int)+1)=(fl.length:Int)+1:=w64 (by omega) (by omega);have w1b:IntKind.i64.wrap ((fl.length:Int)+1+1)=(fl.length:Int)+1+1:=w64 (by omega) (by omega);have w2:IntKind.i64.wrap ((n:Int)+1)=((n+1:Nat):Int):=by rw[w64 (by omega) (by omega)];rfl
 have e1:md true=.own:=rfl;have hfl:=fin_len fl tx;obtain⟨c1,c2,h55⟩:=c55 (tmr (mset m i (3,s,i))) b1 b2 fl tx (n+1) (by omega);have hz:bytesRows []=[]:=rfl;have hfin:(fin fl tx).length<=1000000:=by rw[hfl];split<;>omega
 have ha:=app_f c1 (fin fl tx) (3,s,i) hfin;simp only[Rr,hz] at h55;have hld:=ldo_f [.mapv (tmr (mset m i (3,s,i)))] c1 c2 (fin fl tx) [];rw[hz] at hld;have hmu:=mu_x m 3 s i;by_cases ht:tx=[]
 ·subst ht
  simp only[length_nil,Nat.lt_irrefl,if_false,Nat.add_zero] at hfl;rw[hfl];rw[hz] at h55;constructor
  ·intro h
   by_cases g1:(512:Int) < (fl.length:Int)+1
   ·refine contract F123 rfl rfl rfl ?_
    simp only[F123,go_sem,Rr,ldV_md,tks_len,hz,Int.lt_irrefl,w1,g1,refs_ok,mapOf0,lkRs,lkRn,hl,hy1,h84,e]
   ·have g2:(1024:Int) < ((n+1:Nat):Int):=by omega
    refine contract F123 rfl rfl rfl ?_;simp only[F123,go_sem,Rr,ldV_md,tks_len,hz,Int.lt_irrefl,w1,w2,g1,g2,refs_ok,mapOf0,lkRs,lkRn,hl,hy1,h84,e]
  ·intro h
   have g1:¬ (512:Int) < (fl.length:Int)+1:=by omega
   have g2:¬ (1024:Int) < ((n+1:Nat):Int):=by omega
   refine⟨c2,?_⟩;refine contract F123 rfl rfl rfl ?_;simp only[F123,go_sem,Rr,ldV_md,tks_len,hz,Int.lt_irrefl,w1,w2,g1,g2,refs_ok,mapOf0,lkRs,lkRn,scal3,hmu,h55,hld,ha,demV_md,demV_mdn,e1,hl,hy1,h84,e]
 ·have hp:=pos_len ht
  have hp':0 < tx.length:=by omega
  rw[if_pos hp'] at hfl;rw[hfl];constructor
  ·intro h
   by_cases g1:(512:Int) < (fl.length:Int)+1+1
   ·refine contract F123 rfl rfl rfl ?_
    simp only[F123,go_sem,Rr,ldV_md,tks_len,bytesRows_len,hp,w1,w1b,g1,refs_ok,mapOf0,lkRs,lkRn,hl,hy1,h84,e]
   ·have g2:(1024:Int) < ((n+1:Nat):Int):=by omega
    refine contract F123 rfl rfl rfl ?_;simp only[F123,go_sem,Rr,ldV_md,tks_len,bytesRows_len,hp,w1,w1b,w2,g1,g2,refs_ok,mapOf0,lkRs,lkRn,hl,hy1,h84,e]
  ·intro h
   have g1:¬ (512:Int) < (fl.length:Int)+1+1:=by omega
   have g2:¬ (1024:Int) < ((n+1:Nat):Int):=by omega
   refine⟨c2,?_⟩;refine contract F123 rfl rfl rfl ?_;simp only[F123,go_sem,Rr,ldV_md,tks_len,bytesRows_len,hz,hp,w1,w1b,w2,g1,g2,refs_ok,mapOf0,lkRs,lkRn,scal3,hmu,h55,hld,ha,demV_md,demV_mdn,e1,hl,hy1,h84,e]
end Go.Av
namespace Go.Av
open Go.Nt
theorem tg_mem {f:List Tk} {y:Tk} (h:y∈tg f):y∈f:=(mem_filter.1 h).1
theorem tg_fin (fl:List Tk) (tx:Bs):tg (fin fl tx)=tg fl:=by
 unfold fin;split
 ·rfl
 ·rw[tg_app,tg_no (text_no rfl),append_nil]
theorem fin_len_tx (fl:List Tk) (tx:Bs):tx.length<=len (fin fl tx):=by
 unfold fin;split
 ·rename_i h;subst h;simp
 ·rw[len_app,len_one]
  have:wid (1,tx,0)=tx.length:=rfl
  omega
theorem fin_le (fl:List Tk) (tx:Bs):fl.length<=(fin fl tx).length:=by rw[fin_len];omega
structure RI (fl:List Tk) (tx:Bs) (m:Tm) (n:Nat):Prop where
 vl:VL (fin fl tx)
 tm:TM (fin fl tx) m
 lk:lastK fl≠1
 nn:n=len (fin fl tx)
 l1:(fin fl tx).length<=512
 l2:n<=1024
theorem ri_name {fl:List Tk} {tx:Bs} {m:Tm} {n:Nat} (h:RI fl tx m n) (i:Int):∀ y,mget m i=some y->y.1=2->y.2.1.length<=1000000:=fun y hy h2=>VL_len h.vl y (tg_mem (h.tm.yes i y hy).1) h2
theorem ri_text {fl:List Tk} {tx:Bs} {m:Tm} {n:Nat} (h:RI fl tx m n) (c:UInt8) (hl:¬ (512 < fl.length+1\/1024 < n+1)):RI fl (tx++[c]) m (n+1)/\Nt.put (fin fl tx) (1,[c],0)=fin fl (tx++[c]):=by
 have hp:Nt.put (fin fl tx) (1,[c],0)=fin fl (tx++[c]):=fin_put h.lk (by simp);obtain⟨p1,p2,_⟩:=put_ok (x:=(1,[c],0)) h.vl (wf_char c) (by simp) h.nn;rw[hp] at p1 p2;refine⟨⟨p1,tm_of h.tm (by rw[tg_fin,tg_fin]),h.lk,p2.symm,?_,by omega⟩,hp⟩;rw[fin_len]
 have:0 < (tx++[c]).length:=by simp
 rw[if_pos this];omega
theorem ri_item {fl:List Tk} {tx:Bs} {m m':Tm} {n:Nat} (h:RI fl tx m n) {x:Tk} (hw:wfX x) (hx:x.1≠1) (hc:chk (fin fl tx) x=0) (hm:TM (fin fl tx++[x]) m') (hl:¬ (512 < (fin fl tx).length+1\/1024 < n+1)):RI (fin fl tx++[x]) [] m' (n+1):=by
 obtain⟨p1,p2,_⟩:=put_ok (x:=x) h.vl hw (fun q=>q.2 hc) h.nn;rw[put_tag hx] at p1 p2;refine⟨by rw[fin_nil];exact p1,by rw[fin_nil];exact hm,by rw[lastK_snoc];exact hx,by rw[fin_nil];exact p2.symm,by rw[fin_nil];simp;omega,by omega⟩
theorem chk_tag {f:List Tk} {k:Int} {s:Bs} {i:Int} (hw:wfX (k,s,i)) (hk:k=2\/k=3\/k=4):chk f (k,s,i)=tagE f (k,s,i):=by
 rcases hw with ⟨h1,_⟩ | ⟨h1,_⟩ | ⟨h1,h2,h3,h4⟩ | ⟨h1,h2,h3,h4⟩
 ·simp only[] at h1;omega
 ·simp only[] at h1;omega
 ·simp only[] at h1 h2 h3 h4
  rcases h1 with rfl | rfl<;>simp [chk,h2,h3,h4]
 ·simp only[] at h1 h2 h3 h4
  subst h1;simp [chk,h2,h3,h4]
theorem isTag_k {k:Int} {s:Bs} {i:Int} (hk:k=2\/k=3\/k=4):isTag (k,s,i)=true:=by rcases hk with rfl | rfl | rfl<;>rfl
theorem c54 {fl:List Tk} {tx:Bs} {m:Tm} {n:Nat} (h:RI fl tx m n) (b1 b2:Bool) {x:Tk} (hw:wfX x) :
  (x.1≠1/\chk (fin fl tx) x≠0->G0 123 [.ptr 1 0,.agg [.int .i64 x.1,.str x.2.1,.int .i64 x.2.2]] [[.mapv (tmr m)],Rr b1 fl b2 tx n]=some (.int .i64 (chk (fin fl tx) x),[[.mapv (tmr m)],Rr b1 fl b2 tx n])) /\
  (¬ (x.1≠1/\chk (fin fl tx) x≠0)->512 < (Nt.put (fin fl tx) x).length\/1024 < n+1->G0 123 [.ptr 1 0,.agg [.int .i64 x.1,.str x.2.1,.int .i64 x.2.2]] [[.mapv (tmr m)],Rr b1 fl b2 tx n]=some (.int .i64 3,[[.mapv (tmr m)],Rr b1 fl b2 tx n])) /\
  (¬ (x.1≠1/\chk (fin fl tx) x≠0)->¬ (512 < (Nt.put (fin fl tx) x).length\/1024 < n+1)->∃ m' b1' b2' fl' tx',RI fl' tx' m' (n+1)/\fin fl' tx'=Nt.put (fin fl tx) x/\G0 123 [.ptr 1 0,.agg [.int .i64 x.1,.str x.2.1,.int .i64 x.2.2]] [[.mapv (tmr m)],Rr b1 fl b2 tx n]=some (.int .i64 0,[[.mapv (tmr m')],Rr b1' fl' b2' tx' (n+1)])):=by
 have hl1:=h.l1;have hl2:=h.l2;have hfl:=fin_le fl tx;have htx:=fin_len_tx fl tx;have hnn:=h.nn;obtain⟨k,s,i⟩:=x;simp only[];by_cases k1:k=1
 ·subst k1
  have hc:∃ c,s=[c]/\i=0:=by
   rcases hw with ⟨_,⟨c,hc⟩,hi⟩ | ⟨h1,_⟩ | ⟨h1,_⟩ | ⟨h1,_⟩
   ·exact⟨c,hc,hi⟩
   ·simp at h1
   ·simp at h1
   ·simp at h1
  obtain⟨c,rfl,rfl⟩:=hc;obtain⟨q1,q2⟩:=c54t (tmr m) b1 b2 fl tx n c (by omega) (by omega) (by omega);have hpl:(Nt.put (fin fl tx) (1,[c],0)).length=fl.length+1:=fin_put_len h.lk (by simp);rw[hpl];refine⟨fun q=>absurd rfl q.1,fun _ q=>q1 q,fun _ q=>?_⟩;obtain⟨r1,r2⟩:=ri_text h c q;exact⟨m,b1,true,fl,tx++[c],r1,r2.symm,q2 q⟩
 ·have hp:Nt.put (fin fl tx) (k,s,i)=fin fl tx++[(k,s,i)]:=put_tag k1
  have hpl:(fin fl tx++[(k,s,i)]).length=(fin fl tx).length+1:=by simp
  rw[hp,hpl];by_cases k5:k=5
  ·subst k5
   have hi:i=0/\isNm s=true:=by
    rcases hw with ⟨h1,_⟩ | ⟨_,h1,h2⟩ | ⟨h1,_⟩ | ⟨h1,_⟩
    ·simp at h1
    ·exact⟨h2,h1⟩
    ·simp at h1
    ·simp at h1
   obtain⟨rfl,hnm⟩:=hi;have hc:chk (fin fl tx) (5,s,0)=0:=by simp [chk,hnm]
   obtain⟨q1,q2⟩:=c54s (tmr m) b1 b2 fl tx n s (by omega) (by omega) (by omega);refine⟨fun q=>absurd hc q.2,fun _ q=>q1 q,fun _ q=>?_⟩;obtain⟨b2',q3⟩:=q2 q;have ht:TM (fin fl tx++[(5,s,0)]) m:=tm_of h.tm (by rw[tg_app,tg_no (by rfl),append_nil]);exact⟨m,true,b2',_,[],ri_item h hw (by simp) hc ht q,fin_nil _,q3⟩
  ·have hk:k=2\/k=3\/k=4:=by
    rcases hw with ⟨h1,_⟩ | ⟨h1,_⟩ | ⟨h1,_⟩ | ⟨h1,_⟩
    ·exact absurd h1 k1
    ·exact absurd h1 k5
    ·simp only[] at h1;omega
    ·simp only[] at h1;omega
   have hce:chk (fin fl tx) (k,s,i)=tagE (fin fl tx) (k,s,i):=chk_tag hw hk;have hte:=tm_tag h.tm (k,s,i);rw[hce];have hy:=ri_name h i;cases hb:tbad m (k,s,i) with
   | true =>
    rw[hb] at hte;simp only[if_true] at hte;rw[hte];have q:=c54b m b1 b2 fl tx n k s i hk hy hb;exact⟨fun _=>q,fun q=>absurd ⟨k1,by decide⟩ q,fun q=>absurd ⟨k1,by decide⟩ q⟩
   | false =>
    rw[hb] at hte;simp only[Bool.false_eq_true,if_false] at hte;rw[hte];have hq:(512 < (fin fl tx).length+1\/1024 < n+1->G0 123 [.ptr 1 0,.agg [.int .i64 k,.str s,.int .i64 i]] [[.mapv (tmr m)],Rr b1 fl b2 tx n]=some (.int .i64 3,[[.mapv (tmr m)],Rr b1 fl b2 tx n])) /\
     (¬ (512 < (fin fl tx).length+1\/1024 < n+1)->∃ b2',G0 123 [.ptr 1 0,.agg [.int .i64 k,.str s,.int .i64 i]] [[.mapv (tmr m)],Rr b1 fl b2 tx n]=some (.int .i64 0,[[.mapv (tmr (mset m i (k,s,i)))],Rr true (fin fl tx++[(k,s,i)]) b2' [] (n+1)])):=by
     unfold tbad at hb;cases hm:mget m i with
     | none=>exact c54n m b1 b2 fl tx n k s i hk hm (by omega) (by omega) (by omega)
     | some y =>
      rw[hm] at hb;simp only[Bool.not_eq_false',Bool.and_eq_true,decide_eq_true_eq,beq_iff_eq] at hb;exact c54c m b1 b2 fl tx n k s i hb.1.1 y hm hb.1.2 hb.2 (hy y hm hb.1.2) (by omega) (by omega) (by omega)
    refine⟨fun q=>absurd rfl q.2,fun _ q=>hq.1 q,fun _ q=>?_⟩;obtain⟨b2',q3⟩:=hq.2 q;exact⟨_,true,b2',_,[],ri_item h hw k1 (by rw[hce];exact hte) (tm_app h.tm (isTag_k hk) hte) q,fin_nil _,q3⟩
theorem l35 (s:Bs) (hs:s.length<=100000):∀ (k a:Nat) (fl:List Tk) (tx:Bs) (m:Tm) (n:Nat) (b1 b2:Bool),s.length<=a+k->a<=s.length->RI fl tx m n ->
  ((prS (fin fl tx) a n (s.drop a)).2.2=0->∃ m' b1' b2' fl' tx' n',fin fl' tx'=(prS (fin fl tx) a n (s.drop a)).1/\fl'.length<=512/\execX G0 L94_0 (ST [(0,.str s),(3,.int .i64 a),(5,.ptr 1 0)] [] [[.mapv (tmr m)],Rr b1 fl b2 tx n])=some (.ex 0,ST [(0,.str s),(3,.int .i64 s.length),(5,.ptr 1 0),(15,.bool false)] [] [[.mapv (tmr m')],Rr b1' fl' b2' tx' n'])) /\
  ((prS (fin fl tx) a n (s.drop a)).2.2≠0->∃ l' m' sh',execX G0 L94_0 (ST [(0,.str s),(3,.int .i64 a),(5,.ptr 1 0)] [] [[.mapv (tmr m)],Rr b1 fl b2 tx n])=some (.ret,ST l' m' sh')/\look .any l' 2=.sl .full 3 []/\look .any l' 3=.int .i64 ((prS (fin fl tx) a n (s.drop a)).2.1:Nat)/\look .any l' 4=.int .i64 (prS (fin fl tx) a n (s.drop a)).2.2)
 | k,a,fl,tx,m,n,b1,b2,h1,h2,hR=>by
  by_cases he:a=s.length
  ·subst he
   rw[drop_length,prS_nil];refine⟨fun _=>⟨m,b1,b2,fl,tx,n,rfl,by have:=hR.l1;have:=fin_le fl tx;omega,?_⟩,fun q=>absurd rfl q⟩;rw[Y_loop (L:=L94_0) rfl];simp only[go_sem,Int.lt_irrefl]
  cases k with
  | zero=>omega
  | succ k =>
  have h4:(a:Int) < (s.length:Int):=by omega
  have hsl:sliceA true 0 (.str s) (some (.int .i64 (a:Int))) none=some (.str (s.drop a)):=by
   rw[slcS_lo _ _ _ _ (by omega) (by omega),Int.toNat_natCast]
  obtain⟨c,r,hcr⟩:∃ c r,s.drop a=c :: r:=by
   cases hd:s.drop a with
   | nil=>have:=congrArg List.length hd;rw[length_drop] at this;simp at this;omega
   | cons c r=>exact⟨c,r,rfl⟩
  have hrl:r.length+1=s.length - a:=by
   have:=congrArg List.length hcr;rw[length_drop] at this;simp at this;omega
  obtain⟨kk,t,id,nn,b,y1,y2,y3⟩:=c53 c r (by omega);rw[<- hcr] at y1 y2 y3;cases hrd:rd (s.drop a) with
  | none =>
   rw[hrd] at y2;have y2:b=false:=y2;subst y2;rw[prS_none (by rw[hcr];simp) hrd];refine⟨fun q=>(by simp at q),fun _=>?_⟩;refine Exists.intro ?_ (Exists.intro ?_ (Exists.intro ?_ (And.intro ?_ ?_)))
   rotate_left 3
   ·rw[Y_loop (L:=L94_0) rfl]
    simp only[go_sem,h4,hsl,y1];rfl
   ·exact⟨rfl,rfl,rfl⟩
  | some p =>
   obtain⟨x,mm⟩:=p;rw[hrd] at y2;have y2:b=true:=y2;subst y2;obtain⟨e1,e2⟩:=y3 x mm hrd;subst e2;obtain⟨hw,_,_,_⟩:=rd_spec hrd;obtain⟨m1,m2,_,_⟩:=rd_drop hrd;rw[length_drop] at m2;obtain⟨z1,z2,z3⟩:=c54 hR b1 b2 hw;rw[prS_some hrd];subst e1;simp only[] at z1 z2 z3;by_cases hc:kk≠1/\chk (fin fl tx) (kk,t,id)≠0
   ·rw[if_pos hc]
    have z1:=z1 hc;have hne:=hc.2;refine⟨fun q=>absurd q hc.2,fun _=>?_⟩;generalize chk (fin fl tx) (kk,t,id)=e at z1 hne;refine Exists.intro ?_ (Exists.intro ?_ (Exists.intro ?_ (And.intro ?_ ?_)))
    rotate_left 3
    ·rw[Y_loop (L:=L94_0) rfl]
     simp only[go_sem,h4,hsl,y1,z1,hne];rfl
    ·exact⟨rfl,rfl,rfl⟩
   ·rw[if_neg hc]
    by_cases hl:512 < (Nt.put (fin fl tx) (kk,t,id)).length\/1024 < n+1
    ·rw[if_pos hl]
     have z2:=z2 hc hl;refine⟨fun q=>(by simp at q),fun _=>?_⟩;refine Exists.intro ?_ (Exists.intro ?_ (Exists.intro ?_ (And.intro ?_ ?_)))
     rotate_left 3
     ·rw[Y_loop (L:=L94_0) rfl]
      simp only[go_sem,h4,hsl,y1,z2];rfl
     ·exact⟨rfl,rfl,rfl⟩
    ·rw[if_neg hl]
     obtain⟨m',b1',b2',fl',tx',hR',hf',z3⟩:=z3 hc hl;have hw1:IntKind.i64.wrap ((a:Int)+(mm:Int))=((a+mm:Nat):Int):=by rw[w64 (by omega) (by omega)];rfl
     have ih:=l35 s hs k (a+mm) fl' tx' m' (n+1) b1' b2' (by omega) (by omega) hR';rw[drop_drop,<- hf'];have step:execX G0 L94_0 (ST [(0,.str s),(3,.int .i64 a),(5,.ptr 1 0)] [] [[.mapv (tmr m)],Rr b1 fl b2 tx n])=execX G0 L94_0 (ST [(0,.str s),(3,.int .i64 ((a+mm:Nat):Int)),(5,.ptr 1 0)] [] [[.mapv (tmr m')],Rr b1' fl' b2' tx' (n+1)]):=by
      conv=>lhs;rw[Y_loop (L:=L94_0) rfl]
      simp only[go_sem,h4,hsl,y1,z3,hw1]
     rw[step];exact ih
theorem c35 (s:Bs) (hs:s.length<=100000):G0 94 [.str s] []=some (.tup [.sl .no 3 (tks (parse s).1),.int .i64 ((parse s).2.1:Nat),.int .i64 (parse s).2.2],[]):=by
 have hR:RI [] [] [] 0:=⟨rfl,tm_nil,by simp [lastK],rfl,by simp [fin],by omega⟩
 obtain⟨x1,x2⟩:=l35 s hs s.length 0 [] [] [] 0 false false (by omega) (by omega) hR;rw[drop_zero] at x1 x2;have e0:prS (fin [] []) 0 0 s=parse s:=rfl;rw[e0] at x1 x2;have ec:((0:Nat):Int)=0:=rfl;have eR:Rr false [] false [] 0=[.sl .full 3 [],.sl .full 1 [],.int .i64 0,.mp 0]:=rfl;have em:tmr []=[]:=rfl;rw[ec,eR,em] at x1 x2;refine contract F94 rfl rfl rfl ?_;by_cases h:(parse s).2.2=0
 ·obtain⟨m',b1',b2',fl',tx',n',y1,y2,y3⟩:=x1 h
  obtain⟨c1,c2,y4⟩:=c55 (tmr m') b1' b2' fl' tx' n' (by omega);rw[y1] at y4;have hb:(parse s).2.1=0:=by
   obtain⟨g,b,e⟩:∃ g b,parse s=(g,b,0):=⟨(parse s).1,(parse s).2.1,by rw[<- h]⟩
   have:=(parse_canon e).2.2
   rw[e];exact this
  rw[h,hb];have hz:bytesRows []=[]:=rfl;simp only[Rr,hz] at y4;have hsd:∀ q,sameDead [] q=true:=fun _=>rfl
  simp only[F94,go_sem,y3,Rr,y4,ldV_md,hsd]
 ·obtain⟨l',m',sh',y1,y2,y3,y4⟩:=x2 h
  have hg:(parse s).1=[]:=by
   obtain⟨g,b,e,he⟩:∃ g b e,parse s=(g,b,e):=⟨(parse s).1,(parse s).2.1,(parse s).2.2,rfl⟩
   have:=(parse_err he (by rw[he] at h;exact h)).2.1
   rw[he];exact this
  rw[hg];have hsd:sameDead [] sh'=true:=rfl;simp only[F94,go_sem,y1,y2,y3,y4,hsd,tks_nil]
end Go.Av
