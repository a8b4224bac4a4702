/- Reading a notation: the program's reader. Reading a notation: one element more. Reading a notation: a tag more. Reading a notation: the program's parser gives what 'parse' says. Reading a notation: the reference's reader of a tag. Reading a notation: the reference reads a tag as 'rd' does. Reading a notation: the reference reads an element as 'rd' does. The fixed example, equal fragments, short fragments, made fragments; three of the laws. Renumbering in the program: numbers of tags, counting, other numbers. Renumbering: other numbers, the reference's functions, keys. The reference's renaming, keys, first repetitions, the fixed example. Numbers, words, lines and fragments made of them, where further objects lie behind the numbers. Equal fragments, numbers that a list has, the numbering of a source and its target. No conditions. Entries: validity, keys, comparison, by both packages. No conditions. Keys and the order of entries, by both packages. No conditions. The keys of a list of entries; whether a list is a memory, by both packages. No conditions. Searching a sorted list of texts. No conditions. Copies of entries. No conditions. Finding a key, by both packages. No conditions. Putting an entry, by both packages. No conditions. Putting an entry by the memory package. No conditions. r3.Normalize and r3.Concat that hand out an object of their own. No conditions. -/
import Derived.Test.YtigalfbihapdnaaGreatDoorXB
import Derived.Test.YtigalfbihapdnaaGreatDoorXA
set_option linter.unusedSimpArgs false
set_option linter.unusedVariables false
set_option linter.unusedSimpArgs false
set_option linter.unusedVariables false
namespace Go.Av
open Go.Nt
set_option linter.unusedSimpArgs false
set_option linter.unusedVariables false
set_option maxHeartbeats 8000000
set_option maxRecDepth 100000
def md (b:Bool):Own:=if b then .own else .full
def mdn (b:Bool):Own:=if b then .no else .full
theorem md_no (b:Bool):md b≠.no:=by cases b <;> decide
theorem ldV_md (b:Bool) (z:Nat) (l:List (List AV)):ldV (.sl (md b) z l)=some (.sl (mdn b) z l):=by cases b <;> rfl
theorem demV_md (b:Bool) (z:Nat) (l:List (List AV)):demV (.sl (md b) z l)=.sl (mdn b) z l:=by cases b <;> rfl
theorem demV_mdn (b:Bool) (z:Nat) (l:List (List AV)):demV (.sl (mdn b) z l)=.sl (mdn b) z l:=by cases b <;> rfl
def tmr (m:Tm):List (List AV):=m.map fun p=>[.int .i64 p.1,.agg (tkR p.2)]
def Rr (b1:Bool) (fl:List Tk) (b2:Bool) (tx:Bs) (n:Nat):List AV:=[.sl (md b1) 3 (tks fl),.sl (md b2) 1 (bytesRows tx),.int .i64 (n:Int),.mp 0]
theorem lk_tmr (i:Int):∀ m:Tm,lkA [0] (.int .i64 i) (tmr m)=some ((mget m i).map fun y=>.agg (tkR y))
 | []=>rfl
 | (k,y) :: r=>by
  have ih:=lk_tmr i r
  have e:tmr ((k,y) :: r)=[.int .i64 k,.agg (tkR y)] :: tmr r:=rfl
  rw [e]
  simp only [lkA,keyEq,eqL,if_true,Option.map_some,Bool.and_true,mget]
  by_cases h:i=k
  ·subst h; simp
  ·have:(i == k)=false:=by simpa using h
   simp only [this,h,if_false,ih]
theorem mu_tmr (i:Int) (x:Tk):∀ m:Tm,muA [0] (.int .i64 i) (.agg (tkR x)) (tmr m)=some (tmr (mset m i x))
 | []=>rfl
 | (k,y) :: r=>by
  have ih:=mu_tmr i x r
  have e:tmr ((k,y) :: r)=[.int .i64 k,.agg (tkR y)] :: tmr r:=rfl
  rw [e]
  simp only [muA,keyEq,eqL,if_true,Option.map_some,Bool.and_true,mset]
  by_cases h:i=k
  ·subst h; simp [tmr]
  ·have:(i == k)=false:=by simpa using h
   simp only [this,h,if_false,ih,Option.map_some]
   rfl
theorem ldo_f (Mo:List AV) (b1 b2:Bool) (fl:List Tk) (tx:Bs) (x y:AV):ldoB (sh:=[Mo,[.sl (md b1) 3 (tks fl),.sl (md b2) 1 (bytesRows tx),x,y]]) 1 0 [.sl (md b1) 3 (tks fl),.sl (md b2) 1 (bytesRows tx),x,y] (.sl (md b1) 3 (tks fl))=some (.sl (md b1) 3 (tks fl),[Mo,[.sl (mdn b1) 3 (tks fl),.sl (md b2) 1 (bytesRows tx),x,y]]):=by
 cases b1 <;> rfl
theorem ldo_t (Mo:List AV) (b1 b2:Bool) (fl:List Tk) (tx:Bs) (x y:AV):ldoB (sh:=[Mo,[.sl (md b1) 3 (tks fl),.sl (md b2) 1 (bytesRows tx),x,y]]) 1 1 [.sl (md b1) 3 (tks fl),.sl (md b2) 1 (bytesRows tx),x,y] (.sl (md b2) 1 (bytesRows tx))=some (.sl (md b2) 1 (bytesRows tx),[Mo,[.sl (md b1) 3 (tks fl),.sl (mdn b2) 1 (bytesRows tx),x,y]]):=by
 cases b2 <;> rfl
theorem app_t (b2:Bool) (tx r:Bs) (h:tx.length+r.length≤1000000):appA true 1 1 (.sl (md b2) 1 (bytesRows tx)) (.str r)=some (.sl .own 1 (bytesRows (tx++r))):=by
 unfold appA
 have e:rowsA true 1 (.str r)=some (bytesRows r):=rfl
 simp only [e,Option.bind_some]
 rw [if_pos]
 ·simp [bytesRows]
 ·refine ⟨.inl trivial,md_no b2,by decide,?_,?_⟩
  ·rw [bytesRows_len,bytesRows_len]; omega
  ·rw [bytesRows_len,bytesRows_len]; omega
theorem app_f (b1:Bool) (fl:List Tk) (x:Tk) (h:fl.length≤1000000):appA false 3 32 (.sl (md b1) 3 (tks fl)) (.sl .full 3 [[.int .i64 x.1,.str x.2.1,.int .i64 x.2.2]])=some (.sl .own 3 (tks (fl++[x]))):=by
 have ha:appOK 32 (fl.length+1)=true:=appOK_le (by decide) (by omega)
 rw [appA_gen (md b1) .full (md_no b1) 3 32 (by decide),tks_len,List.length_singleton,if_pos ha,← tks_app]
 rfl
theorem refs_ok (rows l1 l2:List (List AV)) (m1 m2:Own) (n:Int):refsOk false 2 [[.mapv rows],[.sl m1 3 l1,.sl m2 1 l2,.int .i64 n,.mp 0]]=true:=rfl
theorem c55 (rows:List (List AV)) (b1 b2:Bool) (fl:List Tk) (tx:Bs) (n:Nat) (h1:fl.length≤1000000):∃ b1' b2',G0 111 [.ptr 1 0] [[.mapv rows],Rr b1 fl b2 tx n]=some (.tup [],[[.mapv rows],Rr b1' (fin fl tx) b2' [] n]):=by
 by_cases h:tx=[]
 ·subst h
  refine ⟨b1,b2,?_⟩
  rw [fin_nil]
  refine contract F111 rfl rfl rfl ?_
  have hz:bytesRows []=[]:=rfl
  simp only [F111,go_sem,op,mv,↓reduceIte,Nat.reduceAdd,Nat.reduceEqDiff,Nat.reduceLT,Int.reduceNeg,Int.cast_ofNat_Int,Int.reduceLT,Int.reduceAdd,Int.reduceSub,Int.reduceLE,Int.reduceEq,Int.reduceToNat,Nat.reduceSub,Nat.reduceMul,Nat.reduceLeDiff,Rr,ldV_md,hz,Int.lt_irrefl,refs_ok]
 ·have hp:(0:Int) < (tx.length:Int):=by
   cases tx with
   | nil=>exact absurd rfl h
   | cons c r=>simp only [List.length_cons]; omega
  refine ⟨true,false,?_⟩
  have ef:fin fl tx=fl++[(1,tx,0)]:=by unfold fin; rw [if_neg h]
  rw [ef]
  have ha:=app_f b1 fl (1,tx,0) h1
  have hb:=bytesOf_bcl tx
  have hz:bytesRows []=[]:=rfl
  have e1:md true=.own:=rfl
  have e2:md false=.full:=rfl
  refine contract F111 rfl rfl rfl ?_
  simp only [F111,go_sem,op,mv,↓reduceIte,Nat.reduceAdd,Nat.reduceEqDiff,Nat.reduceLT,Int.reduceNeg,Int.cast_ofNat_Int,Int.reduceLT,Int.reduceAdd,Int.reduceSub,Int.reduceLE,Int.reduceEq,Int.reduceToNat,Nat.reduceSub,Nat.reduceMul,Nat.reduceLeDiff,Rr,ldV_md,bytesRows_len,hp,ldo_f,hb,ha,demV_md,demV_mdn,e1,e2,hz,refs_ok]
end Go.Av
namespace Go.Av
open Go.Nt
set_option linter.unusedSimpArgs false
set_option linter.unusedVariables false
set_option maxHeartbeats 16000000
set_option maxRecDepth 100000
theorem pos_len {tx:Bs} (h:tx≠[]):(0:Int) < (tx.length:Int):=by
 cases tx with
 | nil=>exact absurd rfl h
 | cons c r=>simp only [List.length_cons]; omega
/-- a byte of text -/
theorem c54t (rows:List (List AV)) (b1 b2:Bool) (fl:List Tk) (tx:Bs) (n:Nat) (c:UInt8) (h1:fl.length≤2000) (h2:tx.length≤2000) (h3:n≤2000) :
  (512 < fl.length+1∨1024 < n+1→G0 110 [.ptr 1 0,.agg [.int .i64 1,.str [c],.int .i64 0]] [[.mapv rows],Rr b1 fl b2 tx n]=some (.int .i64 3,[[.mapv rows],Rr b1 fl b2 tx n])) ∧
  (¬ (512 < fl.length+1∨1024 < n+1)→G0 110 [.ptr 1 0,.agg [.int .i64 1,.str [c],.int .i64 0]] [[.mapv rows],Rr b1 fl b2 tx n]=some (.int .i64 0,[[.mapv rows],Rr b1 fl true (tx++[c]) (n+1)])):=by
 have w1:IntKind.i64.wrap ((fl.length:Int)+1)=(fl.length:Int)+1:=w64 (by omega) (by omega)
 have w2:IntKind.i64.wrap ((n:Int)+1)=((n+1:Nat):Int):=by rw [w64 (by omega) (by omega)]; rfl
 have ha:=app_t b2 tx [c] (by simp; omega)
 have e1:md true=.own:=rfl
 by_cases ht:tx=[]
 ·subst ht
  have hz:bytesRows []=[]:=rfl
  rw [hz] at ha
  constructor
  ·intro h
   refine contract F110 rfl rfl rfl ?_
   by_cases g1:(512:Int) < (fl.length:Int)+1
   ·simp only [F110,go_sem,op,mv,↓reduceIte,Nat.reduceAdd,Nat.reduceEqDiff,Nat.reduceLT,Int.reduceNeg,Int.cast_ofNat_Int,Int.reduceLT,Int.reduceAdd,Int.reduceSub,Int.reduceLE,Int.reduceEq,Int.reduceToNat,Nat.reduceSub,Nat.reduceMul,Nat.reduceLeDiff,Rr,ldV_md,tks_len,hz,Int.lt_irrefl,w1,g1,refs_ok]
   ·have g2:(1024:Int) < ((n+1:Nat):Int):=by omega
    simp only [F110,go_sem,op,mv,↓reduceIte,Nat.reduceAdd,Nat.reduceEqDiff,Nat.reduceLT,Int.reduceNeg,Int.cast_ofNat_Int,Int.reduceLT,Int.reduceAdd,Int.reduceSub,Int.reduceLE,Int.reduceEq,Int.reduceToNat,Nat.reduceSub,Nat.reduceMul,Nat.reduceLeDiff,Rr,ldV_md,tks_len,hz,Int.lt_irrefl,w1,w2,g1,g2,refs_ok]
  ·intro h
   have g1:¬ (512:Int) < (fl.length:Int)+1:=by omega
   have g2:¬ (1024:Int) < ((n+1:Nat):Int):=by omega
   refine contract F110 rfl rfl rfl ?_
   have hld:=ldo_t [.mapv rows] b1 b2 fl []
   rw [hz] at hld
   simp only [F110,go_sem,op,mv,↓reduceIte,Nat.reduceAdd,Nat.reduceEqDiff,Nat.reduceLT,Int.reduceNeg,Int.cast_ofNat_Int,Int.reduceLT,Int.reduceAdd,Int.reduceSub,Int.reduceLE,Int.reduceEq,Int.reduceToNat,Nat.reduceSub,Nat.reduceMul,Nat.reduceLeDiff,Rr,ldV_md,tks_len,hz,Int.lt_irrefl,w1,w2,g1,g2,refs_ok,hld,ha,demV_md,demV_mdn,e1]
 ·have hp:=pos_len ht
  have hp0:¬ (tx.length:Int)=0:=by omega
  constructor
  ·intro h
   refine contract F110 rfl rfl rfl ?_
   by_cases g1:(512:Int) < (fl.length:Int)+1
   ·simp only [F110,go_sem,op,mv,↓reduceIte,Nat.reduceAdd,Nat.reduceEqDiff,Nat.reduceLT,Int.reduceNeg,Int.cast_ofNat_Int,Int.reduceLT,Int.reduceAdd,Int.reduceSub,Int.reduceLE,Int.reduceEq,Int.reduceToNat,Nat.reduceSub,Nat.reduceMul,Nat.reduceLeDiff,Rr,ldV_md,tks_len,bytesRows_len,hp,hp0,w1,g1,refs_ok]
   ·have g2:(1024:Int) < ((n+1:Nat):Int):=by omega
    simp only [F110,go_sem,op,mv,↓reduceIte,Nat.reduceAdd,Nat.reduceEqDiff,Nat.reduceLT,Int.reduceNeg,Int.cast_ofNat_Int,Int.reduceLT,Int.reduceAdd,Int.reduceSub,Int.reduceLE,Int.reduceEq,Int.reduceToNat,Nat.reduceSub,Nat.reduceMul,Nat.reduceLeDiff,Rr,ldV_md,tks_len,bytesRows_len,hp,hp0,w1,w2,g1,g2,refs_ok]
  ·intro h
   have g1:¬ (512:Int) < (fl.length:Int)+1:=by omega
   have g2:¬ (1024:Int) < ((n+1:Nat):Int):=by omega
   refine contract F110 rfl rfl rfl ?_
   simp only [F110,go_sem,op,mv,↓reduceIte,Nat.reduceAdd,Nat.reduceEqDiff,Nat.reduceLT,Int.reduceNeg,Int.cast_ofNat_Int,Int.reduceLT,Int.reduceAdd,Int.reduceSub,Int.reduceLE,Int.reduceEq,Int.reduceToNat,Nat.reduceSub,Nat.reduceMul,Nat.reduceLeDiff,Rr,ldV_md,tks_len,bytesRows_len,hp,hp0,w1,w2,g1,g2,refs_ok,ldo_t,ha,demV_md,demV_mdn,e1]
/-- a placeholder -/
theorem c54s (rows:List (List AV)) (b1 b2:Bool) (fl:List Tk) (tx:Bs) (n:Nat) (s:Bs) (h1:fl.length≤2000) (h2:tx.length≤2000) (h3:n≤2000) :
  (512 < (fin fl tx).length+1∨1024 < n+1→G0 110 [.ptr 1 0,.agg [.int .i64 5,.str s,.int .i64 0]] [[.mapv rows],Rr b1 fl b2 tx n]=some (.int .i64 3,[[.mapv rows],Rr b1 fl b2 tx n])) ∧
  (¬ (512 < (fin fl tx).length+1∨1024 < n+1)→∃ b2',G0 110 [.ptr 1 0,.agg [.int .i64 5,.str s,.int .i64 0]] [[.mapv rows],Rr b1 fl b2 tx n]=some (.int .i64 0,[[.mapv rows],Rr true (fin fl tx++[(5,s,0)]) b2' [] (n+1)])):=by
 have w1:IntKind.i64.wrap ((fl.length:Int)+1)=(fl.length:Int)+1:=w64 (by omega) (by omega)
 have w1b:IntKind.i64.wrap ((fl.length:Int)+1+1)=(fl.length:Int)+1+1:=w64 (by omega) (by omega)
 have w2:IntKind.i64.wrap ((n:Int)+1)=((n+1:Nat):Int):=by rw [w64 (by omega) (by omega)]; rfl
 have e1:md true=.own:=rfl
 have hfl:=fin_len fl tx
 obtain ⟨c1,c2,h55⟩:=c55 rows b1 b2 fl tx (n+1) (by omega)
 have hz:bytesRows []=[]:=rfl
 have hfin:(fin fl tx).length≤1000000:=by rw [hfl]; split <;> omega
 have ha:=app_f c1 (fin fl tx) (5,s,0) hfin
 simp only [Rr,hz] at h55
 have hld:=ldo_f [.mapv rows] c1 c2 (fin fl tx) []
 rw [hz] at hld
 by_cases ht:tx=[]
 ·subst ht
  simp only [List.length_nil,Nat.lt_irrefl,if_false,Nat.add_zero] at hfl
  rw [hfl]
  rw [hz] at h55
  constructor
  ·intro h
   refine contract F110 rfl rfl rfl ?_
   by_cases g1:(512:Int) < (fl.length:Int)+1
   ·simp only [F110,go_sem,op,mv,↓reduceIte,Nat.reduceAdd,Nat.reduceEqDiff,Nat.reduceLT,Int.reduceNeg,Int.cast_ofNat_Int,Int.reduceLT,Int.reduceAdd,Int.reduceSub,Int.reduceLE,Int.reduceEq,Int.reduceToNat,Nat.reduceSub,Nat.reduceMul,Nat.reduceLeDiff,Rr,ldV_md,tks_len,hz,Int.lt_irrefl,w1,g1,refs_ok]
   ·have g2:(1024:Int) < ((n+1:Nat):Int):=by omega
    simp only [F110,go_sem,op,mv,↓reduceIte,Nat.reduceAdd,Nat.reduceEqDiff,Nat.reduceLT,Int.reduceNeg,Int.cast_ofNat_Int,Int.reduceLT,Int.reduceAdd,Int.reduceSub,Int.reduceLE,Int.reduceEq,Int.reduceToNat,Nat.reduceSub,Nat.reduceMul,Nat.reduceLeDiff,Rr,ldV_md,tks_len,hz,Int.lt_irrefl,w1,w2,g1,g2,refs_ok]
  ·intro h
   have g1:¬ (512:Int) < (fl.length:Int)+1:=by omega
   have g2:¬ (1024:Int) < ((n+1:Nat):Int):=by omega
   refine ⟨c2,?_⟩
   refine contract F110 rfl rfl rfl ?_
   simp only [F110,go_sem,op,mv,↓reduceIte,Nat.reduceAdd,Nat.reduceEqDiff,Nat.reduceLT,Int.reduceNeg,Int.cast_ofNat_Int,Int.reduceLT,Int.reduceAdd,Int.reduceSub,Int.reduceLE,Int.reduceEq,Int.reduceToNat,Nat.reduceSub,Nat.reduceMul,Nat.reduceLeDiff,Rr,ldV_md,tks_len,hz,Int.lt_irrefl,w1,w2,g1,g2,refs_ok,h55,hld,ha,demV_md,demV_mdn,e1]
 ·have hp:=pos_len ht
  have hp':0 < tx.length:=by omega
  rw [if_pos hp'] at hfl
  rw [hfl]
  constructor
  ·intro h
   refine contract F110 rfl rfl rfl ?_
   by_cases g1:(512:Int) < (fl.length:Int)+1+1
   ·simp only [F110,go_sem,op,mv,↓reduceIte,Nat.reduceAdd,Nat.reduceEqDiff,Nat.reduceLT,Int.reduceNeg,Int.cast_ofNat_Int,Int.reduceLT,Int.reduceAdd,Int.reduceSub,Int.reduceLE,Int.reduceEq,Int.reduceToNat,Nat.reduceSub,Nat.reduceMul,Nat.reduceLeDiff,Rr,ldV_md,tks_len,bytesRows_len,hp,w1,w1b,g1,refs_ok]
   ·have g2:(1024:Int) < ((n+1:Nat):Int):=by omega
    simp only [F110,go_sem,op,mv,↓reduceIte,Nat.reduceAdd,Nat.reduceEqDiff,Nat.reduceLT,Int.reduceNeg,Int.cast_ofNat_Int,Int.reduceLT,Int.reduceAdd,Int.reduceSub,Int.reduceLE,Int.reduceEq,Int.reduceToNat,Nat.reduceSub,Nat.reduceMul,Nat.reduceLeDiff,Rr,ldV_md,tks_len,bytesRows_len,hp,w1,w1b,w2,g1,g2,refs_ok]
  ·intro h
   have g1:¬ (512:Int) < (fl.length:Int)+1+1:=by omega
   have g2:¬ (1024:Int) < ((n+1:Nat):Int):=by omega
   refine ⟨c2,?_⟩
   refine contract F110 rfl rfl rfl ?_
   simp only [F110,go_sem,op,mv,↓reduceIte,Nat.reduceAdd,Nat.reduceEqDiff,Nat.reduceLT,Int.reduceNeg,Int.cast_ofNat_Int,Int.reduceLT,Int.reduceAdd,Int.reduceSub,Int.reduceLE,Int.reduceEq,Int.reduceToNat,Nat.reduceSub,Nat.reduceMul,Nat.reduceLeDiff,Rr,ldV_md,tks_len,bytesRows_len,hz,hp,w1,w1b,w2,g1,g2,refs_ok,h55,hld,ha,demV_md,demV_mdn,e1]
end Go.Av
namespace Go.Av
open Go.Nt
set_option linter.unusedSimpArgs false
set_option linter.unusedVariables false
set_option maxHeartbeats 16000000
set_option maxRecDepth 100000
theorem lk_none {m:Tm} {i:Int} (h:mget m i=none):lkA [0] (.int .i64 i) (tmr m)=some none:=by rw [lk_tmr,h]; rfl
theorem lk_some {m:Tm} {i:Int} {y:Tk} (h:mget m i=some y):lkA [0] (.int .i64 i) (tmr m)=some (some (.agg [.int .i64 y.1,.str y.2.1,.int .i64 y.2.2])):=by rw [lk_tmr,h]; rfl
theorem mu_x (m:Tm) (k:Int) (s:Bs) (i:Int):muA [0] (.int .i64 i) (.agg [.int .i64 k,.str s,.int .i64 i]) (tmr m)=some (tmr (mset m i (k,s,i))):=mu_tmr i (k,s,i) m
theorem lkRs (agg:Bool) (z:List AV) (v:AV):lkR true agg z (some v)=some (.tup [v,.bool true]):=rfl
theorem lkRn (z:List AV):lkR true true z none=some (.tup [.agg z,.bool false]):=rfl
theorem scal3 (a b:Int) (s:Bs):([AV.int .i64 a,AV.str s,AV.int .i64 b]:List AV).all scalarB=true:=rfl
theorem mapOf0 (rows:List (List AV)) (q:List AV):mapOf [[.mapv rows],q] 0=some rows:=rfl
theorem c54b (m:Tm) (b1 b2:Bool) (fl:List Tk) (tx:Bs) (n:Nat) (k:Int) (s:Bs) (i:Int) (hk:k=2∨k=3∨k=4) (hy:∀ y,mget m i=some y→y.1=2→y.2.1.length≤1000000) (hb:tbad m (k,s,i)=true):G0 110 [.ptr 1 0,.agg [.int .i64 k,.str s,.int .i64 i]] [[.mapv (tmr m)],Rr b1 fl b2 tx n]=some (.int .i64 7,[[.mapv (tmr m)],Rr b1 fl b2 tx n]):=by
 unfold tbad at hb
 cases hm:mget m i with
 | none=>rw [hm] at hb; cases hb
 | some y =>
  rw [hm] at hb
  have hl:=lk_some hm
  have h84:=fun h=>c84 y.2.1 (hy y hm h)
  refine contract F110 rfl rfl rfl ?_
  rcases hk with rfl | rfl | rfl
  ·simp only [F110,go_sem,op,mv,↓reduceIte,Nat.reduceAdd,Nat.reduceEqDiff,Nat.reduceLT,Int.reduceNeg,Int.cast_ofNat_Int,Int.reduceLT,Int.reduceAdd,Int.reduceSub,Int.reduceLE,Int.reduceEq,Int.reduceToNat,Nat.reduceSub,Nat.reduceMul,Nat.reduceLeDiff,Rr,ldV_md,hl,mapOf0,lkRs,refs_ok]
  ·by_cases h2:y.1=2
   ·have h84:=h84 h2
    simp only [h2,decide_true,Bool.true_and,Bool.not_eq_true',beq_eq_false_iff_ne,ne_eq] at hb
    have e:(nameOf y.2.1 != s)=true:=by simp [hb]
    simp only [F110,go_sem,op,mv,↓reduceIte,Nat.reduceAdd,Nat.reduceEqDiff,Nat.reduceLT,Int.reduceNeg,Int.cast_ofNat_Int,Int.reduceLT,Int.reduceAdd,Int.reduceSub,Int.reduceLE,Int.reduceEq,Int.reduceToNat,Nat.reduceSub,Nat.reduceMul,Nat.reduceLeDiff,Rr,ldV_md,hl,mapOf0,lkRs,h2,h84,e,refs_ok]
   ·simp only [F110,go_sem,op,mv,↓reduceIte,Nat.reduceAdd,Nat.reduceEqDiff,Nat.reduceLT,Int.reduceNeg,Int.cast_ofNat_Int,Int.reduceLT,Int.reduceAdd,Int.reduceSub,Int.reduceLE,Int.reduceEq,Int.reduceToNat,Nat.reduceSub,Nat.reduceMul,Nat.reduceLeDiff,Rr,ldV_md,hl,mapOf0,lkRs,h2,refs_ok]
  ·simp only [F110,go_sem,op,mv,↓reduceIte,Nat.reduceAdd,Nat.reduceEqDiff,Nat.reduceLT,Int.reduceNeg,Int.cast_ofNat_Int,Int.reduceLT,Int.reduceAdd,Int.reduceSub,Int.reduceLE,Int.reduceEq,Int.reduceToNat,Nat.reduceSub,Nat.reduceMul,Nat.reduceLeDiff,Rr,ldV_md,hl,mapOf0,lkRs,refs_ok]
theorem c54n (m:Tm) (b1 b2:Bool) (fl:List Tk) (tx:Bs) (n:Nat) (k:Int) (s:Bs) (i:Int) (hk:k=2∨k=3∨k=4) (hm:mget m i=none) (h1:fl.length≤2000) (h2:tx.length≤2000) (h3:n≤2000) :
  (512 < (fin fl tx).length+1∨1024 < n+1→G0 110 [.ptr 1 0,.agg [.int .i64 k,.str s,.int .i64 i]] [[.mapv (tmr m)],Rr b1 fl b2 tx n]=some (.int .i64 3,[[.mapv (tmr m)],Rr b1 fl b2 tx n])) ∧
  (¬ (512 < (fin fl tx).length+1∨1024 < n+1)→∃ b2',G0 110 [.ptr 1 0,.agg [.int .i64 k,.str s,.int .i64 i]] [[.mapv (tmr m)],Rr b1 fl b2 tx n]=some (.int .i64 0,[[.mapv (tmr (mset m i (k,s,i)))],Rr true (fin fl tx++[(k,s,i)]) b2' [] (n+1)])):=by
 have hl:=lk_none hm
 have w1:IntKind.i64.wrap ((fl.length:Int)+1)=(fl.length:Int)+1:=w64 (by omega) (by omega)
 have w1b:IntKind.i64.wrap ((fl.length:Int)+1+1)=(fl.length:Int)+1+1:=w64 (by omega) (by omega)
 have w2:IntKind.i64.wrap ((n:Int)+1)=((n+1:Nat):Int):=by rw [w64 (by omega) (by omega)]; rfl
 have e1:md true=.own:=rfl
 have hfl:=fin_len fl tx
 obtain ⟨c1,c2,h55⟩:=c55 (tmr (mset m i (k,s,i))) b1 b2 fl tx (n+1) (by omega)
 have hz:bytesRows []=[]:=rfl
 have hfin:(fin fl tx).length≤1000000:=by rw [hfl]; split <;> omega
 have ha:=app_f c1 (fin fl tx) (k,s,i) hfin
 simp only [Rr,hz] at h55
 have hld:=ldo_f [.mapv (tmr (mset m i (k,s,i)))] c1 c2 (fin fl tx) []
 rw [hz] at hld
 have hmu:=mu_x m k s i
 by_cases ht:tx=[]
 ·subst ht
  simp only [List.length_nil,Nat.lt_irrefl,if_false,Nat.add_zero] at hfl
  rw [hfl]
  rw [hz] at h55
  constructor
  ·intro h
   by_cases g1:(512:Int) < (fl.length:Int)+1
   ·rcases hk with rfl | rfl | rfl
    all_goals
     refine contract F110 rfl rfl rfl ?_
     simp only [F110,go_sem,op,mv,↓reduceIte,Nat.reduceAdd,Nat.reduceEqDiff,Nat.reduceLT,Int.reduceNeg,Int.cast_ofNat_Int,Int.reduceLT,Int.reduceAdd,Int.reduceSub,Int.reduceLE,Int.reduceEq,Int.reduceToNat,Nat.reduceSub,Nat.reduceMul,Nat.reduceLeDiff,Rr,ldV_md,tks_len,hz,Int.lt_irrefl,w1,g1,refs_ok,mapOf0,lkRs,lkRn,hl]
   ·have g2:(1024:Int) < ((n+1:Nat):Int):=by omega
    rcases hk with rfl | rfl | rfl
    all_goals
     refine contract F110 rfl rfl rfl ?_
     simp only [F110,go_sem,op,mv,↓reduceIte,Nat.reduceAdd,Nat.reduceEqDiff,Nat.reduceLT,Int.reduceNeg,Int.cast_ofNat_Int,Int.reduceLT,Int.reduceAdd,Int.reduceSub,Int.reduceLE,Int.reduceEq,Int.reduceToNat,Nat.reduceSub,Nat.reduceMul,Nat.reduceLeDiff,Rr,ldV_md,tks_len,hz,Int.lt_irrefl,w1,w2,g1,g2,refs_ok,mapOf0,lkRs,lkRn,hl]
  ·intro h
   have g1:¬ (512:Int) < (fl.length:Int)+1:=by omega
   have g2:¬ (1024:Int) < ((n+1:Nat):Int):=by omega
   refine ⟨c2,?_⟩
   rcases hk with rfl | rfl | rfl
   all_goals
    refine contract F110 rfl rfl rfl ?_
    simp only [F110,go_sem,op,mv,↓reduceIte,Nat.reduceAdd,Nat.reduceEqDiff,Nat.reduceLT,Int.reduceNeg,Int.cast_ofNat_Int,Int.reduceLT,Int.reduceAdd,Int.reduceSub,Int.reduceLE,Int.reduceEq,Int.reduceToNat,Nat.reduceSub,Nat.reduceMul,Nat.reduceLeDiff,Rr,ldV_md,tks_len,hz,Int.lt_irrefl,w1,w2,g1,g2,refs_ok,mapOf0,lkRs,lkRn,scal3,hmu,h55,hld,ha,demV_md,demV_mdn,e1,hl]
 ·have hp:=pos_len ht
  have hp':0 < tx.length:=by omega
  rw [if_pos hp'] at hfl
  rw [hfl]
  constructor
  ·intro h
   by_cases g1:(512:Int) < (fl.length:Int)+1+1
   ·rcases hk with rfl | rfl | rfl
    all_goals
     refine contract F110 rfl rfl rfl ?_
     simp only [F110,go_sem,op,mv,↓reduceIte,Nat.reduceAdd,Nat.reduceEqDiff,Nat.reduceLT,Int.reduceNeg,Int.cast_ofNat_Int,Int.reduceLT,Int.reduceAdd,Int.reduceSub,Int.reduceLE,Int.reduceEq,Int.reduceToNat,Nat.reduceSub,Nat.reduceMul,Nat.reduceLeDiff,Rr,ldV_md,tks_len,bytesRows_len,hp,w1,w1b,g1,refs_ok,mapOf0,lkRs,lkRn,hl]
   ·have g2:(1024:Int) < ((n+1:Nat):Int):=by omega
    rcases hk with rfl | rfl | rfl
    all_goals
     refine contract F110 rfl rfl rfl ?_
     simp only [F110,go_sem,op,mv,↓reduceIte,Nat.reduceAdd,Nat.reduceEqDiff,Nat.reduceLT,Int.reduceNeg,Int.cast_ofNat_Int,Int.reduceLT,Int.reduceAdd,Int.reduceSub,Int.reduceLE,Int.reduceEq,Int.reduceToNat,Nat.reduceSub,Nat.reduceMul,Nat.reduceLeDiff,Rr,ldV_md,tks_len,bytesRows_len,hp,w1,w1b,w2,g1,g2,refs_ok,mapOf0,lkRs,lkRn,hl]
  ·intro h
   have g1:¬ (512:Int) < (fl.length:Int)+1+1:=by omega
   have g2:¬ (1024:Int) < ((n+1:Nat):Int):=by omega
   refine ⟨c2,?_⟩
   rcases hk with rfl | rfl | rfl
   all_goals
    refine contract F110 rfl rfl rfl ?_
    simp only [F110,go_sem,op,mv,↓reduceIte,Nat.reduceAdd,Nat.reduceEqDiff,Nat.reduceLT,Int.reduceNeg,Int.cast_ofNat_Int,Int.reduceLT,Int.reduceAdd,Int.reduceSub,Int.reduceLE,Int.reduceEq,Int.reduceToNat,Nat.reduceSub,Nat.reduceMul,Nat.reduceLeDiff,Rr,ldV_md,tks_len,bytesRows_len,hz,hp,w1,w1b,w2,g1,g2,refs_ok,mapOf0,lkRs,lkRn,scal3,hmu,h55,hld,ha,demV_md,demV_mdn,e1,hl]
theorem c54c (m:Tm) (b1 b2:Bool) (fl:List Tk) (tx:Bs) (n:Nat) (k:Int) (s:Bs) (i:Int) (hk:k=3) (y:Tk) (hm:mget m i=some y) (hy1:y.1=2) (hy2:nameOf y.2.1=s) (hyl:y.2.1.length≤1000000) (h1:fl.length≤2000) (h2:tx.length≤2000) (h3:n≤2000) :
  (512 < (fin fl tx).length+1∨1024 < n+1→G0 110 [.ptr 1 0,.agg [.int .i64 k,.str s,.int .i64 i]] [[.mapv (tmr m)],Rr b1 fl b2 tx n]=some (.int .i64 3,[[.mapv (tmr m)],Rr b1 fl b2 tx n])) ∧
  (¬ (512 < (fin fl tx).length+1∨1024 < n+1)→∃ b2',G0 110 [.ptr 1 0,.agg [.int .i64 k,.str s,.int .i64 i]] [[.mapv (tmr m)],Rr b1 fl b2 tx n]=some (.int .i64 0,[[.mapv (tmr (mset m i (k,s,i)))],Rr true (fin fl tx++[(k,s,i)]) b2' [] (n+1)])):=by
 subst hk
 have hl:=lk_some hm
 have h84:=c84 y.2.1 hyl
 rw [hy2] at h84
 have e:(s != s)=false:=by simp
 have w1:IntKind.i64.wrap ((fl.length:Int)+1)=(fl.length:Int)+1:=w64 (by omega) (by omega)
 have w1b:IntKind.i64.wrap ((fl.length:Int)+1+1)=(fl.length:Int)+1+1:=w64 (by omega) (by omega)
 have w2:IntKind.i64.wrap ((n:Int)+1)=((n+1:Nat):Int):=by rw [w64 (by omega) (by omega)]; rfl
 have e1:md true=.own:=rfl
 have hfl:=fin_len fl tx
 obtain ⟨c1,c2,h55⟩:=c55 (tmr (mset m i (3,s,i))) b1 b2 fl tx (n+1) (by omega)
 have hz:bytesRows []=[]:=rfl
 have hfin:(fin fl tx).length≤1000000:=by rw [hfl]; split <;> omega
 have ha:=app_f c1 (fin fl tx) (3,s,i) hfin
 simp only [Rr,hz] at h55
 have hld:=ldo_f [.mapv (tmr (mset m i (3,s,i)))] c1 c2 (fin fl tx) []
 rw [hz] at hld
 have hmu:=mu_x m 3 s i
 by_cases ht:tx=[]
 ·subst ht
  simp only [List.length_nil,Nat.lt_irrefl,if_false,Nat.add_zero] at hfl
  rw [hfl]
  rw [hz] at h55
  constructor
  ·intro h
   by_cases g1:(512:Int) < (fl.length:Int)+1
   ·refine contract F110 rfl rfl rfl ?_
    simp only [F110,go_sem,op,mv,↓reduceIte,Nat.reduceAdd,Nat.reduceEqDiff,Nat.reduceLT,Int.reduceNeg,Int.cast_ofNat_Int,Int.reduceLT,Int.reduceAdd,Int.reduceSub,Int.reduceLE,Int.reduceEq,Int.reduceToNat,Nat.reduceSub,Nat.reduceMul,Nat.reduceLeDiff,Rr,ldV_md,tks_len,hz,Int.lt_irrefl,w1,g1,refs_ok,mapOf0,lkRs,lkRn,hl,hy1,h84,e]
   ·have g2:(1024:Int) < ((n+1:Nat):Int):=by omega
    refine contract F110 rfl rfl rfl ?_
    simp only [F110,go_sem,op,mv,↓reduceIte,Nat.reduceAdd,Nat.reduceEqDiff,Nat.reduceLT,Int.reduceNeg,Int.cast_ofNat_Int,Int.reduceLT,Int.reduceAdd,Int.reduceSub,Int.reduceLE,Int.reduceEq,Int.reduceToNat,Nat.reduceSub,Nat.reduceMul,Nat.reduceLeDiff,Rr,ldV_md,tks_len,hz,Int.lt_irrefl,w1,w2,g1,g2,refs_ok,mapOf0,lkRs,lkRn,hl,hy1,h84,e]
  ·intro h
   have g1:¬ (512:Int) < (fl.length:Int)+1:=by omega
   have g2:¬ (1024:Int) < ((n+1:Nat):Int):=by omega
   refine ⟨c2,?_⟩
   refine contract F110 rfl rfl rfl ?_
   simp only [F110,go_sem,op,mv,↓reduceIte,Nat.reduceAdd,Nat.reduceEqDiff,Nat.reduceLT,Int.reduceNeg,Int.cast_ofNat_Int,Int.reduceLT,Int.reduceAdd,Int.reduceSub,Int.reduceLE,Int.reduceEq,Int.reduceToNat,Nat.reduceSub,Nat.reduceMul,Nat.reduceLeDiff,Rr,ldV_md,tks_len,hz,Int.lt_irrefl,w1,w2,g1,g2,refs_ok,mapOf0,lkRs,lkRn,scal3,hmu,h55,hld,ha,demV_md,demV_mdn,e1,hl,hy1,h84,e]
 ·have hp:=pos_len ht
  have hp':0 < tx.length:=by omega
  rw [if_pos hp'] at hfl
  rw [hfl]
  constructor
  ·intro h
   by_cases g1:(512:Int) < (fl.length:Int)+1+1
   ·refine contract F110 rfl rfl rfl ?_
    simp only [F110,go_sem,op,mv,↓reduceIte,Nat.reduceAdd,Nat.reduceEqDiff,Nat.reduceLT,Int.reduceNeg,Int.cast_ofNat_Int,Int.reduceLT,Int.reduceAdd,Int.reduceSub,Int.reduceLE,Int.reduceEq,Int.reduceToNat,Nat.reduceSub,Nat.reduceMul,Nat.reduceLeDiff,Rr,ldV_md,tks_len,bytesRows_len,hp,w1,w1b,g1,refs_ok,mapOf0,lkRs,lkRn,hl,hy1,h84,e]
   ·have g2:(1024:Int) < ((n+1:Nat):Int):=by omega
    refine contract F110 rfl rfl rfl ?_
    simp only [F110,go_sem,op,mv,↓reduceIte,Nat.reduceAdd,Nat.reduceEqDiff,Nat.reduceLT,Int.reduceNeg,Int.cast_ofNat_Int,Int.reduceLT,Int.reduceAdd,Int.reduceSub,Int.reduceLE,Int.reduceEq,Int.reduceToNat,Nat.reduceSub,Nat.reduceMul,Nat.reduceLeDiff,Rr,ldV_md,tks_len,bytesRows_len,hp,w1,w1b,w2,g1,g2,refs_ok,mapOf0,lkRs,lkRn,hl,hy1,h84,e]
  ·intro h
   have g1:¬ (512:Int) < (fl.length:Int)+1+1:=by omega
   have g2:¬ (1024:Int) < ((n+1:Nat):Int):=by omega
   refine ⟨c2,?_⟩
   refine contract F110 rfl rfl rfl ?_
   simp only [F110,go_sem,op,mv,↓reduceIte,Nat.reduceAdd,Nat.reduceEqDiff,Nat.reduceLT,Int.reduceNeg,Int.cast_ofNat_Int,Int.reduceLT,Int.reduceAdd,Int.reduceSub,Int.reduceLE,Int.reduceEq,Int.reduceToNat,Nat.reduceSub,Nat.reduceMul,Nat.reduceLeDiff,Rr,ldV_md,tks_len,bytesRows_len,hz,hp,w1,w1b,w2,g1,g2,refs_ok,mapOf0,lkRs,lkRn,scal3,hmu,h55,hld,ha,demV_md,demV_mdn,e1,hl,hy1,h84,e]
end Go.Av
namespace Go.Av
open Go.Nt
set_option linter.unusedSimpArgs false
set_option linter.unusedVariables false
set_option maxHeartbeats 16000000
set_option maxRecDepth 100000
theorem tg_mem {f:List Tk} {y:Tk} (h:y∈tg f):y∈f:=(List.mem_filter.1 h).1
theorem tg_fin (fl:List Tk) (tx:Bs):tg (fin fl tx)=tg fl:=by
 unfold fin
 split
 ·rfl
 ·rw [tg_app,tg_no (text_no rfl),List.append_nil]
theorem fin_len_tx (fl:List Tk) (tx:Bs):tx.length≤len (fin fl tx):=by
 unfold fin
 split
 ·rename_i h; subst h; simp
 ·rw [len_app,len_one]
  have:wid (1,tx,0)=tx.length:=rfl
  omega
theorem fin_le (fl:List Tk) (tx:Bs):fl.length≤(fin fl tx).length:=by rw [fin_len]; omega
/-- what holds of the reader -/
structure RI (fl:List Tk) (tx:Bs) (m:Tm) (n:Nat):Prop where
 vl:VL (fin fl tx)
 tm:TM (fin fl tx) m
 lk:lastK fl≠1
 nn:n=len (fin fl tx)
 l1:(fin fl tx).length≤512
 l2:n≤1024
theorem ri_name {fl:List Tk} {tx:Bs} {m:Tm} {n:Nat} (h:RI fl tx m n) (i:Int):∀ y,mget m i=some y→y.1=2→y.2.1.length≤1000000:=fun y hy h2=>VL_len h.vl y (tg_mem (h.tm.yes i y hy).1) h2
theorem ri_text {fl:List Tk} {tx:Bs} {m:Tm} {n:Nat} (h:RI fl tx m n) (c:UInt8) (hl:¬ (512 < fl.length+1∨1024 < n+1)):RI fl (tx++[c]) m (n+1)∧Nt.put (fin fl tx) (1,[c],0)=fin fl (tx++[c]):=by
 have hp:Nt.put (fin fl tx) (1,[c],0)=fin fl (tx++[c]):=fin_put h.lk (by simp)
 obtain ⟨p1,p2,_⟩:=put_ok (x:=(1,[c],0)) h.vl (wf_char c) (by simp) h.nn
 rw [hp] at p1 p2
 refine ⟨⟨p1,tm_of h.tm (by rw [tg_fin,tg_fin]),h.lk,p2.symm,?_,by omega⟩,hp⟩
 rw [fin_len]
 have:0 < (tx++[c]).length:=by simp
 rw [if_pos this]; omega
theorem ri_item {fl:List Tk} {tx:Bs} {m m':Tm} {n:Nat} (h:RI fl tx m n) {x:Tk} (hw:wfX x) (hx:x.1≠1) (hc:chk (fin fl tx) x=0) (hm:TM (fin fl tx++[x]) m') (hl:¬ (512 < (fin fl tx).length+1∨1024 < n+1)):RI (fin fl tx++[x]) [] m' (n+1):=by
 obtain ⟨p1,p2,_⟩:=put_ok (x:=x) h.vl hw (fun q=>q.2 hc) h.nn
 rw [put_tag hx] at p1 p2
 refine ⟨by rw [fin_nil]; exact p1,by rw [fin_nil]; exact hm,by rw [lastK_snoc]; exact hx,by rw [fin_nil]; exact p2.symm,by rw [fin_nil]; simp; omega,by omega⟩
theorem chk_tag {f:List Tk} {k:Int} {s:Bs} {i:Int} (hw:wfX (k,s,i)) (hk:k=2∨k=3∨k=4):chk f (k,s,i)=tagE f (k,s,i):=by
 rcases hw with ⟨h1,_⟩ | ⟨h1,_⟩ | ⟨h1,h2,h3,h4⟩ | ⟨h1,h2,h3,h4⟩
 ·simp only [] at h1; omega
 ·simp only [] at h1; omega
 ·simp only [] at h1 h2 h3 h4
  rcases h1 with rfl | rfl <;> simp [chk,h2,h3,h4]
 ·simp only [] at h1 h2 h3 h4
  subst h1
  simp [chk,h2,h3,h4]
theorem isTag_k {k:Int} {s:Bs} {i:Int} (hk:k=2∨k=3∨k=4):isTag (k,s,i)=true:=by rcases hk with rfl | rfl | rfl <;> rfl
/-- one step of the reader -/
theorem c54 {fl:List Tk} {tx:Bs} {m:Tm} {n:Nat} (h:RI fl tx m n) (b1 b2:Bool) {x:Tk} (hw:wfX x) :
  (x.1≠1∧chk (fin fl tx) x≠0→G0 110 [.ptr 1 0,.agg [.int .i64 x.1,.str x.2.1,.int .i64 x.2.2]] [[.mapv (tmr m)],Rr b1 fl b2 tx n]=some (.int .i64 (chk (fin fl tx) x),[[.mapv (tmr m)],Rr b1 fl b2 tx n])) ∧
  (¬ (x.1≠1∧chk (fin fl tx) x≠0)→512 < (Nt.put (fin fl tx) x).length∨1024 < n+1→G0 110 [.ptr 1 0,.agg [.int .i64 x.1,.str x.2.1,.int .i64 x.2.2]] [[.mapv (tmr m)],Rr b1 fl b2 tx n]=some (.int .i64 3,[[.mapv (tmr m)],Rr b1 fl b2 tx n])) ∧
  (¬ (x.1≠1∧chk (fin fl tx) x≠0)→¬ (512 < (Nt.put (fin fl tx) x).length∨1024 < n+1)→∃ m' b1' b2' fl' tx',RI fl' tx' m' (n+1)∧fin fl' tx'=Nt.put (fin fl tx) x∧G0 110 [.ptr 1 0,.agg [.int .i64 x.1,.str x.2.1,.int .i64 x.2.2]] [[.mapv (tmr m)],Rr b1 fl b2 tx n]=some (.int .i64 0,[[.mapv (tmr m')],Rr b1' fl' b2' tx' (n+1)])):=by
 have hl1:=h.l1
 have hl2:=h.l2
 have hfl:=fin_le fl tx
 have htx:=fin_len_tx fl tx
 have hnn:=h.nn
 obtain ⟨k,s,i⟩:=x
 simp only []
 by_cases k1:k=1
 ·subst k1
  have hc:∃ c,s=[c]∧i=0:=by
   rcases hw with ⟨_,⟨c,hc⟩,hi⟩ | ⟨h1,_⟩ | ⟨h1,_⟩ | ⟨h1,_⟩
   ·exact ⟨c,hc,hi⟩
   ·simp at h1
   ·simp at h1
   ·simp at h1
  obtain ⟨c,rfl,rfl⟩:=hc
  obtain ⟨q1,q2⟩:=c54t (tmr m) b1 b2 fl tx n c (by omega) (by omega) (by omega)
  have hpl:(Nt.put (fin fl tx) (1,[c],0)).length=fl.length+1:=fin_put_len h.lk (by simp)
  rw [hpl]
  refine ⟨fun q=>absurd rfl q.1,fun _ q=>q1 q,fun _ q=>?_⟩
  obtain ⟨r1,r2⟩:=ri_text h c q
  exact ⟨m,b1,true,fl,tx++[c],r1,r2.symm,q2 q⟩
 ·have hp:Nt.put (fin fl tx) (k,s,i)=fin fl tx++[(k,s,i)]:=put_tag k1
  have hpl:(fin fl tx++[(k,s,i)]).length=(fin fl tx).length+1:=by simp
  rw [hp,hpl]
  by_cases k5:k=5
  ·subst k5
   have hi:i=0∧isNm s=true:=by
    rcases hw with ⟨h1,_⟩ | ⟨_,h1,h2⟩ | ⟨h1,_⟩ | ⟨h1,_⟩
    ·simp at h1
    ·exact ⟨h2,h1⟩
    ·simp at h1
    ·simp at h1
   obtain ⟨rfl,hnm⟩:=hi
   have hc:chk (fin fl tx) (5,s,0)=0:=by simp [chk,hnm]
   obtain ⟨q1,q2⟩:=c54s (tmr m) b1 b2 fl tx n s (by omega) (by omega) (by omega)
   refine ⟨fun q=>absurd hc q.2,fun _ q=>q1 q,fun _ q=>?_⟩
   obtain ⟨b2',q3⟩:=q2 q
   have ht:TM (fin fl tx++[(5,s,0)]) m:=tm_of h.tm (by rw [tg_app,tg_no (by rfl),List.append_nil])
   exact ⟨m,true,b2',_,[],ri_item h hw (by simp) hc ht q,fin_nil _,q3⟩
  ·have hk:k=2∨k=3∨k=4:=by
    rcases hw with ⟨h1,_⟩ | ⟨h1,_⟩ | ⟨h1,_⟩ | ⟨h1,_⟩
    ·exact absurd h1 k1
    ·exact absurd h1 k5
    ·simp only [] at h1; omega
    ·simp only [] at h1; omega
   have hce:chk (fin fl tx) (k,s,i)=tagE (fin fl tx) (k,s,i):=chk_tag hw hk
   have hte:=tm_tag h.tm (k,s,i)
   rw [hce]
   have hy:=ri_name h i
   cases hb:tbad m (k,s,i) with
   | true =>
    rw [hb] at hte
    simp only [if_true] at hte
    rw [hte]
    have q:=c54b m b1 b2 fl tx n k s i hk hy hb
    exact ⟨fun _=>q,fun q=>absurd ⟨k1,by decide⟩ q,fun q=>absurd ⟨k1,by decide⟩ q⟩
   | false =>
    rw [hb] at hte
    simp only [Bool.false_eq_true,if_false] at hte
    rw [hte]
    have hq:(512 < (fin fl tx).length+1∨1024 < n+1→G0 110 [.ptr 1 0,.agg [.int .i64 k,.str s,.int .i64 i]] [[.mapv (tmr m)],Rr b1 fl b2 tx n]=some (.int .i64 3,[[.mapv (tmr m)],Rr b1 fl b2 tx n])) ∧
     (¬ (512 < (fin fl tx).length+1∨1024 < n+1)→∃ b2',G0 110 [.ptr 1 0,.agg [.int .i64 k,.str s,.int .i64 i]] [[.mapv (tmr m)],Rr b1 fl b2 tx n]=some (.int .i64 0,[[.mapv (tmr (mset m i (k,s,i)))],Rr true (fin fl tx++[(k,s,i)]) b2' [] (n+1)])):=by
     unfold tbad at hb
     cases hm:mget m i with
     | none=>exact c54n m b1 b2 fl tx n k s i hk hm (by omega) (by omega) (by omega)
     | some y =>
      rw [hm] at hb
      simp only [Bool.not_eq_false',Bool.and_eq_true,decide_eq_true_eq,beq_iff_eq] at hb
      exact c54c m b1 b2 fl tx n k s i hb.1.1 y hm hb.1.2 hb.2 (hy y hm hb.1.2) (by omega) (by omega) (by omega)
    refine ⟨fun q=>absurd rfl q.2,fun _ q=>hq.1 q,fun _ q=>?_⟩
    obtain ⟨b2',q3⟩:=hq.2 q
    exact ⟨_,true,b2',_,[],ri_item h hw k1 (by rw [hce]; exact hte) (tm_app h.tm (isTag_k hk) hte) q,fin_nil _,q3⟩
theorem l35 (s:Bs) (hs:s.length≤100000):∀ (k a:Nat) (fl:List Tk) (tx:Bs) (m:Tm) (n:Nat) (b1 b2:Bool),s.length≤a+k→a≤s.length→RI fl tx m n →
  ((prS (fin fl tx) a n (s.drop a)).2.2=0→∃ m' b1' b2' fl' tx' n',fin fl' tx'=(prS (fin fl tx) a n (s.drop a)).1∧fl'.length≤512∧execX G0 L62_0 (ST [(0,.str s),(3,.int .i64 a),(5,.ptr 1 0)] [] [[.mapv (tmr m)],Rr b1 fl b2 tx n])=some (.ex 0,ST [(0,.str s),(3,.int .i64 s.length),(5,.ptr 1 0),(15,.bool false)] [] [[.mapv (tmr m')],Rr b1' fl' b2' tx' n'])) ∧
  ((prS (fin fl tx) a n (s.drop a)).2.2≠0→∃ l' m' sh',execX G0 L62_0 (ST [(0,.str s),(3,.int .i64 a),(5,.ptr 1 0)] [] [[.mapv (tmr m)],Rr b1 fl b2 tx n])=some (.ret,ST l' m' sh')∧look .any l' 2=.sl .full 3 []∧look .any l' 3=.int .i64 ((prS (fin fl tx) a n (s.drop a)).2.1:Nat)∧look .any l' 4=.int .i64 (prS (fin fl tx) a n (s.drop a)).2.2)
 | k,a,fl,tx,m,n,b1,b2,h1,h2,hR=>by
  by_cases he:a=s.length
  ·subst he
   rw [List.drop_length,prS_nil]
   refine ⟨fun _=>⟨m,b1,b2,fl,tx,n,rfl,by have:=hR.l1; have:=fin_le fl tx; omega,?_⟩,fun q=>absurd rfl q⟩
   rw [Y_loop (L:=L62_0) rfl]
   simp only [go_sem,op,mv,↓reduceIte,Nat.reduceAdd,Nat.reduceEqDiff,Nat.reduceLT,Int.lt_irrefl]
  cases k with
  | zero=>omega
  | succ k =>
  have h4:(a:Int) < (s.length:Int):=by omega
  have hsl:sliceA true 0 (.str s) (some (.int .i64 (a:Int))) none=some (.str (s.drop a)):=by
   rw [slcS_lo _ _ _ _ (by omega) (by omega),Int.toNat_natCast]
  obtain ⟨c,r,hcr⟩:∃ c r,s.drop a=c :: r:=by
   cases hd:s.drop a with
   | nil=>have:=congrArg List.length hd; rw [List.length_drop] at this; simp at this; omega
   | cons c r=>exact ⟨c,r,rfl⟩
  have hrl:r.length+1=s.length - a:=by
   have:=congrArg List.length hcr; rw [List.length_drop] at this; simp at this; omega
  obtain ⟨kk,t,id,nn,b,y1,y2,y3⟩:=c53 c r (by omega)
  rw [← hcr] at y1 y2 y3
  cases hrd:rd (s.drop a) with
  | none =>
   rw [hrd] at y2
   have y2:b=false:=y2
   subst y2
   rw [prS_none (by rw [hcr]; simp) hrd]
   refine ⟨fun q=>(by simp at q),fun _=>?_⟩
   refine Exists.intro ?_ (Exists.intro ?_ (Exists.intro ?_ (And.intro ?_ ?_)))
   rotate_left 3
   ·rw [Y_loop (L:=L62_0) rfl]
    simp only [go_sem,op,mv,↓reduceIte,Nat.reduceAdd,Nat.reduceEqDiff,Nat.reduceLT,h4,hsl,y1]
    rfl
   ·exact ⟨rfl,rfl,rfl⟩
  | some p =>
   obtain ⟨x,mm⟩:=p
   rw [hrd] at y2
   have y2:b=true:=y2
   subst y2
   obtain ⟨e1,e2⟩:=y3 x mm hrd
   subst e2
   obtain ⟨hw,_,_,_⟩:=rd_spec hrd
   obtain ⟨m1,m2,_,_⟩:=rd_drop hrd
   rw [List.length_drop] at m2
   obtain ⟨z1,z2,z3⟩:=c54 hR b1 b2 hw
   rw [prS_some hrd]
   subst e1
   simp only [] at z1 z2 z3
   by_cases hc:kk≠1∧chk (fin fl tx) (kk,t,id)≠0
   ·rw [if_pos hc]
    have z1:=z1 hc
    have hne:=hc.2
    refine ⟨fun q=>absurd q hc.2,fun _=>?_⟩
    generalize chk (fin fl tx) (kk,t,id)=e at z1 hne
    refine Exists.intro ?_ (Exists.intro ?_ (Exists.intro ?_ (And.intro ?_ ?_)))
    rotate_left 3
    ·rw [Y_loop (L:=L62_0) rfl]
     simp only [go_sem,op,mv,↓reduceIte,Nat.reduceAdd,Nat.reduceEqDiff,Nat.reduceLT,h4,hsl,y1,z1,hne]
     rfl
    ·exact ⟨rfl,rfl,rfl⟩
   ·rw [if_neg hc]
    by_cases hl:512 < (Nt.put (fin fl tx) (kk,t,id)).length∨1024 < n+1
    ·rw [if_pos hl]
     have z2:=z2 hc hl
     refine ⟨fun q=>(by simp at q),fun _=>?_⟩
     refine Exists.intro ?_ (Exists.intro ?_ (Exists.intro ?_ (And.intro ?_ ?_)))
     rotate_left 3
     ·rw [Y_loop (L:=L62_0) rfl]
      simp only [go_sem,op,mv,↓reduceIte,Nat.reduceAdd,Nat.reduceEqDiff,Nat.reduceLT,h4,hsl,y1,z2]
      rfl
     ·exact ⟨rfl,rfl,rfl⟩
    ·rw [if_neg hl]
     obtain ⟨m',b1',b2',fl',tx',hR',hf',z3⟩:=z3 hc hl
     have hw1:IntKind.i64.wrap ((a:Int)+(mm:Int))=((a+mm:Nat):Int):=by rw [w64 (by omega) (by omega)]; rfl
     have ih:=l35 s hs k (a+mm) fl' tx' m' (n+1) b1' b2' (by omega) (by omega) hR'
     rw [List.drop_drop,← hf']
     have step:execX G0 L62_0 (ST [(0,.str s),(3,.int .i64 a),(5,.ptr 1 0)] [] [[.mapv (tmr m)],Rr b1 fl b2 tx n])=execX G0 L62_0 (ST [(0,.str s),(3,.int .i64 ((a+mm:Nat):Int)),(5,.ptr 1 0)] [] [[.mapv (tmr m')],Rr b1' fl' b2' tx' (n+1)]):=by
      conv=>lhs; rw [Y_loop (L:=L62_0) rfl]
      simp only [go_sem,op,mv,↓reduceIte,Nat.reduceAdd,Nat.reduceEqDiff,Nat.reduceLT,h4,hsl,y1,z3,hw1]
     rw [step]
     exact ih
theorem c35 (s:Bs) (hs:s.length≤100000):G0 62 [.str s] []=some (.tup [.sl .no 3 (tks (parse s).1),.int .i64 ((parse s).2.1:Nat),.int .i64 (parse s).2.2],[]):=by
 have hR:RI [] [] [] 0:=⟨rfl,tm_nil,by simp [lastK],rfl,by simp [fin],by omega⟩
 obtain ⟨x1,x2⟩:=l35 s hs s.length 0 [] [] [] 0 false false (by omega) (by omega) hR
 rw [List.drop_zero] at x1 x2
 have e0:prS (fin [] []) 0 0 s=parse s:=rfl
 rw [e0] at x1 x2
 have ec:((0:Nat):Int)=0:=rfl
 have eR:Rr false [] false [] 0=[.sl .full 3 [],.sl .full 1 [],.int .i64 0,.mp 0]:=rfl
 have em:tmr []=[]:=rfl
 rw [ec,eR,em] at x1 x2
 refine contract F62 rfl rfl rfl ?_
 by_cases h:(parse s).2.2=0
 ·obtain ⟨m',b1',b2',fl',tx',n',y1,y2,y3⟩:=x1 h
  obtain ⟨c1,c2,y4⟩:=c55 (tmr m') b1' b2' fl' tx' n' (by omega)
  rw [y1] at y4
  have hb:(parse s).2.1=0:=by
   obtain ⟨g,b,e⟩:∃ g b,parse s=(g,b,0):=⟨(parse s).1,(parse s).2.1,by rw [← h]⟩
   have:=(parse_canon e).2.2
   rw [e]; exact this
  rw [h,hb]
  have hz:bytesRows []=[]:=rfl
  simp only [Rr,hz] at y4
  have hsd:∀ q,sameDead [] q=true:=fun _=>rfl
  simp only [F62,go_sem,op,mv,↓reduceIte,Nat.reduceAdd,Nat.reduceEqDiff,Nat.reduceLT,Int.reduceNeg,Int.cast_ofNat_Int,Int.reduceLT,Int.reduceAdd,Int.reduceSub,Int.reduceLE,Int.reduceEq,Int.reduceToNat,Nat.reduceSub,Nat.reduceMul,Nat.reduceLeDiff,y3,Rr,y4,ldV_md,hsd]
 ·obtain ⟨l',m',sh',y1,y2,y3,y4⟩:=x2 h
  have hg:(parse s).1=[]:=by
   obtain ⟨g,b,e,he⟩:∃ g b e,parse s=(g,b,e):=⟨(parse s).1,(parse s).2.1,(parse s).2.2,rfl⟩
   have:=(parse_err he (by rw [he] at h; exact h)).2.1
   rw [he]; exact this
  rw [hg]
  have hsd:sameDead [] sh'=true:=rfl
  simp only [F62,go_sem,op,mv,↓reduceIte,Nat.reduceAdd,Nat.reduceEqDiff,Nat.reduceLT,Int.reduceNeg,Int.cast_ofNat_Int,Int.reduceLT,Int.reduceAdd,Int.reduceSub,Int.reduceLE,Int.reduceEq,Int.reduceToNat,Nat.reduceSub,Nat.reduceMul,Nat.reduceLeDiff,y1,y2,y3,y4,hsd,tks_nil]
end Go.Av
set_option linter.unusedSimpArgs false
set_option linter.unusedVariables false
namespace Go.Av
open Go.Nt
set_option linter.unusedSimpArgs false
set_option linter.unusedVariables false
set_option maxHeartbeats 16000000
set_option maxRecDepth 100000
end Go.Av
namespace Go.Av
open Go.Nt
set_option linter.unusedSimpArgs false
set_option linter.unusedVariables false
set_option maxHeartbeats 16000000
set_option maxRecDepth 100000
end Go.Av
namespace Go.Av
open Go.Nt
set_option linter.unusedSimpArgs false
set_option linter.unusedVariables false
set_option maxHeartbeats 16000000
set_option maxRecDepth 100000
end Go.Av
set_option linter.unusedSimpArgs false
set_option linter.unusedVariables false
namespace Go.Av
open Go.Nt
set_option linter.unusedSimpArgs false
set_option linter.unusedVariables false
set_option maxHeartbeats 16000000
set_option maxRecDepth 100000
theorem l22 (a b:List Tk) (hab:a.length=b.length) (ha:a.length≤4611686018427387904):∀ (k i:Nat),i+k=a.length →
  (a.drop i=b.drop i→execX G0 L22_0 (ST [(0,.sl .no 3 (tks a)),(1,.sl .no 3 (tks b)),(10,.bool false),(12,.int .i64 a.length),(13,.int .i64 i)] [] [])=some (.ex 0,ST [(0,.sl .no 3 (tks a)),(1,.sl .no 3 (tks b)),(10,.bool false),(12,.int .i64 a.length),(13,.int .i64 a.length),(14,.bool false)] [] [])) ∧
  (a.drop i≠b.drop i→∃ l',execX G0 L22_0 (ST [(0,.sl .no 3 (tks a)),(1,.sl .no 3 (tks b)),(10,.bool false),(12,.int .i64 a.length),(13,.int .i64 i)] [] [])=some (.ret,ST l' [] [])∧look .any l' 4=.bool false)
 | 0,i,h=>by
  have:i=a.length:=by omega
  subst this
  refine ⟨fun _=>?_,fun q=>absurd (by rw [List.drop_length,hab,List.drop_length]) q⟩
  rw [Y_loop (L:=L22_0) rfl]
  simp only [go_sem,op,mv,↓reduceIte,Nat.reduceAdd,Nat.reduceEqDiff,Nat.reduceLT,Int.lt_irrefl]
 | k+1,i,h=>by
  have hi:i < a.length:=by omega
  have h4:(i:Int) < (a.length:Int):=by omega
  have h0:(0:Int)≤(i:Int):=by omega
  have hw:IntKind.i64.wrap ((i:Int)+1)=((i+1:Nat):Int):=by rw [w64 (by omega) (by omega)]; rfl
  have hg:a[i]?=some a[i]:=List.getElem?_eq_getElem hi
  have hd:a.drop i=a[i] :: a.drop (i+1):=List.drop_eq_getElem_cons hi
  generalize a[i]=T at hg hd
  have hg2:b[i]?=some b[i]:=List.getElem?_eq_getElem (by omega)
  have hd2:b.drop i=b[i] :: b.drop (i+1):=List.drop_eq_getElem_cons (by omega)
  generalize b[i]=U at hg2 hd2
  have hr:=tks_at hg
  have hr2:=tks_at hg2
  have ih:=l22 a b hab ha k (i+1) (by omega)
  rw [hd,hd2]
  obtain ⟨k1,s1,i1⟩:=T
  obtain ⟨k2,s2,i2⟩:=U
  simp only [] at hr hr2
  by_cases hE:((k1,s1,i1):Tk)=(k2,s2,i2)
  ·cases hE
   have e:(s1 == s1)=true:=by simp
   have step:execX G0 L22_0 (ST [(0,.sl .no 3 (tks a)),(1,.sl .no 3 (tks b)),(10,.bool false),(12,.int .i64 a.length),(13,.int .i64 i)] [] [])=execX G0 L22_0 (ST [(0,.sl .no 3 (tks a)),(1,.sl .no 3 (tks b)),(10,.bool false),(12,.int .i64 a.length),(13,.int .i64 ((i+1:Nat):Int))] [] []):=by
    conv=>lhs; rw [Y_loop (L:=L22_0) rfl]
    simp only [go_sem,op,mv,↓reduceIte,Nat.reduceAdd,Nat.reduceEqDiff,Nat.reduceLT,h4,h0,hr,hr2,hw,e]
   rw [step]
   refine ⟨fun q=>ih.1 (by injection q),fun q=>ih.2 (fun z=>q (by rw [z]))⟩
  ·refine ⟨fun q=>absurd (by injection q) hE,fun _=>?_⟩
   by_cases e1:k1=k2
   ·subst e1
    by_cases e2:s1=s2
    ·subst e2
     have e3:¬ i1=i2:=fun q=>hE (by rw [q])
     have e:(s1 == s1)=true:=by simp
     refine Exists.intro ?_ (And.intro ?_ ?_)
     rotate_left 1
     ·rw [Y_loop (L:=L22_0) rfl]
      simp only [go_sem,op,mv,↓reduceIte,Nat.reduceAdd,Nat.reduceEqDiff,Nat.reduceLT,h4,h0,hr,hr2,hw,e,e3]
      rfl
     ·rfl
    ·have e:(s1 == s2)=false:=by simpa using e2
     refine Exists.intro ?_ (And.intro ?_ ?_)
     rotate_left 1
     ·rw [Y_loop (L:=L22_0) rfl]
      simp only [go_sem,op,mv,↓reduceIte,Nat.reduceAdd,Nat.reduceEqDiff,Nat.reduceLT,h4,h0,hr,hr2,hw,e,Bool.false_and,Bool.and_false]
      rfl
     ·rfl
   ·refine Exists.intro ?_ (And.intro ?_ ?_)
    rotate_left 1
    ·rw [Y_loop (L:=L22_0) rfl]
     simp only [go_sem,op,mv,↓reduceIte,Nat.reduceAdd,Nat.reduceEqDiff,Nat.reduceLT,h4,h0,hr,hr2,hw,e1,decide_false,Bool.false_and,Bool.and_false]
     rfl
    ·rfl
theorem c22 (a b:List Tk) (ha:a.length≤4611686018427387904):G0 22 [.sl .no 3 (tks a),.sl .no 3 (tks b)] []=some (.bool (decide (a=b)),[]):=by
 refine contract F22 rfl rfl rfl ?_
 by_cases hab:a.length=b.length
 ·have hab':(a.length:Int)=(b.length:Int):=by omega
  obtain ⟨x1,x2⟩:=l22 a b hab ha a.length 0 (by omega)
  have ec:((0:Nat):Int)=0:=rfl
  rw [List.drop_zero,List.drop_zero,ec] at x1 x2
  by_cases h:a=b
  ·rw [decide_eq_true h]
   simp only [F22,go_sem,op,mv,↓reduceIte,Nat.reduceAdd,Nat.reduceEqDiff,Nat.reduceLT,tks_len,hab',x1 h]
   rw [hab'] at x1
   simp only [F22,go_sem,op,mv,↓reduceIte,Nat.reduceAdd,Nat.reduceEqDiff,Nat.reduceLT,tks_len,x1 h]
  ·rw [decide_eq_false h]
   obtain ⟨l',y1,y2⟩:=x2 h
   rw [hab'] at y1
   simp only [F22,go_sem,op,mv,↓reduceIte,Nat.reduceAdd,Nat.reduceEqDiff,Nat.reduceLT,tks_len,hab',y1,y2]
 ·have hab':¬ (a.length:Int)=(b.length:Int):=by omega
  have h:¬ a=b:=fun q=>hab (by rw [q])
  rw [decide_eq_false h]
  simp only [F22,go_sem,op,mv,↓reduceIte,Nat.reduceAdd,Nat.reduceEqDiff,Nat.reduceLT,tks_len,hab']
theorem tot_le {f:List Tk}:∀ t∈f,t.2.1.length≤tot f:=by
 induction f with
 | nil=>intro t ht; cases ht
 | cons a f ih =>
  intro t ht
  rw [tot_cons]
  rcases List.mem_cons.1 ht with rfl | h
  ·omega
  ·have:=ih t h; omega
theorem hb_of {f:List Tk} {n:Nat} (h:tot f≤n) (hn:n≤cap47):∀ t∈f,t.2.1.length≤cap47:=fun t ht=>by have:=tot_le t ht; omega
end Go.Av
set_option linter.unusedSimpArgs false
set_option linter.unusedVariables false
namespace Go.Av
open Go.Nt
set_option linter.unusedSimpArgs false
set_option linter.unusedVariables false
set_option maxHeartbeats 16000000
set_option maxRecDepth 100000
def mdR (b:Bool):Own:=if b then .own else .full
def mdnR (b:Bool):Own:=if b then .no else .full
theorem md_noR (b:Bool):mdR b≠.no:=by cases b <;> decide
theorem demV_mdR (b:Bool) (z:Nat) (l:List (List AV)):demV (.sl (mdR b) z l)=.sl (mdnR b) z l:=by cases b <;> rfl
theorem demV_mdnR (b:Bool) (z:Nat) (l:List (List AV)):demV (.sl (mdnR b) z l)=.sl (mdnR b) z l:=by cases b <;> rfl
theorem app_i (b:Bool) (l:List Int) (i:Int) (h:l.length≤1000000):appA false 1 8 (.sl (mdR b) 1 (ints l)) (.sl .full 1 [[.int .i64 i]])=some (.sl .own 1 (ints (l++[i]))):=by
 have ha:appOK 8 (l.length+1)=true:=appOK_le (by decide) (by omega)
 rw [appA_gen (mdR b) .full (md_noR b) 1 8 (by decide),ints_length,List.length_singleton,if_pos ha]
 simp [ints]
theorem app_fR (b1:Bool) (fl:List Tk) (x:Tk) (h:fl.length≤1000000):appA false 3 32 (.sl (mdR b1) 3 (tks fl)) (.sl .full 3 [[.int .i64 x.1,.str x.2.1,.int .i64 x.2.2]])=some (.sl .own 3 (tks (fl++[x]))):=by
 have ha:appOK 32 (fl.length+1)=true:=appOK_le (by decide) (by omega)
 rw [appA_gen (mdR b1) .full (md_noR b1) 3 32 (by decide),tks_len,List.length_singleton,if_pos ha,← tks_app]
 rfl
theorem mapOf1 (rows:List (List AV)):mapOf [[.mapv rows]] 0=some rows:=rfl
def spm (l:List Int):List (List AV):=l.map fun i=>[.int .i64 i,.bool true]
theorem lk_spm (i:Int):∀ l:List Int,lkA [0] (.int .i64 i) (spm l)=some (if i∈l then some (.bool true) else none)
 | []=>rfl
 | k :: r=>by
  have ih:=lk_spm i r
  have e:spm (k :: r)=[.int .i64 k,.bool true] :: spm r:=rfl
  rw [e]
  simp only [lkA,keyEq,eqL,if_true,Option.map_some,Bool.and_true]
  by_cases h:i=k
  ·subst h; simp
  ·have:(i == k)=false:=by simpa using h
   simp only [this,ih,List.mem_cons,h,false_or]
theorem mu_spm (i:Int):∀ l:List Int,i ∉ l→muA [0] (.int .i64 i) (.bool true) (spm l)=some (spm (l++[i]))
 | [],_=>rfl
 | k :: r,h=>by
  simp only [List.mem_cons,not_or] at h
  have ih:=mu_spm i r h.2
  have e:spm (k :: r)=[.int .i64 k,.bool true] :: spm r:=rfl
  rw [e]
  have:(i == k)=false:=by simpa using h.1
  simp only [muA,keyEq,eqL,if_true,Option.map_some,Bool.and_true,this,ih]
  rfl
theorem lkRb1 (v:AV):lkR false false [.bool false] (some v)=some v:=rfl
theorem lkRb0:lkR false false [.bool false] none=some (.bool false):=rfl
theorem addN_y {l:List Int} {x:Tk} (h1:isTag x=true) (h2:x.2.2 ∉ l):addN l x=l++[x.2.2]:=by unfold addN; rw [if_pos ⟨h1,h2⟩]
theorem addN_n {l:List Int} {x:Tk} (h:isTag x=false∨x.2.2∈l):addN l x=l:=by
 unfold addN
 rw [if_neg]
 rintro ⟨a,b⟩
 rcases h with h | h
 ·rw [h] at a; cases a
 ·exact b h
theorem l71 (f:List Tk) (hf:f.length≤100000):∀ (k i:Nat) (b:Bool) (l:List Int),i+k=f.length→l.length≤i →
  ∃ b',execX G0 L104_0 (ST [(3,.sl (mdR b) 1 (ints l)),(4,.mp 0),(8,.sl .no 3 (tks f)),(9,.int .i64 f.length),(10,.int .i64 i)] [] [[.mapv (spm l)]])=some (.ex 0,ST [(3,.sl (mdR b') 1 (ints ((f.drop i).foldl addN l))),(4,.mp 0),(8,.sl .no 3 (tks f)),(9,.int .i64 f.length),(10,.int .i64 f.length),(11,.bool false)] [] [[.mapv (spm ((f.drop i).foldl addN l))]])
 | 0,i,b,l,h,hl=>by
  have:i=f.length:=by omega
  subst this
  refine ⟨b,?_⟩
  rw [List.drop_length,List.foldl_nil]
  rw [Y_loop (L:=L104_0) rfl]
  simp only [go_sem,op,mv,↓reduceIte,Nat.reduceAdd,Nat.reduceEqDiff,Nat.reduceLT,Int.lt_irrefl]
 | k+1,i,b,l,h,hl=>by
  have hi:i < f.length:=by omega
  have h4:(i:Int) < (f.length:Int):=by omega
  have h0:(0:Int)≤(i:Int):=by omega
  have hw:IntKind.i64.wrap ((i:Int)+1)=((i+1:Nat):Int):=by rw [w64 (by omega) (by omega)]; rfl
  have hg:f[i]?=some f[i]:=List.getElem?_eq_getElem hi
  have hd:f.drop i=f[i] :: f.drop (i+1):=List.drop_eq_getElem_cons hi
  generalize f[i]=T at hg hd
  have hr:=tks_at hg
  obtain ⟨kk,s,id⟩:=T
  simp only [] at hr
  have c69:=c69 kk s id
  have hlk:=lk_spm id l
  have e1:mdR true=.own:=rfl
  rw [hd,List.foldl_cons]
  cases ht:isTag (kk,s,id) with
  | false =>
   rw [ht] at c69
   rw [addN_n (.inl ht)]
   obtain ⟨b',ih⟩:=l71 f hf k (i+1) b l (by omega) (by omega)
   refine ⟨b',?_⟩
   rw [Y_loop (L:=L104_0) rfl]
   simp only [go_sem,op,mv,↓reduceIte,Nat.reduceAdd,Nat.reduceEqDiff,Nat.reduceLT,h4,h0,hr,hw,c69]
   exact ih
  | true =>
   rw [ht] at c69
   by_cases hm:id∈l
   ·rw [if_pos hm] at hlk
    rw [addN_n (.inr hm)]
    obtain ⟨b',ih⟩:=l71 f hf k (i+1) b l (by omega) (by omega)
    refine ⟨b',?_⟩
    rw [Y_loop (L:=L104_0) rfl]
    simp only [go_sem,op,mv,↓reduceIte,Nat.reduceAdd,Nat.reduceEqDiff,Nat.reduceLT,h4,h0,hr,hw,c69,mapOf1,hlk,lkRb1]
    exact ih
   ·rw [if_neg hm] at hlk
    rw [addN_y ht hm]
    have hmu:=mu_spm id l hm
    have ha:=app_i b l id (by omega)
    obtain ⟨b',ih⟩:=l71 f hf k (i+1) true (l++[id]) (by omega) (by simp; omega)
    refine ⟨b',?_⟩
    rw [e1] at ih
    rw [Y_loop (L:=L104_0) rfl]
    simp only [go_sem,op,mv,↓reduceIte,Nat.reduceAdd,Nat.reduceEqDiff,Nat.reduceLT,h4,h0,hr,hw,c69,mapOf1,hlk,lkRb0,hmu,ha,demV_mdR]
    exact ih
theorem c71 (f:List Tk) (hf:f.length≤100000):G0 104 [.sl .no 3 (tks f)] []=some (.sl .no 1 (ints (nums f)),[]):=by
 obtain ⟨b',x⟩:=l71 f hf f.length 0 false [] (by omega) (by simp)
 have ec:((0:Nat):Int)=0:=rfl
 have e2:mdR false=.full:=rfl
 have e3:spm []=[]:=rfl
 rw [List.drop_zero,ec,e2,e3,ints_nil] at x
 have en:f.foldl addN []=nums f:=rfl
 rw [en] at x
 refine contract F104 rfl rfl rfl ?_
 have hsd:∀ q,sameDead [] q=true:=fun _=>rfl
 simp only [F104,go_sem,op,mv,↓reduceIte,Nat.reduceAdd,Nat.reduceEqDiff,Nat.reduceLT,tks_len,x,demV_mdR,demV_mdnR,hsd]
/-! counting -/
def icl (l:List Int):List AV:=l.map (AV.int .i64)
theorem icl_len (l:List Int):(icl l).length=l.length:=by simp [icl]
theorem putL_app:∀ (a:List AV) (x y:AV) (r:List AV),putL a.length [x] (a++y :: r)=some (a++x :: r)
 | [],x,y,r=>by
  show putL 0 [x] (y :: r)=_
  simp only [putL_z,putL_nil,Option.map_some,List.nil_append]
 | c :: a,x,y,r=>by
  have ih:=putL_app a x y r
  simp only [List.length_cons,List.cons_append,putL_s,ih,Option.map_some]
theorem zeroRow_rep:∀ n,zeroRow [AV.int .i64 0] n=List.replicate n (.int .i64 0)
 | 0=>rfl
 | n+1=>by
  show [AV.int .i64 0]++zeroRow [AV.int .i64 0] n=_
  rw [zeroRow_rep n]; rfl
theorem rowsC_icl (l:List Int):rowsC 0 l.length 1 (icl l)=some (ints l):=by
 have h1:∀ l:List Int,(icl l).all (fun x=>flatB (demV x))=true:=by
  intro l
  induction l with
  | nil=>rfl
  | cons c l ih =>
   show (flatB _ && (icl l).all _)=true
   rw [ih]; rfl
 have h2:∀ l:List Int,(icl l).map demV=icl l:=by
  intro l
  induction l with
  | nil=>rfl
  | cons c l ih =>
   show demV _ :: (icl l).map demV=_
   rw [ih]; rfl
 have h3:∀ l:List Int,rowsOf 1 l.length (icl l)=ints l:=by
  intro l
  induction l with
  | nil=>rfl
  | cons c l ih =>
   show (icl (c :: l)).take 1 :: rowsOf 1 l.length ((icl (c :: l)).drop 1)=_
   have e:(icl (c :: l)).drop 1=icl l:=rfl
   rw [e,ih]; rfl
 unfold rowsC
 have h4:((icl l).drop 0).take (l.length * 1)=icl l:=by rw [List.drop_zero]; exact List.take_of_length_le (by rw [icl_len]; omega)
 rw [h4,h2,h3,if_pos ⟨by decide,by rw [icl_len]; omega,h1 l⟩]
def ccl (n i:Nat):List AV:=icl (upto i)++List.replicate (n - i) (.int .i64 0)
theorem ccl_put {n i:Nat} (h:i < n):putL i [.int .i64 ((i:Int)+1)] (ccl n i)=some (ccl n (i+1)):=by
 have e:ccl n i=icl (upto i)++.int .i64 0 :: List.replicate (n - (i+1)) (.int .i64 0):=by
  unfold ccl
  rw [show n - i=n - (i+1)+1 by omega,List.replicate_succ]
 have h1:=putL_app (icl (upto i)) (.int .i64 ((i:Int)+1)) (.int .i64 0) (List.replicate (n - (i+1)) (.int .i64 0))
 rw [icl_len,upto_len] at h1
 rw [e,h1]
 unfold ccl
 rw [upto_s]
 simp [icl]
theorem ccl_blk (n i:Nat):blkB (ccl n i)=true:=by
 have:∀ l:List AV,(∀ x∈l,∃ v,x=.int .i64 v)→blkB l=true:=by
  intro l h
  cases l with
  | nil=>rfl
  | cons c l =>
   obtain ⟨v,rfl⟩:=h c (by simp)
   rfl
 refine this _ fun x hx=>?_
 unfold ccl icl at hx
 rcases List.mem_append.1 hx with q | q
 ·obtain ⟨v,_,rfl⟩:=List.mem_map.1 q; exact ⟨v,rfl⟩
 ·exact ⟨0,(List.mem_replicate.1 q).2⟩
theorem l73 (n:Nat) (hn:n≤1000000):∀ (k i:Nat),i+k=n →
  execX G0 L107_0 (ST [(3,.ss 0 0 n 1),(8,.int .i64 n),(9,.int .i64 i)] [] [ccl n i])=some (.ex 0,ST [(3,.ss 0 0 n 1),(8,.int .i64 n),(9,.int .i64 n),(10,.bool false)] [] [ccl n n])
 | 0,i,h=>by
  have:i=n:=by omega
  subst this
  rw [Y_loop (L:=L107_0) rfl]
  simp only [go_sem,op,mv,↓reduceIte,Nat.reduceAdd,Nat.reduceEqDiff,Nat.reduceLT,Int.lt_irrefl]
 | k+1,i,h=>by
  have h4:(i:Int) < (n:Int):=by omega
  have h0:(0:Int)≤(i:Int):=by omega
  have hw:IntKind.i64.wrap ((i:Int)+1)=(i:Int)+1:=w64 (by omega) (by omega)
  have hp:=ccl_put (n:=n) (i:=i) (by omega)
  have hb:=ccl_blk n i
  have ih:=l73 n hn k (i+1) (by omega)
  have ec:((i+1:Nat):Int)=(i:Int)+1:=rfl
  rw [ec] at ih
  rw [Y_loop (L:=L107_0) rfl]
  simp only [go_sem,op,mv,↓reduceIte,Nat.reduceAdd,Nat.reduceEqDiff,Nat.reduceLT,h4,h0,hw,hb,Nat.mul_one,hp]
  exact ih
theorem c73 (n:Nat) (hn:n≤1000000):G0 107 [.int .i64 n] []=some (.sl .no 1 (ints (upto n)),[]):=by
 have x:=l73 n hn n 0 (by omega)
 have ec:((0:Nat):Int)=0:=rfl
 have e0:ccl n 0=List.replicate n (.int .i64 0):=by unfold ccl upto icl; simp
 have e1:ccl n n=icl (upto n):=by unfold ccl; simp
 rw [ec,e0,e1] at x
 have hr:=rowsC_icl (upto n)
 rw [upto_len] at hr
 have h0:(0:Int)≤(n:Int):=by omega
 have hb:(n:Int) * 8≤140737488355328:=by omega
 have hc:(n:Int)≤4611686018427387904:=by omega
 refine contract F107 rfl rfl rfl ?_
 have hsd:∀ q,sameDead [] q=true:=fun _=>rfl
 simp only [F107,go_sem,op,mv,↓reduceIte,Nat.reduceAdd,Nat.reduceEqDiff,Nat.reduceLT,Int.reduceNeg,Int.cast_ofNat_Int,Int.reduceLT,Int.reduceAdd,Int.reduceSub,Int.reduceLE,Int.reduceEq,Int.reduceToNat,Nat.reduceSub,Nat.reduceMul,Nat.reduceLeDiff,h0,hb,hc,Int.le_refl,zeroRow_rep,x,hr,hsd]
/-! joining the texts of a right fragment -/
theorem app_t0 (r:Bs) (h:r.length≤1000000):appA true 1 1 (.sl .full 1 []) (.str r)=some (.sl .own 1 (bytesRows r)):=by
 unfold appA
 have e:rowsA true 1 (.str r)=some (bytesRows r):=rfl
 simp only [e,Option.bind_some]
 rw [if_pos]
 ·simp
 ·refine ⟨.inl trivial,by decide,by decide,?_,?_⟩
  ·rw [bytesRows_len]; simp; omega
  ·rw [bytesRows_len]; simp; omega
theorem pos_len' {tx:Bs} (h:tx≠[]):(0:Int) < (tx.length:Int):=by
 cases tx with
 | nil=>exact absurd rfl h
 | cons c r=>simp only [List.length_cons]; omega
theorem l99a (g:List Tk) (hl:g.length≤1000000) (b:Bool) (o:List Tk) (i:Nat) (s:Bs) (id:Int) (hg:g[i]?=some (1,s,id)) (hs:s.length≤1000000) (hn:∀ y,g[i+1]?=some y→y.1≠1) :
  execX G0 L147_0 (ST [(0,.sl .no 3 (tks g)),(3,.sl (mdR b) 3 (tks o)),(4,.int .i64 i),(5,.sl .full 1 []),(9,.bool true),(15,.bool false)] [] [])=some (.ex 2,ST [(0,.sl .no 3 (tks g)),(3,.sl (mdR b) 3 (tks o)),(4,.int .i64 ((i+1:Nat):Int)),(5,.sl .own 1 (bytesRows s)),(9,.bool true),(15,.bool false),(36,.bool false)] [] []):=by
 have hi:i < g.length:=by
  by_cases q:i < g.length
  ·exact q
  ·rw [List.getElem?_eq_none (by omega)] at hg; cases hg
 have h4:(i:Int) < (g.length:Int):=by omega
 have h0:(0:Int)≤(i:Int):=by omega
 have hw:IntKind.i64.wrap ((i:Int)+1)=((i+1:Nat):Int):=by rw [w64 (by omega) (by omega)]; rfl
 have hr:=tks_at hg
 simp only [] at hr
 have ha:=app_t0 s hs
 have h1:execX G0 L147_0 (ST [(0,.sl .no 3 (tks g)),(3,.sl (mdR b) 3 (tks o)),(4,.int .i64 i),(5,.sl .full 1 []),(9,.bool true),(15,.bool false)] [] [])=execX G0 L147_0 (ST [(0,.sl .no 3 (tks g)),(3,.sl (mdR b) 3 (tks o)),(4,.int .i64 ((i+1:Nat):Int)),(5,.sl .own 1 (bytesRows s)),(9,.bool true),(15,.bool false)] [] []):=by
  conv=>lhs; rw [Y_loop (L:=L147_0) rfl]
  simp only [go_sem,op,mv,↓reduceIte,Nat.reduceAdd,Nat.reduceEqDiff,Nat.reduceLT,tks_len,h4,h0,hr,hw,ha]
 rw [h1]
 by_cases q:i+1 < g.length
 ·have hg2:g[i+1]?=some g[i+1]:=List.getElem?_eq_getElem q
  have hne:=hn _ hg2
  generalize g[i+1]=Y at hg2 hne
  have hr2:=tks_at hg2
  have h4':((i+1:Nat):Int) < (g.length:Int):=by omega
  have h0':(0:Int)≤((i+1:Nat):Int):=by omega
  rw [Y_loop (L:=L147_0) rfl]
  simp only [go_sem,op,mv,↓reduceIte,Nat.reduceAdd,Nat.reduceEqDiff,Nat.reduceLT,tks_len,h4',h0',Int.toNat_natCast,hr2,hne]
 ·have h4':¬ ((i+1:Nat):Int) < (g.length:Int):=by omega
  rw [Y_loop (L:=L147_0) rfl]
  simp only [go_sem,op,mv,↓reduceIte,Nat.reduceAdd,Nat.reduceEqDiff,Nat.reduceLT,tks_len,h4']
theorem l99 (g:List Tk) (hl:g.length≤100000) (hv:VL g) (hb:∀ t∈g,t.2.1.length≤1000000):∀ (k i:Nat) (b:Bool),i+k=g.length →
  ∃ b',execX G0 L147_1 (ST [(0,.sl .no 3 (tks g)),(3,.sl (mdR b) 3 (tks (g.take i))),(4,.int .i64 i)] [] [])=some (.ex 0,ST [(0,.sl .no 3 (tks g)),(3,.sl (mdR b') 3 (tks g)),(4,.int .i64 g.length),(9,.bool false)] [] [])
 | 0,i,b,h=>by
  have:i=g.length:=by omega
  subst this
  refine ⟨b,?_⟩
  rw [List.take_length]
  rw [Y_loop (L:=L147_1) rfl]
  simp only [go_sem,op,mv,↓reduceIte,Nat.reduceAdd,Nat.reduceEqDiff,Nat.reduceLT,tks_len,Int.lt_irrefl]
 | k+1,i,b,h=>by
  have hi:i < g.length:=by omega
  have h4:(i:Int) < (g.length:Int):=by omega
  have h0:(0:Int)≤(i:Int):=by omega
  have hw:IntKind.i64.wrap ((i:Int)+1)=((i+1:Nat):Int):=by rw [w64 (by omega) (by omega)]; rfl
  have hg:g[i]?=some g[i]:=List.getElem?_eq_getElem hi
  have hm:=hb _ (List.getElem_mem hi)
  generalize g[i]=T at hg hm
  have hr:=tks_at hg
  have hts:=take_step hg
  have hc:=VL_at hv hg
  obtain ⟨kk,s,id⟩:=T
  simp only [] at hr hm
  have e1:mdR true=.own:=rfl
  have htl:(g.take i).length≤1000000:=by rw [List.length_take]; omega
  obtain ⟨b',ih⟩:=l99 g hl hv hb k (i+1) true (by omega)
  refine ⟨b',?_⟩
  rw [hts,e1] at ih
  by_cases hk:kk=1
  ·subst hk
   obtain ⟨q1,q2,q3⟩:=(chk_text (x:=(1,s,id)) rfl).1 hc
   simp only [] at q1 q2
   subst q2
   have hn:∀ y,g[i+1]?=some y→y.1≠1:=by
    intro y hy he
    have hc2:=VL_at hv hy
    have:=((chk_text he).1 hc2).2.2
    rw [hts,lastK_snoc] at this
    exact this rfl
   have h99:=l99a g (by omega) b (g.take i) i s 0 hg hm hn
   have ha:=app_fR b (g.take i) (1,s,0) htl
   simp only [] at ha
   have hp:=pos_len' q1
   have hbb:=bytesOf_bcl s
   rw [Y_loop (L:=L147_1) rfl]
   simp only [go_sem,op,mv,↓reduceIte,Nat.reduceAdd,Nat.reduceEqDiff,Nat.reduceLT,tks_len,h4,h0,hr,h99,bytesRows_len,hp,hbb,ha,demV_mdR]
   exact ih
  ·have ha:=app_fR b (g.take i) (kk,s,id) htl
   simp only [] at ha
   rw [Y_loop (L:=L147_1) rfl]
   simp only [go_sem,op,mv,↓reduceIte,Nat.reduceAdd,Nat.reduceEqDiff,Nat.reduceLT,tks_len,h4,h0,hr,hw,hk,ha,demV_mdR]
   exact ih
theorem c99 (g:List Tk) (hl:g.length≤100000) (hv:VL g) (hb:∀ t∈g,t.2.1.length≤1000000):G0 147 [.sl .no 3 (tks g)] []=some (.sl .no 3 (tks g),[]):=by
 obtain ⟨b',x⟩:=l99 g hl hv hb g.length 0 false (by omega)
 have ec:((0:Nat):Int)=0:=rfl
 have e2:mdR false=.full:=rfl
 rw [List.take_zero,tks_nil,ec,e2] at x
 refine contract F147 rfl rfl rfl ?_
 simp only [F147,go_sem,op,mv,↓reduceIte,Nat.reduceAdd,Nat.reduceEqDiff,Nat.reduceLT,x,demV_mdR,demV_mdnR]
end Go.Av
namespace Go.Av
open Go.Nt
set_option linter.unusedSimpArgs false
set_option linter.unusedVariables false
set_option maxHeartbeats 16000000
set_option maxRecDepth 100000
/-! maps of integers -/
abbrev Im:=List (Int × Int)
def mgI:Im→Int→Option Int
 | [],_=>none
 | (k,y) :: r,i=>if i=k then some y else mgI r i
def msI:Im→Int→Int→Im
 | [],i,x=>[(i,x)]
 | (k,y) :: r,i,x=>if i=k then (i,x) :: r else (k,y) :: msI r i x
theorem mg_ms:∀ (m:Im) (i x j:Int),mgI (msI m i x) j=if j=i then some x else mgI m j
 | [],i,x,j=>by simp [msI,mgI]
 | (k,y) :: r,i,x,j=>by
  have ih:=mg_ms r i x j
  by_cases h:i=k
  ·subst h
   simp only [msI,if_true,mgI]
   by_cases h2:j=i <;> simp [h2]
  ·simp only [msI,if_neg h,mgI]
   by_cases h2:j=k
   ·subst h2; simp [Ne.symm h]
   ·simp only [h2,if_false,ih]
def imr (m:Im):List (List AV):=m.map fun p=>[.int .i64 p.1,.int .i64 p.2]
theorem lk_imr (i:Int):∀ m:Im,lkA [0] (.int .i64 i) (imr m)=some ((mgI m i).map (AV.int .i64))
 | []=>rfl
 | (k,y) :: r=>by
  have ih:=lk_imr i r
  have e:imr ((k,y) :: r)=[.int .i64 k,.int .i64 y] :: imr r:=rfl
  rw [e]
  simp only [lkA,keyEq,eqL,if_true,Option.map_some,Bool.and_true,mgI]
  by_cases h:i=k
  ·subst h; simp
  ·have:(i == k)=false:=by simpa using h
   simp only [this,h,if_false,ih]
theorem mu_imr (i x:Int):∀ m:Im,muA [0] (.int .i64 i) (.int .i64 x) (imr m)=some (imr (msI m i x))
 | []=>rfl
 | (k,y) :: r=>by
  have ih:=mu_imr i x r
  have e:imr ((k,y) :: r)=[.int .i64 k,.int .i64 y] :: imr r:=rfl
  rw [e]
  simp only [muA,keyEq,eqL,if_true,Option.map_some,Bool.and_true,msI]
  by_cases h:i=k
  ·subst h; simp [imr]
  ·have:(i == k)=false:=by simpa using h
   simp only [this,h,if_false,ih,Option.map_some]
   rfl
theorem lkRi1 (v:AV):lkR true false [.int .i64 0] (some v)=some (.tup [v,.bool true]):=rfl
theorem lkRi0:lkR true false [.int .i64 0] none=some (.tup [.int .i64 0,.bool false]):=rfl
theorem lkz_step {fr to:List Int} {k:Nat} {a b:Int} (h1:fr[k]?=some a) (h2:to[k]?=some b) (i:Int):lkz (fr.drop k) (to.drop k) i=if a=i then some b else lkz (fr.drop (k+1)) (to.drop (k+1)) i:=by
 have e1:k < fr.length:=by
  by_cases q:k < fr.length
  ·exact q
  ·rw [List.getElem?_eq_none (by omega)] at h1; cases h1
 have e2:k < to.length:=by
  by_cases q:k < to.length
  ·exact q
  ·rw [List.getElem?_eq_none (by omega)] at h2; cases h2
 rw [List.getElem?_eq_getElem e1] at h1
 rw [List.getElem?_eq_getElem e2] at h2
 simp only [Option.some.injEq] at h1 h2
 rw [List.drop_eq_getElem_cons e1,List.drop_eq_getElem_cons e2,h1,h2]
 rfl
theorem lkz_none {fr to:List Int} {k:Nat} (h:fr.length≤k∨to.length≤k) (i:Int):lkz (fr.drop k) (to.drop k) i=none:=by
 rcases h with h | h
 ·rw [List.drop_of_length_le h]; rfl
 ·rw [List.drop_of_length_le h]
  cases fr.drop k <;> rfl
theorem l72 (a0:AV) (ha0:∀ k,scrubV k a0=a0) (fr to:List Int) (h1:fr.length=to.length) (hl:fr.length≤1000000):∀ (k:Nat) (m:Im),k≤fr.length→(∀ i,mgI m i=lkz (fr.drop k) (to.drop k) i) →
  ∃ m',(∀ i,mgI m' i=lkz fr to i)∧execX G0 L106_0 (ST [(0,a0),(1,.sl .no 1 (ints fr)),(2,.sl .no 1 (ints to)),(7,.mp 0),(8,.int .i64 ((k:Int) - 1))] [] [[.mapv (imr m)]])=some (.ex 0,ST [(0,a0),(1,.sl .no 1 (ints fr)),(2,.sl .no 1 (ints to)),(7,.mp 0),(8,.int .i64 (-1)),(22,.bool false)] [] [[.mapv (imr m')]])
 | 0,m,hk,hm=>by
  refine ⟨m,by simpa using hm,?_⟩
  have e:((0:Nat):Int) - 1 = -1:=rfl
  rw [e,Y_loop (L:=L106_0) rfl]
  simp only [go_sem,op,mv,↓reduceIte,Nat.reduceAdd,Nat.reduceEqDiff,Nat.reduceLT,Int.reduceNeg,Int.reduceLE,Int.reduceToNat,Int.reduceLT,Nat.reduceLeDiff,ha0]
 | k+1,m,hk,hm=>by
  have e:((k+1:Nat):Int) - 1=(k:Int):=by omega
  have h0:(0:Int)≤(k:Int):=by omega
  have hw:IntKind.i64.wrap ((k:Int) - 1)=(k:Int) - 1:=w64 (by omega) (by omega)
  have g1:fr[k]?=some fr[k]:=List.getElem?_eq_getElem (by omega)
  have g2:to[k]?=some to[k]:=List.getElem?_eq_getElem (by omega)
  generalize fr[k]=a at g1
  generalize to[k]=b at g2
  have r1:=ints_at g1
  have r2:=ints_at g2
  have hmu:=mu_imr a b m
  obtain ⟨m',q1,q2⟩:=l72 a0 ha0 fr to h1 hl k (msI m a b) (by omega) (fun i=>by
   rw [mg_ms,lkz_step g1 g2,hm]
   by_cases q:i=a
   ·subst q; simp
   ·rw [if_neg q,if_neg (Ne.symm q)])
  refine ⟨m',q1,?_⟩
  rw [e,Y_loop (L:=L106_0) rfl]
  simp only [go_sem,op,mv,↓reduceIte,Nat.reduceAdd,Nat.reduceEqDiff,Nat.reduceLT,Int.reduceNeg,Int.reduceLE,Int.reduceToNat,Int.reduceLT,Nat.reduceLeDiff,ha0,h0,r1,r2,mapOf1,hmu,hw]
  exact q2
theorem renX_no {fr to:List Int} {k:Int} {s:Bs} {i:Int} (h:isTag (k,s,i)=false):renX fr to (k,s,i)=some (k,s,i):=by unfold renX; rw [h]; rfl
theorem renX_y {fr to:List Int} {k:Int} {s:Bs} {i v:Int} (h:isTag (k,s,i)=true) (h2:lkz fr to i=some v):renX fr to (k,s,i)=some (k,s,v):=by unfold renX; rw [if_pos h,h2]; rfl
theorem renX_n {fr to:List Int} {k:Int} {s:Bs} {i:Int} (h:isTag (k,s,i)=true) (h2:lkz fr to i=none):renX fr to (k,s,i)=none:=by unfold renX; rw [if_pos h,h2]; rfl
theorem ren_cons (fr to:List Int) (x:Tk) (f:List Tk):renF fr to (x :: f)=(match renX fr to x with | some y=>[y] | none=>[])++renF fr to f:=by
 unfold renF
 rw [List.filterMap_cons]
 cases renX fr to x <;> rfl
theorem l72b (f:List Tk) (hf:f.length≤100000) (a1 a2:AV) (s1:∀ k,scrubV k a1=a1) (s2:∀ k,scrubV k a2=a2) (fr to:List Int) (m:Im) (hm:∀ i,mgI m i=lkz fr to i):∀ (k i:Nat) (b:Bool) (o:List Tk),i+k=f.length→o.length≤i →
  ∃ b',execX G0 L106_1 (ST [(1,a1),(2,a2),(7,.mp 0),(8,.int .i64 (-1)),(9,.sl (mdR b) 3 (tks o)),(22,.bool false),(34,.sl .no 3 (tks f)),(35,.int .i64 f.length),(36,.int .i64 i)] [] [[.mapv (imr m)]])=some (.ex 2,ST [(1,a1),(2,a2),(7,.mp 0),(8,.int .i64 (-1)),(9,.sl (mdR b') 3 (tks (o++renF fr to (f.drop i)))),(22,.bool false),(34,.sl .no 3 (tks f)),(35,.int .i64 f.length),(36,.int .i64 f.length),(37,.bool false)] [] [[.mapv (imr m)]])
 | 0,i,b,o,h,ho=>by
  have:i=f.length:=by omega
  subst this
  refine ⟨b,?_⟩
  have e:renF fr to (f.drop f.length)=[]:=by rw [List.drop_length]; rfl
  rw [e,List.append_nil]
  rw [Y_loop (L:=L106_1) rfl]
  simp only [go_sem,op,mv,↓reduceIte,Nat.reduceAdd,Nat.reduceEqDiff,Nat.reduceLT,s1,s2,Int.lt_irrefl]
 | k+1,i,b,o,h,ho=>by
  have hi:i < f.length:=by omega
  have h4:(i:Int) < (f.length:Int):=by omega
  have h0:(0:Int)≤(i:Int):=by omega
  have hw:IntKind.i64.wrap ((i:Int)+1)=((i+1:Nat):Int):=by rw [w64 (by omega) (by omega)]; rfl
  have hg:f[i]?=some f[i]:=List.getElem?_eq_getElem hi
  have hd:f.drop i=f[i] :: f.drop (i+1):=List.drop_eq_getElem_cons hi
  generalize f[i]=T at hg hd
  have hr:=tks_at hg
  obtain ⟨kk,s,id⟩:=T
  simp only [] at hr
  have c69:=c69 kk s id
  have hlk:=lk_imr id m
  rw [hm] at hlk
  have e1:mdR true=.own:=rfl
  rw [hd,ren_cons]
  cases ht:isTag (kk,s,id) with
  | false =>
   rw [ht] at c69
   rw [renX_no ht]
   have ha:=app_fR b o (kk,s,id) (by omega)
   simp only [] at ha
   obtain ⟨b',ih⟩:=l72b f hf a1 a2 s1 s2 fr to m hm k (i+1) true (o++[(kk,s,id)]) (by omega) (by simp; omega)
   refine ⟨b',?_⟩
   rw [e1] at ih
   rw [Y_loop (L:=L106_1) rfl]
   simp only [go_sem,op,mv,↓reduceIte,Nat.reduceAdd,Nat.reduceEqDiff,Nat.reduceLT,s1,s2,h4,h0,hr,hw,c69,ha,demV_mdR]
   rw [List.append_assoc] at ih
   exact ih
  | true =>
   rw [ht] at c69
   cases hz:lkz fr to id with
   | none =>
    rw [hz] at hlk
    simp only [Option.map_none] at hlk
    rw [renX_n ht hz]
    obtain ⟨b',ih⟩:=l72b f hf a1 a2 s1 s2 fr to m hm k (i+1) b o (by omega) (by omega)
    refine ⟨b',?_⟩
    rw [Y_loop (L:=L106_1) rfl]
    simp only [go_sem,op,mv,↓reduceIte,Nat.reduceAdd,Nat.reduceEqDiff,Nat.reduceLT,s1,s2,h4,h0,hr,hw,c69,mapOf1,hlk,lkRi0,List.nil_append]
    exact ih
   | some v =>
    rw [hz] at hlk
    simp only [Option.map_some] at hlk
    rw [renX_y ht hz]
    have ha:=app_fR b o (kk,s,v) (by omega)
    simp only [] at ha
    obtain ⟨b',ih⟩:=l72b f hf a1 a2 s1 s2 fr to m hm k (i+1) true (o++[(kk,s,v)]) (by omega) (by simp; omega)
    refine ⟨b',?_⟩
    rw [e1] at ih
    rw [Y_loop (L:=L106_1) rfl]
    simp only [go_sem,op,mv,↓reduceIte,Nat.reduceAdd,Nat.reduceEqDiff,Nat.reduceLT,s1,s2,h4,h0,hr,hw,c69,mapOf1,hlk,lkRi1,ha,demV_mdR]
    rw [List.append_assoc] at ih
    exact ih
theorem c72 (f:List Tk) (hf:f.length≤100000) (fr to:List Int) (h1:fr.length=to.length) (hl:fr.length≤1000000) (hv:VL (renF fr to f)) (hr:(renF fr to f).length≤100000) (hb:∀ t∈renF fr to f,t.2.1.length≤1000000):G0 106 [.sl .no 3 (tks f),.sl .no 1 (ints fr),.sl .no 1 (ints to)] []=some (.sl .no 3 (tks (renF fr to f)),[]):=by
 obtain ⟨m',q1,q2⟩:=l72 (.sl .no 3 (tks f)) (fun _=>rfl) fr to h1 hl fr.length [] (Nat.le_refl _) (fun i=>by rw [lkz_none (.inl (Nat.le_refl _))]; rfl)
 obtain ⟨b',q3⟩:=l72b f hf (.sl .no 1 (ints fr)) (.sl .no 1 (ints to)) (fun _=>rfl) (fun _=>rfl) fr to m' q1 f.length 0 false [] (by omega) (by simp)
 have ec:((0:Nat):Int)=0:=rfl
 have e2:mdR false=.full:=rfl
 have e3:imr []=[]:=rfl
 rw [List.drop_zero,ec,e2,tks_nil,List.nil_append] at q3
 rw [e3] at q2
 have h99:=c99 (renF fr to f) hr hv hb
 have hl1:(ints fr).length=(ints to).length:=by rw [ints_length,ints_length,h1]
 have hmin:min (fr.length:Int) (fr.length:Int)=(fr.length:Int):=by omega
 have hw:IntKind.i64.wrap ((fr.length:Int) - 1)=(fr.length:Int) - 1:=w64 (by omega) (by omega)
 have hsd:∀ q,sameDead [] q=true:=fun _=>rfl
 refine contract F106 rfl rfl rfl ?_
 simp only [F106,go_sem,op,mv,↓reduceIte,Nat.reduceAdd,Nat.reduceEqDiff,Nat.reduceLT,← hl1,ints_length,hmin,hw,q2,tks_len,q3,demV_mdR,demV_mdnR,h99,hsd]
theorem tot_le' {f:List Tk}:∀ t∈f,t.2.1.length≤tot f:=by
 induction f with
 | nil=>intro t ht; cases ht
 | cons a f ih =>
  intro t ht
  rw [tot_cons]
  rcases List.mem_cons.1 ht with rfl | h
  ·omega
  ·have:=ih t h; omega
theorem ren_tot (fr to:List Int):∀ f:List Tk,(renF fr to f).length≤f.length∧tot (renF fr to f)≤tot f
 | []=>by simp [renF]
 | x :: f=>by
  have ih:=ren_tot fr to f
  rw [ren_cons,tot_app,tot_cons,List.length_append,List.length_cons]
  have:∀ y,renX fr to x=some y→y.2.1=x.2.1:=by
   intro y hy
   unfold renX at hy
   split at hy
   ·obtain ⟨v,_,rfl⟩:=Option.map_eq_some_iff.1 hy; rfl
   ·cases hy; rfl
  cases hx:renX fr to x with
  | none=>simp only [List.length_nil,tot_nil]; omega
  | some y =>
   have:=this y hx
   simp only [List.length_singleton,tot_cons,tot_nil,this]; omega
theorem vld_tot {f:List Tk} (h:vld f=0):tot f≤40000∧f.length≤512:=by
 obtain ⟨h1,h2,h3⟩:=(vld_iff f).1 h
 have key:∀ (n:Nat) (f:List Tk),f.length=n→VL f→tot f≤len f+64 * f.length:=by
  intro n
  induction n with
  | zero=>intro f hf _; rw [List.eq_nil_of_length_eq_zero hf]; simp [tot]
  | succ n ih =>
   intro f hf hv
   rcases snoc_cases f with rfl | ⟨g,y,rfl⟩
   ·simp [tot]
   ·obtain ⟨a,b⟩:=(chks_snoc g y).1 hv
    have h1:=ih g (by simp at hf; exact hf) a
    have h2:y.2.1.length≤wid y+64:=by
     obtain ⟨k,s,i⟩:=y
     rcases chk_kind b with ⟨rfl,_⟩ | ⟨h64,_⟩
     ·have:wid (1,s,i)=s.length:=rfl
      simp only []; omega
     ·simp only []; omega
    rw [tot_app,tot_cons,tot_nil,len_app,len_one,List.length_append,List.length_singleton]
    omega
 have:=key _ f rfl h1
 omega
/-! the reference -/
theorem l66 (l:List Int) (hl:l.length≤1000000) (x:Int):∀ (k i:Nat),i+k=l.length →
  (x ∉ l.drop i→∃ l',execX G0 L158_0 (ST [(0,.sl .no 1 (ints l)),(1,.int .i64 x),(7,.int .i64 l.length),(8,.int .i64 i)] [] [])=some (.ex 0,ST l' [] [])) ∧
  (x∈l.drop i→∃ l',execX G0 L158_0 (ST [(0,.sl .no 1 (ints l)),(1,.int .i64 x),(7,.int .i64 l.length),(8,.int .i64 i)] [] [])=some (.ret,ST l' [] [])∧look .any l' 4=.bool true)
 | 0,i,h=>by
  have:i=l.length:=by omega
  subst this
  refine ⟨fun _=>?_,fun h=>(by simp at h)⟩
  refine Exists.intro ?_ ?_
  rotate_left 1
  rw [Y_loop (L:=L158_0) rfl]
  simp only [go_sem,op,mv,↓reduceIte,Nat.reduceAdd,Nat.reduceEqDiff,Nat.reduceLT,Int.lt_irrefl]
  rfl
 | k+1,i,h=>by
  have hi:i < l.length:=by omega
  have h4:(i:Int) < (l.length:Int):=by omega
  have h0:(0:Int)≤(i:Int):=by omega
  have hw:IntKind.i64.wrap ((i:Int)+1)=((i+1:Nat):Int):=by rw [w64 (by omega) (by omega)]; rfl
  have hg:l[i]?=some l[i]:=List.getElem?_eq_getElem hi
  have hd:l.drop i=l[i] :: l.drop (i+1):=List.drop_eq_getElem_cons hi
  generalize l[i]=a at hg hd
  have hr:=ints_at hg
  have ih:=l66 l hl x k (i+1) (by omega)
  rw [hd]
  by_cases q:a=x
  ·subst q
   refine ⟨fun q=>absurd (List.mem_cons_self ..) q,fun _=>?_⟩
   refine Exists.intro ?_ (And.intro ?_ ?_)
   rotate_left 1
   ·rw [Y_loop (L:=L158_0) rfl]
    simp only [go_sem,op,mv,↓reduceIte,Nat.reduceAdd,Nat.reduceEqDiff,Nat.reduceLT,h4,h0,hr,hw]
    rfl
   ·rfl
  ·have step:execX G0 L158_0 (ST [(0,.sl .no 1 (ints l)),(1,.int .i64 x),(7,.int .i64 l.length),(8,.int .i64 i)] [] [])=execX G0 L158_0 (ST [(0,.sl .no 1 (ints l)),(1,.int .i64 x),(7,.int .i64 l.length),(8,.int .i64 ((i+1:Nat):Int))] [] []):=by
    conv=>lhs; rw [Y_loop (L:=L158_0) rfl]
    simp only [go_sem,op,mv,↓reduceIte,Nat.reduceAdd,Nat.reduceEqDiff,Nat.reduceLT,h4,h0,hr,hw,q]
   rw [step]
   have em:(x∈a :: l.drop (i+1))↔x∈l.drop (i+1):=by simp [Ne.symm q]
   rw [em]
   exact ih
theorem c66 (l:List Int) (hl:l.length≤1000000) (x:Int):G0 158 [.sl .no 1 (ints l),.int .i64 x] []=some (.bool (decide (x∈l)),[]):=by
 obtain ⟨x1,x2⟩:=l66 l hl x l.length 0 (by omega)
 have ec:((0:Nat):Int)=0:=rfl
 rw [List.drop_zero,ec] at x1 x2
 refine contract F158 rfl rfl rfl ?_
 by_cases h:x∈l
 ·rw [decide_eq_true h]
  obtain ⟨l',y1,y2⟩:=x2 h
  simp only [F158,go_sem,op,mv,↓reduceIte,Nat.reduceAdd,Nat.reduceEqDiff,Nat.reduceLT,ints_length,y1,y2]
 ·rw [decide_eq_false h]
  obtain ⟨l',y1⟩:=x1 h
  simp only [F158,go_sem,op,mv,↓reduceIte,Nat.reduceAdd,Nat.reduceEqDiff,Nat.reduceLT,ints_length,y1,look_kill,look_setl,List.not_mem_nil,if_true,if_false]
theorem l44 (f:List Tk) (hf:f.length≤100000):∀ (k i:Nat) (b:Bool) (l:List Int),i+k=f.length→l.length≤i →
  ∃ b',execX G0 L121_0 (ST [(0,.sl .no 3 (tks f)),(3,.sl (mdR b) 1 (ints l)),(6,.int .i64 f.length),(7,.int .i64 i)] [] [])=some (.ex 0,ST [(0,.sl .no 3 (tks f)),(3,.sl (mdR b') 1 (ints ((f.drop i).foldl addN l))),(6,.int .i64 f.length),(7,.int .i64 f.length),(8,.bool false)] [] [])
 | 0,i,b,l,h,hl=>by
  have:i=f.length:=by omega
  subst this
  refine ⟨b,?_⟩
  rw [List.drop_length,List.foldl_nil]
  rw [Y_loop (L:=L121_0) rfl]
  simp only [go_sem,op,mv,↓reduceIte,Nat.reduceAdd,Nat.reduceEqDiff,Nat.reduceLT,Int.lt_irrefl]
 | k+1,i,b,l,h,hl=>by
  have hi:i < f.length:=by omega
  have h4:(i:Int) < (f.length:Int):=by omega
  have h0:(0:Int)≤(i:Int):=by omega
  have hw:IntKind.i64.wrap ((i:Int)+1)=((i+1:Nat):Int):=by rw [w64 (by omega) (by omega)]; rfl
  have hg:f[i]?=some f[i]:=List.getElem?_eq_getElem hi
  have hd:f.drop i=f[i] :: f.drop (i+1):=List.drop_eq_getElem_cons hi
  generalize f[i]=T at hg hd
  have hr:=tks_at hg
  obtain ⟨kk,s,id⟩:=T
  simp only [] at hr
  have c65:=c65 kk s id
  have h66:=c66 l (by omega) id
  have e1:mdR true=.own:=rfl
  rw [hd,List.foldl_cons]
  cases ht:isTag (kk,s,id) with
  | false =>
   rw [ht] at c65
   rw [addN_n (.inl ht)]
   obtain ⟨b',ih⟩:=l44 f hf k (i+1) b l (by omega) (by omega)
   refine ⟨b',?_⟩
   rw [Y_loop (L:=L121_0) rfl]
   simp only [go_sem,op,mv,↓reduceIte,Nat.reduceAdd,Nat.reduceEqDiff,Nat.reduceLT,h4,h0,hr,hw,c65]
   exact ih
  | true =>
   rw [ht] at c65
   by_cases hm:id∈l
   ·rw [decide_eq_true hm] at h66
    rw [addN_n (.inr hm)]
    obtain ⟨b',ih⟩:=l44 f hf k (i+1) b l (by omega) (by omega)
    refine ⟨b',?_⟩
    rw [Y_loop (L:=L121_0) rfl]
    simp only [go_sem,op,mv,↓reduceIte,Nat.reduceAdd,Nat.reduceEqDiff,Nat.reduceLT,h4,h0,hr,hw,c65,demV_mdR,strV_sl,h66]
    exact ih
   ·rw [decide_eq_false hm] at h66
    rw [addN_y ht hm]
    have ha:=app_i b l id (by omega)
    obtain ⟨b',ih⟩:=l44 f hf k (i+1) true (l++[id]) (by omega) (by simp; omega)
    refine ⟨b',?_⟩
    rw [e1] at ih
    rw [Y_loop (L:=L121_0) rfl]
    simp only [go_sem,op,mv,↓reduceIte,Nat.reduceAdd,Nat.reduceEqDiff,Nat.reduceLT,h4,h0,hr,hw,c65,demV_mdR,strV_sl,h66,ha]
    exact ih
theorem c44 (f:List Tk) (hf:f.length≤100000):G0 121 [.sl .no 3 (tks f)] []=some (.sl .no 1 (ints (nums f)),[]):=by
 obtain ⟨b',x⟩:=l44 f hf f.length 0 false [] (by omega) (by simp)
 have ec:((0:Nat):Int)=0:=rfl
 have e2:mdR false=.full:=rfl
 rw [List.drop_zero,ec,e2,ints_nil] at x
 have en:f.foldl addN []=nums f:=rfl
 rw [en] at x
 refine contract F121 rfl rfl rfl ?_
 simp only [F121,go_sem,op,mv,↓reduceIte,Nat.reduceAdd,Nat.reduceEqDiff,Nat.reduceLT,tks_len,x,demV_mdR,demV_mdnR]
theorem l49 (n:Nat) (hn:n≤100000):∀ (k j:Nat) (b:Bool),j+k=n →
  ∃ b',execX G0 L122_0 (ST [(0,.int .i64 n),(3,.sl (mdR b) 1 (ints (upto j))),(4,.int .i64 ((j:Int)+1))] [] [])=some (.ex 0,ST [(0,.int .i64 n),(3,.sl (mdR b') 1 (ints (upto n))),(4,.int .i64 ((n:Int)+1)),(7,.bool false)] [] [])
 | 0,j,b,h=>by
  have:j=n:=by omega
  subst this
  refine ⟨b,?_⟩
  have h4:¬ (j:Int)+1≤(j:Int):=by omega
  rw [Y_loop (L:=L122_0) rfl]
  simp only [go_sem,op,mv,↓reduceIte,Nat.reduceAdd,Nat.reduceEqDiff,Nat.reduceLT,h4]
 | k+1,j,b,h=>by
  have h4:(j:Int)+1≤(n:Int):=by omega
  have hw:IntKind.i64.wrap ((j:Int)+1+1)=((j+1:Nat):Int)+1:=by rw [w64 (by omega) (by omega)]; rfl
  have ha:=app_i b (upto j) ((j:Int)+1) (by rw [upto_len]; omega)
  rw [← upto_s] at ha
  obtain ⟨b',ih⟩:=l49 n hn k (j+1) true (by omega)
  have e1:mdR true=.own:=rfl
  rw [e1] at ih
  refine ⟨b',?_⟩
  rw [Y_loop (L:=L122_0) rfl]
  simp only [go_sem,op,mv,↓reduceIte,Nat.reduceAdd,Nat.reduceEqDiff,Nat.reduceLT,h4,hw,demV_mdR,ha]
  exact ih
theorem c49 (n:Nat) (hn:n≤100000):G0 122 [.int .i64 n] []=some (.sl .no 1 (ints (upto n)),[]):=by
 obtain ⟨b',x⟩:=l49 n hn n 0 false (by omega)
 have ec:((0:Nat):Int)+1=1:=rfl
 have e2:mdR false=.full:=rfl
 have e0:ints (upto 0)=[]:=rfl
 rw [ec,e2,e0] at x
 refine contract F122 rfl rfl rfl ?_
 simp only [F122,go_sem,op,mv,↓reduceIte,Nat.reduceAdd,Nat.reduceEqDiff,Nat.reduceLT,x,demV_mdR,demV_mdnR]
end Go.Av
set_option linter.unusedSimpArgs false
set_option linter.unusedVariables false
namespace Go.Av
open Go.Nt
set_option linter.unusedSimpArgs false
set_option linter.unusedVariables false
set_option maxHeartbeats 16000000
set_option maxRecDepth 100000
theorem l43a (f:List Tk) (fr to:List Int) (hfr:fr.length≤1000000) (hto:to.length≤1000000) (o:List Tk) (ho:o.length≤1000000) (b:Bool) (kk:Int) (s:Bs) (id:Int) (n i:Int):∀ (g k:Nat),fr.length≤k+g →
  (∀ v,lkz (fr.drop k) (to.drop k) id=some v→execX G0 L123_0 (ST [(0,.sl .no 3 (tks f)),(1,.sl .no 1 (ints fr)),(2,.sl .no 1 (ints to)),(7,.sl (mdR b) 3 (tks o)),(9,.loc 9 0),(10,.int .i64 k),(12,.int .i64 n),(13,.int .i64 i),(14,.bool true),(22,.bool false)] [(9,some [.int .i64 kk,.str s,.int .i64 id])] [])=some (.ex 2,ST [(0,.sl .no 3 (tks f)),(1,.sl .no 1 (ints fr)),(2,.sl .no 1 (ints to)),(7,.sl .own 3 (tks (o++[(kk,s,v)]))),(12,.int .i64 n),(13,.int .i64 i),(14,.bool true),(22,.bool false),(36,.bool true),(45,.bool true)] [] [])) ∧
  (lkz (fr.drop k) (to.drop k) id=none→∃ K:Int,execX G0 L123_0 (ST [(0,.sl .no 3 (tks f)),(1,.sl .no 1 (ints fr)),(2,.sl .no 1 (ints to)),(7,.sl (mdR b) 3 (tks o)),(9,.loc 9 0),(10,.int .i64 k),(12,.int .i64 n),(13,.int .i64 i),(14,.bool true),(22,.bool false)] [(9,some [.int .i64 kk,.str s,.int .i64 id])] [])=some (.ex 2,ST [(0,.sl .no 3 (tks f)),(1,.sl .no 1 (ints fr)),(2,.sl .no 1 (ints to)),(7,.sl (mdR b) 3 (tks o)),(9,.loc 9 0),(10,.int .i64 K),(12,.int .i64 n),(13,.int .i64 i),(14,.bool true),(22,.bool false),(36,.bool false)] [(9,some [.int .i64 kk,.str s,.int .i64 id])] []))
 | g,k,hg=>by
  have h0:(0:Int)≤(k:Int):=by omega
  by_cases h1:fr.length≤k
  ·have h1':¬ (k:Int) < (fr.length:Int):=by omega
   refine ⟨fun v hv=>(by rw [lkz_none (.inl h1)] at hv; cases hv),fun _=>⟨(k:Int),?_⟩⟩
   rw [Y_loop (L:=L123_0) rfl]
   simp only [go_sem,op,mv,↓reduceIte,Nat.reduceAdd,Nat.reduceEqDiff,Nat.reduceLT,ints_length,h1']
  have h1':(k:Int) < (fr.length:Int):=by omega
  by_cases h2:to.length≤k
  ·have h2':¬ (k:Int) < (to.length:Int):=by omega
   refine ⟨fun v hv=>(by rw [lkz_none (.inr h2)] at hv; cases hv),fun _=>⟨(k:Int),?_⟩⟩
   rw [Y_loop (L:=L123_0) rfl]
   simp only [go_sem,op,mv,↓reduceIte,Nat.reduceAdd,Nat.reduceEqDiff,Nat.reduceLT,ints_length,h1',h2']
  have h2':(k:Int) < (to.length:Int):=by omega
  cases g with
  | zero=>omega
  | succ g =>
   have hw:IntKind.i64.wrap ((k:Int)+1)=((k+1:Nat):Int):=by rw [w64 (by omega) (by omega)]; rfl
   have g1:fr[k]?=some fr[k]:=List.getElem?_eq_getElem (by omega)
   have g2:to[k]?=some to[k]:=List.getElem?_eq_getElem (by omega)
   generalize fr[k]=a at g1
   generalize to[k]=c at g2
   have r1:=ints_at g1
   have r2:=ints_at g2
   have ih:=l43a f fr to hfr hto o ho b kk s id n i g (k+1) (by omega)
   rw [lkz_step g1 g2]
   by_cases hq:a=id
   ·subst hq
    rw [if_pos rfl]
    refine ⟨fun v hv=>?_,fun q=>(by cases q)⟩
    cases hv
    have ha:=app_fR b o (kk,s,c) ho
    simp only [] at ha
    rw [Y_loop (L:=L123_0) rfl]
    simp only [go_sem,op,mv,↓reduceIte,Nat.reduceAdd,Nat.reduceEqDiff,Nat.reduceLT,ints_length,h0,h1',h2',r1,r2,demV_mdR,ha]
   ·rw [if_neg hq]
    have step:execX G0 L123_0 (ST [(0,.sl .no 3 (tks f)),(1,.sl .no 1 (ints fr)),(2,.sl .no 1 (ints to)),(7,.sl (mdR b) 3 (tks o)),(9,.loc 9 0),(10,.int .i64 k),(12,.int .i64 n),(13,.int .i64 i),(14,.bool true),(22,.bool false)] [(9,some [.int .i64 kk,.str s,.int .i64 id])] [])=execX G0 L123_0 (ST [(0,.sl .no 3 (tks f)),(1,.sl .no 1 (ints fr)),(2,.sl .no 1 (ints to)),(7,.sl (mdR b) 3 (tks o)),(9,.loc 9 0),(10,.int .i64 ((k+1:Nat):Int)),(12,.int .i64 n),(13,.int .i64 i),(14,.bool true),(22,.bool false)] [(9,some [.int .i64 kk,.str s,.int .i64 id])] []):=by
     conv=>lhs; rw [Y_loop (L:=L123_0) rfl]
     simp only [go_sem,op,mv,↓reduceIte,Nat.reduceAdd,Nat.reduceEqDiff,Nat.reduceLT,ints_length,h0,h1',h2',r1,r2,hq,hw]
    rw [step]
    exact ih
theorem l43 (f:List Tk) (hf:f.length≤100000) (fr to:List Int) (hfr:fr.length≤1000000) (hto:to.length≤1000000):∀ (k i:Nat) (b:Bool) (o:List Tk),i+k=f.length→o.length≤i →
  ∃ b',execX G0 L123_1 (ST [(0,.sl .no 3 (tks f)),(1,.sl .no 1 (ints fr)),(2,.sl .no 1 (ints to)),(7,.sl (mdR b) 3 (tks o)),(12,.int .i64 f.length),(13,.int .i64 i)] [] [])=some (.ex 0,ST [(0,.sl .no 3 (tks f)),(1,.sl .no 1 (ints fr)),(2,.sl .no 1 (ints to)),(7,.sl (mdR b') 3 (tks (o++renF fr to (f.drop i)))),(12,.int .i64 f.length),(13,.int .i64 f.length),(14,.bool false)] [] [])
 | 0,i,b,o,h,ho=>by
  have:i=f.length:=by omega
  subst this
  refine ⟨b,?_⟩
  have e:renF fr to (f.drop f.length)=[]:=by rw [List.drop_length]; rfl
  rw [e,List.append_nil]
  rw [Y_loop (L:=L123_1) rfl]
  simp only [go_sem,op,mv,↓reduceIte,Nat.reduceAdd,Nat.reduceEqDiff,Nat.reduceLT,Int.lt_irrefl]
 | k+1,i,b,o,h,ho=>by
  have hi:i < f.length:=by omega
  have h4:(i:Int) < (f.length:Int):=by omega
  have h0:(0:Int)≤(i:Int):=by omega
  have hw:IntKind.i64.wrap ((i:Int)+1)=((i+1:Nat):Int):=by rw [w64 (by omega) (by omega)]; rfl
  have hg:f[i]?=some f[i]:=List.getElem?_eq_getElem hi
  have hd:f.drop i=f[i] :: f.drop (i+1):=List.drop_eq_getElem_cons hi
  generalize f[i]=T at hg hd
  have hr:=tks_at hg
  obtain ⟨kk,s,id⟩:=T
  simp only [] at hr
  have c65:=c65 kk s id
  have e1:mdR true=.own:=rfl
  rw [hd,ren_cons]
  cases ht:isTag (kk,s,id) with
  | false =>
   rw [ht] at c65
   rw [renX_no ht]
   have ha:=app_fR b o (kk,s,id) (by omega)
   simp only [] at ha
   obtain ⟨b',ih⟩:=l43 f hf fr to hfr hto k (i+1) true (o++[(kk,s,id)]) (by omega) (by simp; omega)
   refine ⟨b',?_⟩
   rw [e1] at ih
   rw [Y_loop (L:=L123_1) rfl]
   simp only [go_sem,op,mv,↓reduceIte,Nat.reduceAdd,Nat.reduceEqDiff,Nat.reduceLT,h4,h0,hr,hw,c65,ha,demV_mdR]
   rw [List.append_assoc] at ih
   exact ih
  | true =>
   rw [ht] at c65
   obtain ⟨x1,x2⟩:=l43a f fr to hfr hto o (by omega) b kk s id (f.length:Int) (i:Int) fr.length 0 (by omega)
   have ec:((0:Nat):Int)=0:=rfl
   rw [List.drop_zero,List.drop_zero,ec] at x1 x2
   cases hz:lkz fr to id with
   | none =>
    obtain ⟨K,x⟩:=x2 hz
    rw [renX_n ht hz]
    obtain ⟨b',ih⟩:=l43 f hf fr to hfr hto k (i+1) b o (by omega) (by omega)
    refine ⟨b',?_⟩
    rw [Y_loop (L:=L123_1) rfl]
    simp only [go_sem,op,mv,↓reduceIte,Nat.reduceAdd,Nat.reduceEqDiff,Nat.reduceLT,h4,h0,hr,hw,c65,x,List.nil_append]
    exact ih
   | some v =>
    have x:=x1 v hz
    rw [renX_y ht hz]
    obtain ⟨b',ih⟩:=l43 f hf fr to hfr hto k (i+1) true (o++[(kk,s,v)]) (by omega) (by simp; omega)
    refine ⟨b',?_⟩
    rw [e1] at ih
    rw [Y_loop (L:=L123_1) rfl]
    simp only [go_sem,op,mv,↓reduceIte,Nat.reduceAdd,Nat.reduceEqDiff,Nat.reduceLT,h4,h0,hr,hw,c65,x]
    rw [List.append_assoc] at ih
    exact ih
theorem c43 (f:List Tk) (hf:f.length≤100000) (hft:tot f≤1000000) (fr to:List Int) (hfr:fr.length≤1000000) (hto:to.length≤1000000):G0 123 [.sl .no 3 (tks f),.sl .no 1 (ints fr),.sl .no 1 (ints to)] []=some (.sl .no 3 (tks (nrm (renF fr to f))),[]):=by
 obtain ⟨b',x⟩:=l43 f hf fr to hfr hto f.length 0 false [] (by omega) (by simp)
 have ec:((0:Nat):Int)=0:=rfl
 have e2:mdR false=.full:=rfl
 rw [List.drop_zero,ec,e2,tks_nil,List.nil_append] at x
 obtain ⟨t1,t2⟩:=ren_tot fr to f
 have h57:=c57 (renF fr to f) (by omega) (by omega)
 refine contract F123 rfl rfl rfl ?_
 simp only [F123,go_sem,op,mv,↓reduceIte,Nat.reduceAdd,Nat.reduceEqDiff,Nat.reduceLT,tks_len,x,demV_mdR,demV_mdnR,strV_sl,h57]
/-! first repetitions -/
end Go.Av
set_option linter.unusedSimpArgs false
set_option linter.unusedVariables false
namespace Go.Av
open Go.Nt
set_option linter.unusedSimpArgs false
set_option linter.unusedVariables false
set_option maxHeartbeats 16000000
set_option maxRecDepth 100000
def Rok (R:List (List AV)):Prop:=∀ (l:List Int) (n:Nat),refsOk false (R.length+1) (num l n :: R)=true
theorem take_R (x:List AV) (R:List (List AV)):(x :: R).take (R.length+1)=x :: R:=by rw [List.take_succ_cons,List.take_length]
theorem c41r {R:List (List AV)} (hR:Rok R) (l:List Int) (n:Nat) (m:Int) (hn:n≤1000000) (h1:1≤m) (h2:m≤1000000):G0 54 [.ptr 0 0,.int .i64 m] (num l n :: R)=some (.int .i64 (nxt l n m),(num l (n+1) :: R)):=by
 refine contract F54 rfl rfl rfl ?_
 have hw:IntKind.i64.wrap ((n:Int)+1)=((n+1:Nat):Int):=by rw [w64 (by omega) (by omega)]; rfl
 have h0:(0:Int)≤(n:Int):=by omega
 have hnum:refsOk false (R.length+1) ([.sl .no 1 (ints l),.int .i64 ((n+1:Nat):Int)] :: R)=true:=hR l (n+1)
 have htk:=take_R [.sl .no 1 (ints l),.int .i64 ((n+1:Nat):Int)] R
 by_cases h3:n < l.length
 ·have h4:(n:Int) < (l.length:Int):=by omega
  have hr:=ints_at (l:=l) (i:=n) (x:=l.getD n 0) (by simp [List.getD_eq_getElem?_getD,h3])
  simp only [F54,go_sem,op,mv,↓reduceIte,Nat.reduceAdd,Nat.reduceEqDiff,Nat.reduceLT,num,ints_length,h4,h0,hr,hw,c18 _ m h1 h2,nxt,h3,hnum,htk]
 ·have h4:¬ (n:Int) < (l.length:Int):=by omega
  simp only [F54,go_sem,op,mv,↓reduceIte,Nat.reduceAdd,Nat.reduceEqDiff,Nat.reduceLT,num,ints_length,h4,h0,hw,c18 _ m h1 h2,nxt,h3,hnum,htk]

theorem c95r {R:List (List AV)} (hR:Rok R) (l:List Int) (n:Nat) (hn:n≤1000000):G0 134 [.ptr 0 0] (num l n :: R)=some (.str (wd l n),(num l (n+1) :: R)):=by
 refine contract F134 rfl rfl rfl ?_
 have hm:mksA 1 [.str []] 24 [0,1,2,3,4,5,6,7,8,9,10,11,12,13,14,15,16,17,18,19,20,21,22,23] [.str [114,101,100],.str [99,97,114],.str [82,101,100],.str [97],.str [99,97,114,115],.str [49,44,53],.str [50,50],.str [100,111,110,39,116],.str [46],.str [33],.str [32],.str [32,32],.str [60],.str [38],.str [123],.str [34],.str [92],.str [120,45,121],.str [10],.str [61],.str [125],.str [62],.str [9],.str [98]]=some (.sl .full 1 (strs wds)):=by rfl
 have hb:=nxt_bd l n 24 (by omega)
 have h0:0≤nxt l n 24:=hb.1
 have hr:=strs_at (l:=wds) (i:=(nxt l n 24).toNat) (s:=wd l n) (by
  unfold wd
  rw [List.getD_eq_getElem?_getD,List.getElem?_eq_getElem (by simp [wds]; omega)]; rfl)
 have hnum:=hR l (n+1)
 have htk:=take_R (num l (n+1)) R
 simp only [F134,go_sem,op,mv,↓reduceIte,Nat.reduceAdd,Nat.reduceEqDiff,Nat.reduceLT,hm,c41r hR l n 24 hn (by decide) (by decide),h0,hr,hnum,htk]
theorem l63r {R:List (List AV)} (hR:Rok R) (l:List Int):∀ (k n:Nat) (out:List UInt8),n+2 * k≤1000000→out.length+6 * k≤1000000 →
  execX G0 L89_0 (ST [(0,.ptr 0 0),(5,.str out),(6,.int .i64 k)] [] (num l n :: R))=some (.ex 0,ST [(0,.ptr 0 0),(5,.str (lnF l k n out).1),(6,.int .i64 0),(13,.bool false)] [] (num l (lnF l k n out).2 :: R))
 | 0,n,out,h1,h2=>by
  rw [Y_loop (L:=L89_0) rfl]
  simp only [go_sem,op,mv,↓reduceIte,Nat.reduceAdd,Nat.reduceEqDiff,Nat.reduceLT,Int.reduceNeg,Int.cast_ofNat_Int,Int.reduceLT,Int.reduceAdd,Int.reduceSub,Int.reduceLE,Int.reduceEq,Int.reduceToNat,Nat.reduceSub,Nat.reduceMul,Nat.reduceLeDiff,Int.lt_irrefl,lnF]
 | k+1,n,out,h1,h2=>by
  have hk:(0:Int) < ((k+1:Nat):Int):=by omega
  have hw:IntKind.i64.wrap (((k+1:Nat):Int) - 1)=(k:Int):=by rw [w64 (by omega) (by omega)]; omega
  have hl:=wd_len l n
  by_cases h3:out=[]
  ·have ih:=l63r hR l k (n+1) (out++wd l n) (by omega) (by rw [List.length_append]; omega)
   have hc:out.length+(wd l n).length≤140737488355328:=by omega
   subst h3
   rw [Y_loop (L:=L89_0) rfl]
   simp only [go_sem,op,mv,↓reduceIte,Nat.reduceAdd,Nat.reduceEqDiff,Nat.reduceLT,Int.reduceNeg,Int.cast_ofNat_Int,Int.reduceLT,Int.reduceAdd,Int.reduceSub,Int.reduceLE,Int.reduceEq,Int.reduceToNat,Nat.reduceSub,Nat.reduceMul,Nat.reduceLeDiff,hk,c95r hR l n (by omega),hc,hw,lnF]
   simp only [List.length_nil] at hc
   simp only [go_sem,op,mv,↓reduceIte,Nat.reduceAdd,Nat.reduceEqDiff,Nat.reduceLT,Int.reduceNeg,Int.cast_ofNat_Int,Int.reduceLT,Int.reduceAdd,Int.reduceSub,Int.reduceLE,Int.reduceEq,Int.reduceToNat,Nat.reduceSub,Nat.reduceMul,Nat.reduceLeDiff] at ih
   have hc':(wd l n).length≤140737488355328:=by omega
   simp only [go_sem,op,mv,↓reduceIte,Nat.reduceAdd,Nat.reduceEqDiff,Nat.reduceLT,Int.reduceNeg,Int.cast_ofNat_Int,Int.reduceLT,Int.reduceAdd,Int.reduceSub,Int.reduceLE,Int.reduceEq,Int.reduceToNat,Nat.reduceSub,Nat.reduceMul,Nat.reduceLeDiff,hc',ih]
  ·have hne:(out != [])=true:=by simp [h3]
   have h24:=c41r hR l (n+1) 3 (by omega) (by decide) (by decide)
   by_cases h4:0 < nxt l (n+1) 3
   ·have ih:=l63r hR l k (n+2) (out++[32]++wd l n) (by omega) (by simp only [List.length_append,List.length_cons,List.length_nil]; omega)
    have hc:out.length+1≤140737488355328:=by omega
    have hc2:(out++[32]).length+(wd l n).length≤140737488355328:=by simp only [List.length_append,List.length_cons,List.length_nil]; omega
    have e:lnF l (k+1) n out=lnF l k (n+2) (out++[32]++wd l n):=by simp only [lnF,h3,h4,if_true,if_false]
    rw [e,Y_loop (L:=L89_0) rfl]
    simp only [go_sem,op,mv,↓reduceIte,Nat.reduceAdd,Nat.reduceEqDiff,Nat.reduceLT,Int.reduceNeg,Int.cast_ofNat_Int,Int.reduceLT,Int.reduceAdd,Int.reduceSub,Int.reduceLE,Int.reduceEq,Int.reduceToNat,Nat.reduceSub,Nat.reduceMul,Nat.reduceLeDiff,hk,c95r hR l n (by omega),hne,h24,h4,hc,hc2,hw]
    exact ih
   ·have ih:=l63r hR l k (n+2) (out++wd l n) (by omega) (by simp only [List.length_append]; omega)
    have hc:out.length+(wd l n).length≤140737488355328:=by omega
    have e:lnF l (k+1) n out=lnF l k (n+2) (out++wd l n):=by simp only [lnF,h3,h4,if_true,if_false]
    rw [e,Y_loop (L:=L89_0) rfl]
    simp only [go_sem,op,mv,↓reduceIte,Nat.reduceAdd,Nat.reduceEqDiff,Nat.reduceLT,Int.reduceNeg,Int.cast_ofNat_Int,Int.reduceLT,Int.reduceAdd,Int.reduceSub,Int.reduceLE,Int.reduceEq,Int.reduceToNat,Nat.reduceSub,Nat.reduceMul,Nat.reduceLeDiff,hk,c95r hR l n (by omega),hne,h24,h4,hc,hw]
    exact ih
theorem c63r {R:List (List AV)} (hR:Rok R) (l:List Int) (n:Nat) (m:Int) (hn:n≤900000) (h1:1≤m) (h2:m≤1000):G0 89 [.ptr 0 0,.int .i64 m] (num l n :: R)=some (.str (lineF l n m).1,(num l (lineF l n m).2 :: R)):=by
 refine contract F89 rfl rfl rfl ?_
 have hb:=nxt_bd l n (m+1) (by omega)
 have hx:=l63r hR l (nxt l n (m+1)).toNat (n+1) [] (by omega) (by simp only [List.length_nil]; omega)
 have hc:(((nxt l n (m+1)).toNat:Nat):Int)=nxt l n (m+1):=by omega
 rw [hc] at hx
 have hnum:∀ j,refsOk false (R.length+1) (num l j :: R)=true:=fun j=>hR l j
 simp only [F89,go_sem,op,mv,↓reduceIte,Nat.reduceAdd,Nat.reduceEqDiff,Nat.reduceLT,List.take_length,w64 (n:=m+1) (by omega) (by omega),c41r hR l n (m+1) (by omega) (by omega) (by omega),hx,hnum,lineF]
end Go.Av
namespace Go.Av
open Go.Nt
set_option linter.unusedSimpArgs false
set_option linter.unusedVariables false
set_option maxHeartbeats 16000000
set_option maxRecDepth 100000
theorem l108 (a b:List Tk) (hab:a.length=b.length) (ha:a.length≤4611686018427387904):∀ (k i:Nat),i+k=a.length →
  (a.drop i=b.drop i→execX G0 L108_0 (ST [(0,.sl .no 3 (tks a)),(1,.sl .no 3 (tks b)),(10,.bool false),(12,.int .i64 a.length),(13,.int .i64 i)] [] [])=some (.ex 0,ST [(0,.sl .no 3 (tks a)),(1,.sl .no 3 (tks b)),(10,.bool false),(12,.int .i64 a.length),(13,.int .i64 a.length),(14,.bool false)] [] [])) ∧
  (a.drop i≠b.drop i→∃ l',execX G0 L108_0 (ST [(0,.sl .no 3 (tks a)),(1,.sl .no 3 (tks b)),(10,.bool false),(12,.int .i64 a.length),(13,.int .i64 i)] [] [])=some (.ret,ST l' [] [])∧look .any l' 4=.bool false)
 | 0,i,h=>by
  have:i=a.length:=by omega
  subst this
  refine ⟨fun _=>?_,fun q=>absurd (by rw [List.drop_length,hab,List.drop_length]) q⟩
  rw [Y_loop (L:=L108_0) rfl]
  simp only [go_sem,op,mv,↓reduceIte,Nat.reduceAdd,Nat.reduceEqDiff,Nat.reduceLT,Int.lt_irrefl]
 | k+1,i,h=>by
  have hi:i < a.length:=by omega
  have h4:(i:Int) < (a.length:Int):=by omega
  have h0:(0:Int)≤(i:Int):=by omega
  have hw:IntKind.i64.wrap ((i:Int)+1)=((i+1:Nat):Int):=by rw [w64 (by omega) (by omega)]; rfl
  have hg:a[i]?=some a[i]:=List.getElem?_eq_getElem hi
  have hd:a.drop i=a[i] :: a.drop (i+1):=List.drop_eq_getElem_cons hi
  generalize a[i]=T at hg hd
  have hg2:b[i]?=some b[i]:=List.getElem?_eq_getElem (by omega)
  have hd2:b.drop i=b[i] :: b.drop (i+1):=List.drop_eq_getElem_cons (by omega)
  generalize b[i]=U at hg2 hd2
  have hr:=tks_at hg
  have hr2:=tks_at hg2
  have ih:=l108 a b hab ha k (i+1) (by omega)
  rw [hd,hd2]
  obtain ⟨k1,s1,i1⟩:=T
  obtain ⟨k2,s2,i2⟩:=U
  simp only [] at hr hr2
  by_cases hE:((k1,s1,i1):Tk)=(k2,s2,i2)
  ·cases hE
   have e:(s1 == s1)=true:=by simp
   have step:execX G0 L108_0 (ST [(0,.sl .no 3 (tks a)),(1,.sl .no 3 (tks b)),(10,.bool false),(12,.int .i64 a.length),(13,.int .i64 i)] [] [])=execX G0 L108_0 (ST [(0,.sl .no 3 (tks a)),(1,.sl .no 3 (tks b)),(10,.bool false),(12,.int .i64 a.length),(13,.int .i64 ((i+1:Nat):Int))] [] []):=by
    conv=>lhs; rw [Y_loop (L:=L108_0) rfl]
    simp only [go_sem,op,mv,↓reduceIte,Nat.reduceAdd,Nat.reduceEqDiff,Nat.reduceLT,h4,h0,hr,hr2,hw,e]
   rw [step]
   refine ⟨fun q=>ih.1 (by injection q),fun q=>ih.2 (fun z=>q (by rw [z]))⟩
  ·refine ⟨fun q=>absurd (by injection q) hE,fun _=>?_⟩
   by_cases e1:k1=k2
   ·subst e1
    by_cases e2:s1=s2
    ·subst e2
     have e3:¬ i1=i2:=fun q=>hE (by rw [q])
     have e:(s1 == s1)=true:=by simp
     refine Exists.intro ?_ (And.intro ?_ ?_)
     rotate_left 1
     ·rw [Y_loop (L:=L108_0) rfl]
      simp only [go_sem,op,mv,↓reduceIte,Nat.reduceAdd,Nat.reduceEqDiff,Nat.reduceLT,h4,h0,hr,hr2,hw,e,e3]
      rfl
     ·rfl
    ·have e:(s1 == s2)=false:=by simpa using e2
     refine Exists.intro ?_ (And.intro ?_ ?_)
     rotate_left 1
     ·rw [Y_loop (L:=L108_0) rfl]
      simp only [go_sem,op,mv,↓reduceIte,Nat.reduceAdd,Nat.reduceEqDiff,Nat.reduceLT,h4,h0,hr,hr2,hw,e,Bool.false_and,Bool.and_false]
      rfl
     ·rfl
   ·refine Exists.intro ?_ (And.intro ?_ ?_)
    rotate_left 1
    ·rw [Y_loop (L:=L108_0) rfl]
     simp only [go_sem,op,mv,↓reduceIte,Nat.reduceAdd,Nat.reduceEqDiff,Nat.reduceLT,h4,h0,hr,hr2,hw,e1,decide_false,Bool.false_and,Bool.and_false]
     rfl
    ·rfl
theorem k108 (a b:List Tk) (ha:a.length≤4611686018427387904):G0 108 [.sl .no 3 (tks a),.sl .no 3 (tks b)] []=some (.bool (decide (a=b)),[]):=by
 refine contract F108 rfl rfl rfl ?_
 by_cases hab:a.length=b.length
 ·have hab':(a.length:Int)=(b.length:Int):=by omega
  obtain ⟨x1,x2⟩:=l108 a b hab ha a.length 0 (by omega)
  have ec:((0:Nat):Int)=0:=rfl
  rw [List.drop_zero,List.drop_zero,ec] at x1 x2
  by_cases h:a=b
  ·rw [decide_eq_true h]
   simp only [F108,go_sem,op,mv,↓reduceIte,Nat.reduceAdd,Nat.reduceEqDiff,Nat.reduceLT,tks_len,hab',x1 h]
   rw [hab'] at x1
   simp only [F108,go_sem,op,mv,↓reduceIte,Nat.reduceAdd,Nat.reduceEqDiff,Nat.reduceLT,tks_len,x1 h]
  ·rw [decide_eq_false h]
   obtain ⟨l',y1,y2⟩:=x2 h
   rw [hab'] at y1
   simp only [F108,go_sem,op,mv,↓reduceIte,Nat.reduceAdd,Nat.reduceEqDiff,Nat.reduceLT,tks_len,hab',y1,y2]
 ·have hab':¬ (a.length:Int)=(b.length:Int):=by omega
  have h:¬ a=b:=fun q=>hab (by rw [q])
  rw [decide_eq_false h]
  simp only [F108,go_sem,op,mv,↓reduceIte,Nat.reduceAdd,Nat.reduceEqDiff,Nat.reduceLT,tks_len,hab']
theorem k61 (a b:List Tk) (ha:a.length≤4611686018427387904):G0 61 [.sl .no 3 (tks a),.sl .no 3 (tks b)] []=some (.bool (decide (a=b)),[]):=by
 refine contract F61 rfl rfl rfl ?_
 have h:=k108 a b ha
 simp only [F61,go_sem,op,mv,↓reduceIte,Nat.reduceAdd,Nat.reduceEqDiff,Nat.reduceLT,h]
theorem l146 (l:List Int) (hl:l.length≤1000000) (x:Int):∀ (k i:Nat),i+k=l.length →
  (x ∉ l.drop i→∃ l',execX G0 L146_0 (ST [(0,.sl .no 1 (ints l)),(1,.int .i64 x),(7,.int .i64 l.length),(8,.int .i64 i)] [] [])=some (.ex 0,ST l' [] [])) ∧
  (x∈l.drop i→∃ l' n,execX G0 L146_0 (ST [(0,.sl .no 1 (ints l)),(1,.int .i64 x),(7,.int .i64 l.length),(8,.int .i64 i)] [] [])=some (.ret,ST l' [] [])∧look .any l' 4=.int .i64 ((n:Nat):Int))
 | 0,i,h=>by
  have:i=l.length:=by omega
  subst this
  refine ⟨fun _=>?_,fun h=>(by simp at h)⟩
  refine Exists.intro ?_ ?_
  rotate_left 1
  rw [Y_loop (L:=L146_0) rfl]
  simp only [go_sem,op,mv,↓reduceIte,Nat.reduceAdd,Nat.reduceEqDiff,Nat.reduceLT,Int.lt_irrefl]
  rfl
 | k+1,i,h=>by
  have hi:i < l.length:=by omega
  have h4:(i:Int) < (l.length:Int):=by omega
  have h0:(0:Int)≤(i:Int):=by omega
  have hw:IntKind.i64.wrap ((i:Int)+1)=((i+1:Nat):Int):=by rw [w64 (by omega) (by omega)]; rfl
  have hg:l[i]?=some l[i]:=List.getElem?_eq_getElem hi
  have hd:l.drop i=l[i] :: l.drop (i+1):=List.drop_eq_getElem_cons hi
  generalize l[i]=a at hg hd
  have hr:=ints_at hg
  have ih:=l146 l hl x k (i+1) (by omega)
  rw [hd]
  by_cases q:a=x
  ·subst q
   refine ⟨fun q=>absurd (List.mem_cons_self ..) q,fun _=>?_⟩
   refine Exists.intro ?_ (Exists.intro i (And.intro ?_ ?_))
   rotate_left 1
   ·rw [Y_loop (L:=L146_0) rfl]
    simp only [go_sem,op,mv,↓reduceIte,Nat.reduceAdd,Nat.reduceEqDiff,Nat.reduceLT,h4,h0,hr,hw]
    rfl
   ·rfl
  ·have q':¬ x=a:=fun z=>q z.symm
   have step:execX G0 L146_0 (ST [(0,.sl .no 1 (ints l)),(1,.int .i64 x),(7,.int .i64 l.length),(8,.int .i64 i)] [] [])=execX G0 L146_0 (ST [(0,.sl .no 1 (ints l)),(1,.int .i64 x),(7,.int .i64 l.length),(8,.int .i64 ((i+1:Nat):Int))] [] []):=by
    conv=>lhs; rw [Y_loop (L:=L146_0) rfl]
    simp only [go_sem,op,mv,↓reduceIte,Nat.reduceAdd,Nat.reduceEqDiff,Nat.reduceLT,h4,h0,hr,hw,q']
   rw [step]
   have em:(x∈a :: l.drop (i+1))↔x∈l.drop (i+1):=by simp [q']
   rw [em]
   exact ih
theorem k146 (l:List Int) (hl:l.length≤1000000) (x:Int):(x ∉ l→G0 146 [.sl .no 1 (ints l),.int .i64 x] []=some (.int .i64 (-1),[]))∧(x∈l→∃ n:Nat,G0 146 [.sl .no 1 (ints l),.int .i64 x] []=some (.int .i64 (n:Int),[])):=by
 obtain ⟨x1,x2⟩:=l146 l hl x l.length 0 (by omega)
 have ec:((0:Nat):Int)=0:=rfl
 rw [List.drop_zero,ec] at x1 x2
 constructor
 ·intro h
  refine contract F146 rfl rfl rfl ?_
  obtain ⟨l',y1⟩:=x1 h
  simp only [F146,go_sem,op,mv,↓reduceIte,Nat.reduceAdd,Nat.reduceEqDiff,Nat.reduceLT,ints_length,y1,look_kill,look_setl,List.not_mem_nil,if_true,if_false]
 ·intro h
  obtain ⟨l',n,y1,y2⟩:=x2 h
  refine ⟨n,?_⟩
  refine contract F146 rfl rfl rfl ?_
  simp only [F146,go_sem,op,mv,↓reduceIte,Nat.reduceAdd,Nat.reduceEqDiff,Nat.reduceLT,ints_length,y1,y2]
theorem k105 (l:List Int) (hl:l.length≤1000000) (x:Int):G0 105 [.sl .no 1 (ints l),.int .i64 x] []=some (.bool (decide (x∈l)),[]):=by
 obtain ⟨h1,h2⟩:=k146 l hl x
 refine contract F105 rfl rfl rfl ?_
 by_cases h:x∈l
 ·rw [decide_eq_true h]
  obtain ⟨n,h2⟩:=h2 h
  have hn:(0:Int)≤(n:Int):=by omega
  simp only [F105,go_sem,op,mv,↓reduceIte,Nat.reduceAdd,Nat.reduceEqDiff,Nat.reduceLT,Int.reduceNeg,Int.reduceLE,Int.reduceToNat,Int.reduceLT,Nat.reduceLeDiff,h2,hn]
 ·rw [decide_eq_false h]
  have h1:=h1 h
  simp only [F105,go_sem,op,mv,↓reduceIte,Nat.reduceAdd,Nat.reduceEqDiff,Nat.reduceLT,Int.reduceNeg,Int.reduceLE,Int.reduceToNat,Int.reduceLT,Nat.reduceLeDiff,h1]
theorem l60 (a0 a1:AV) (s1:∀ k,scrubV k a0=a0) (s2:∀ k,scrubV k a1=a1) (N l:List Int) (hN:N.length≤1000000) (hl:l.length≤1000000) (hs:∀ i∈l,i∈N):∀ (k i:Nat),i+k=l.length →
  execX G0 L60_0 (ST [(0,a0),(1,a1),(6,.sl .no 1 (ints N)),(12,.sl .no 1 (ints l)),(13,.int .i64 l.length),(14,.int .i64 i)] [] [])=some (.ex 0,ST [(0,a0),(1,a1),(6,.sl .no 1 (ints N)),(12,.sl .no 1 (ints l)),(13,.int .i64 l.length),(14,.int .i64 l.length),(15,.bool false)] [] [])
 | 0,i,h=>by
  have:i=l.length:=by omega
  subst this
  rw [Y_loop (L:=L60_0) rfl]
  simp only [go_sem,op,mv,↓reduceIte,Nat.reduceAdd,Nat.reduceEqDiff,Nat.reduceLT,Int.lt_irrefl,s1,s2]
 | k+1,i,h=>by
  have hi:i < l.length:=by omega
  have h4:(i:Int) < (l.length:Int):=by omega
  have h0:(0:Int)≤(i:Int):=by omega
  have hw:IntKind.i64.wrap ((i:Int)+1)=((i+1:Nat):Int):=by rw [w64 (by omega) (by omega)]; rfl
  have hg:l[i]?=some l[i]:=List.getElem?_eq_getElem hi
  have hm:l[i]∈N:=hs _ (List.getElem_mem hi)
  generalize l[i]=a at hg hm
  have hr:=ints_at hg
  have c:=k105 N hN a
  rw [decide_eq_true hm] at c
  have ih:=l60 a0 a1 s1 s2 N l hN hl hs k (i+1) (by omega)
  rw [Y_loop (L:=L60_0) rfl]
  simp only [go_sem,op,mv,↓reduceIte,Nat.reduceAdd,Nat.reduceEqDiff,Nat.reduceLT,h4,h0,hr,hw,c,s1,s2,Bool.not_true]
  exact ih
theorem sub_cnl {s t:List Tk} (h:∀ i∈nums t,i∈nums s):cnl s t=nums s:=by
 rw [← cnl_prog]
 generalize nums t=l at h
 induction l with
 | nil=>rfl
 | cons a l ih =>
  rw [List.foldl_cons]
  have:add1 (nums s) a=nums s:=by unfold add1; rw [if_pos (h a (List.mem_cons_self ..))]
  rw [this]
  exact ih (fun i hi=>h i (List.mem_cons_of_mem _ hi))
/-- item.Canonical, where the target has no tag of its own -/
theorem k60 (s t:List Tk) (hs:vld s=0) (ht:vld t=0) (hsub:∀ i∈nums t,i∈nums s):G0 60 [.sl .no 3 (tks s),.sl .no 3 (tks t)] []=some (.tup [.sl .no 3 (tks (canS s t)),.sl .no 3 (tks (canT s t))],[]):=by
 have ls:=(vld_iff s).1 hs
 have lt:=(vld_iff t).1 ht
 have hN:=nums_le hs ht
 have e:=sub_cnl hsub
 obtain ⟨e1,v1⟩:=canS_vld hN hs
 obtain ⟨e2,v2⟩:=canT_vld hN ht
 have a1:=c71 s (by omega)
 have a2:=c71 t (by omega)
 have n1:=nums_len s
 have n2:=nums_len t
 have a3:=c73 (nums s).length (by omega)
 have r1:renF (nums s) (upto (nums s).length) s=canS s t:=by
  rw [e1,← ren1_s]; unfold ren1; rw [e]
 have r2:renF (nums s) (upto (nums s).length) t=canT s t:=by
  rw [e2,← ren1_t]; unfold ren1; rw [e]
 have b1:=vld_tot v1
 have b2:=vld_tot v2
 have a4:=c72 s (by omega) (nums s) (upto (nums s).length) (by rw [upto_len]) (by omega) (by rw [r1]; exact ((vld_iff _).1 v1).1) (by rw [r1]; omega) (by rw [r1]; exact fun x hx=>by have:=tot_le' x hx; omega)
 have a5:=c72 t (by omega) (nums s) (upto (nums s).length) (by rw [upto_len]) (by omega) (by rw [r2]; exact ((vld_iff _).1 v2).1) (by rw [r2]; omega) (by rw [r2]; exact fun x hx=>by have:=tot_le' x hx; omega)
 rw [r1] at a4
 rw [r2] at a5
 have q:=l60 (.sl .no 3 (tks s)) (.sl .no 3 (tks t)) (fun _=>rfl) (fun _=>rfl) (nums s) (nums t) (by omega) (by omega) hsub (nums t).length 0 (by omega)
 have ec:((0:Nat):Int)=0:=rfl
 rw [ec] at q
 refine contract F60 rfl rfl rfl ?_
 simp only [F60,go_sem,op,mv,↓reduceIte,Nat.reduceAdd,Nat.reduceEqDiff,Nat.reduceLT,a1,a2,a3,a4,a5,q,ints_length]
theorem tks_app' (a b:List Tk):tks a++tks b=tks (a++b):=by simp [tks]
/-- the reference's Canonical -/
theorem k76 (s t:List Tk) (hl:s.length+t.length≤50000) (ht:tot s+tot t≤500000):G0 76 [.sl .no 3 (tks s),.sl .no 3 (tks t)] []=some (.tup [.sl .no 3 (tks (canS s t)),.sl .no 3 (tks (canT s t))],[]):=by
 have a1:=c44 (s++t) (by rw [List.length_append]; omega)
 have n1:=nums_len (s++t)
 rw [List.length_append] at n1
 have a2:=c49 (nums (s++t)).length (by omega)
 have a3:=c43 s (by omega) (by omega) (nums (s++t)) (upto (nums (s++t)).length) (by omega) (by rw [upto_len]; omega)
 have a4:=c43 t (by omega) (by omega) (nums (s++t)) (upto (nums (s++t)).length) (by omega) (by rw [upto_len]; omega)
 have e1:nrm (renF (nums (s++t)) (upto (nums (s++t)).length) s)=canS s t:=rfl
 have e2:nrm (renF (nums (s++t)) (upto (nums (s++t)).length) t)=canT s t:=rfl
 rw [e1] at a3
 rw [e2] at a4
 have p1:∀ o:Own,appA false 3 32 (.sl .full 3 []) (.sl o 3 (tks s))=some (.sl .own 3 (tks s)):=fun o=>by
  rw [appA_gen _ _ (by decide) _ _ (by decide)]
  simp only [List.length_nil,Nat.zero_add,List.nil_append,tks_len]
  rw [if_pos (by unfold appOK; simp; omega)]
 have p2:∀ o:Own,appA false 3 32 (.sl .own 3 (tks s)) (.sl o 3 (tks t))=some (.sl .own 3 (tks (s++t))):=fun o=>by
  rw [appA_gen _ _ (by decide) _ _ (by decide),tks_app']
  rw [if_pos (by unfold appOK; simp [tks_len]; omega)]
 refine contract F76 rfl rfl rfl ?_
 simp only [F76,go_sem,op,mv,↓reduceIte,Nat.reduceAdd,Nat.reduceEqDiff,Nat.reduceLT,p1,p2,a1,a2,a3,a4,ints_length]
end Go.Av
namespace Go.Av
open Go.Nt
set_option linter.unusedSimpArgs false
set_option linter.unusedVariables false
set_option maxHeartbeats 16000000
set_option maxRecDepth 100000
def rowE (e:En):List AV:=[.sl .no 3 (tks e.S),.sl .no 3 (tks e.T),.str e.p,.str e.n,.str e.a,.str e.j,.int .i64 e.c,.int .i64 e.o]
/-- entries of bounded texts with fragments that are valid -/
structure BE (e:En):Prop where
 S:vld e.S=0
 T:vld e.T=0
 sub:∀ i∈nums e.T,i∈nums e.S
 p:e.p.length≤50000
 n:e.n.length≤50000
 a:e.a.length≤1000
 j:e.j.length≤1000
theorem BE.lS {e:En} (h:BE e):e.S.length≤512∧tot e.S≤40000∧∀ t∈e.S,t.2.1.length≤cap47:=by
 have:=vld_tot h.S
 exact ⟨this.2,this.1,hb_of (n:=40000) (by omega) (by decide)⟩
theorem BE.lT {e:En} (h:BE e):e.T.length≤512∧tot e.T≤40000∧∀ t∈e.T,t.2.1.length≤cap47:=by
 have:=vld_tot h.T
 exact ⟨this.2,this.1,hb_of (n:=40000) (by omega) (by decide)⟩
theorem vE_bd {e:En} (h:BE e):vE e=(if e.S=[]∨canS e.S e.T≠e.S∨canT e.S e.T≠e.T then 1 else
 if perr e.p≠0 then perr e.p else if perr e.n≠0 then perr e.n else
 if ¬ (nmOk e.a=true∧nmOk e.j=true) then 4 else
 if e.c < 0∨1073741824 < e.c∨e.o < 1∨3 < e.o then 1 else 0):=by
 unfold vE
 rw [if_neg (by simp [h.S]),if_neg (by simp [h.T])]
theorem nz_len {f:List Tk} (h:f≠[]):¬ (f.length:Int)=0:=by
 have:f.length≠0:=fun q=>h (List.eq_nil_of_length_eq_zero q)
 omega
theorem nm_neq (s:Bs):((s != []) && !(isNm s))=!(nmOk s):=by
 unfold nmOk
 by_cases h:s=[]
 ·subst h; rfl
 ·rw [decide_eq_false h]
  have:(s != [])=true:=by simpa using h
  rw [this]; simp
theorem k23 (e:En) (h:BE e):G0 23 [.agg (rowE e)] []=some (.int .i64 (vE e),[]):=by
 obtain ⟨l1,l2,l3⟩:=h.lS
 obtain ⟨m1,m2,m3⟩:=h.lT
 have a1:=c46 e.S (by omega) l3
 have a2:=c46 e.T (by omega) m3
 rw [h.S] at a1
 rw [h.T] at a2
 have a3:=k60 e.S e.T h.S h.T h.sub
 have b1:=vld_tot (canS_vld (nums_le h.S h.T) h.S).2
 have b2:=vld_tot (canT_vld (nums_le h.S h.T) h.T).2
 have a4:=k61 (canS e.S e.T) e.S (by omega)
 have a5:=k61 (canT e.S e.T) e.T (by omega)
 have hp:=h.p
 have hn:=h.n
 have a6:=c35 e.p (by omega)
 have a7:=c35 e.n (by omega)
 have a8:=c83 e.a
 have a9:=c83 e.j
 rw [vE_bd h]
 refine contract F23 rfl rfl rfl ?_
 by_cases q1:e.S=[]
 ·rw [if_pos (.inl q1)]
  have q1':((e.S.length:Nat):Int)=0:=by rw [q1]; rfl
  simp only [F23,rowE,go_sem,op,mv,↓reduceIte,Nat.reduceAdd,Nat.reduceEqDiff,Nat.reduceLT,Int.reduceNeg,Int.cast_ofNat_Int,Int.reduceLT,Int.reduceAdd,Int.reduceSub,Int.reduceLE,Int.reduceEq,Int.reduceToNat,Nat.reduceSub,Nat.reduceMul,Nat.reduceLeDiff,a1,a2,a3,tks_len,q1']
 have q1':=nz_len q1
 by_cases q2:canS e.S e.T=e.S
 case neg =>
  rw [if_pos (.inr (.inl q2))]
  rw [decide_eq_false q2] at a4
  simp only [F23,rowE,go_sem,op,mv,↓reduceIte,Nat.reduceAdd,Nat.reduceEqDiff,Nat.reduceLT,Int.reduceNeg,Int.cast_ofNat_Int,Int.reduceLT,Int.reduceAdd,Int.reduceSub,Int.reduceLE,Int.reduceEq,Int.reduceToNat,Nat.reduceSub,Nat.reduceMul,Nat.reduceLeDiff,a1,a2,a3,a4,tks_len,q1',Bool.not_false]
 rw [decide_eq_true q2] at a4
 by_cases q3:canT e.S e.T=e.T
 case neg =>
  rw [if_pos (.inr (.inr q3))]
  rw [decide_eq_false q3] at a5
  simp only [F23,rowE,go_sem,op,mv,↓reduceIte,Nat.reduceAdd,Nat.reduceEqDiff,Nat.reduceLT,Int.reduceNeg,Int.cast_ofNat_Int,Int.reduceLT,Int.reduceAdd,Int.reduceSub,Int.reduceLE,Int.reduceEq,Int.reduceToNat,Nat.reduceSub,Nat.reduceMul,Nat.reduceLeDiff,a1,a2,a3,a4,a5,tks_len,q1',Bool.not_false,Bool.not_true]
 rw [decide_eq_true q3] at a5
 rw [if_neg (by simp [q1,q2,q3])]
 by_cases q4:perr e.p=0
 case neg =>
  rw [if_pos q4]
  have q4':¬ (parse e.p).2.2=0:=q4
  simp only [F23,rowE,go_sem,op,mv,↓reduceIte,Nat.reduceAdd,Nat.reduceEqDiff,Nat.reduceLT,Int.reduceNeg,Int.cast_ofNat_Int,Int.reduceLT,Int.reduceAdd,Int.reduceSub,Int.reduceLE,Int.reduceEq,Int.reduceToNat,Nat.reduceSub,Nat.reduceMul,Nat.reduceLeDiff,a1,a2,a3,a4,a5,a6,tks_len,q1',q4',Bool.not_true]
  rfl
 have q4':(parse e.p).2.2=0:=q4
 rw [if_neg (by simp [q4])]
 by_cases q5:perr e.n=0
 case neg =>
  rw [if_pos q5]
  have q5':¬ (parse e.n).2.2=0:=q5
  simp only [F23,rowE,go_sem,op,mv,↓reduceIte,Nat.reduceAdd,Nat.reduceEqDiff,Nat.reduceLT,Int.reduceNeg,Int.cast_ofNat_Int,Int.reduceLT,Int.reduceAdd,Int.reduceSub,Int.reduceLE,Int.reduceEq,Int.reduceToNat,Nat.reduceSub,Nat.reduceMul,Nat.reduceLeDiff,a1,a2,a3,a4,a5,a6,a7,tks_len,q1',q4',q5',Bool.not_true]
  rfl
 have q5':(parse e.n).2.2=0:=q5
 rw [if_neg (by simp [q5])]
 have n1:=nm_neq e.a
 have n2:=nm_neq e.j
 by_cases q6:nmOk e.a=true∧nmOk e.j=true
 case neg =>
  rw [if_pos q6]
  by_cases z1:nmOk e.a=true
  ·have z2:nmOk e.j=false:=by simpa [z1] using q6
   rw [z1,Bool.not_true] at n1
   rw [z2,Bool.not_false] at n2
   simp only [Bool.and_eq_true,Bool.not_eq_true'] at n2
   by_cases w1:(e.a != [])=true
   ·rw [w1,Bool.true_and] at n1
    simp only [F23,rowE,go_sem,op,mv,↓reduceIte,Nat.reduceAdd,Nat.reduceEqDiff,Nat.reduceLT,Int.reduceNeg,Int.cast_ofNat_Int,Int.reduceLT,Int.reduceAdd,Int.reduceSub,Int.reduceLE,Int.reduceEq,Int.reduceToNat,Nat.reduceSub,Nat.reduceMul,Nat.reduceLeDiff,a1,a2,a3,a4,a5,a6,a7,a8,a9,tks_len,q1',q4',q5',Bool.not_true,w1,n1,n2.1,n2.2,Bool.not_false]
   ·have w1:(e.a != [])=false:=by simpa using w1
    simp only [F23,rowE,go_sem,op,mv,↓reduceIte,Nat.reduceAdd,Nat.reduceEqDiff,Nat.reduceLT,Int.reduceNeg,Int.cast_ofNat_Int,Int.reduceLT,Int.reduceAdd,Int.reduceSub,Int.reduceLE,Int.reduceEq,Int.reduceToNat,Nat.reduceSub,Nat.reduceMul,Nat.reduceLeDiff,a1,a2,a3,a4,a5,a6,a7,a8,a9,tks_len,q1',q4',q5',Bool.not_true,w1,n2.1,n2.2,Bool.not_false]
  ·have z1:nmOk e.a=false:=by simpa using z1
   rw [z1,Bool.not_false] at n1
   simp only [Bool.and_eq_true,Bool.not_eq_true'] at n1
   simp only [F23,rowE,go_sem,op,mv,↓reduceIte,Nat.reduceAdd,Nat.reduceEqDiff,Nat.reduceLT,Int.reduceNeg,Int.cast_ofNat_Int,Int.reduceLT,Int.reduceAdd,Int.reduceSub,Int.reduceLE,Int.reduceEq,Int.reduceToNat,Nat.reduceSub,Nat.reduceMul,Nat.reduceLeDiff,a1,a2,a3,a4,a5,a6,a7,a8,a9,tks_len,q1',q4',q5',Bool.not_true,n1.1,n1.2,Bool.not_false]
 rw [if_neg (by simp [q6])]
 obtain ⟨z1,z2⟩:=q6
 rw [z1,Bool.not_true] at n1
 rw [z2,Bool.not_true] at n2
 have w1:(e.a != [])=false∨((e.a != [])=true∧isNm e.a=true):=by
  cases w:(e.a != []) with
  | false=>exact .inl rfl
  | true=>rw [w,Bool.true_and] at n1; exact .inr ⟨rfl,by simpa using n1⟩
 have w2:(e.j != [])=false∨((e.j != [])=true∧isNm e.j=true):=by
  cases w:(e.j != []) with
  | false=>exact .inl rfl
  | true=>rw [w,Bool.true_and] at n2; exact .inr ⟨rfl,by simpa using n2⟩
 by_cases q7:e.c < 0
 ·rw [if_pos (.inl q7)]
  rcases w1 with w1 | ⟨w1,v1⟩ <;> rcases w2 with w2 | ⟨w2,v2⟩
  ·simp only [F23,rowE,go_sem,op,mv,↓reduceIte,Nat.reduceAdd,Nat.reduceEqDiff,Nat.reduceLT,Int.reduceNeg,Int.cast_ofNat_Int,Int.reduceLT,Int.reduceAdd,Int.reduceSub,Int.reduceLE,Int.reduceEq,Int.reduceToNat,Nat.reduceSub,Nat.reduceMul,Nat.reduceLeDiff,a1,a2,a3,a4,a5,a6,a7,a8,a9,tks_len,q1',q4',q5',Bool.not_true,w1,w2,q7]
  ·simp only [F23,rowE,go_sem,op,mv,↓reduceIte,Nat.reduceAdd,Nat.reduceEqDiff,Nat.reduceLT,Int.reduceNeg,Int.cast_ofNat_Int,Int.reduceLT,Int.reduceAdd,Int.reduceSub,Int.reduceLE,Int.reduceEq,Int.reduceToNat,Nat.reduceSub,Nat.reduceMul,Nat.reduceLeDiff,a1,a2,a3,a4,a5,a6,a7,a8,a9,tks_len,q1',q4',q5',Bool.not_true,w1,w2,v2,q7]
  ·simp only [F23,rowE,go_sem,op,mv,↓reduceIte,Nat.reduceAdd,Nat.reduceEqDiff,Nat.reduceLT,Int.reduceNeg,Int.cast_ofNat_Int,Int.reduceLT,Int.reduceAdd,Int.reduceSub,Int.reduceLE,Int.reduceEq,Int.reduceToNat,Nat.reduceSub,Nat.reduceMul,Nat.reduceLeDiff,a1,a2,a3,a4,a5,a6,a7,a8,a9,tks_len,q1',q4',q5',Bool.not_true,w1,v1,w2,q7]
  ·simp only [F23,rowE,go_sem,op,mv,↓reduceIte,Nat.reduceAdd,Nat.reduceEqDiff,Nat.reduceLT,Int.reduceNeg,Int.cast_ofNat_Int,Int.reduceLT,Int.reduceAdd,Int.reduceSub,Int.reduceLE,Int.reduceEq,Int.reduceToNat,Nat.reduceSub,Nat.reduceMul,Nat.reduceLeDiff,a1,a2,a3,a4,a5,a6,a7,a8,a9,tks_len,q1',q4',q5',Bool.not_true,w1,v1,w2,v2,q7]
 by_cases q8:1073741824 < e.c
 ·rw [if_pos (.inr (.inl q8))]
  rcases w1 with w1 | ⟨w1,v1⟩ <;> rcases w2 with w2 | ⟨w2,v2⟩
  ·simp only [F23,rowE,go_sem,op,mv,↓reduceIte,Nat.reduceAdd,Nat.reduceEqDiff,Nat.reduceLT,Int.reduceNeg,Int.cast_ofNat_Int,Int.reduceLT,Int.reduceAdd,Int.reduceSub,Int.reduceLE,Int.reduceEq,Int.reduceToNat,Nat.reduceSub,Nat.reduceMul,Nat.reduceLeDiff,a1,a2,a3,a4,a5,a6,a7,a8,a9,tks_len,q1',q4',q5',Bool.not_true,w1,w2,q7,q8]
  ·simp only [F23,rowE,go_sem,op,mv,↓reduceIte,Nat.reduceAdd,Nat.reduceEqDiff,Nat.reduceLT,Int.reduceNeg,Int.cast_ofNat_Int,Int.reduceLT,Int.reduceAdd,Int.reduceSub,Int.reduceLE,Int.reduceEq,Int.reduceToNat,Nat.reduceSub,Nat.reduceMul,Nat.reduceLeDiff,a1,a2,a3,a4,a5,a6,a7,a8,a9,tks_len,q1',q4',q5',Bool.not_true,w1,w2,v2,q7,q8]
  ·simp only [F23,rowE,go_sem,op,mv,↓reduceIte,Nat.reduceAdd,Nat.reduceEqDiff,Nat.reduceLT,Int.reduceNeg,Int.cast_ofNat_Int,Int.reduceLT,Int.reduceAdd,Int.reduceSub,Int.reduceLE,Int.reduceEq,Int.reduceToNat,Nat.reduceSub,Nat.reduceMul,Nat.reduceLeDiff,a1,a2,a3,a4,a5,a6,a7,a8,a9,tks_len,q1',q4',q5',Bool.not_true,w1,v1,w2,q7,q8]
  ·simp only [F23,rowE,go_sem,op,mv,↓reduceIte,Nat.reduceAdd,Nat.reduceEqDiff,Nat.reduceLT,Int.reduceNeg,Int.cast_ofNat_Int,Int.reduceLT,Int.reduceAdd,Int.reduceSub,Int.reduceLE,Int.reduceEq,Int.reduceToNat,Nat.reduceSub,Nat.reduceMul,Nat.reduceLeDiff,a1,a2,a3,a4,a5,a6,a7,a8,a9,tks_len,q1',q4',q5',Bool.not_true,w1,v1,w2,v2,q7,q8]
 by_cases q9:e.o < 1
 ·rw [if_pos (.inr (.inr (.inl q9)))]
  rcases w1 with w1 | ⟨w1,v1⟩ <;> rcases w2 with w2 | ⟨w2,v2⟩
  ·simp only [F23,rowE,go_sem,op,mv,↓reduceIte,Nat.reduceAdd,Nat.reduceEqDiff,Nat.reduceLT,Int.reduceNeg,Int.cast_ofNat_Int,Int.reduceLT,Int.reduceAdd,Int.reduceSub,Int.reduceLE,Int.reduceEq,Int.reduceToNat,Nat.reduceSub,Nat.reduceMul,Nat.reduceLeDiff,a1,a2,a3,a4,a5,a6,a7,a8,a9,tks_len,q1',q4',q5',Bool.not_true,w1,w2,q7,q8,q9]
  ·simp only [F23,rowE,go_sem,op,mv,↓reduceIte,Nat.reduceAdd,Nat.reduceEqDiff,Nat.reduceLT,Int.reduceNeg,Int.cast_ofNat_Int,Int.reduceLT,Int.reduceAdd,Int.reduceSub,Int.reduceLE,Int.reduceEq,Int.reduceToNat,Nat.reduceSub,Nat.reduceMul,Nat.reduceLeDiff,a1,a2,a3,a4,a5,a6,a7,a8,a9,tks_len,q1',q4',q5',Bool.not_true,w1,w2,v2,q7,q8,q9]
  ·simp only [F23,rowE,go_sem,op,mv,↓reduceIte,Nat.reduceAdd,Nat.reduceEqDiff,Nat.reduceLT,Int.reduceNeg,Int.cast_ofNat_Int,Int.reduceLT,Int.reduceAdd,Int.reduceSub,Int.reduceLE,Int.reduceEq,Int.reduceToNat,Nat.reduceSub,Nat.reduceMul,Nat.reduceLeDiff,a1,a2,a3,a4,a5,a6,a7,a8,a9,tks_len,q1',q4',q5',Bool.not_true,w1,v1,w2,q7,q8,q9]
  ·simp only [F23,rowE,go_sem,op,mv,↓reduceIte,Nat.reduceAdd,Nat.reduceEqDiff,Nat.reduceLT,Int.reduceNeg,Int.cast_ofNat_Int,Int.reduceLT,Int.reduceAdd,Int.reduceSub,Int.reduceLE,Int.reduceEq,Int.reduceToNat,Nat.reduceSub,Nat.reduceMul,Nat.reduceLeDiff,a1,a2,a3,a4,a5,a6,a7,a8,a9,tks_len,q1',q4',q5',Bool.not_true,w1,v1,w2,v2,q7,q8,q9]
 by_cases q10:3 < e.o
 ·rw [if_pos (.inr (.inr (.inr q10)))]
  rcases w1 with w1 | ⟨w1,v1⟩ <;> rcases w2 with w2 | ⟨w2,v2⟩
  ·simp only [F23,rowE,go_sem,op,mv,↓reduceIte,Nat.reduceAdd,Nat.reduceEqDiff,Nat.reduceLT,Int.reduceNeg,Int.cast_ofNat_Int,Int.reduceLT,Int.reduceAdd,Int.reduceSub,Int.reduceLE,Int.reduceEq,Int.reduceToNat,Nat.reduceSub,Nat.reduceMul,Nat.reduceLeDiff,a1,a2,a3,a4,a5,a6,a7,a8,a9,tks_len,q1',q4',q5',Bool.not_true,w1,w2,q7,q8,q9,q10]
  ·simp only [F23,rowE,go_sem,op,mv,↓reduceIte,Nat.reduceAdd,Nat.reduceEqDiff,Nat.reduceLT,Int.reduceNeg,Int.cast_ofNat_Int,Int.reduceLT,Int.reduceAdd,Int.reduceSub,Int.reduceLE,Int.reduceEq,Int.reduceToNat,Nat.reduceSub,Nat.reduceMul,Nat.reduceLeDiff,a1,a2,a3,a4,a5,a6,a7,a8,a9,tks_len,q1',q4',q5',Bool.not_true,w1,w2,v2,q7,q8,q9,q10]
  ·simp only [F23,rowE,go_sem,op,mv,↓reduceIte,Nat.reduceAdd,Nat.reduceEqDiff,Nat.reduceLT,Int.reduceNeg,Int.cast_ofNat_Int,Int.reduceLT,Int.reduceAdd,Int.reduceSub,Int.reduceLE,Int.reduceEq,Int.reduceToNat,Nat.reduceSub,Nat.reduceMul,Nat.reduceLeDiff,a1,a2,a3,a4,a5,a6,a7,a8,a9,tks_len,q1',q4',q5',Bool.not_true,w1,v1,w2,q7,q8,q9,q10]
  ·simp only [F23,rowE,go_sem,op,mv,↓reduceIte,Nat.reduceAdd,Nat.reduceEqDiff,Nat.reduceLT,Int.reduceNeg,Int.cast_ofNat_Int,Int.reduceLT,Int.reduceAdd,Int.reduceSub,Int.reduceLE,Int.reduceEq,Int.reduceToNat,Nat.reduceSub,Nat.reduceMul,Nat.reduceLeDiff,a1,a2,a3,a4,a5,a6,a7,a8,a9,tks_len,q1',q4',q5',Bool.not_true,w1,v1,w2,v2,q7,q8,q9,q10]
 rw [if_neg (by omega)]
 rcases w1 with w1 | ⟨w1,v1⟩ <;> rcases w2 with w2 | ⟨w2,v2⟩
 ·simp only [F23,rowE,go_sem,op,mv,↓reduceIte,Nat.reduceAdd,Nat.reduceEqDiff,Nat.reduceLT,Int.reduceNeg,Int.cast_ofNat_Int,Int.reduceLT,Int.reduceAdd,Int.reduceSub,Int.reduceLE,Int.reduceEq,Int.reduceToNat,Nat.reduceSub,Nat.reduceMul,Nat.reduceLeDiff,a1,a2,a3,a4,a5,a6,a7,a8,a9,tks_len,q1',q4',q5',Bool.not_true,w1,w2,q7,q8,q9,q10]
 ·simp only [F23,rowE,go_sem,op,mv,↓reduceIte,Nat.reduceAdd,Nat.reduceEqDiff,Nat.reduceLT,Int.reduceNeg,Int.cast_ofNat_Int,Int.reduceLT,Int.reduceAdd,Int.reduceSub,Int.reduceLE,Int.reduceEq,Int.reduceToNat,Nat.reduceSub,Nat.reduceMul,Nat.reduceLeDiff,a1,a2,a3,a4,a5,a6,a7,a8,a9,tks_len,q1',q4',q5',Bool.not_true,w1,w2,v2,q7,q8,q9,q10]
 ·simp only [F23,rowE,go_sem,op,mv,↓reduceIte,Nat.reduceAdd,Nat.reduceEqDiff,Nat.reduceLT,Int.reduceNeg,Int.cast_ofNat_Int,Int.reduceLT,Int.reduceAdd,Int.reduceSub,Int.reduceLE,Int.reduceEq,Int.reduceToNat,Nat.reduceSub,Nat.reduceMul,Nat.reduceLeDiff,a1,a2,a3,a4,a5,a6,a7,a8,a9,tks_len,q1',q4',q5',Bool.not_true,w1,v1,w2,q7,q8,q9,q10]
 ·simp only [F23,rowE,go_sem,op,mv,↓reduceIte,Nat.reduceAdd,Nat.reduceEqDiff,Nat.reduceLT,Int.reduceNeg,Int.cast_ofNat_Int,Int.reduceLT,Int.reduceAdd,Int.reduceSub,Int.reduceLE,Int.reduceEq,Int.reduceToNat,Nat.reduceSub,Nat.reduceMul,Nat.reduceLeDiff,a1,a2,a3,a4,a5,a6,a7,a8,a9,tks_len,q1',q4',q5',Bool.not_true,w1,v1,w2,v2,q7,q8,q9,q10]
end Go.Av
namespace Go.Av
open Go.Nt
set_option linter.unusedSimpArgs false
set_option linter.unusedVariables false
set_option maxHeartbeats 16000000
set_option maxRecDepth 100000
theorem fmE_eq (f:List Tk):fmtE f=fmE f:=rfl
theorem join_eq (e:En):joinE e=fmE e.S++[10]++e.p++[10]++e.n:=by simp [joinE]
theorem fmE_len {f:List Tk}:(fmE f).length≤50000:=by
 unfold fmE
 split
 ·rename_i h; exact vld_len h
 ·simp
theorem k64 (e:En) (h:BE e):G0 64 [.agg (rowE e)] []=some (.str (joinE e),[]):=by
 obtain ⟨l1,l2,l3⟩:=h.lS
 have a1:=c32 e.S (by omega) l3
 have hf:=fmE_len (f:=e.S)
 rw [fmE_eq] at a1
 have hp:=h.p
 have hn:=h.n
 have x1:(fmE e.S).length+[(10:UInt8)].length≤140737488355328:=by simp; omega
 have x2:(fmE e.S++[10]).length+e.p.length≤140737488355328:=by simp; omega
 have x3:(fmE e.S++[10]++e.p).length+[(10:UInt8)].length≤140737488355328:=by simp; omega
 have x4:(fmE e.S++[10]++e.p++[10]).length+e.n.length≤140737488355328:=by simp; omega
 have y1:(fmE e.S).length≤140737488355327:=by omega
 have y3:(fmE e.S++[10]++e.p).length≤140737488355327:=by simp; omega
 rw [join_eq]
 refine contract F64 rfl rfl rfl ?_
 simp only [F64,rowE,go_sem,op,mv,↓reduceIte,Nat.reduceAdd,Nat.reduceEqDiff,Nat.reduceLT,Int.reduceNeg,Int.reduceLE,Int.reduceToNat,Int.reduceLT,Nat.reduceLeDiff,a1,x1,x2,x3,x4,y1,y3]
theorem k24 (e:En) (h:BE e):G0 24 [.agg (rowE e)] []=some (.str (keyE e),[]):=by
 have a1:=k23 e h
 have a2:=k64 e h
 simp only [rowE] at a1 a2
 unfold keyE
 refine contract F24 rfl rfl rfl ?_
 by_cases q:vE e=0
 ·rw [if_pos q]
  simp only [F24,rowE,go_sem,op,mv,↓reduceIte,Nat.reduceAdd,Nat.reduceEqDiff,Nat.reduceLT,a1,a2,q]
 ·rw [if_neg q]
  simp only [F24,rowE,go_sem,op,mv,↓reduceIte,Nat.reduceAdd,Nat.reduceEqDiff,Nat.reduceLT,a1,a2,q]
theorem ltB_def (a b:Bs):Op.bytesLess a b=ltB a b:=rfl
theorem k128 (s:Bs):G0 128 [.str s] []=some (.bool false,[]):=by
 refine contract F128 rfl rfl rfl ?_
 have e:(s != s)=false:=by simp
 simp only [F128,go_sem,op,mv,↓reduceIte,Nat.reduceAdd,Nat.reduceEqDiff,Nat.reduceLT,e]
end Go.Av
namespace Go.Av
open Go.Nt
set_option linter.unusedSimpArgs false
set_option linter.unusedVariables false
set_option maxHeartbeats 16000000
set_option maxRecDepth 100000
def ens (m:List En):List (List AV):=m.map rowE
theorem ens_len (m:List En):(ens m).length=m.length:=by simp [ens]
theorem ens_at {m:List En} {i:Nat} {e:En} (h:m[i]?=some e):(ens m)[i]?=some [.sl .no 3 (tks e.S),.sl .no 3 (tks e.T),.str e.p,.str e.n,.str e.a,.str e.j,.int .i64 e.c,.int .i64 e.o]:=by simp [ens,rowE,h]
def okE (p:Option Bs) (e:En):Bool:=decide (vE e=0) && (match p with | none=>true | some k=>ltB k (joinE e))
def ascF:Option Bs→List En→Bool
 | _,[]=>true
 | p,e :: m=>okE p e && ascF (some (joinE e)) m
def okM (m:List En):Bool:=decide (m.length≤1024) && ascF none m
def prv (m:List En):Nat→Option Bs
 | 0=>none
 | i+1=>(m[i]?).map joinE
theorem prv_s {m:List En} {i:Nat} {e:En} (h:m[i]?=some e):prv m (i+1)=some (joinE e):=by simp [prv,h]
theorem app_s (b:Bool) (l:List Bs) (s:Bs) (h:l.length≤1000000):appA false 1 16 (.sl (md b) 1 (strs l)) (.sl .full 1 [[.str s]])=some (.sl .own 1 (strs (l++[s]))):=by
 have ha:appOK 16 (l.length+1)=true:=appOK_le (by decide) (by omega)
 rw [appA_gen (md b) .full (md_no b) 1 16 (by decide),strs_len,List.length_singleton,if_pos ha]
 simp [strs]
theorem ge_str (a b:Bs):binA .geq (.str a) (.str b)=some (.bool !(ltB a b)):=rfl
theorem l66k (m:List En) (hl:m.length≤2000) (hB:∀ e∈m,BE e):∀ (k i:Nat) (b:Bool),i+k=m.length →
  (ascF (prv m i) (m.drop i)=true→∃ b',execX G0 L66_0 (ST [(4,.sl (md b) 1 (strs ((m.take i).map joinE))),(9,.bool false),(10,.sl .no 8 (ens m)),(11,.int .i64 m.length),(12,.int .i64 i)] [] [])=some (.ex 0,ST [(4,.sl (md b') 1 (strs (m.map joinE))),(9,.bool false),(10,.sl .no 8 (ens m)),(11,.int .i64 m.length),(12,.int .i64 m.length),(13,.bool false)] [] [])) ∧
  (ascF (prv m i) (m.drop i)=false→∃ l' M,execX G0 L66_0 (ST [(4,.sl (md b) 1 (strs ((m.take i).map joinE))),(9,.bool false),(10,.sl .no 8 (ens m)),(11,.int .i64 m.length),(12,.int .i64 i)] [] [])=some (.ret,ST l' M [])∧look .any l' 2=.sl .full 1 []∧look .any l' 3=.bool false)
 | 0,i,b,h=>by
  have:i=m.length:=by omega
  subst this
  refine ⟨fun _=>⟨b,?_⟩,fun q=>by rw [List.drop_length] at q; cases q⟩
  rw [List.take_length]
  rw [Y_loop (L:=L66_0) rfl]
  simp only [go_sem,op,mv,↓reduceIte,Nat.reduceAdd,Nat.reduceEqDiff,Nat.reduceLT,Int.lt_irrefl]
 | k+1,i,b,h=>by
  have hi:i < m.length:=by omega
  have h4:(i:Int) < (m.length:Int):=by omega
  have h0:(0:Int)≤(i:Int):=by omega
  have hw:IntKind.i64.wrap ((i:Int)+1)=((i+1:Nat):Int):=by rw [w64 (by omega) (by omega)]; rfl
  have hg:m[i]?=some m[i]:=List.getElem?_eq_getElem hi
  have hd:m.drop i=m[i] :: m.drop (i+1):=List.drop_eq_getElem_cons hi
  have ht:m.take (i+1)=m.take i++[m[i]]:=by rw [List.take_add_one,hg]; rfl
  have hBe:=hB _ (List.getElem_mem hi)
  generalize m[i]=e at hg hd ht hBe
  have hr:=ens_at hg
  have a1:=k23 e hBe
  have a2:=k64 e hBe
  simp only [rowE] at a1 a2
  have ha:=app_s b ((m.take i).map joinE) (joinE e) (by simp; omega)
  have ih:=l66k m hl hB k (i+1) true (by omega)
  rw [prv_s hg,ht,List.map_append] at ih
  have e1:md true=.own:=rfl
  rw [e1] at ih
  simp only [List.map_cons,List.map_nil] at ih
  rw [hd]
  show ((okE _ _ && _)=true→_)∧((okE _ _ && _)=false→_)
  by_cases q:vE e=0
  case neg =>
   have:okE (prv m i) e=false:=by unfold okE; rw [decide_eq_false q]; rfl
   rw [this,Bool.false_and]
   refine ⟨fun z=>(by cases z),fun _=>?_⟩
   refine Exists.intro ?_ (Exists.intro ?_ (And.intro ?_ (And.intro ?_ ?_)))
   rotate_left 2
   ·rw [Y_loop (L:=L66_0) rfl]
    simp only [go_sem,op,mv,↓reduceIte,Nat.reduceAdd,Nat.reduceEqDiff,Nat.reduceLT,h4,h0,hr,hw,a1,q,ne_eq,not_false_eq_true,decide_true]
    rfl
   ·rfl
   ·rfl
  have hle:(((m.take i).map joinE)++[joinE e])[i]?=some (joinE e):=by
   rw [List.getElem?_append_right (by simp; omega)]
   simp [Nat.min_eq_left (show i≤m.length by omega)]
  have r1:=strs_at hle
  by_cases hz0:i=0
  ·have e2:okE (prv m i) e=true:=by unfold okE; rw [decide_eq_true q,hz0]; rfl
   have hz:¬ (0:Int) < (i:Int):=by omega
   rw [e2,Bool.true_and]
   have step:execX G0 L66_0 (ST [(4,.sl (md b) 1 (strs ((m.take i).map joinE))),(9,.bool false),(10,.sl .no 8 (ens m)),(11,.int .i64 m.length),(12,.int .i64 (i:Int))] [] [])=execX G0 L66_0 (ST [(4,.sl .own 1 (strs ((m.take i).map joinE++[joinE e]))),(9,.bool false),(10,.sl .no 8 (ens m)),(11,.int .i64 m.length),(12,.int .i64 ((i+1:Nat):Int))] [] []):=by
    conv=>lhs; rw [Y_loop (L:=L66_0) rfl]
    simp only [go_sem,op,mv,↓reduceIte,Nat.reduceAdd,Nat.reduceEqDiff,Nat.reduceLT,h4,h0,hr,hw,a1,a2,ha,q,ne_eq,not_true_eq_false,decide_false,demV_md,hz]
   rw [step]
   exact ih
  obtain ⟨j,rfl⟩:∃ j,i=j+1:=⟨i - 1,by omega⟩
  have hgj:m[j]?=some m[j]:=List.getElem?_eq_getElem (by omega)
  generalize m[j]=f at hgj
  have hlf:(((m.take (j+1)).map joinE)++[joinE e])[j]?=some (joinE f):=by
   rw [List.getElem?_append_left (by simp; omega),List.getElem?_map,List.getElem?_take_of_lt (by omega),hgj]; rfl
  have r2:=strs_at hlf
  have hj0:(0:Int) < ((j+1:Nat):Int):=by omega
  have hj1:(0:Int)≤((j+1:Nat):Int):=by omega
  have hj2:IntKind.i64.wrap (((j+1:Nat):Int) - 1)=(j:Int):=by rw [w64 (by omega) (by omega)]; omega
  have hj3:(0:Int)≤(j:Int):=by omega
  have ep:prv m (j+1)=some (joinE f):=prv_s hgj
  rw [ep]
  cases hlt:ltB (joinE f) (joinE e) with
  | false =>
   have:okE (some (joinE f)) e=false:=by unfold okE; simp [hlt]
   rw [this,Bool.false_and]
   refine ⟨fun z=>(by cases z),fun _=>?_⟩
   refine Exists.intro ?_ (Exists.intro ?_ (And.intro ?_ (And.intro ?_ ?_)))
   rotate_left 2
   ·rw [Y_loop (L:=L66_0) rfl]
    simp only [go_sem,op,mv,↓reduceIte,Nat.reduceAdd,Nat.reduceEqDiff,Nat.reduceLT,h4,h0,hr,hw,a1,a2,ha,q,ne_eq,not_true_eq_false,decide_false,demV_md,hj0,hj1,hj2,hj3,r1,r2,ge_str,hlt,Bool.not_false,demV_sl]
    rfl
   ·rfl
   ·rfl
  | true =>
   have:okE (some (joinE f)) e=true:=by unfold okE; simp [hlt,q]
   rw [this,Bool.true_and]
   have step:execX G0 L66_0 (ST [(4,.sl (md b) 1 (strs ((m.take (j+1)).map joinE))),(9,.bool false),(10,.sl .no 8 (ens m)),(11,.int .i64 m.length),(12,.int .i64 ((j+1:Nat):Int))] [] [])=execX G0 L66_0 (ST [(4,.sl .own 1 (strs ((m.take (j+1)).map joinE++[joinE e]))),(9,.bool false),(10,.sl .no 8 (ens m)),(11,.int .i64 m.length),(12,.int .i64 ((j+1+1:Nat):Int))] [] []):=by
    conv=>lhs; rw [Y_loop (L:=L66_0) rfl]
    simp only [go_sem,op,mv,↓reduceIte,Nat.reduceAdd,Nat.reduceEqDiff,Nat.reduceLT,h4,h0,hr,hw,a1,a2,ha,q,ne_eq,not_true_eq_false,decide_false,demV_md,hj0,hj1,hj2,hj3,r1,r2,ge_str,hlt,Bool.not_true,demV_sl]
   rw [step]
   exact ih
theorem k66 (m:List En) (hl:m.length≤2000) (hB:∀ e∈m,BE e):G0 66 [.sl .no 8 (ens m)] []=some (.tup [.sl .no 1 (strs (if okM m=true then m.map joinE else [])),.bool (okM m)],[]):=by
 refine contract F66 rfl rfl rfl ?_
 by_cases hc:1024 < m.length
 ·have hc':(1024:Int) < (m.length:Int):=by omega
  have:okM m=false:=by unfold okM; rw [decide_eq_false (by omega)]; rfl
  rw [this]
  simp only [F66,go_sem,op,mv,↓reduceIte,Nat.reduceAdd,Nat.reduceEqDiff,Nat.reduceLT,ens_len,hc',Bool.false_eq_true]
  try rfl
 have hc':¬ (1024:Int) < (m.length:Int):=by omega
 have e1:okM m=ascF none m:=by unfold okM; rw [decide_eq_true (by omega),Bool.true_and]
 rw [e1]
 obtain ⟨x1,x2⟩:=l66k m hl hB m.length 0 false (by omega)
 have ec:((0:Nat):Int)=0:=rfl
 have e2:md false=.full:=rfl
 have e3:strs (([]:List En).map joinE)=[]:=rfl
 have e4:prv m 0=none:=rfl
 rw [List.drop_zero,List.take_zero,ec,e2,e3,e4] at x1 x2
 cases hq:ascF none m with
 | true =>
  obtain ⟨b',y⟩:=x1 hq
  simp only [F66,go_sem,op,mv,↓reduceIte,Nat.reduceAdd,Nat.reduceEqDiff,Nat.reduceLT,ens_len,hc',y]
 | false =>
  obtain ⟨l',M,y1,y2,y3⟩:=x2 hq
  simp only [F66,go_sem,op,mv,↓reduceIte,Nat.reduceAdd,Nat.reduceEqDiff,Nat.reduceLT,ens_len,hc',y1,y2,y3,Bool.false_eq_true]
  rfl
/-- the last key, by the reference -/
def lst (m:List En):Nat→Bs
 | 0=>[]
 | i+1=>match m[i]? with | some e=>keyE e | none=>[]
theorem key_join {e:En} (h:vE e=0):keyE e=joinE e:=by unfold keyE; rw [if_pos h]
end Go.Av
namespace Go.Av
open Go.Nt
set_option linter.unusedSimpArgs false
set_option linter.unusedVariables false
set_option maxHeartbeats 16000000
set_option maxRecDepth 100000
theorem k113 (a b:Bs):G0 113 [.str a,.str b] []=some (.bool (ltB a b),[]):=by
 have c1:=k128 a
 have c2:=k128 b
 refine contract F113 rfl rfl rfl ?_
 simp only [F113,go_sem,op,mv,↓reduceIte,Nat.reduceAdd,Nat.reduceEqDiff,Nat.reduceLT,c1,c2,ltB_def]
theorem k114 (s:Bs):G0 114 [.str s] []=some (.bool false,[]):=by
 refine contract F114 rfl rfl rfl ?_
 have e:(s != s)=false:=by simp
 simp only [F114,go_sem,op,mv,↓reduceIte,Nat.reduceAdd,Nat.reduceEqDiff,Nat.reduceLT,e]
/-- n is the number of the texts of l that are less than k -/
def isLb (l:List Bs) (k:Bs) (n:Nat):Prop:=n≤l.length∧∀ h x,l[h]?=some x→ltB x k=decide (h < n)
theorem mid_eq (a b:Nat) (h:a+b≤1000000):IntKind.i64.wrap ((a:Int)+(b:Int))=((a+b:Nat):Int)∧IntKind.u64.wrap ((a+b:Nat):Int)=((a+b:Nat):Int)∧((a+b:Nat):Int).fdiv (2 ^ (min 1 64:Nat))=(((a+b) / 2:Nat):Int)∧IntKind.i64.wrap (((a+b) / 2:Nat):Int)=(((a+b) / 2:Nat):Int):=by
 refine ⟨by rw [w64 (by omega) (by omega)]; rfl,?_,?_,by rw [w64 (by omega) (by omega)]⟩
 ·show (((a+b:Nat):Int)) % 18446744073709551616=_
  omega
 ·rw [show (min 1 64:Nat)=1 from rfl,Int.fdiv_eq_ediv_of_nonneg _ (by decide)]
  omega
theorem l67k (l:List Bs) (k:Bs) (hl:l.length≤100000) (n:Nat) (hn:isLb l k n):∀ (d i j:Nat),j - i≤d→i≤n→n≤j→j≤l.length →
  execX G0 L67_0 (ST [(0,.sl .no 1 (strs l)),(1,.str k),(6,.int .i64 l.length),(7,.int .i64 i),(8,.int .i64 j)] [] [])=some (.ex 0,ST [(0,.sl .no 1 (strs l)),(1,.str k),(6,.int .i64 l.length),(7,.int .i64 n),(8,.int .i64 n),(15,.bool false)] [] [])
 | d,i,j,hd,h1,h2,h3=>by
  by_cases hij:i < j
  case neg =>
   have e1:i=n:=by omega
   have e2:j=n:=by omega
   subst e1; subst e2
   rw [Y_loop (L:=L67_0) rfl]
   simp only [go_sem,op,mv,↓reduceIte,Nat.reduceAdd,Nat.reduceEqDiff,Nat.reduceLT,Int.reduceNeg,Int.cast_ofNat_Int,Int.reduceLT,Int.reduceAdd,Int.reduceSub,Int.reduceLE,Int.reduceEq,Int.reduceToNat,Nat.reduceSub,Nat.reduceMul,Nat.reduceLeDiff,Int.lt_irrefl]
  cases d with
  | zero=>omega
  | succ d =>
   have hij':(i:Int) < (j:Int):=by omega
   obtain ⟨m1,m2,m3,m4⟩:=mid_eq i j (by omega)
   have hh:(i+j) / 2 < l.length:=by omega
   have hg:l[(i+j) / 2]?=some l[(i+j) / 2]:=List.getElem?_eq_getElem hh
   generalize l[(i+j) / 2]=x at hg
   have hx:=hn.2 _ _ hg
   have hr:=strs_at hg
   have c:=k113 x k
   have h0:(0:Int)≤(((i+j) / 2:Nat):Int):=by omega
   generalize hm:(i+j) / 2=m at *
   have hw:IntKind.i64.wrap ((m:Int)+1)=((m+1:Nat):Int):=by rw [w64 (by omega) (by omega)]; rfl
   by_cases q:m < n
   ·rw [decide_eq_true q] at hx
    have ih:=l67k l k hl n hn d (m+1) j (by omega) (by omega) h2 h3
    rw [Y_loop (L:=L67_0) rfl]
    simp only [go_sem,op,mv,↓reduceIte,Nat.reduceAdd,Nat.reduceEqDiff,Nat.reduceLT,Int.reduceNeg,Int.cast_ofNat_Int,Int.reduceLT,Int.reduceAdd,Int.reduceSub,Int.reduceLE,Int.reduceEq,Int.reduceToNat,Nat.reduceSub,Nat.reduceMul,Nat.reduceLeDiff,hij',m1,m2,m3,m4,h0,hr,c,hx,hw]
    exact ih
   ·rw [decide_eq_false q] at hx
    have ih:=l67k l k hl n hn d i m (by omega) h1 (by omega) (by omega)
    rw [Y_loop (L:=L67_0) rfl]
    simp only [go_sem,op,mv,↓reduceIte,Nat.reduceAdd,Nat.reduceEqDiff,Nat.reduceLT,Int.reduceNeg,Int.cast_ofNat_Int,Int.reduceLT,Int.reduceAdd,Int.reduceSub,Int.reduceLE,Int.reduceEq,Int.reduceToNat,Nat.reduceSub,Nat.reduceMul,Nat.reduceLeDiff,hij',m1,m2,m3,m4,h0,hr,c,hx,hw]
    exact ih
theorem k67 (l:List Bs) (k:Bs) (hl:l.length≤100000) (n:Nat) (hn:isLb l k n):G0 67 [.sl .no 1 (strs l),.str k] []=some (.tup [.int .i64 n,.bool (decide (l[n]?=some k))],[]):=by
 have x:=l67k l k hl n hn l.length 0 l.length (by omega) (by omega) hn.1 (Nat.le_refl _)
 have ec:((0:Nat):Int)=0:=rfl
 rw [ec] at x
 have c2:=k114 k
 have h0:(0:Int)≤(n:Int):=by omega
 refine contract F67 rfl rfl rfl ?_
 by_cases q:n < l.length
 ·have q':(n:Int) < (l.length:Int):=by omega
  have hg:l[n]?=some l[n]:=List.getElem?_eq_getElem q
  generalize l[n]=y at hg
  have hr:=strs_at hg
  have c1:=k114 y
  rw [hg]
  by_cases e:y=k
  ·subst e
   rw [decide_eq_true rfl]
   simp only [F67,go_sem,op,mv,↓reduceIte,Nat.reduceAdd,Nat.reduceEqDiff,Nat.reduceLT,strs_len,x,q',h0,hr,beq_self_eq_true]
  ·have e':(y == k)=false:=by simpa using e
   rw [decide_eq_false (by simpa using e)]
   simp only [F67,go_sem,op,mv,↓reduceIte,Nat.reduceAdd,Nat.reduceEqDiff,Nat.reduceLT,strs_len,x,q',h0,hr,e',c1]
 ·have q':¬ (n:Int) < (l.length:Int):=by omega
  rw [List.getElem?_eq_none (by omega),decide_eq_false (by simp)]
  simp only [F67,go_sem,op,mv,↓reduceIte,Nat.reduceAdd,Nat.reduceEqDiff,Nat.reduceLT,strs_len,x,q']
theorem rfs2 (l:List Bs) (k:Bs):refsOk false 2 [[AV.sl Own.no 1 (strs l)],[AV.str k]]=true:=rfl
theorem cap2:[AV.ptr 0 0,AV.ptr 1 0].all (capB true)=true:=rfl
theorem mkf2:mkfA 118 [AV.ptr 0 0,AV.ptr 1 0]=some (.fn 118 [.ptr 0 0,.ptr 1 0]):=rfl
theorem k118 (l:List Bs) (k:Bs) (h:Nat) (x:Bs) (hg:l[h]?=some x):G0 118 [.int .i64 h,.ptr 0 0,.ptr 1 0] [[.sl .no 1 (strs l)],[.str k]]=some (.bool !(ltB x k),[[.sl .no 1 (strs l)],[.str k]]):=by
 have hr:=strs_at hg
 have h0:(0:Int)≤(h:Int):=by omega
 refine contract F118 rfl rfl rfl ?_
 simp only [F118,go_sem,op,mv,↓reduceIte,Nat.reduceAdd,Nat.reduceEqDiff,Nat.reduceLT,h0,hr,ge_str,rfs2]
theorem l117k (l:List Bs) (k:Bs) (hl:l.length≤100000) (n:Nat) (hn:isLb l k n):∀ (d i j:Nat),j - i≤d→i≤n→n≤j→j≤l.length →
  execX G0 L117_0 (ST [(1,.fn 118 [.ptr 0 0,.ptr 1 0]),(5,.int .i64 i),(6,.int .i64 j)] [] [[.sl .no 1 (strs l)],[.str k]])=some (.ex 0,ST [(1,.fn 118 [.ptr 0 0,.ptr 1 0]),(5,.int .i64 n),(6,.int .i64 n),(11,.bool false)] [] [[.sl .no 1 (strs l)],[.str k]])
 | d,i,j,hd,h1,h2,h3=>by
  by_cases hij:i < j
  case neg =>
   have e1:i=n:=by omega
   have e2:j=n:=by omega
   subst e1; subst e2
   rw [Y_loop (L:=L117_0) rfl]
   simp only [go_sem,op,mv,↓reduceIte,Nat.reduceAdd,Nat.reduceEqDiff,Nat.reduceLT,Int.reduceNeg,Int.cast_ofNat_Int,Int.reduceLT,Int.reduceAdd,Int.reduceSub,Int.reduceLE,Int.reduceEq,Int.reduceToNat,Nat.reduceSub,Nat.reduceMul,Nat.reduceLeDiff,Int.lt_irrefl]
  cases d with
  | zero=>omega
  | succ d =>
   have hij':(i:Int) < (j:Int):=by omega
   obtain ⟨m1,m2,m3,m4⟩:=mid_eq i j (by omega)
   have hh:(i+j) / 2 < l.length:=by omega
   have hg:l[(i+j) / 2]?=some l[(i+j) / 2]:=List.getElem?_eq_getElem hh
   generalize l[(i+j) / 2]=x at hg
   have hx:=hn.2 _ _ hg
   have c:=k118 l k _ x hg
   have h0:(0:Int)≤(((i+j) / 2:Nat):Int):=by omega
   generalize hm:(i+j) / 2=m at *
   have hw:IntKind.i64.wrap ((m:Int)+1)=((m+1:Nat):Int):=by rw [w64 (by omega) (by omega)]; rfl
   by_cases q:m < n
   ·rw [decide_eq_true q] at hx
    rw [hx,Bool.not_true] at c
    have ih:=l117k l k hl n hn d (m+1) j (by omega) (by omega) h2 h3
    rw [Y_loop (L:=L117_0) rfl]
    simp only [go_sem,op,mv,↓reduceIte,Nat.reduceAdd,Nat.reduceEqDiff,Nat.reduceLT,Int.reduceNeg,Int.cast_ofNat_Int,Int.reduceLT,Int.reduceAdd,Int.reduceSub,Int.reduceLE,Int.reduceEq,Int.reduceToNat,Nat.reduceSub,Nat.reduceMul,Nat.reduceLeDiff,hij',m1,m2,m3,m4,h0,c,hw,Bool.not_false]
    exact ih
   ·rw [decide_eq_false q] at hx
    rw [hx,Bool.not_false] at c
    have ih:=l117k l k hl n hn d i m (by omega) h1 (by omega) (by omega)
    rw [Y_loop (L:=L117_0) rfl]
    simp only [go_sem,op,mv,↓reduceIte,Nat.reduceAdd,Nat.reduceEqDiff,Nat.reduceLT,Int.reduceNeg,Int.cast_ofNat_Int,Int.reduceLT,Int.reduceAdd,Int.reduceSub,Int.reduceLE,Int.reduceEq,Int.reduceToNat,Nat.reduceSub,Nat.reduceMul,Nat.reduceLeDiff,hij',m1,m2,m3,m4,h0,c,hw,Bool.not_true]
    exact ih
theorem k117 (l:List Bs) (k:Bs) (hl:l.length≤100000) (n:Nat) (hn:isLb l k n):G0 117 [.int .i64 l.length,.fn 118 [.ptr 0 0,.ptr 1 0]] [[.sl .no 1 (strs l)],[.str k]]=some (.int .i64 n,[[.sl .no 1 (strs l)],[.str k]]):=by
 have x:=l117k l k hl n hn l.length 0 l.length (by omega) (by omega) hn.1 (Nat.le_refl _)
 have ec:((0:Nat):Int)=0:=rfl
 rw [ec] at x
 refine contract F117 rfl rfl rfl ?_
 simp only [F117,go_sem,op,mv,↓reduceIte,Nat.reduceAdd,Nat.reduceEqDiff,Nat.reduceLT,x,rfs2]
theorem k74 (l:List Bs) (k:Bs) (hl:l.length≤100000) (n:Nat) (hn:isLb l k n):G0 74 [.sl .no 1 (strs l),.str k] []=some (.int .i64 n,[]):=by
 have x:=k117 l k hl n hn
 refine contract F74 rfl rfl rfl ?_
 simp only [F74,go_sem,op,mv,↓reduceIte,Nat.reduceAdd,Nat.reduceEqDiff,Nat.reduceLT,strs_len,x,mkf2,rfs2,cap2]
end Go.Av
namespace Go.Av
open Go.Nt
set_option linter.unusedSimpArgs false
set_option linter.unusedVariables false
set_option maxHeartbeats 16000000
set_option maxRecDepth 100000
theorem k85 (f:List Tk) (m:Own) (hf:f.length≤100000):G0 85 [.sl m 3 (tks f)] []=some (.sl .no 3 (tks f),[]):=by
 refine Gx_base ?_
 show (if 3=3∧appOK 32 (tks f).length=true then some (AV.sl .no 3 (tks f),([]:List (List AV))) else none)=_
 rw [if_pos ⟨rfl,by rw [tks_len]; exact appOK_le (by decide) (by omega)⟩]
theorem k69 (e:En) (h:BE e):G0 69 [.agg (rowE e)] []=some (.agg (rowE e),[]):=by
 obtain ⟨l1,l2,l3⟩:=h.lS
 obtain ⟨m1,m2,m3⟩:=h.lT
 have a1:=k85 e.S .no (by omega)
 have a2:=k85 e.T .no (by omega)
 refine contract F69 rfl rfl rfl ?_
 simp only [F69,rowE,go_sem,op,mv,↓reduceIte,Nat.reduceAdd,Nat.reduceEqDiff,Nat.reduceLT,a1,a2]
/-- cells of entries -/
def cls (m:List En):List AV:=(ens m).flatten
theorem cls_app (a b:List En):cls (a++b)=cls a++cls b:=by simp [cls,ens]
theorem cls_cons (e:En) (m:List En):cls (e :: m)=rowE e++cls m:=by simp [cls,ens]
theorem row_len (e:En):(rowE e).length=8:=rfl
theorem cls_len:∀ m:List En,(cls m).length=m.length * 8
 | []=>rfl
 | e :: m=>by rw [cls_cons,List.length_append,cls_len m,row_len,List.length_cons,Nat.add_mul]; omega
theorem row_flat (e:En):(rowE e).all flatB=true:=rfl
theorem cls_flat:∀ m:List En,(cls m).all flatB=true
 | []=>rfl
 | e :: m=>by rw [cls_cons,List.all_append,row_flat,cls_flat m]; rfl
theorem ens_cons (e:En) (m:List En):ens (e :: m)=rowE e :: ens m:=rfl
theorem ens_row:∀ (m:List En),∀ r∈ens m,r.length=8
 | [],r,h=>by cases h
 | e :: m,r,h=>by
  rw [ens_cons] at h
  rcases List.mem_cons.1 h with rfl | h
  ·rfl
  ·exact ens_row m r h
theorem rowsOf_cls (m:List En):rowsOf 8 m.length (cls m)=ens m:=by
 have:=rowsOf_flat' 8 (ens m) (ens_row m)
 rw [ens_len] at this
 exact this
/-- reading a part of an object of entries -/
theorem rowsC_mid (a d r:List En):rowsC (a.length * 8) d.length 8 (cls (a++d++r))=some (ens d):=by
 rw [cls_app,cls_app,← cls_len a,rowsC_seg (by decide) _ _ _ d.length (cls_len d) (cls_flat d),rowsOf_cls]
theorem rowsC_all (m:List En):rowsC 0 m.length 8 (cls m)=some (ens m):=by
 have:=rowsC_mid [] m []
 rw [List.nil_append,List.append_nil] at this
 exact this
theorem nown_all {l:List AV} (h:l.all flatB=true):l.all nownB=true:=by
 rw [List.all_eq_true] at h ⊢
 intro x hx
 have:=h x hx
 cases x <;> simp_all [flatB,nownB]
theorem cls_blk (m:List En):blkB (cls m)=true:=by
 cases m with
 | nil=>rfl
 | cons e m=>rw [cls_cons]; rfl
theorem rD (i:Nat) (c:List AV):(List.replicate i dead++[c])[i]?=some c:=by
 rw [List.getElem?_append_right (by simp)]
 simp
theorem rS (i:Nat) (c c':List AV):(List.replicate i dead++[c]).set i c'=List.replicate i dead++[c']:=by
 have h:i=(List.replicate i dead).length:=by simp
 conv=>lhs; rw [show (List.replicate i dead++[c]).set i c'=(List.replicate i dead++[c]).set (List.replicate i dead).length c' by rw [← h]]
 rw [List.set_append_right _ _ (Nat.le_refl _),Nat.sub_self]
 rfl
theorem rL (i:Nat) (c:List AV):(List.replicate i dead++[c]).length=i+1:=by simp
theorem rN (i:Nat):List.replicate i dead++[dead]=List.replicate (i+1) dead:=by
 rw [List.replicate_succ']
theorem appE (m:List En) (e:En) (k:Nat) (hk:m.length≤100000):appSA 8 128 (List.replicate k dead++[cls m]) (some [rowE e]) (.ss k 0 m.length 8)=some (.ss (k+1) 0 (m.length+1) 8,List.replicate (k+1) dead++[cls (m++[e])]):=by
 have ha:appOK 128 (m.length+1)=true:=appOK_le (by decide) (by omega)
 rw [appSA_ss k m.length 128 8 (by decide),List.length_singleton,if_pos ha,rD]
 simp only [Option.bind_some]
 rw [if_pos ⟨cls_blk m,(cls_len m).symm,nown_all (cls_flat m)⟩,rL,rS,rN,cls_app]
 simp [cls,ens]
theorem mks8 (a b c d e f g h:AV):mksA 8 [AV.sl Own.full 3 [],AV.sl Own.full 3 [],AV.str [],AV.str [],AV.str [],AV.str [],AV.int IntKind.i64 0,AV.int IntKind.i64 0] 1 [0] [.agg [a,b,c,d,e,f,g,h]]=some (.sl .full 8 [[a,b,c,d,e,f,g,h]]):=rfl
attribute [-go_sem] appSA_ss mklA_int
theorem l68k (m:List En) (hl:m.length≤2000) (hB:∀ e∈m,BE e):∀ (k i:Nat),i+k=m.length →
  execX G0 L68_0 (ST [(3,.ss i 0 i 8),(10,.sl .no 8 (ens m)),(11,.int .i64 m.length),(12,.int .i64 i)] [] (List.replicate i dead++[cls (m.take i)]))=some (.ex 0,ST [(3,.ss m.length 0 m.length 8),(10,.sl .no 8 (ens m)),(11,.int .i64 m.length),(12,.int .i64 m.length),(13,.bool false)] [] (List.replicate m.length dead++[cls m]))
 | 0,i,h=>by
  have:i=m.length:=by omega
  subst this
  rw [List.take_length]
  rw [Y_loop (L:=L68_0) rfl]
  simp only [go_sem,op,mv,↓reduceIte,Nat.reduceAdd,Nat.reduceEqDiff,Nat.reduceLT,Int.lt_irrefl]
 | k+1,i,h=>by
  have hi:i < m.length:=by omega
  have h4:(i:Int) < (m.length:Int):=by omega
  have h0:(0:Int)≤(i:Int):=by omega
  have hw:IntKind.i64.wrap ((i:Int)+1)=((i+1:Nat):Int):=by rw [w64 (by omega) (by omega)]; rfl
  have hg:m[i]?=some m[i]:=List.getElem?_eq_getElem hi
  have ht:m.take (i+1)=m.take i++[m[i]]:=by rw [List.take_add_one,hg]; rfl
  have hBe:=hB _ (List.getElem_mem hi)
  generalize m[i]=e at hg ht hBe
  have hr:=ens_at hg
  have a1:=k69 e hBe
  simp only [rowE] at a1
  have htl:(m.take i).length=i:=by simp; omega
  have ha:=appE (m.take i) e i (by omega)
  rw [htl,← ht] at ha
  simp only [rowE] at ha
  have ih:=l68k m hl hB k (i+1) (by omega)
  rw [Y_loop (L:=L68_0) rfl]
  simp only [go_sem,op,mv,↓reduceIte,Nat.reduceAdd,Nat.reduceEqDiff,Nat.reduceLT,h4,h0,hr,hw,a1,mks8,ha]
  exact ih
theorem k68 (m:List En) (hl:m.length≤2000) (hB:∀ e∈m,BE e):G0 68 [.sl .no 8 (ens m)] []=some (.ss m.length 0 m.length 8,List.replicate m.length dead++[cls m]):=by
 have x:=l68k m hl hB m.length 0 (by omega)
 have ec:((0:Nat):Int)=0:=rfl
 have e1:List.replicate 0 dead++[cls (m.take 0)]=[[]]:=rfl
 rw [ec,e1] at x
 have hw:IntKind.i64.wrap ((m.length:Int)+1)=((m.length+1:Nat):Int):=by rw [w64 (by omega) (by omega)]; rfl
 have hk:mklA 8 [AV.sl Own.full 3 [],AV.sl Own.full 3 [],AV.str [],AV.str [],AV.str [],AV.str [],AV.int IntKind.i64 0,AV.int IntKind.i64 0] 128 [] (.int .i64 0) (.int .i64 ((m.length+1:Nat):Int))=some (.ss 0 0 0 8,[[]]):=by
  rw [mklA_int,if_pos ⟨by decide,by omega,by omega,by omega,by decide,rfl⟩]
  rfl
 refine contract F68 rfl rfl rfl ?_
 simp only [F68,go_sem,op,mv,↓reduceIte,Nat.reduceAdd,Nat.reduceEqDiff,Nat.reduceLT,ens_len,hw,hk,x]
end Go.Av
namespace Go.Av
open Go.Nt
set_option linter.unusedSimpArgs false
set_option linter.unusedVariables false
set_option maxHeartbeats 16000000
set_option maxRecDepth 100000
theorem key_joinV {e:En} (h:VE e):joinE e=keyE e:=(key_join ((vE_iff e).2 h)).symm
theorem ascF_some:∀ (m:List En) (k:Bs),ascF (some k) m=true↔(∀ e∈m,VE e)∧Sr m∧∀ e∈m,ltB k (keyE e)=true
 | [],k=>by simp [ascF,Sr]
 | e :: m,k=>by
  show (okE _ _ && _)=true↔_
  rw [Bool.and_eq_true,ascF_some m (joinE e)]
  unfold okE
  simp only [Bool.and_eq_true,decide_eq_true_eq]
  constructor
  ·rintro ⟨⟨h1,h2⟩,h3,h4,h5⟩
   have hv:=(vE_iff e).1 h1
   rw [key_joinV hv] at h2 h5
   refine ⟨fun x hx=>?_,List.pairwise_cons.2 ⟨fun x hx=>h5 x hx,h4⟩,fun x hx=>?_⟩
   ·rcases List.mem_cons.1 hx with rfl | hx
    ·exact hv
    ·exact h3 x hx
   ·rcases List.mem_cons.1 hx with rfl | hx
    ·exact h2
    ·exact ltB_tr _ _ _ h2 (h5 x hx)
  ·rintro ⟨h1,h2,h3⟩
   have hv:=h1 e (List.mem_cons_self ..)
   rw [key_joinV hv]
   obtain ⟨p1,p2⟩:=List.pairwise_cons.1 h2
   exact ⟨⟨(vE_iff e).2 hv,h3 e (List.mem_cons_self ..)⟩,fun x hx=>h1 x (List.mem_cons_of_mem _ hx),p2,p1⟩
theorem ascF_none (m:List En):ascF none m=true↔Mem m:=by
 cases m with
 | nil=>simp [ascF,mem_nil]
 | cons e m =>
  show (okE _ _ && _)=true↔_
  rw [Bool.and_eq_true,ascF_some m (joinE e)]
  unfold okE
  simp only [Bool.and_true,decide_eq_true_eq]
  constructor
  ·rintro ⟨h1,h3,h4,h5⟩
   have hv:=(vE_iff e).1 h1
   rw [key_joinV hv] at h5
   refine ⟨fun x hx=>?_,List.pairwise_cons.2 ⟨fun x hx=>h5 x hx,h4⟩⟩
   rcases List.mem_cons.1 hx with rfl | hx
   ·exact hv
   ·exact h3 x hx
  ·rintro ⟨h1,h2⟩
   have hv:=h1 e (List.mem_cons_self ..)
   rw [key_joinV hv]
   obtain ⟨p1,p2⟩:=List.pairwise_cons.1 h2
   exact ⟨(vE_iff e).2 hv,fun x hx=>h1 x (List.mem_cons_of_mem _ hx),p2,p1⟩
theorem okM_iff (m:List En):okM m=true↔m.length≤1024∧Mem m:=by
 unfold okM
 rw [Bool.and_eq_true,ascF_none,decide_eq_true_eq]
/-- the place of a key -/
def plc (m:List En) (k:Bs):Nat:=(bel k m).length
theorem mem_split {m:List En} (h:Sr m) (k:Bs):∃ r,m=bel k m++r∧∀ e∈r,ltB (keyE e) k=false:=by
 cases hg:getM m k with
 | none =>
  refine ⟨abv k m,split_none h hg,fun e he=>?_⟩
  exact ltB_asym (mem_abv.1 he).2
 | some x =>
  refine ⟨x :: abv k m,split_some h hg,fun e he=>?_⟩
  rcases List.mem_cons.1 he with rfl | he
  ·rw [(getM_some hg).2]; exact ltB_irr k
  ·exact ltB_asym (mem_abv.1 he).2
theorem mem_map {m:List En} (h:Mem m):m.map joinE=m.map keyE:=List.map_congr_left fun e he=>key_joinV (h.1 e he)
theorem lb_key {m:List En} (h:Mem m) (k:Bs):isLb (m.map keyE) k (plc m k):=by
 obtain ⟨r,e,hr⟩:=mem_split h.2 k
 have hl:(bel k m).length≤m.length:=by
  have:=congrArg List.length e
  rw [List.length_append] at this; omega
 refine ⟨by rw [List.length_map]; exact hl,fun i x hx=>?_⟩
 rw [List.getElem?_map] at hx
 obtain ⟨y,hy,rfl⟩:=Option.map_eq_some_iff.1 hx
 unfold plc
 by_cases q:i < (bel k m).length
 ·rw [decide_eq_true q]
  rw [e,List.getElem?_append_left q] at hy
  exact (mem_bel.1 (List.mem_of_getElem? hy)).2
 ·rw [decide_eq_false q]
  rw [e,List.getElem?_append_right (by omega)] at hy
  exact hr y (List.mem_of_getElem? hy)
theorem plc_le {m:List En} (h:Mem m) (k:Bs):plc m k≤m.length:=by have:=(lb_key h k).1; simpa using this
theorem at_some {m:List En} (h:Mem m) {k:Bs} {x:En} (hg:getM m k=some x):m[plc m k]?=some x:=by
 have e:=split_some h.2 hg
 have:(bel k m++x :: abv k m)[(bel k m).length]?=some x:=by simp
 unfold plc
 rw [← e] at this
 exact this
theorem at_none {m:List En} (h:Mem m) {k:Bs} (hg:getM m k=none):∀ y,m[plc m k]?=some y→keyE y≠k:=by
 intro y hy q
 have:=getM_mem h.2 (List.mem_of_getElem? hy)
 rw [q,hg] at this
 cases this
/-- the index of a key's entry, or -1 -/
def fndI (m:List En) (k:Bs):Int:=if okM m=true then (match getM m k with | some _=>(plc m k:Nat) | none=>-1) else -1
theorem k35 (m:List En) (hl:m.length≤2000) (hB:∀ e∈m,BE e) (k:Bs):G0 35 [.sl .no 8 (ens m),.str k] []=some (.int .i64 (fndI m k),[]):=by
 have a1:=k66 m hl hB
 unfold fndI
 refine contract F35 rfl rfl rfl ?_
 cases hq:okM m with
 | false =>
  rw [hq] at a1
  simp only [Bool.false_eq_true,if_false] at a1 ⊢
  have a2:=k74 [] k (by simp) 0 ⟨by simp,fun h x hx=>by simp at hx⟩
  simp only [F35,go_sem,op,mv,↓reduceIte,Nat.reduceAdd,Nat.reduceEqDiff,Nat.reduceLT,a1,a2,Bool.not_false]
 | true =>
  rw [hq] at a1
  simp only [if_true] at a1 ⊢
  obtain ⟨h1,h2⟩:=(okM_iff m).1 hq
  have hlb:=lb_key h2 k
  rw [mem_map h2] at a1
  have a2:=k74 (m.map keyE) k (by simp; omega) (plc m k) hlb
  have h0:(0:Int)≤((plc m k:Nat):Int):=by omega
  have hle:=plc_le h2 k
  cases hg:getM m k with
  | some x =>
   have e1:=at_some h2 hg
   have e2:(m.map keyE)[plc m k]?=some k:=by rw [List.getElem?_map,e1]; simp [(getM_some hg).2]
   have hr:=strs_at e2
   have hlt:plc m k < m.length:=by
    by_cases q:plc m k < m.length
    ·exact q
    ·rw [List.getElem?_eq_none (by omega)] at e1; cases e1
   have hne:¬ ((plc m k:Nat):Int)=(m.length:Int):=by omega
   have hkk:(k != k)=false:=by simp
   simp only [F35,go_sem,op,mv,↓reduceIte,Nat.reduceAdd,Nat.reduceEqDiff,Nat.reduceLT,a1,a2,Bool.not_true,strs_len,List.length_map,hne,h0,hr,hkk]
  | none =>
   by_cases q:plc m k < m.length
   ·have e1:m[plc m k]?=some m[plc m k]:=List.getElem?_eq_getElem q
    have hk:=at_none h2 hg _ e1
    generalize m[plc m k]=y at e1 hk
    have e2:(m.map keyE)[plc m k]?=some (keyE y):=by rw [List.getElem?_map,e1]; rfl
    have hr:=strs_at e2
    have hne:¬ ((plc m k:Nat):Int)=(m.length:Int):=by omega
    have hkk:(keyE y != k)=true:=by simpa using hk
    simp only [F35,go_sem,op,mv,↓reduceIte,Nat.reduceAdd,Nat.reduceEqDiff,Nat.reduceLT,a1,a2,Bool.not_true,strs_len,List.length_map,hne,h0,hr,hkk]
   ·have he:((plc m k:Nat):Int)=(m.length:Int):=by omega
    simp only [F35,go_sem,op,mv,↓reduceIte,Nat.reduceAdd,Nat.reduceEqDiff,Nat.reduceLT,a1,a2,Bool.not_true,strs_len,List.length_map,he]
end Go.Av
namespace Go.Av
open Go.Nt
set_option linter.unusedSimpArgs false
set_option linter.unusedVariables false
set_option maxHeartbeats 16000000
set_option maxRecDepth 100000
attribute [-go_sem] appSA_ss mklA_int
theorem ens_nil:ens []=[]:=rfl
/-- what putting gives -/
def putE (m:List En) (e:En):Int:=if okM m=true then (if vE e=0 then (if getM m (keyE e)=none∧1024≤m.length then 3 else 0) else vE e) else 1
def putV (m:List En) (e:En):List En:=if putE m e=0 then putM m e else []
theorem putE_1 {m:List En} {e:En} (h:okM m=false):putE m e=1∧putV m e=[]:=by
 have:putE m e=1:=by unfold putE; rw [h]; rfl
 exact ⟨this,by unfold putV; rw [this]; rfl⟩
theorem putE_2 {m:List En} {e:En} (h:okM m=true) (hv:vE e≠0):putE m e=vE e∧putV m e=[]:=by
 have:putE m e=vE e:=by unfold putE; rw [if_pos h,if_neg hv]
 exact ⟨this,by unfold putV; rw [this,if_neg hv]⟩
theorem putE_3 {m:List En} {e:En} (h:okM m=true) (hv:vE e=0) (hg:getM m (keyE e)=none) (hc:1024≤m.length):putE m e=3∧putV m e=[]:=by
 have:putE m e=3:=by unfold putE; rw [if_pos h,if_pos hv,if_pos ⟨hg,hc⟩]
 exact ⟨this,by unfold putV; rw [this]; rfl⟩
theorem putE_0 {m:List En} {e:En} (h:okM m=true) (hv:vE e=0) (hg:¬ (getM m (keyE e)=none∧1024≤m.length)):putE m e=0∧putV m e=putM m e:=by
 have:putE m e=0:=by unfold putE; rw [if_pos h,if_pos hv,if_neg hg]
 exact ⟨this,by unfold putV; rw [this]; rfl⟩
theorem pt_some {m:List En} (hm:Mem m) {e x:En} (hg:getM m (keyE e)=some x):m.take (plc m (keyE e))++[e]++m.drop (plc m (keyE e)+1)=putM m e:=by
 have hs:=split_some hm.2 hg
 unfold putM plc
 generalize bel (keyE e) m=B at *
 generalize abv (keyE e) m=A at *
 subst hs
 simp
theorem pt_none {m:List En} (hm:Mem m) {e:En} (hg:getM m (keyE e)=none):m.take (plc m (keyE e))++[e]++m.drop (plc m (keyE e))=putM m e:=by
 have hs:=split_none hm.2 hg
 unfold putM plc
 generalize bel (keyE e) m=B at *
 generalize abv (keyE e) m=A at *
 subst hs
 simp
theorem plc_lt {m:List En} (hm:Mem m) {k:Bs} {x:En} (hg:getM m k=some x):plc m k < m.length:=by
 have e1:=at_some hm hg
 by_cases q:plc m k < m.length
 ·exact q
 ·rw [List.getElem?_eq_none (by omega)] at e1; cases e1
end Go.Av
namespace Go.Av
open Go.Nt
set_option linter.unusedSimpArgs false
set_option linter.unusedVariables false
set_option maxHeartbeats 16000000
set_option maxRecDepth 100000
attribute [-go_sem] appSA_ss mklA_int
theorem cls_split (m:List En) (i:Nat):cls m=cls (m.take i)++cls (m.drop i):=by rw [← cls_app,List.take_append_drop]
theorem cls_one (e:En):cls [e]=rowE e:=by simp [cls,ens]
theorem take_len {m:List En} {i:Nat} (h:i≤m.length):(cls (m.take i)).length=i * 8:=by rw [cls_len,List.length_take,Nat.min_eq_left h]
theorem putC_set (m:List En) (i:Nat) (e:En) (hi:i < m.length):putC (i * 8) (rowE e) (cls m)=some (cls (m.take i++[e]++m.drop (i+1))):=by
 have hd:m.drop i=m[i] :: m.drop (i+1):=List.drop_eq_getElem_cons hi
 have:=putC_app (cls (m.take i)) (cls (m.drop i)) (rowE e) (by rw [cls_len,row_len,List.length_drop]; omega)
 rw [take_len (by omega),← cls_split] at this
 rw [this,hd,cls_cons,row_len,cls_app,cls_app,cls_one]
 congr 2
theorem set_len {m:List En} {i:Nat} {e:En} (hi:i < m.length):(m.take i++[e]++m.drop (i+1)).length=m.length:=by simp; omega
theorem ins_len {m:List En} {i:Nat} {e:En} (hi:i≤m.length):(m.take i++[e]++m.drop i).length=m.length+1:=by simp; omega
theorem insX_cls (m:List En) (i:Nat) (e:En) (hi:i≤m.length):insX 8 i (cls m) [rowE e]=cls (m.take i++[e]++m.drop i):=by
 have h1:(cls m).take (i * 8)=cls (m.take i):=by
  rw [cls_split m i,← take_len hi,List.take_left]
 have h2:(cls m).drop (i * 8)=cls (m.drop i):=by
  conv=>lhs; rw [cls_split m i]
  rw [← take_len hi,List.drop_left]
 unfold insX
 rw [h1,h2,cls_app,cls_app,cls_one]
 simp
/-- slices.Insert of one entry -/
theorem k70 (m:List En) (hl:m.length≤2000) (k i:Nat) (e:En) (hi:i≤m.length):G0 70 [.ss k 0 m.length 8,.int .i64 i,.sl .full 8 [rowE e]] (List.replicate k dead++[cls m])=some (.ss (k+1) 0 (m.length+1) 8,List.replicate (k+1) dead++[cls (m.take i++[e]++m.drop i)]):=by
 by_cases q:i < m.length
 ·refine Gx_base ?_
  show ((List.replicate k dead++[cls m])[k]?).bind (fun cells=>if 8=8∧8=8∧insOK 8 128 m.length (i:Int) cells [rowE e]=true then some (AV.ss (List.replicate k dead++[cls m]).length 0 (m.length+([]:List (List AV)).length+1) 8,(List.replicate k dead++[cls m]).set k dead++[insX 8 (i:Int).toNat cells [rowE e]]) else none)=_
  rw [rD]
  simp only [Option.bind_some]
  have hok:insOK 8 128 m.length (i:Int) (cls m) [rowE e]=true:=by
   unfold insOK
   simp only [Bool.and_eq_true,decide_eq_true_eq]
   refine ⟨⟨⟨⟨⟨by omega,by omega,(cls_len m).symm⟩,cls_flat m⟩,rfl⟩,rfl⟩,?_⟩
   simp only [List.length_singleton]
   constructor <;> omega
  rw [if_pos ⟨trivial,trivial,hok⟩,rL,rS,rN,Int.toNat_natCast,insX_cls m i e (by omega)]
  rfl
 ·have hin:i=m.length:=by omega
  subst hin
  have hok:insOK 8 128 m.length (m.length:Int) (cls m) [rowE e]=false:=by
   have hf:¬ ((0:Int)≤(m.length:Int)∧(m.length:Int) < (m.length:Int)∧m.length * 8=(cls m).length):=fun z=>by omega
   unfold insOK
   rw [decide_eq_false hf]
   rfl
  have hB:B0 70 [.ss k 0 m.length 8,.int .i64 m.length,.sl .full 8 [rowE e]] (List.replicate k dead++[cls m])=none:=by
   show ((List.replicate k dead++[cls m])[k]?).bind (fun cells=>if 8=8∧8=8∧insOK 8 128 m.length (m.length:Int) cells [rowE e]=true then _ else none)=none
   rw [rD]
   simp only [Option.bind_some,hok]
   rfl
  have ha:=appE m e k (by omega)
  simp only [rowE] at ha
  have h0:(0:Int)≤(m.length:Int):=by omega
  have e1:m.take m.length++[e]++m.drop m.length=m++[e]:=by simp
  rw [e1]
  refine contract F70 hB rfl rfl ?_
  by_cases hz:m.length=0
  ·have hz':(m.length:Int)=0:=by omega
   simp only [F70,rowE,go_sem,op,mv,↓reduceIte,Nat.reduceAdd,Nat.reduceEqDiff,Nat.reduceLT,Int.reduceNeg,Int.cast_ofNat_Int,Int.reduceLT,Int.reduceAdd,Int.reduceSub,Int.reduceLE,Int.reduceEq,Int.reduceToNat,Nat.reduceSub,Nat.reduceMul,Nat.reduceLeDiff,h0,ha,Int.le_refl,true_or,hz']
  ·have hz':¬ (m.length:Int)=0:=by omega
   simp only [F70,rowE,go_sem,op,mv,↓reduceIte,Nat.reduceAdd,Nat.reduceEqDiff,Nat.reduceLT,Int.reduceNeg,Int.cast_ofNat_Int,Int.reduceLT,Int.reduceAdd,Int.reduceSub,Int.reduceLE,Int.reduceEq,Int.reduceToNat,Nat.reduceSub,Nat.reduceMul,Nat.reduceLeDiff,h0,ha,Int.le_refl,hz',Int.lt_irrefl,or_self]
theorem rowsC_n {m:List En} {n:Nat} (h:m.length=n):rowsC 0 n 8 (cls m)=some (ens m):=by rw [← h]; exact rowsC_all m
/-- memory.Put -/
theorem k27 (m:List En) (hl:m.length≤2000) (hB:∀ e∈m,BE e) (e:En) (he:BE e):G0 27 [.sl .no 8 (ens m),.agg (rowE e)] []=some (.tup [.sl .no 8 (ens (putV m e)),.int .i64 (putE m e)],[]):=by
 have a1:=k66 m hl hB
 refine contract F27 rfl rfl rfl ?_
 cases hq:okM m with
 | false =>
  rw [hq] at a1
  simp only [Bool.false_eq_true,if_false] at a1
  rw [(putE_1 hq).1,(putE_1 hq).2]
  simp only [F27,rowE,go_sem,op,mv,↓reduceIte,Nat.reduceAdd,Nat.reduceEqDiff,Nat.reduceLT,a1,Bool.not_false]
  rfl
 | true =>
  rw [hq] at a1
  simp only [if_true] at a1
  obtain ⟨h1,h2⟩:=(okM_iff m).1 hq
  rw [mem_map h2] at a1
  have a2:=k23 e he
  simp only [rowE] at a2
  by_cases hv:vE e=0
  case neg =>
   rw [(putE_2 hq hv).1,(putE_2 hq hv).2]
   simp only [F27,rowE,go_sem,op,mv,↓reduceIte,Nat.reduceAdd,Nat.reduceEqDiff,Nat.reduceLT,a1,a2,Bool.not_true,ne_eq,hv,not_false_eq_true,decide_true]
   rfl
  have a3:=k64 e he
  rw [← key_join hv] at a3
  simp only [rowE] at a3
  have a4:=k67 (m.map keyE) (keyE e) (by simp; omega) (plc m (keyE e)) (lb_key h2 (keyE e))
  have a5:=k68 m hl hB
  have a6:=k69 e he
  simp only [rowE] at a6
  have h0:(0:Int)≤((plc m (keyE e):Nat):Int):=by omega
  have hle:=plc_le h2 (keyE e)
  cases hg:getM m (keyE e) with
  | some x =>
   have q:=plc_lt h2 hg
   have q':((plc m (keyE e):Nat):Int) < (m.length:Int):=by omega
   have ex:=at_some h2 hg
   have e2:(m.map keyE)[plc m (keyE e)]?=some (keyE e):=by rw [List.getElem?_map,ex]; simp [(getM_some hg).2]
   rw [e2,decide_eq_true rfl] at a4
   have hp:=putC_set m (plc m (keyE e)) e q
   have hr:=rowsC_n (set_len (e:=e) q)
   rw [pt_some h2 hg] at hp hr
   rw [putC_L _ _ _ (by simp [rowE])] at hp
   simp only [rowE] at hp
   rw [(putE_0 hq hv (by rw [hg]; simp)).1,(putE_0 hq hv (by rw [hg]; simp)).2]
   simp only [F27,rowE,go_sem,op,mv,↓reduceIte,Nat.reduceAdd,Nat.reduceEqDiff,Nat.reduceLT,a1,a2,Bool.not_true,ne_eq,hv,not_true_eq_false,decide_false,a3,a4,a5,a6,ens_len,q',h0,Int.toNat_natCast,Nat.zero_add,rD,rS,cls_blk,hp,hr,Nat.zero_le]
  | none =>
   have e2:¬ (m.map keyE)[plc m (keyE e)]?=some (keyE e):=by
    intro z
    rw [List.getElem?_map] at z
    obtain ⟨y,y1,y2⟩:=Option.map_eq_some_iff.1 z
    exact at_none h2 hg _ y1 y2
   rw [decide_eq_false e2] at a4
   by_cases hc:1024≤m.length
   ·have hc':(1024:Int)≤(m.length:Int):=by omega
    rw [(putE_3 hq hv hg hc).1,(putE_3 hq hv hg hc).2]
    simp only [F27,rowE,go_sem,op,mv,↓reduceIte,Nat.reduceAdd,Nat.reduceEqDiff,Nat.reduceLT,a1,a2,Bool.not_true,Bool.not_false,ne_eq,hv,not_true_eq_false,decide_false,a3,a4,ens_len,hc']
    rfl
   ·have hc':¬ (1024:Int)≤(m.length:Int):=by omega
    have a7:=k70 m hl m.length (plc m (keyE e)) e hle
    have hr:=rowsC_n (ins_len (e:=e) hle)
    rw [pt_none h2 hg] at a7 hr
    simp only [rowE] at a7
    rw [(putE_0 hq hv (by simp; omega)).1,(putE_0 hq hv (by simp; omega)).2]
    simp only [F27,rowE,go_sem,op,mv,↓reduceIte,Nat.reduceAdd,Nat.reduceEqDiff,Nat.reduceLT,a1,a2,Bool.not_true,Bool.not_false,ne_eq,hv,not_true_eq_false,decide_false,a3,a4,a5,a6,mks8,ens_len,hc',a7,rD,hr,cls_blk,Nat.zero_le]
end Go.Av
namespace Go.Av
open Go.Nt
set_option linter.unusedSimpArgs false
set_option linter.unusedVariables false
set_option maxHeartbeats 16000000
set_option maxRecDepth 100000
def StP (P:List (List AV)) (v:AV) (sh:List (List AV)) (out:List Tk):Prop:=
 (out=[]∧v=.sl .full 3 []∧P=sh)∨(∃ D o t,out=o++[t]∧v=.ss (P++D).length 0 (o.length+1) 3∧sh=P++D++[fl (o++[t])]∧∀ c∈D,c=dead)
theorem dd {D:List (List AV)} (h:∀ c∈D,c=dead):∀ c∈D++[dead],c=dead:=fun c hc=>by
 rcases List.mem_append.1 hc with q | q
 ·exact h c q
 ·exact List.mem_singleton.1 q
theorem fl3 {f:List Tk} {i:Nat} {t:Tk} (h:f[i]?=some t):((fl f).drop (i * 3)).take 3=[AV.int .i64 t.1,.str t.2.1,.int .i64 t.2.2]:=by
 have hi:i < f.length:=by
  by_cases q:i < f.length
  ·exact q
  ·rw [List.getElem?_eq_none (by omega)] at h; cases h
 have hd:f.drop i=t :: f.drop (i+1):=by
  rw [List.drop_eq_getElem_cons hi]
  congr 1
  rw [List.getElem?_eq_getElem hi] at h
  exact Option.some.inj h
 have e:fl f=fl (f.take i)++fl (f.drop i):=by rw [← fl_app,List.take_append_drop]
 have hl:(fl (f.take i)).length=i * 3:=by rw [fl_len,List.length_take,Nat.min_eq_left (by omega)]
 rw [e,← hl,List.drop_left,hd,fl_cons]
 rfl
theorem flatL3 (a:Int) (s:Bs) (c:Int):flatL [AV.int .i64 a,.str s,.int .i64 c]=some [AV.int .i64 a,.str s,.int .i64 c]:=rfl
theorem getP {P:List (List AV)} {so:Nat} {c:List AV} (h:P[so]?=some c) (X Y:List (List AV)):(P++X++Y)[so]?=some c:=by
 have hi:so < P.length:=by
  by_cases q:so < P.length
  ·exact q
  ·rw [List.getElem?_eq_none (by omega)] at h; cases h
 rw [List.append_assoc,List.getElem?_append_left hi,h]
theorem l99s (P:List (List AV)) (so:Nat) (f:List Tk) (hP:P[so]?=some (fl f)) (hf:f.length≤100000):∀ (k i:Nat) (out:List Tk) (v:AV) (sh:List (List AV)),i+k=f.length→out.length≤i→tot out+tot (f.drop i)≤1000000→StP P v sh out →
  ∃ v' sh',StP P v' sh' ((f.drop i).foldl pn out) ∧
   execX G1 L99_0s (ST [(0,.ss so 0 f.length 3),(3,v),(8,.int .i64 f.length),(9,.int .i64 i)] [] sh)=some (.ex 0,ST [(0,.ss so 0 f.length 3),(3,v'),(8,.int .i64 f.length),(9,.int .i64 f.length),(10,.bool false)] [] sh')
 | 0,i,out,v,sh,h1,h2,h3,hst=>by
  have:i=f.length:=by omega
  subst this
  refine ⟨v,sh,by rw [List.drop_of_length_le (Nat.le_refl _)]; exact hst,?_⟩
  rcases hst with ⟨rfl,rfl,rfl⟩ | ⟨D,o,t,rfl,rfl,rfl,hD⟩
  ·rw [Y_loop (L:=L99_0s) rfl]
   simp only [go_sem,op,mv,↓reduceIte,Nat.reduceAdd,Nat.reduceEqDiff,Nat.reduceLT,Int.reduceNeg,Int.cast_ofNat_Int,Int.reduceLT,Int.reduceAdd,Int.reduceSub,Int.reduceLE,Int.reduceEq,Int.reduceToNat,Nat.reduceSub,Nat.reduceMul,Nat.reduceLeDiff,Int.lt_irrefl]
  ·rw [Y_loop (L:=L99_0s) rfl]
   simp only [go_sem,op,mv,↓reduceIte,Nat.reduceAdd,Nat.reduceEqDiff,Nat.reduceLT,Int.reduceNeg,Int.cast_ofNat_Int,Int.reduceLT,Int.reduceAdd,Int.reduceSub,Int.reduceLE,Int.reduceEq,Int.reduceToNat,Nat.reduceSub,Nat.reduceMul,Nat.reduceLeDiff,Int.lt_irrefl]
 | k+1,i,out,v,sh,h1,h2,h3,hst=>by
  have hi:i < f.length:=by omega
  have h4:(i:Int) < (f.length:Int):=by omega
  have h0:(0:Int)≤(i:Int):=by omega
  have hw:IntKind.i64.wrap ((i:Int)+1)=((i+1:Nat):Int):=by rw [w64 (by omega) (by omega)]; rfl
  have hg:f[i]?=some f[i]:=List.getElem?_eq_getElem hi
  have hd:f.drop i=f[i] :: f.drop (i+1):=List.drop_eq_getElem_cons hi
  generalize f[i]=T at hg hd
  have hr:=fl3 hg
  obtain ⟨kk,s,id⟩:=T
  rw [hd] at h3 ⊢
  rw [tot_cons] at h3
  simp only [List.foldl_cons]
  simp only [] at h3
  by_cases c1:kk=1
  ·by_cases c2:s=[]
   ·subst c1 c2
    rw [pn_empty]
    obtain ⟨v',sh',p1,p4⟩:=l99s P so f hP hf k (i+1) out v sh (by omega) (by omega) (by simp only [List.length_nil] at h3; omega) hst
    refine ⟨v',sh',p1,?_⟩
    rcases hst with ⟨rfl,rfl,rfl⟩ | ⟨D,o,t,rfl,rfl,rfl,hD⟩
    ·rw [Y_loop (L:=L99_0s) rfl]
     simp only [go_sem,op,mv,↓reduceIte,Nat.reduceAdd,Nat.reduceEqDiff,Nat.reduceLT,Int.reduceNeg,Int.cast_ofNat_Int,Int.reduceLT,Int.reduceAdd,Int.reduceSub,Int.reduceLE,Int.reduceEq,Int.reduceToNat,Nat.reduceSub,Nat.reduceMul,Nat.reduceLeDiff,h4,h0,hP,getP hP,hr,flatL3,hw]
     exact p4
    ·rw [Y_loop (L:=L99_0s) rfl]
     simp only [go_sem,op,mv,↓reduceIte,Nat.reduceAdd,Nat.reduceEqDiff,Nat.reduceLT,Int.reduceNeg,Int.cast_ofNat_Int,Int.reduceLT,Int.reduceAdd,Int.reduceSub,Int.reduceLE,Int.reduceEq,Int.reduceToNat,Nat.reduceSub,Nat.reduceMul,Nat.reduceLeDiff,h4,h0,hP,getP hP,hr,flatL3,hw]
     exact p4
   ·subst c1
    have hne:(s == [])=false:=by simp [c2]
    rcases hst with ⟨rfl,rfl,rfl⟩ | ⟨D,o,t,rfl,rfl,rfl,hD⟩
    ·rw [pn_first c2]
     obtain ⟨v',sh',p1,p4⟩:=l99s P so f hP hf k (i+1) [(1,s,0)] (.ss P.length 0 1 3) (P++[fl [(1,s,0)]]) (by omega) (by simp) (by simp only [tot_cons,tot_nil] at *; first | done | omega) (.inr ⟨[],[],(1,s,0),rfl,by simp,by simp,by simp⟩)
     refine ⟨v',sh',p1,?_⟩
     have ha:appOK 32 1=true:=appOK_le (by decide) (by decide)
     rw [Y_loop (L:=L99_0s) rfl]
     simp only [go_sem,op,mv,↓reduceIte,Nat.reduceAdd,Nat.reduceEqDiff,Nat.reduceLT,Int.reduceNeg,Int.cast_ofNat_Int,Int.reduceLT,Int.reduceAdd,Int.reduceSub,Int.reduceLE,Int.reduceEq,Int.reduceToNat,Nat.reduceSub,Nat.reduceMul,Nat.reduceLeDiff,h4,h0,hP,getP hP,hr,flatL3,hw,hne,ha,Int.lt_irrefl]
     exact p4
    ·have hpos:(0:Int) < ((o.length+1:Nat):Int):=by omega
     have hlt:((o.length:Nat):Int) < ((o.length+1:Nat):Int):=by omega
     have hge:(0:Int)≤((o.length:Nat):Int):=by omega
     have hw3:IntKind.i64.wrap (((o.length+1:Nat):Int) - 1)=((o.length:Nat):Int):=by rw [w64 (by omega) (by simp at h2; omega)]; omega
     have hat0:(fl (o++[t]))[o.length * 3]?=some (.int .i64 t.1):=fl_at o t 0
     have hat1:(fl (o++[t]))[o.length * 3+1]?=some (.str t.2.1):=fl_at o t 1
     by_cases c3:t.1=1
     ·rw [pn_join c2 c3]
      have hc:t.2.1.length+s.length≤140737488355328:=by simp only [tot_app,tot_cons,tot_nil] at h3; omega
      have hb:=fl_blk (o++[t])
      have hp:putL (o.length * 3) [.int .i64 1,.str (t.2.1++s),.int .i64 0] (fl (o++[t]))=some (fl (o++[(1,t.2.1++s,0)])):=fl_put o t (1,t.2.1++s,0)
      obtain ⟨v',sh',p1,p4⟩:=l99s P so f hP hf k (i+1) (o++[(1,t.2.1++s,0)]) (.ss (P++D).length 0 (o.length+1) 3) (P++D++[fl (o++[(1,t.2.1++s,0)])]) (by omega) (by simp at h2 ⊢; omega) (by simp only [tot_app,tot_cons,tot_nil,List.length_append] at *; omega) (.inr ⟨D,o,_,rfl,rfl,rfl,hD⟩)
      refine ⟨v',sh',p1,?_⟩
      rw [Y_loop (L:=L99_0s) rfl]
      simp only [go_sem,op,mv,↓reduceIte,Nat.reduceAdd,Nat.reduceEqDiff,Nat.reduceLT,Int.reduceNeg,Int.cast_ofNat_Int,Int.reduceLT,Int.reduceAdd,Int.reduceSub,Int.reduceLE,Int.reduceEq,Int.reduceToNat,Nat.reduceSub,Nat.reduceMul,Nat.reduceLeDiff,h4,h0,hP,getP hP,hr,flatL3,hw,hne,hpos,hlt,hge,hw3,gD,sD,hat0,hat1,c3,Nat.add_zero,hc,hb,hp]
      exact p4
     ·rw [pn_new c2 c3]
      have h6:(o.length+1) * 3=(fl (o++[t])).length:=by rw [fl_len]; simp
      have ha:appOK 32 (o.length+1+1)=true:=appOK_le (by decide) (by simp at h2; omega)
      have hb:=fl_blk (o++[t])
      have hn:=fl_nown (o++[t])
      have e6:fl (o++[t])++[[AV.int .i64 1,.str s,.int .i64 0]].flatten=fl (o++[t]++[(1,s,0)]):=by rw [fl_app (o++[t])]; rfl
      have eL:(P++D++[fl (o++[t])]).length=(P++(D++[dead])).length:=by simp
      have eA:P++D++[dead]=P++(D++[dead]):=List.append_assoc ..
      obtain ⟨v',sh',p1,p4⟩:=l99s P so f hP hf k (i+1) (o++[t]++[(1,s,0)]) (.ss (P++(D++[dead])).length 0 (o.length+1+1) 3) (P++(D++[dead])++[fl (o++[t]++[(1,s,0)])]) (by omega) (by simp at h2 ⊢; omega) (by simp only [tot_app,tot_cons,tot_nil] at *; omega) (.inr ⟨D++[dead],o++[t],(1,s,0),rfl,by simp,rfl,dd hD⟩)
      refine ⟨v',sh',p1,?_⟩
      rw [Y_loop (L:=L99_0s) rfl]
      simp only [go_sem,op,mv,↓reduceIte,Nat.reduceAdd,Nat.reduceEqDiff,Nat.reduceLT,Int.reduceNeg,Int.cast_ofNat_Int,Int.reduceLT,Int.reduceAdd,Int.reduceSub,Int.reduceLE,Int.reduceEq,Int.reduceToNat,Nat.reduceSub,Nat.reduceMul,Nat.reduceLeDiff,h4,h0,hP,getP hP,hr,flatL3,hw,hne,hpos,hlt,hge,hw3,gD,sD,hat0,hat1,c3,Nat.add_zero,ha,hb,hn,h6,eL,eA]
      rw [e6]
      exact p4
  ·rw [pn_nt c1]
   rcases hst with ⟨rfl,rfl,rfl⟩ | ⟨D,o,t,rfl,rfl,rfl,hD⟩
   ·rw [List.nil_append]
    obtain ⟨v',sh',p1,p4⟩:=l99s P so f hP hf k (i+1) [(kk,s,id)] (.ss P.length 0 1 3) (P++[fl [(kk,s,id)]]) (by omega) (by simp) (by simp only [tot_cons,tot_nil] at *; first | done | omega) (.inr ⟨[],[],(kk,s,id),rfl,by simp,by simp,by simp⟩)
    refine ⟨v',sh',p1,?_⟩
    have ha:appOK 32 1=true:=appOK_le (by decide) (by decide)
    rw [Y_loop (L:=L99_0s) rfl]
    simp only [go_sem,op,mv,↓reduceIte,Nat.reduceAdd,Nat.reduceEqDiff,Nat.reduceLT,Int.reduceNeg,Int.cast_ofNat_Int,Int.reduceLT,Int.reduceAdd,Int.reduceSub,Int.reduceLE,Int.reduceEq,Int.reduceToNat,Nat.reduceSub,Nat.reduceMul,Nat.reduceLeDiff,h4,h0,hP,getP hP,hr,flatL3,hw,c1,ha]
    exact p4
   ·have h6:(o.length+1) * 3=(fl (o++[t])).length:=by rw [fl_len]; simp
    have ha:appOK 32 (o.length+1+1)=true:=appOK_le (by decide) (by simp at h2; omega)
    have hb:=fl_blk (o++[t])
    have hn:=fl_nown (o++[t])
    have e6:fl (o++[t])++[[AV.int .i64 kk,.str s,.int .i64 id]].flatten=fl (o++[t]++[(kk,s,id)]):=by rw [fl_app (o++[t])]; rfl
    have eL:(P++D++[fl (o++[t])]).length=(P++(D++[dead])).length:=by simp
    have eA:P++D++[dead]=P++(D++[dead]):=List.append_assoc ..
    obtain ⟨v',sh',p1,p4⟩:=l99s P so f hP hf k (i+1) (o++[t]++[(kk,s,id)]) (.ss (P++(D++[dead])).length 0 (o.length+1+1) 3) (P++(D++[dead])++[fl (o++[t]++[(kk,s,id)])]) (by omega) (by simp at h2 ⊢; omega) (by simp only [tot_app,tot_cons,tot_nil] at *; omega) (.inr ⟨D++[dead],o++[t],(kk,s,id),rfl,by simp,rfl,dd hD⟩)
    refine ⟨v',sh',p1,?_⟩
    rw [Y_loop (L:=L99_0s) rfl]
    simp only [go_sem,op,mv,↓reduceIte,Nat.reduceAdd,Nat.reduceEqDiff,Nat.reduceLT,Int.reduceNeg,Int.cast_ofNat_Int,Int.reduceLT,Int.reduceAdd,Int.reduceSub,Int.reduceLE,Int.reduceEq,Int.reduceToNat,Nat.reduceSub,Nat.reduceMul,Nat.reduceLeDiff,h4,h0,hP,getP hP,hr,flatL3,hw,c1,gD,sD,ha,hb,hn,h6,eL,eA]
    rw [e6]
    exact p4
theorem k99s (P:List (List AV)) (so:Nat) (f:List Tk) (hP:P[so]?=some (fl f)) (hf:f.length≤100000) (ht:tot f≤1000000):∃ v sh,StP P v sh (nrm f)∧G1 99 [.ss so 0 f.length 3] P=some (v,sh):=by
 obtain ⟨v,sh,p1,p4⟩:=l99s P so f hP hf f.length 0 [] (.sl .full 3 []) P (by omega) (by simp) (by rw [List.drop_zero,tot_nil]; omega) (.inl ⟨rfl,rfl,rfl⟩)
 rw [List.drop_zero] at p1
 have p1:StP P v sh (nrm f):=p1
 refine ⟨v,sh,p1,?_⟩
 have ec:((0:Nat):Int)=0:=rfl
 rw [ec] at p4
 generalize nrm f=g at p1
 refine contract F99s rfl rfl rfl ?_
 rcases p1 with ⟨rfl,rfl,rfl⟩ | ⟨D,o,t,rfl,rfl,rfl,hD⟩
 ·simp only [F99s,go_sem,op,mv,↓reduceIte,Nat.reduceAdd,Nat.reduceEqDiff,Nat.reduceLT,p4]
 ·simp only [F99s,go_sem,op,mv,↓reduceIte,Nat.reduceAdd,Nat.reduceEqDiff,Nat.reduceLT,p4]
/-- what stands for a fragment that is being made -/
def FSt (v:AV) (sh:List (List AV)) (f:List Tk):Prop:=(f=[]∧v=.sl .full 3 [])∨(∃ so,v=.ss so 0 f.length 3∧1≤so∧sh[so]?=some (fl f)∧f≠[])
theorem tks_ne {f:List Tk} (h:f≠[]):∃ r l,tks f=r :: l∧l.length+1=f.length:=by
 cases f with
 | nil=>exact absurd rfl h
 | cons a f=>exact ⟨_,_,rfl,by simp [tks]⟩
theorem tks_fl (f:List Tk):(tks f).flatten=fl f:=rfl
theorem app0 {f:List Tk} (h:f≠[]) (hf:f.length≤100000) (sh:List (List AV)):appSA 3 32 sh (some (tks f)) (.sl .full 3 [])=some (.ss sh.length 0 f.length 3,sh++[fl f]):=by
 obtain ⟨r,l,e,hl⟩:=tks_ne h
 have ha:appOK 32 (l.length+1)=true:=appOK_le (by decide) (by omega)
 have e2:=tks_fl f
 rw [e] at e2 ⊢
 rw [appSA_nil 3 32 3 (by decide),if_pos ha,e2,hl]
theorem rnl (o:Own) (sh:List (List AV)):rowsS false 3 sh (.sl o 3 [])=some []:=by simp [rowsS,rowsA]
theorem nn0 (sh:List (List AV)):appSA 3 32 sh (some []) (.sl .full 3 [])=some (.sl .full 3 [],sh):=appSA_nn 3 32 3 sh
theorem k58s {v:AV} {sh:List (List AV)} {f:List Tk} (hv:FSt v sh f) (x:Tk) (hf:f.length≤10000) (ht:tot f+x.2.1.length≤100000) :
  ∃ E v' sh',(E=[fl [x]]∨E=[dead,fl (f++[x])])∧StP (sh++E) v' sh' (nrm (f++[x]))∧G1 58 [v,.sl .full 3 [[.int .i64 x.1,.str x.2.1,.int .i64 x.2.2]]] sh=some (v',sh'):=by
 rcases hv with ⟨rfl,rfl⟩ | ⟨so,rfl,_,hs,hne⟩
 ·obtain ⟨v',sh',p1,p2⟩:=k99s (sh++[fl [x]]) sh.length [x] (gD sh _) (by simp) (by simp only [tot_cons,tot_nil]; omega)
  refine ⟨[fl [x]],v',sh',.inl rfl,p1,?_⟩
  have ha:appOK 32 1=true:=appOK_le (by decide) (by decide)
  rw [fl_one] at p2
  have e1:([x]:List Tk).length=1:=rfl
  rw [e1] at p2
  have hd:demV v'=v':=by
   rcases p1 with ⟨_,rfl,_⟩ | ⟨D,o,t,_,rfl,_,_⟩ <;> rfl
  refine contract F58s rfl rfl rfl ?_
  rcases p1 with ⟨_,rfl,rfl⟩ | ⟨D,o,t,_,rfl,rfl,_⟩
  ·simp only [F58s,go_sem,op,mv,↓reduceIte,Nat.reduceAdd,Nat.reduceEqDiff,Nat.reduceLT,rnl,nn0,ha,List.flatten_cons,List.flatten_nil,List.append_nil,p2]
  ·simp only [F58s,go_sem,op,mv,↓reduceIte,Nat.reduceAdd,Nat.reduceEqDiff,Nat.reduceLT,rnl,nn0,ha,List.flatten_cons,List.flatten_nil,List.append_nil,p2]
 ·obtain ⟨v',sh',p1,p2⟩:=k99s (sh++[dead]++[fl (f++[x])]) (sh++[dead]).length (f++[x]) (gD _ _) (by simp; omega) (by simp only [tot_app,tot_cons,tot_nil]; omega)
  refine ⟨[dead,fl (f++[x])],v',sh',.inr rfl,by rw [show sh++[dead,fl (f++[x])]=sh++[dead]++[fl (f++[x])] by simp]; exact p1,?_⟩
  have ha:appOK 32 (f.length+1)=true:=appOK_le (by decide) (by omega)
  have hA:=app0 hne (by omega) sh
  have hr:=rowsC_fl f
  have hb:=fl_blk f
  have hn:=fl_nown f
  have h6:f.length * 3=(fl f).length:=(fl_len f).symm
  have e6:fl f++[[AV.int .i64 x.1,.str x.2.1,.int .i64 x.2.2]].flatten=fl (f++[x]):=by rw [fl_app]; rfl
  have eL:(sh++[fl f]).length=(sh++[dead]).length:=by simp
  have e1:(f++[x]).length=f.length+1:=by simp
  rw [e1] at p2
  refine contract F58s rfl rfl rfl ?_
  rcases p1 with ⟨_,rfl,rfl⟩ | ⟨D,o,t,_,rfl,rfl,_⟩
  ·simp only [F58s,go_sem,op,mv,↓reduceIte,Nat.reduceAdd,Nat.reduceEqDiff,Nat.reduceLT,hs,hr,hA,gD,sD,ha,hb,hn,h6,e6,eL,p2]
  ·simp only [F58s,go_sem,op,mv,↓reduceIte,Nat.reduceAdd,Nat.reduceEqDiff,Nat.reduceLT,hs,hr,hA,gD,sD,ha,hb,hn,h6,e6,eL,p2]
end Go.Av
