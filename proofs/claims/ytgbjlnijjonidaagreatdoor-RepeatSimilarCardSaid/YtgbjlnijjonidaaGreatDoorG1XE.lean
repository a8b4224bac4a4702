/- Renumbering in the program: numbers of tags, counting, other numbers. Renumbering: other numbers, the reference's functions, keys. The reference's renaming, keys, first repetitions, the fixed example. Numbers, words, lines and fragments made of them, where further objects lie behind the numbers. First repetitions over a list that lies in a shared object: the program's and the reference's. The fixed example, items that need not be valid, made lists with such. Groups of repetitions: lists in a list, each an object of its own. Groups of repetitions: the program's walk. Groups of repetitions as plain data. Groups of the reference, and the comparison. The law of the first repetitions. -/
import Derived.Test.YtgbjlnijjonidaaGreatDoorG1XD
import Derived.Test.YtgbjlnijjonidaaGreatDoorG1XA
open List
set_option linter.unusedSimpArgs false
set_option linter.unusedVariables false
set_option linter.unusedSectionVars false
set_option maxRecDepth 100000
set_option maxHeartbeats 16000000
namespace Go.Av
open Go.Nt
def mdR (b:Bool):Own:=if b then .own else .full
def KR (b:Bool):Own:=if b then .no else .full
theorem CL (b:Bool):mdR b≠.no:=by cases b<;>decide
theorem cE (b:Bool) (z:Nat) (l:LL):aH (.sl (mdR b) z l)=.sl (KR b) z l:=by cases b<;>rfl
theorem fJ (b:Bool) (z:Nat) (l:LL):aH (.sl (KR b) z l)=.sl (KR b) z l:=by cases b<;>rfl
theorem u7 (b:Bool) (l:List Int) (i:Int) (h:l.length<=1000000):nS false 1 8 (.sl (mdR b) 1 (bC l)) (.sl .full 1 [[.int .i64 i]])=some (.sl .own 1 (bC (l++[i]))):=by
 have ha:cK 8 (l.length+1)=true:=bD (by decide) (by omega);rw[bH (mdR b) .full (CL b) 1 8 (by decide),aU,length_singleton,if_pos ha];simp [bC]
theorem m7 (b1:Bool) (fl:List Tk) (x:Tk) (h:fl.length<=1000000):nS false 3 32 (.sl (mdR b1) 3 (tks fl)) (.sl .full 3 [[.int .i64 x.1,.str x.2.1,.int .i64 x.2.2]])=some (.sl .own 3 (tks (fl++[x]))):=by
 have ha:cK 32 (fl.length+1)=true:=bD (by decide) (by omega);rw[bH (mdR b1) .full (CL b1) 3 32 (by decide),aE,length_singleton,if_pos ha,<- dN];rfl
theorem pG (rows:LL):gP [[.mapv rows]] 0=some rows:=rfl
def spm (l:List Int):List (List AV):=l.map fun i=>[.int .i64 i,.bool true]
theorem CQ (i:Int):∀ l:List Int,lkA [0] (.int .i64 i) (spm l)=some (if i∈l then some (.bool true) else none)
 | []=>rfl
 | k :: r=>by
  have ih:=CQ i r;have e:spm (k :: r)=[.int .i64 k,.bool true] :: spm r:=rfl;rw[e];simp only[lkA,iI,eqL,if_true,Option.map_some,Bool.and_true];by_cases h:i=k
  ·subst h;simp
  ·have:(i == k)=false:=by simpa using h
   simp only[this,ih,mem_cons,h,false_or]
theorem CH (i:Int):∀ l:List Int,i ∉ l->muA [0] (.int .i64 i) (.bool true) (spm l)=some (spm (l++[i]))
 | [],_=>rfl
 | k :: r,h=>by
  simp only[mem_cons,not_or] at h;have ih:=CH i r h.2;have e:spm (k :: r)=[.int .i64 k,.bool true] :: spm r:=rfl;rw[e]
  have:(i == k)=false:=by simpa using h.1
  simp only[muA,iI,eqL,if_true,Option.map_some,Bool.and_true,this,ih];rfl
theorem PM (v:AV):lkR false false [.bool false] (some v)=some v:=rfl
theorem PN:lkR false false [.bool false] none=some (.bool false):=rfl
theorem DZ {l:List Int} {x:Tk} (h1:aW x=true) (h2:x.2.2 ∉ l):fA l x=l++[x.2.2]:=by unfold fA;rw[if_pos ⟨h1,h2⟩]
theorem tD {l:List Int} {x:Tk} (h:aW x=false\/x.2.2∈l):fA l x=l:=by
 unfold fA;rw[if_neg]
 rintro ⟨a,b⟩
 rcases h with h | h
 ·rw[h] at a;cases a
 ·exact b h
theorem l71 (f:List Tk) (hf:f.length<=100000):∀ (k i:Nat) (b:Bool) (l:List Int),i+k=f.length->l.length<=i ->
  ∃ b',aC G0 rU (ST [(3,.sl (mdR b) 1 (bC l)),(4,.mp 0),(8,.sl .no 3 (tks f)),(9,.int .i64 f.length),(10,.int .i64 i)] [] [[.mapv (spm l)]])=some (.ex 0,ST [(3,.sl (mdR b') 1 (bC ((f.drop i).foldl fA l))),(4,.mp 0),(8,.sl .no 3 (tks f)),(9,.int .i64 f.length),(10,.int .i64 f.length),(11,.bool false)] [] [[.mapv (spm ((f.drop i).foldl fA l))]])
 | 0,i,b,l,h,hl=>by
  have:i=f.length:=by omega
  subst this;refine⟨b,?_⟩;rw[drop_length,foldl_nil];rw[aA (L:=rU) rfl];simp only[go_sem,Int.lt_irrefl]
 | k+1,i,b,l,h,hl=>by
  have hi:i < f.length:=by omega
  have h4:(i:Int) < (f.length:Int):=by omega
  have h0:(0:Int)<=(i:Int):=by omega
  have hw:=wI (i:=i) (by omega)
  have hg:f[i]?=some f[i]:=getElem?_eq_getElem hi;have hd:f.drop i=f[i] :: f.drop (i+1):=drop_eq_getElem_cons hi;generalize f[i]=T at hg hd;have hr:=bU hg;obtain⟨kk,s,id⟩:=T;simp only[] at hr;have c69:=c69 kk s id;have hlk:=CQ id l;have e1:mdR true=.own:=rfl;rw[hd,foldl_cons];cases ht:aW (kk,s,id) with
  | false =>
   rw[ht] at c69;rw[tD (.inl ht)];obtain⟨b',ih⟩:=l71 f hf k (i+1) b l (by omega) (by omega);refine⟨b',?_⟩;rw[aA (L:=rU) rfl];simp only[go_sem,h4,h0,hr,hw,c69];exact ih
  | true =>
   rw[ht] at c69;by_cases hm:id∈l
   ·rw[if_pos hm] at hlk
    rw[tD (.inr hm)];obtain⟨b',ih⟩:=l71 f hf k (i+1) b l (by omega) (by omega);refine⟨b',?_⟩;rw[aA (L:=rU) rfl];simp only[go_sem,h4,h0,hr,hw,c69,pG,hlk,PM];exact ih
   ·rw[if_neg hm] at hlk
    rw[DZ ht hm];have hmu:=CH id l hm;have ha:=u7 b l id (by omega);obtain⟨b',ih⟩:=l71 f hf k (i+1) true (l++[id]) (by omega) (by simp;omega);refine⟨b',?_⟩;rw[e1] at ih;rw[aA (L:=rU) rfl];simp only[go_sem,h4,h0,hr,hw,c69,pG,hlk,PN,hmu,ha,cE];exact ih
theorem c71 (f:List Tk) (hf:f.length<=100000):G0 67 [.sl .no 3 (tks f)] []=some (.sl .no 1 (bC (cL f)),[]):=by
 obtain⟨b',x⟩:=l71 f hf f.length 0 false [] (by omega) (by simp);have ec:((0:Nat):Int)=0:=rfl;have e2:mdR false=.full:=rfl;have e3:spm []=[]:=rfl;rw[drop_zero,ec,e2,e3,pP] at x;have en:f.foldl fA []=cL f:=rfl;rw[en] at x;refine aB F67 rfl rfl rfl ?_;have hsd:∀ q,cZ [] q=true:=fun _=>rfl
 simp only[F67,go_sem,aE,x,cE,fJ,hsd]
def icl (l:List Int):List AV:=l.map (AV.int .i64)
theorem oA (l:List Int):(icl l).length=l.length:=by simp [icl]
theorem t0:∀ (a:List AV) (x y:AV) (r:List AV),fP a.length [x] (a++y :: r)=some (a++x :: r)
 | [],x,y,r=>by
  show fP 0 [x] (y :: r)=_;simp only[B7,tZ,Option.map_some,nil_append]
 | c :: a,x,y,r=>by
  have ih:=t0 a x y r;simp only[length_cons,cons_append,vY,ih,Option.map_some]
theorem m9:∀ n,aV [AV.int .i64 0] n=List.replicate n (.int .i64 0)
 | 0=>rfl
 | n+1=>by
  show [AV.int .i64 0]++aV [AV.int .i64 0] n=_;rw[m9 n];rfl
theorem zV (l:List Int):cN 0 l.length 1 (icl l)=some (bC l):=by
 have h1:∀ l:List Int,(icl l).all (fun x=>a8 (aH x))=true:=by
  intro l
  induction l with
  | nil=>rfl
  | cons c l ih =>
   show (a8 _ && (icl l).all _)=true;rw[ih];rfl
 have h2:∀ l:List Int,(icl l).map aH=icl l:=by
  intro l
  induction l with
  | nil=>rfl
  | cons c l ih =>
   show aH _ :: (icl l).map aH=_;rw[ih];rfl
 have h3:∀ l:List Int,cH 1 l.length (icl l)=bC l:=by
  intro l
  induction l with
  | nil=>rfl
  | cons c l ih =>
   show (icl (c :: l)).take 1 :: cH 1 l.length ((icl (c :: l)).drop 1)=_;have e:(icl (c :: l)).drop 1=icl l:=rfl;rw[e,ih];rfl
 unfold cN;have h4:((icl l).drop 0).take (l.length*1)=icl l:=by rw[drop_zero];exact take_of_length_le (by rw[oA];omega)
 rw[h4,h2,h3,if_pos ⟨by decide,by rw[oA];omega,h1 l⟩]
def ccl (n i:Nat):List AV:=icl (fL i)++List.replicate (n - i) (.int .i64 0)
theorem HV {n i:Nat} (h:i < n):fP i [.int .i64 ((i:Int)+1)] (ccl n i)=some (ccl n (i+1)):=by
 have e:ccl n i=icl (fL i)++.int .i64 0 :: List.replicate (n - (i+1)) (.int .i64 0):=by
  unfold ccl;rw[show n - i=n - (i+1)+1 by omega,replicate_succ]
 have h1:=t0 (icl (fL i)) (.int .i64 ((i:Int)+1)) (.int .i64 0) (List.replicate (n - (i+1)) (.int .i64 0));rw[oA,kV] at h1;rw[e,h1];unfold ccl;rw[JO];simp [icl]
theorem HX (n i:Nat):bV (ccl n i)=true:=by
 have:∀ l:List AV,(∀ x∈l,∃ v,x=.int .i64 v)->bV l=true:=by
  intro l h
  cases l with
  | nil=>rfl
  | cons c l =>
   obtain⟨v,rfl⟩:=h c (by simp);rfl
 refine this _ fun x hx=>?_
 unfold ccl icl at hx;rcases mem_append.1 hx with q | q
 ·obtain⟨v,_,rfl⟩:=mem_map.1 q;exact⟨v,rfl⟩
 ·exact⟨0,(mem_replicate.1 q).2⟩
theorem l73 (n:Nat) (hn:n<=1000000):∀ (k i:Nat),i+k=n ->
  aC G0 yY (ST [(3,.ss 0 0 n 1),(8,.int .i64 n),(9,.int .i64 i)] [] [ccl n i])=some (.ex 0,ST [(3,.ss 0 0 n 1),(8,.int .i64 n),(9,.int .i64 n),(10,.bool false)] [] [ccl n n])
 | 0,i,h=>by
  have:i=n:=by omega
  subst this;rw[aA (L:=yY) rfl];simp only[go_sem,Int.lt_irrefl]
 | k+1,i,h=>by
  have h4:(i:Int) < (n:Int):=by omega
  have h0:(0:Int)<=(i:Int):=by omega
  have hw:IntKind.i64.wrap ((i:Int)+1)=(i:Int)+1:=w64 (by omega) (by omega);have hp:=HV (n:=n) (i:=i) (by omega);have hb:=HX n i;have ih:=l73 n hn k (i+1) (by omega);have ec:((i+1:Nat):Int)=(i:Int)+1:=rfl;rw[ec] at ih;rw[aA (L:=yY) rfl];simp only[go_sem,h4,h0,hw,hb,Nat.mul_one,hp];exact ih
theorem c73 (n:Nat) (hn:n<=1000000):G0 69 [.int .i64 n] []=some (.sl .no 1 (bC (fL n)),[]):=by
 have x:=l73 n hn n 0 (by omega);have ec:((0:Nat):Int)=0:=rfl;have e0:ccl n 0=List.replicate n (.int .i64 0):=by unfold ccl fL icl;simp
 have e1:ccl n n=icl (fL n):=by unfold ccl;simp
 rw[ec,e0,e1] at x;have hr:=zV (fL n);rw[kV] at hr;have h0:(0:Int)<=(n:Int):=by omega
 have hb:(n:Int)*8<=140737488355328:=by omega
 have hc:(n:Int)<=4611686018427387904:=by omega
 refine aB F69 rfl rfl rfl ?_;have hsd:∀ q,cZ [] q=true:=fun _=>rfl
 simp only[F69,go_sem,h0,hb,hc,Int.le_refl,m9,x,hr,hsd]
theorem ME (r:Bs) (h:r.length<=1000000):nS true 1 1 (.sl .full 1 []) (.str r)=some (.sl .own 1 (aM r)):=by
 unfold nS;have e:iX true 1 (.str r)=some (aM r):=rfl;simp only[e,Option.bind_some];rw[if_pos]
 ·simp
 ·refine⟨.inl trivial,by decide,by decide,?_,?_⟩
  ·rw[dX];simp;omega
  ·rw[dX];simp;omega
theorem B9 {tx:Bs} (h:tx≠[]):(0:Int) < (tx.length:Int):=by
 cases tx with
 | nil=>exact absurd rfl h
 | cons c r=>simp only[length_cons];omega
theorem UQ (g:List Tk) (hl:g.length<=1000000) (b:Bool) (o:List Tk) (i:Nat) (s:Bs) (id:Int) (hg:g[i]?=some (1,s,id)) (hs:s.length<=1000000) (hn:∀ y,g[i+1]?=some y->y.1≠1) :
  aC G0 qK (ST [(0,.sl .no 3 (tks g)),(3,.sl (mdR b) 3 (tks o)),(4,.int .i64 i),(5,.sl .full 1 []),(9,.bool true),(15,.bool false)] [] [])=some (.ex 2,ST [(0,.sl .no 3 (tks g)),(3,.sl (mdR b) 3 (tks o)),(4,.int .i64 ((i+1:Nat):Int)),(5,.sl .own 1 (aM s)),(9,.bool true),(15,.bool false),(36,.bool false)] [] []):=by
 have hi:i < g.length:=by
  by_cases q:i < g.length
  ·exact q
  ·rw[getElem?_eq_none (by omega)] at hg;cases hg
 have h4:(i:Int) < (g.length:Int):=by omega
 have h0:(0:Int)<=(i:Int):=by omega
 have hw:=wI (i:=i) (by omega)
 have hr:=bU hg;simp only[] at hr;have ha:=ME s hs;have h1:aC G0 qK (ST [(0,.sl .no 3 (tks g)),(3,.sl (mdR b) 3 (tks o)),(4,.int .i64 i),(5,.sl .full 1 []),(9,.bool true),(15,.bool false)] [] [])=aC G0 qK (ST [(0,.sl .no 3 (tks g)),(3,.sl (mdR b) 3 (tks o)),(4,.int .i64 ((i+1:Nat):Int)),(5,.sl .own 1 (aM s)),(9,.bool true),(15,.bool false)] [] []):=by
  conv=>lhs;rw[aA (L:=qK) rfl]
  simp only[go_sem,aE,h4,h0,hr,hw,ha]
 rw[h1];by_cases q:i+1 < g.length
 ·have hg2:g[i+1]?=some g[i+1]:=getElem?_eq_getElem q
  have hne:=hn _ hg2;generalize g[i+1]=Y at hg2 hne;have hr2:=bU hg2;have h4':((i+1:Nat):Int) < (g.length:Int):=by omega
  have h0':(0:Int)<=((i+1:Nat):Int):=by omega
  rw[aA (L:=qK) rfl];simp only[go_sem,aE,h4',h0',Int.toNat_natCast,hr2,hne]
 ·have h4':¬ ((i+1:Nat):Int) < (g.length:Int):=by omega
  rw[aA (L:=qK) rfl];simp only[go_sem,aE,h4']
theorem l99 (g:List Tk) (hl:g.length<=100000) (hv:VL g) (hb:∀ t∈g,t.2.1.length<=1000000):∀ (k i:Nat) (b:Bool),i+k=g.length ->
  ∃ b',aC G0 vG (ST [(0,.sl .no 3 (tks g)),(3,.sl (mdR b) 3 (tks (g.take i))),(4,.int .i64 i)] [] [])=some (.ex 0,ST [(0,.sl .no 3 (tks g)),(3,.sl (mdR b') 3 (tks g)),(4,.int .i64 g.length),(9,.bool false)] [] [])
 | 0,i,b,h=>by
  have:i=g.length:=by omega
  subst this;refine⟨b,?_⟩;rw[take_length];rw[aA (L:=vG) rfl];simp only[go_sem,aE,Int.lt_irrefl]
 | k+1,i,b,h=>by
  have hi:i < g.length:=by omega
  have h4:(i:Int) < (g.length:Int):=by omega
  have h0:(0:Int)<=(i:Int):=by omega
  have hw:=wI (i:=i) (by omega)
  have hg:g[i]?=some g[i]:=getElem?_eq_getElem hi;have hm:=hb _ (getElem_mem hi);generalize g[i]=T at hg hm;have hr:=bU hg;have hts:=mI hg;have hc:=D3 hv hg;obtain⟨kk,s,id⟩:=T;simp only[] at hr hm;have e1:mdR true=.own:=rfl;have htl:(g.take i).length<=1000000:=by rw[length_take];omega
  obtain⟨b',ih⟩:=l99 g hl hv hb k (i+1) true (by omega);refine⟨b',?_⟩;rw[hts,e1] at ih;by_cases hk:kk=1
  ·subst hk
   obtain⟨q1,q2,q3⟩:=(fU (x:=(1,s,id)) rfl).1 hc;simp only[] at q1 q2;subst q2;have hn:∀ y,g[i+1]?=some y->y.1≠1:=by
    intro y hy he;have hc2:=D3 hv hy
    have:=((fU he).1 hc2).2.2
    rw[hts,dH] at this;exact this rfl
   have h99:=UQ g (by omega) b (g.take i) i s 0 hg hm hn;have ha:=m7 b (g.take i) (1,s,0) htl;simp only[] at ha;have hp:=B9 q1;have hbb:=jE s;rw[aA (L:=vG) rfl];simp only[go_sem,aE,h4,h0,hr,h99,dX,hp,hbb,ha,cE];exact ih
  ·have ha:=m7 b (g.take i) (kk,s,id) htl
   simp only[] at ha;rw[aA (L:=vG) rfl];simp only[go_sem,aE,h4,h0,hr,hw,hk,ha,cE];exact ih
theorem c99 (g:List Tk) (hl:g.length<=100000) (hv:VL g) (hb:∀ t∈g,t.2.1.length<=1000000):G0 84 [.sl .no 3 (tks g)] []=some (.sl .no 3 (tks g),[]):=by
 obtain⟨b',x⟩:=l99 g hl hv hb g.length 0 false (by omega);have ec:((0:Nat):Int)=0:=rfl;have e2:mdR false=.full:=rfl;rw[take_zero,dZ,ec,e2] at x;refine aB F84 rfl rfl rfl ?_;simp only[F84,go_sem,x,cE,fJ]
end Go.Av
namespace Go.Av
open Go.Nt
abbrev Im:=List (Int × Int)
def mgI:Im->Int->Option Int
 | [],_=>none
 | (k,y) :: r,i=>if i=k then some y else mgI r i
def msI:Im->Int->Int->Im
 | [],i,x=>[(i,x)]
 | (k,y) :: r,i,x=>if i=k then (i,x) :: r else (k,y) :: msI r i x
theorem IU:∀ (m:Im) (i x j:Int),mgI (msI m i x) j=if j=i then some x else mgI m j
 | [],i,x,j=>by simp [msI,mgI]
 | (k,y) :: r,i,x,j=>by
  have ih:=IU r i x j;by_cases h:i=k
  ·subst h
   simp only[msI,if_true,mgI];by_cases h2:j=i<;>simp [h2]
  ·simp only[msI,if_neg h,mgI]
   by_cases h2:j=k
   ·subst h2;simp [Ne.symm h]
   ·simp only[h2,if_false,ih]
def imr (m:Im):List (List AV):=m.map fun p=>[.int .i64 p.1,.int .i64 p.2]
theorem CS (i:Int):∀ m:Im,lkA [0] (.int .i64 i) (imr m)=some ((mgI m i).map (AV.int .i64))
 | []=>rfl
 | (k,y) :: r=>by
  have ih:=CS i r;have e:imr ((k,y) :: r)=[.int .i64 k,.int .i64 y] :: imr r:=rfl;rw[e];simp only[lkA,iI,eqL,if_true,Option.map_some,Bool.and_true,mgI];by_cases h:i=k
  ·subst h;simp
  ·have:(i == k)=false:=by simpa using h
   simp only[this,h,if_false,ih]
theorem CJ (i x:Int):∀ m:Im,muA [0] (.int .i64 i) (.int .i64 x) (imr m)=some (imr (msI m i x))
 | []=>rfl
 | (k,y) :: r=>by
  have ih:=CJ i x r;have e:imr ((k,y) :: r)=[.int .i64 k,.int .i64 y] :: imr r:=rfl;rw[e];simp only[muA,iI,eqL,if_true,Option.map_some,Bool.and_true,msI];by_cases h:i=k
  ·subst h;simp [imr]
  ·have:(i == k)=false:=by simpa using h
   simp only[this,h,if_false,ih,Option.map_some];rfl
theorem IV (v:AV):lkR true false [.int .i64 0] (some v)=some (.tup [v,.bool true]):=rfl
theorem IW:lkR true false [.int .i64 0] none=some (.tup [.int .i64 0,.bool false]):=rfl
theorem uK {fr to1:List Int} {k:Nat} {a b:Int} (h1:fr[k]?=some a) (h2:to1[k]?=some b) (i:Int):lkz (fr.drop k) (to1.drop k) i=if a=i then some b else lkz (fr.drop (k+1)) (to1.drop (k+1)) i:=by
 have e1:k < fr.length:=by
  by_cases q:k < fr.length
  ·exact q
  ·rw[getElem?_eq_none (by omega)] at h1;cases h1
 have e2:k < to1.length:=by
  by_cases q:k < to1.length
  ·exact q
  ·rw[getElem?_eq_none (by omega)] at h2;cases h2
 rw[getElem?_eq_getElem e1] at h1;rw[getElem?_eq_getElem e2] at h2;simp only[Option.some.injEq] at h1 h2;rw[drop_eq_getElem_cons e1,drop_eq_getElem_cons e2,h1,h2];rfl
theorem pI {fr to1:List Int} {k:Nat} (h:fr.length<=k\/to1.length<=k) (i:Int):lkz (fr.drop k) (to1.drop k) i=none:=by
 rcases h with h | h
 ·rw[drop_of_length_le h];rfl
 ·rw[drop_of_length_le h]
  cases fr.drop k<;>rfl
theorem l72 (a0:AV) (ha0:∀ k,aS k a0=a0) (fr to1:List Int) (h1:fr.length=to1.length) (hl:fr.length<=1000000):∀ (k:Nat) (m:Im),k<=fr.length->(∀ i,mgI m i=lkz (fr.drop k) (to1.drop k) i) ->
  ∃ m',(∀ i,mgI m' i=lkz fr to1 i)/\aC G0 yZ (ST [(0,a0),(1,.sl .no 1 (bC fr)),(2,.sl .no 1 (bC to1)),(7,.mp 0),(8,.int .i64 ((k:Int) - 1))] [] [[.mapv (imr m)]])=some (.ex 0,ST [(0,a0),(1,.sl .no 1 (bC fr)),(2,.sl .no 1 (bC to1)),(7,.mp 0),(8,.int .i64 (-1)),(22,.bool false)] [] [[.mapv (imr m')]])
 | 0,m,hk,hm=>by
  refine⟨m,by simpa using hm,?_⟩;have e:((0:Nat):Int) - 1 = -1:=rfl;rw[e,aA (L:=yZ) rfl];simp only[go_sem,ha0]
 | k+1,m,hk,hm=>by
  have e:((k+1:Nat):Int) - 1=(k:Int):=by omega
  have h0:(0:Int)<=(k:Int):=by omega
  have hw:IntKind.i64.wrap ((k:Int) - 1)=(k:Int) - 1:=w64 (by omega) (by omega);have g1:fr[k]?=some fr[k]:=getElem?_eq_getElem (by omega);have g2:to1[k]?=some to1[k]:=getElem?_eq_getElem (by omega);generalize fr[k]=a at g1;generalize to1[k]=b at g2;have r1:=gC g1;have r2:=gC g2;have hmu:=CJ a b m
  obtain⟨m',q1,q2⟩:=l72 a0 ha0 fr to1 h1 hl k (msI m a b) (by omega) (fun i=>by
   rw[IU,uK g1 g2,hm];by_cases q:i=a
   ·subst q;simp
   ·rw[if_neg q,if_neg (Ne.symm q)])
  refine⟨m',q1,?_⟩;rw[e,aA (L:=yZ) rfl];simp only[go_sem,ha0,h0,r1,r2,pG,hmu,hw];exact q2
theorem xM {fr to1:List Int} {k:Int} {s:Bs} {i:Int} (h:aW (k,s,i)=false):iO fr to1 (k,s,i)=some (k,s,i):=by unfold iO;rw[h];rfl
theorem B3 {fr to1:List Int} {k:Int} {s:Bs} {i v:Int} (h:aW (k,s,i)=true) (h2:lkz fr to1 i=some v):iO fr to1 (k,s,i)=some (k,s,v):=by unfold iO;rw[if_pos h,h2];rfl
theorem B4 {fr to1:List Int} {k:Int} {s:Bs} {i:Int} (h:aW (k,s,i)=true) (h2:lkz fr to1 i=none):iO fr to1 (k,s,i)=none:=by unfold iO;rw[if_pos h,h2];rfl
theorem o6 (fr to1:List Int) (x:Tk) (f:List Tk):fO fr to1 (x :: f)=(match iO fr to1 x with | some y=>[y] | none=>[])++fO fr to1 f:=by
 unfold fO;rw[filterMap_cons]
 cases iO fr to1 x<;>rfl
theorem GO (f:List Tk) (hf:f.length<=100000) (a1 a2:AV) (s1:∀ k,aS k a1=a1) (s2:∀ k,aS k a2=a2) (fr to1:List Int) (m:Im) (hm:∀ i,mgI m i=lkz fr to1 i):∀ (k i:Nat) (b:Bool) (o:List Tk),i+k=f.length->o.length<=i ->
  ∃ b',aC G0 rT (ST [(1,a1),(2,a2),(7,.mp 0),(8,.int .i64 (-1)),(9,.sl (mdR b) 3 (tks o)),(22,.bool false),(34,.sl .no 3 (tks f)),(35,.int .i64 f.length),(36,.int .i64 i)] [] [[.mapv (imr m)]])=some (.ex 2,ST [(1,a1),(2,a2),(7,.mp 0),(8,.int .i64 (-1)),(9,.sl (mdR b') 3 (tks (o++fO fr to1 (f.drop i)))),(22,.bool false),(34,.sl .no 3 (tks f)),(35,.int .i64 f.length),(36,.int .i64 f.length),(37,.bool false)] [] [[.mapv (imr m)]])
 | 0,i,b,o,h,ho=>by
  have:i=f.length:=by omega
  subst this;refine⟨b,?_⟩;have e:fO fr to1 (f.drop f.length)=[]:=by rw[drop_length];rfl
  rw[e,append_nil];rw[aA (L:=rT) rfl];simp only[go_sem,s1,s2,Int.lt_irrefl]
 | k+1,i,b,o,h,ho=>by
  have hi:i < f.length:=by omega
  have h4:(i:Int) < (f.length:Int):=by omega
  have h0:(0:Int)<=(i:Int):=by omega
  have hw:=wI (i:=i) (by omega)
  have hg:f[i]?=some f[i]:=getElem?_eq_getElem hi;have hd:f.drop i=f[i] :: f.drop (i+1):=drop_eq_getElem_cons hi;generalize f[i]=T at hg hd;have hr:=bU hg;obtain⟨kk,s,id⟩:=T;simp only[] at hr;have c69:=c69 kk s id;have hlk:=CS id m;rw[hm] at hlk;have e1:mdR true=.own:=rfl;rw[hd,o6];cases ht:aW (kk,s,id) with
  | false =>
   rw[ht] at c69;rw[xM ht];have ha:=m7 b o (kk,s,id) (by omega);simp only[] at ha;obtain⟨b',ih⟩:=GO f hf a1 a2 s1 s2 fr to1 m hm k (i+1) true (o++[(kk,s,id)]) (by omega) (by simp;omega);refine⟨b',?_⟩;rw[e1] at ih;rw[aA (L:=rT) rfl];simp only[go_sem,s1,s2,h4,h0,hr,hw,c69,ha,cE];rw[append_assoc] at ih;exact ih
  | true =>
   rw[ht] at c69;cases hz:lkz fr to1 id with
   | none =>
    rw[hz] at hlk;simp only[Option.map_none] at hlk;rw[B4 ht hz];obtain⟨b',ih⟩:=GO f hf a1 a2 s1 s2 fr to1 m hm k (i+1) b o (by omega) (by omega);refine⟨b',?_⟩;rw[aA (L:=rT) rfl];simp only[go_sem,s1,s2,h4,h0,hr,hw,c69,pG,hlk,IW,nil_append];exact ih
   | some v =>
    rw[hz] at hlk;simp only[Option.map_some] at hlk;rw[B3 ht hz];have ha:=m7 b o (kk,s,v) (by omega);simp only[] at ha;obtain⟨b',ih⟩:=GO f hf a1 a2 s1 s2 fr to1 m hm k (i+1) true (o++[(kk,s,v)]) (by omega) (by simp;omega);refine⟨b',?_⟩;rw[e1] at ih;rw[aA (L:=rT) rfl];simp only[go_sem,s1,s2,h4,h0,hr,hw,c69,pG,hlk,IV,ha,cE];rw[append_assoc] at ih;exact ih
theorem c72 (f:List Tk) (hf:f.length<=100000) (fr to1:List Int) (h1:fr.length=to1.length) (hl:fr.length<=1000000) (hv:VL (fO fr to1 f)) (hr:(fO fr to1 f).length<=100000) (hb:∀ t∈fO fr to1 f,t.2.1.length<=1000000):G0 68 [.sl .no 3 (tks f),.sl .no 1 (bC fr),.sl .no 1 (bC to1)] []=some (.sl .no 3 (tks (fO fr to1 f)),[]):=by
 obtain⟨m',q1,q2⟩:=l72 (.sl .no 3 (tks f)) (fun _=>rfl) fr to1 h1 hl fr.length [] (Nat.le_refl _) (fun i=>by rw[pI (.inl (Nat.le_refl _))];rfl);obtain⟨b',q3⟩:=GO f hf (.sl .no 1 (bC fr)) (.sl .no 1 (bC to1)) (fun _=>rfl) (fun _=>rfl) fr to1 m' q1 f.length 0 false [] (by omega) (by simp);have ec:((0:Nat):Int)=0:=rfl;have e2:mdR false=.full:=rfl;have e3:imr []=[]:=rfl;rw[drop_zero,ec,e2,dZ,nil_append] at q3;rw[e3] at q2;have h99:=c99 (fO fr to1 f) hr hv hb;have hl1:(bC fr).length=(bC to1).length:=by rw[aU,aU,h1]
 have hmin:min (fr.length:Int) (fr.length:Int)=(fr.length:Int):=by omega
 have hw:IntKind.i64.wrap ((fr.length:Int) - 1)=(fr.length:Int) - 1:=w64 (by omega) (by omega);have hsd:∀ q,cZ [] q=true:=fun _=>rfl
 refine aB F68 rfl rfl rfl ?_;simp only[F68,go_sem,<- hl1,aU,hmin,hw,q2,aE,q3,cE,fJ,h99,hsd]
theorem sA {f:List Tk}:∀ t∈f,t.2.1.length<=tot f:=by
 induction f with
 | nil=>intro t ht;cases ht
 | cons a f ih =>
  intro t ht;rw[cC];rcases mem_cons.1 ht with rfl | h
  ·omega
  ·have:=ih t h;omega
theorem nY (fr to1:List Int):∀ f:List Tk,(fO fr to1 f).length<=f.length/\tot (fO fr to1 f)<=tot f
 | []=>by simp [fO]
 | x :: f=>by
  have ih:=nY fr to1 f;rw[o6,dY,cC,length_append,length_cons]
  have:∀ y,iO fr to1 x=some y->y.2.1=x.2.1:=by
   intro y hy;unfold iO at hy
   split at hy
   ·obtain⟨v,_,rfl⟩:=Option.map_eq_some_iff.1 hy;rfl
   ·cases hy;rfl
  cases hx:iO fr to1 x with
  | none=>simp only[length_nil,dL];omega
  | some y =>
   have:=this y hx
   simp only[length_singleton,cC,dL,this];omega
theorem nU {f:List Tk} (h:vld f=0):tot f<=40000/\f.length<=512:=by
 obtain⟨h1,h2,h3⟩:=(fE f).1 h;have key:∀ (n:Nat) (f:List Tk),f.length=n->VL f->tot f<=len f+64*f.length:=by
  intro n
  induction n with
  | zero=>intro f hf _;rw[eq_nil_of_length_eq_zero hf];simp [tot]
  | succ n ih =>
   intro f hf hv;rcases d5 f with rfl | ⟨g,y,rfl⟩
   ·simp [tot]
   ·obtain⟨a,b⟩:=(cU g y).1 hv
    have h1:=ih g (by simp at hf;exact hf) a;have h2:y.2.1.length<=wid y+64:=by
     obtain⟨k,s,i⟩:=y;rcases pY b with ⟨rfl,_⟩ | ⟨h64,_⟩
     ·have:wid (1,s,i)=s.length:=rfl
      simp only[];omega
     ·simp only[];omega
    rw[dY,cC,dL,iB,jM,length_append,length_singleton];omega
 have:=key _ f rfl h1
 omega
theorem c47 (f:List Tk) (h:vld f=0):G0 43 [.sl .no 3 (tks f)] []=some (.sl .no 3 (tks (rnm f)),[]):=by
 obtain⟨h1,h2⟩:=nU h;have hn:=pB f;have h71:=c71 f (by omega);have h73:=c73 (cL f).length (by omega);obtain⟨t1,t2⟩:=nY (cL f) (fL (cL f).length) f;have h72:=c72 f (by omega) (cL f) (fL (cL f).length) (by rw[kV]) (by omega) ((fE _).1 (xJ h)).1 (by omega) (fun t ht=>by have:=sA t ht;omega);have er:fO (cL f) (fL (cL f).length) f=rnm f:=rfl;rw[er] at h72;refine aB F43 rfl rfl rfl ?_;simp only[F43,go_sem,h71,aU,h73,h72]
theorem l66 (l:List Int) (hl:l.length<=1000000) (x:Int):∀ (k i:Nat),i+k=l.length ->
  (x ∉ l.drop i->∃ l',aC G0 nL (ST [(0,.sl .no 1 (bC l)),(1,.int .i64 x),(7,.int .i64 l.length),(8,.int .i64 i)] [] [])=some (.ex 0,ST l' [] [])) /\
  (x∈l.drop i->∃ l',aC G0 nL (ST [(0,.sl .no 1 (bC l)),(1,.int .i64 x),(7,.int .i64 l.length),(8,.int .i64 i)] [] [])=some (.ret,ST l' [] [])/\aF .any l' 4=.bool true)
 | 0,i,h=>by
  have:i=l.length:=by omega
  subst this;refine⟨fun _=>?_,fun h=>(by simp at h)⟩;refine Exists.intro ?_ ?_
  rotate_left 1
  rw[aA (L:=nL) rfl];simp only[go_sem,Int.lt_irrefl];rfl
 | k+1,i,h=>by
  have hi:i < l.length:=by omega
  have h4:(i:Int) < (l.length:Int):=by omega
  have h0:(0:Int)<=(i:Int):=by omega
  have hw:=wI (i:=i) (by omega)
  have hg:l[i]?=some l[i]:=getElem?_eq_getElem hi;have hd:l.drop i=l[i] :: l.drop (i+1):=drop_eq_getElem_cons hi;generalize l[i]=a at hg hd;have hr:=gC hg;have ih:=l66 l hl x k (i+1) (by omega);rw[hd];by_cases q:a=x
  ·subst q
   refine⟨fun q=>absurd (mem_cons_self ..) q,fun _=>?_⟩;refine Exists.intro ?_ (And.intro ?_ ?_)
   rotate_left 1
   ·rw[aA (L:=nL) rfl]
    simp only[go_sem,h4,h0,hr,hw];rfl
   ·rfl
  ·have step:aC G0 nL (ST [(0,.sl .no 1 (bC l)),(1,.int .i64 x),(7,.int .i64 l.length),(8,.int .i64 i)] [] [])=aC G0 nL (ST [(0,.sl .no 1 (bC l)),(1,.int .i64 x),(7,.int .i64 l.length),(8,.int .i64 ((i+1:Nat):Int))] [] []):=by
    conv=>lhs;rw[aA (L:=nL) rfl]
    simp only[go_sem,h4,h0,hr,hw,q]
   rw[step];have em:(x∈a :: l.drop (i+1))↔x∈l.drop (i+1):=by simp [Ne.symm q]
   rw[em];exact ih
theorem c66 (l:List Int) (hl:l.length<=1000000) (x:Int):G0 30 [.sl .no 1 (bC l),.int .i64 x] []=some (.bool (decide (x∈l)),[]):=by
 obtain⟨x1,x2⟩:=l66 l hl x l.length 0 (by omega);have ec:((0:Nat):Int)=0:=rfl;rw[drop_zero,ec] at x1 x2;refine aB F30 rfl rfl rfl ?_;by_cases h:x∈l
 ·rw[decide_eq_true h]
  obtain⟨l',y1,y2⟩:=x2 h;simp only[F30,go_sem,aU,y1,y2]
 ·rw[decide_eq_false h]
  obtain⟨l',y1⟩:=x1 h;simp only[F30,go_sem,aU,y1,dQ,eD,not_mem_nil,if_true,if_false]
theorem l44 (f:List Tk) (hf:f.length<=100000):∀ (k i:Nat) (b:Bool) (l:List Int),i+k=f.length->l.length<=i ->
  ∃ b',aC G0 r6 (ST [(0,.sl .no 3 (tks f)),(3,.sl (mdR b) 1 (bC l)),(6,.int .i64 f.length),(7,.int .i64 i)] [] [])=some (.ex 0,ST [(0,.sl .no 3 (tks f)),(3,.sl (mdR b') 1 (bC ((f.drop i).foldl fA l))),(6,.int .i64 f.length),(7,.int .i64 f.length),(8,.bool false)] [] [])
 | 0,i,b,l,h,hl=>by
  have:i=f.length:=by omega
  subst this;refine⟨b,?_⟩;rw[drop_length,foldl_nil];rw[aA (L:=r6) rfl];simp only[go_sem,Int.lt_irrefl]
 | k+1,i,b,l,h,hl=>by
  have hi:i < f.length:=by omega
  have h4:(i:Int) < (f.length:Int):=by omega
  have h0:(0:Int)<=(i:Int):=by omega
  have hw:=wI (i:=i) (by omega)
  have hg:f[i]?=some f[i]:=getElem?_eq_getElem hi;have hd:f.drop i=f[i] :: f.drop (i+1):=drop_eq_getElem_cons hi;generalize f[i]=T at hg hd;have hr:=bU hg;obtain⟨kk,s,id⟩:=T;simp only[] at hr;have c65:=c65 kk s id;have h66:=c66 l (by omega) id;have e1:mdR true=.own:=rfl;rw[hd,foldl_cons];cases ht:aW (kk,s,id) with
  | false =>
   rw[ht] at c65;rw[tD (.inl ht)];obtain⟨b',ih⟩:=l44 f hf k (i+1) b l (by omega) (by omega);refine⟨b',?_⟩;rw[aA (L:=r6) rfl];simp only[go_sem,h4,h0,hr,hw,c65];exact ih
  | true =>
   rw[ht] at c65;by_cases hm:id∈l
   ·rw[decide_eq_true hm] at h66
    rw[tD (.inr hm)];obtain⟨b',ih⟩:=l44 f hf k (i+1) b l (by omega) (by omega);refine⟨b',?_⟩;rw[aA (L:=r6) rfl];simp only[go_sem,h4,h0,hr,hw,c65,cE,sE,h66];exact ih
   ·rw[decide_eq_false hm] at h66
    rw[DZ ht hm];have ha:=u7 b l id (by omega);obtain⟨b',ih⟩:=l44 f hf k (i+1) true (l++[id]) (by omega) (by simp;omega);refine⟨b',?_⟩;rw[e1] at ih;rw[aA (L:=r6) rfl];simp only[go_sem,h4,h0,hr,hw,c65,cE,sE,h66,ha];exact ih
theorem c44 (f:List Tk) (hf:f.length<=100000):G0 16 [.sl .no 3 (tks f)] []=some (.sl .no 1 (bC (cL f)),[]):=by
 obtain⟨b',x⟩:=l44 f hf f.length 0 false [] (by omega) (by simp);have ec:((0:Nat):Int)=0:=rfl;have e2:mdR false=.full:=rfl;rw[drop_zero,ec,e2,pP] at x;have en:f.foldl fA []=cL f:=rfl;rw[en] at x;refine aB F16 rfl rfl rfl ?_;simp only[F16,go_sem,aE,x,cE,fJ]
end Go.Av
namespace Go.Av
open Go.Nt
theorem P3 (f:List Tk) (fr to1:List Int) (hfr:fr.length<=1000000) (hto:to1.length<=1000000) (o:List Tk) (ho:o.length<=1000000) (b:Bool) (kk:Int) (s:Bs) (id:Int) (n i:Int):∀ (g k:Nat),fr.length<=k+g ->
  (∀ v,lkz (fr.drop k) (to1.drop k) id=some v->aC G0 mH (ST [(0,.sl .no 3 (tks f)),(1,.sl .no 1 (bC fr)),(2,.sl .no 1 (bC to1)),(7,.sl (mdR b) 3 (tks o)),(9,.loc 9 0),(10,.int .i64 k),(12,.int .i64 n),(13,.int .i64 i),(14,.bool true),(22,.bool false)] [(9,some [.int .i64 kk,.str s,.int .i64 id])] [])=some (.ex 2,ST [(0,.sl .no 3 (tks f)),(1,.sl .no 1 (bC fr)),(2,.sl .no 1 (bC to1)),(7,.sl .own 3 (tks (o++[(kk,s,v)]))),(12,.int .i64 n),(13,.int .i64 i),(14,.bool true),(22,.bool false),(36,.bool true),(45,.bool true)] [] [])) /\
  (lkz (fr.drop k) (to1.drop k) id=none->∃ K:Int,aC G0 mH (ST [(0,.sl .no 3 (tks f)),(1,.sl .no 1 (bC fr)),(2,.sl .no 1 (bC to1)),(7,.sl (mdR b) 3 (tks o)),(9,.loc 9 0),(10,.int .i64 k),(12,.int .i64 n),(13,.int .i64 i),(14,.bool true),(22,.bool false)] [(9,some [.int .i64 kk,.str s,.int .i64 id])] [])=some (.ex 2,ST [(0,.sl .no 3 (tks f)),(1,.sl .no 1 (bC fr)),(2,.sl .no 1 (bC to1)),(7,.sl (mdR b) 3 (tks o)),(9,.loc 9 0),(10,.int .i64 K),(12,.int .i64 n),(13,.int .i64 i),(14,.bool true),(22,.bool false),(36,.bool false)] [(9,some [.int .i64 kk,.str s,.int .i64 id])] []))
 | g,k,hg=>by
  have h0:(0:Int)<=(k:Int):=by omega
  by_cases h1:fr.length<=k
  ·have h1':¬ (k:Int) < (fr.length:Int):=by omega
   refine⟨fun v hv=>(by rw[pI (.inl h1)] at hv;cases hv),fun _=>⟨(k:Int),?_⟩⟩;rw[aA (L:=mH) rfl];simp only[go_sem,aU,h1']
  have h1':(k:Int) < (fr.length:Int):=by omega
  by_cases h2:to1.length<=k
  ·have h2':¬ (k:Int) < (to1.length:Int):=by omega
   refine⟨fun v hv=>(by rw[pI (.inr h2)] at hv;cases hv),fun _=>⟨(k:Int),?_⟩⟩;rw[aA (L:=mH) rfl];simp only[go_sem,aU,h1',h2']
  have h2':(k:Int) < (to1.length:Int):=by omega
  cases g with
  | zero=>omega
  | succ g =>
   have hw:IntKind.i64.wrap ((k:Int)+1)=((k+1:Nat):Int):=by rw[w64 (by omega) (by omega)];rfl
   have g1:fr[k]?=some fr[k]:=getElem?_eq_getElem (by omega);have g2:to1[k]?=some to1[k]:=getElem?_eq_getElem (by omega);generalize fr[k]=a at g1;generalize to1[k]=c at g2;have r1:=gC g1;have r2:=gC g2;have ih:=P3 f fr to1 hfr hto o ho b kk s id n i g (k+1) (by omega);rw[uK g1 g2];by_cases hq:a=id
   ·subst hq
    rw[if_pos rfl];refine⟨fun v hv=>?_,fun q=>(by cases q)⟩;cases hv;have ha:=m7 b o (kk,s,c) ho;simp only[] at ha;rw[aA (L:=mH) rfl];simp only[go_sem,aU,h0,h1',h2',r1,r2,cE,ha]
   ·rw[if_neg hq]
    have step:aC G0 mH (ST [(0,.sl .no 3 (tks f)),(1,.sl .no 1 (bC fr)),(2,.sl .no 1 (bC to1)),(7,.sl (mdR b) 3 (tks o)),(9,.loc 9 0),(10,.int .i64 k),(12,.int .i64 n),(13,.int .i64 i),(14,.bool true),(22,.bool false)] [(9,some [.int .i64 kk,.str s,.int .i64 id])] [])=aC G0 mH (ST [(0,.sl .no 3 (tks f)),(1,.sl .no 1 (bC fr)),(2,.sl .no 1 (bC to1)),(7,.sl (mdR b) 3 (tks o)),(9,.loc 9 0),(10,.int .i64 ((k+1:Nat):Int)),(12,.int .i64 n),(13,.int .i64 i),(14,.bool true),(22,.bool false)] [(9,some [.int .i64 kk,.str s,.int .i64 id])] []):=by
     conv=>lhs;rw[aA (L:=mH) rfl]
     simp only[go_sem,aU,h0,h1',h2',r1,r2,hq,hw]
    rw[step];exact ih
theorem l43 (f:List Tk) (hf:f.length<=100000) (fr to1:List Int) (hfr:fr.length<=1000000) (hto:to1.length<=1000000):∀ (k i:Nat) (b:Bool) (o:List Tk),i+k=f.length->o.length<=i ->
  ∃ b',aC G0 r7 (ST [(0,.sl .no 3 (tks f)),(1,.sl .no 1 (bC fr)),(2,.sl .no 1 (bC to1)),(7,.sl (mdR b) 3 (tks o)),(12,.int .i64 f.length),(13,.int .i64 i)] [] [])=some (.ex 0,ST [(0,.sl .no 3 (tks f)),(1,.sl .no 1 (bC fr)),(2,.sl .no 1 (bC to1)),(7,.sl (mdR b') 3 (tks (o++fO fr to1 (f.drop i)))),(12,.int .i64 f.length),(13,.int .i64 f.length),(14,.bool false)] [] [])
 | 0,i,b,o,h,ho=>by
  have:i=f.length:=by omega
  subst this;refine⟨b,?_⟩;have e:fO fr to1 (f.drop f.length)=[]:=by rw[drop_length];rfl
  rw[e,append_nil];rw[aA (L:=r7) rfl];simp only[go_sem,Int.lt_irrefl]
 | k+1,i,b,o,h,ho=>by
  have hi:i < f.length:=by omega
  have h4:(i:Int) < (f.length:Int):=by omega
  have h0:(0:Int)<=(i:Int):=by omega
  have hw:=wI (i:=i) (by omega)
  have hg:f[i]?=some f[i]:=getElem?_eq_getElem hi;have hd:f.drop i=f[i] :: f.drop (i+1):=drop_eq_getElem_cons hi;generalize f[i]=T at hg hd;have hr:=bU hg;obtain⟨kk,s,id⟩:=T;simp only[] at hr;have c65:=c65 kk s id;have e1:mdR true=.own:=rfl;rw[hd,o6];cases ht:aW (kk,s,id) with
  | false =>
   rw[ht] at c65;rw[xM ht];have ha:=m7 b o (kk,s,id) (by omega);simp only[] at ha;obtain⟨b',ih⟩:=l43 f hf fr to1 hfr hto k (i+1) true (o++[(kk,s,id)]) (by omega) (by simp;omega);refine⟨b',?_⟩;rw[e1] at ih;rw[aA (L:=r7) rfl];simp only[go_sem,h4,h0,hr,hw,c65,ha,cE];rw[append_assoc] at ih;exact ih
  | true =>
   rw[ht] at c65;obtain⟨x1,x2⟩:=P3 f fr to1 hfr hto o (by omega) b kk s id (f.length:Int) (i:Int) fr.length 0 (by omega);have ec:((0:Nat):Int)=0:=rfl;rw[drop_zero,drop_zero,ec] at x1 x2;cases hz:lkz fr to1 id with
   | none =>
    obtain⟨K,x⟩:=x2 hz;rw[B4 ht hz];obtain⟨b',ih⟩:=l43 f hf fr to1 hfr hto k (i+1) b o (by omega) (by omega);refine⟨b',?_⟩;rw[aA (L:=r7) rfl];simp only[go_sem,h4,h0,hr,hw,c65,x,nil_append];exact ih
   | some v =>
    have x:=x1 v hz;rw[B3 ht hz];obtain⟨b',ih⟩:=l43 f hf fr to1 hfr hto k (i+1) true (o++[(kk,s,v)]) (by omega) (by simp;omega);refine⟨b',?_⟩;rw[e1] at ih;rw[aA (L:=r7) rfl];simp only[go_sem,h4,h0,hr,hw,c65,x];rw[append_assoc] at ih;exact ih
theorem c43 (f:List Tk) (hf:f.length<=100000) (hft:tot f<=1000000) (fr to1:List Int) (hfr:fr.length<=1000000) (hto:to1.length<=1000000):G0 15 [.sl .no 3 (tks f),.sl .no 1 (bC fr),.sl .no 1 (bC to1)] []=some (.sl .no 3 (tks (nrm (fO fr to1 f))),[]):=by
 obtain⟨b',x⟩:=l43 f hf fr to1 hfr hto f.length 0 false [] (by omega) (by simp);have ec:((0:Nat):Int)=0:=rfl;have e2:mdR false=.full:=rfl;rw[drop_zero,ec,e2,dZ,nil_append] at x;obtain⟨t1,t2⟩:=nY fr to1 f;have h57:=c57 (fO fr to1 f) (by omega) (by omega);refine aB F15 rfl rfl rfl ?_;simp only[F15,go_sem,aE,x,cE,fJ,sE,h57]
theorem EC {f:List Tk} (h:vld f=0):∀ t∈f,t.2.1.length<=dW:=fun t ht=>by
 have:=sA t ht
 have:=(nU h).1
 simp only[dW];omega
theorem c20 (f:List Tk) (hl:f.length<=1000000) (hb:∀ t∈f,t.2.1.length<=dW):G0 25 [.sl .no 3 (tks f)] []=some (.str (nR f),[]):=by
 have h46:=c46 f hl hb;refine aB F25 rfl rfl rfl ?_;by_cases h:vld f=0
 ·have h47:=c47 f h
  have hv:=xJ h;have h32:=c32 (rnm f) (by have:=(nU hv).2;omega) (EC hv);have ek:nR f=fmt (rnm f):=by unfold nR;rw[if_pos h]
  have ef:HF (rnm f)=fmt (rnm f):=by unfold HF;rw[if_pos hv]
  rw[ef,<- ek] at h32;rw[h] at h46;simp only[F25,go_sem,h46,h47,h32]
 ·have ek:nR f=[]:=by unfold nR;rw[if_neg h]
  rw[ek];simp only[F25,go_sem,h46,h]
theorem l24 (a b:List Int) (hab:a.length=b.length) (ha:a.length<=1000000):∀ (k i:Nat),i+k=a.length ->
  (a.drop i=b.drop i->∃ l',aC G0 nO (ST [(0,.sl .no 1 (bC a)),(1,.sl .no 1 (bC b)),(10,.bool false),(12,.int .i64 a.length),(13,.int .i64 i)] [] [])=some (.ex 0,ST l' [] [])) /\
  (a.drop i≠b.drop i->∃ l',aC G0 nO (ST [(0,.sl .no 1 (bC a)),(1,.sl .no 1 (bC b)),(10,.bool false),(12,.int .i64 a.length),(13,.int .i64 i)] [] [])=some (.ret,ST l' [] [])/\aF .any l' 4=.bool false)
 | 0,i,h=>by
  have:i=a.length:=by omega
  subst this;refine⟨fun _=>?_,fun q=>absurd (by rw[drop_length,hab,drop_length]) q⟩;refine Exists.intro ?_ ?_
  rotate_left 1
  rw[aA (L:=nO) rfl];simp only[go_sem,Int.lt_irrefl];rfl
 | k+1,i,h=>by
  have hi:i < a.length:=by omega
  have h4:(i:Int) < (a.length:Int):=by omega
  have h0:(0:Int)<=(i:Int):=by omega
  have hw:=wI (i:=i) (by omega)
  have hg:a[i]?=some a[i]:=getElem?_eq_getElem hi;have hd:a.drop i=a[i] :: a.drop (i+1):=drop_eq_getElem_cons hi;generalize a[i]=T at hg hd;have hg2:b[i]?=some b[i]:=getElem?_eq_getElem (by omega);have hd2:b.drop i=b[i] :: b.drop (i+1):=drop_eq_getElem_cons (by omega);generalize b[i]=U at hg2 hd2;have hr:=gC hg;have hr2:=gC hg2;have ih:=l24 a b hab ha k (i+1) (by omega);rw[hd,hd2];by_cases hE:T=U
  ·subst hE
   have step:aC G0 nO (ST [(0,.sl .no 1 (bC a)),(1,.sl .no 1 (bC b)),(10,.bool false),(12,.int .i64 a.length),(13,.int .i64 i)] [] [])=aC G0 nO (ST [(0,.sl .no 1 (bC a)),(1,.sl .no 1 (bC b)),(10,.bool false),(12,.int .i64 a.length),(13,.int .i64 ((i+1:Nat):Int))] [] []):=by
    conv=>lhs;rw[aA (L:=nO) rfl]
    simp only[go_sem,h4,h0,hr,hr2,hw]
   rw[step];refine⟨fun q=>ih.1 (by injection q),fun q=>ih.2 (fun z=>q (by rw[z]))⟩
  ·refine⟨fun q=>absurd (by injection q) hE,fun _=>?_⟩
   refine Exists.intro ?_ (And.intro ?_ ?_)
   rotate_left 1
   ·rw[aA (L:=nO) rfl]
    simp only[go_sem,h4,h0,hr,hr2,hw,hE];rfl
   ·rfl
theorem c24 (a b:List Int) (ha:a.length<=1000000):G0 11 [.sl .no 1 (bC a),.sl .no 1 (bC b)] []=some (.bool (decide (a=b)),[]):=by
 refine aB F11 rfl rfl rfl ?_;by_cases hab:a.length=b.length
 ·have hab':(a.length:Int)=(b.length:Int):=by omega
  obtain⟨x1,x2⟩:=l24 a b hab ha a.length 0 (by omega);have ec:((0:Nat):Int)=0:=rfl;rw[drop_zero,drop_zero,ec] at x1 x2;rw[hab'] at x1 x2;by_cases h:a=b
  ·rw[decide_eq_true h]
   obtain⟨l',y⟩:=x1 h;simp only[F11,go_sem,aU,hab',y,dQ,eD,not_mem_nil,if_true,if_false]
  ·rw[decide_eq_false h]
   obtain⟨l',y1,y2⟩:=x2 h;simp only[F11,go_sem,aU,hab',y1,y2]
 ·have hab':¬ (a.length:Int)=(b.length:Int):=by omega
  have h:¬ a=b:=fun q=>hab (by rw[q])
  rw[decide_eq_false h];simp only[F11,go_sem,aU,hab']
abbrev Km:=List (Bs × Int)
def wA:Km->Bs->Option Int
 | [],_=>none
 | (k,y) :: r,s=>if s=k then some y else wA r s
def kmr (m:Km):List (List AV):=m.map fun p=>[.str p.1,.int .i64 p.2]
theorem CR (s:Bs):∀ m:Km,lkA [2] (.str s) (kmr m)=some ((wA m s).map (AV.int .i64))
 | []=>rfl
 | (k,y) :: r=>by
  have ih:=CR s r;have e:kmr ((k,y) :: r)=[.str k,.int .i64 y] :: kmr r:=rfl;rw[e];simp only[lkA,iI,eqL,if_true,Option.map_some,Bool.and_true,wA];by_cases h:s=k
  ·subst h;simp
  ·have:(s == k)=false:=by simpa using h
   simp only[this,h,if_false,ih]
theorem CI (s:Bs) (x:Int):∀ m:Km,wA m s=none->muA [2] (.str s) (.int .i64 x) (kmr m)=some (kmr (m++[(s,x)]))
 | [],_=>rfl
 | (k,y) :: r,h=>by
  simp only[wA] at h
  split at h
  ·cases h
  ·rename_i hne
   have ih:=CI s x r h;have e:kmr ((k,y) :: r)=[.str k,.int .i64 y] :: kmr r:=rfl;rw[e]
   have:(s == k)=false:=by simpa using hne
   simp only[muA,iI,eqL,if_true,Option.map_some,Bool.and_true,this,ih];rfl
def frs (L:List (List Tk)):List (List AV):=L.map fun f=>[.sl .no 3 (tks f)]
theorem oB (L:List (List Tk)):(frs L).length=L.length:=by simp [frs]
theorem sZ {L:List (List Tk)} {i:Nat} {f:List Tk} (h:L[i]?=some f):(frs L)[i]?=some [.sl .no 3 (tks f)]:=by simp [frs,h]
def kK:Km->Nat->List (List Tk)->List Int
 | _,_,[]=>[]
 | m,i,f :: r=>if vld f=0 then (match wA m (nR f) with
   | some k=>k :: kK m (i+1) r
   | none=>(i:Int) :: kK (m++[(nR f,(i:Int))]) (i+1) r) else (i:Int) :: kK m (i+1) r
def nA (f:List Tk):Prop:=f.length<=1000000/\∀ t∈f,t.2.1.length<=dW
def wF (L:List (List Tk)):List Int:=kK [] 0 L
end Go.Av
namespace Go.Av
open Go.Nt
def Rok (R:LL):Prop:=∀ (l:List Int) (n:Nat),eI false (R.length+1) (num l n :: R)=true
theorem sC (x:List AV) (R:LL):(x :: R).take (R.length+1)=x :: R:=by rw[take_succ_cons,take_length]
theorem m6 {R:LL} (hR:Rok R) (l:List Int) (n:Nat) (m:Int) (hn:n<=1000000) (h1:1<=m) (h2:m<=1000000):G0 13 [.ptr 0 0,.int .i64 m] (num l n :: R)=some (.int .i64 (nxt l n m),(num l (n+1) :: R)):=by
 refine aB F13 rfl rfl rfl ?_;have hw:IntKind.i64.wrap ((n:Int)+1)=((n+1:Nat):Int):=by rw[w64 (by omega) (by omega)];rfl
 have h0:(0:Int)<=(n:Int):=by omega
 have hnum:eI false (R.length+1) ([.sl .no 1 (bC l),.int .i64 ((n+1:Nat):Int)] :: R)=true:=hR l (n+1);have htk:=sC [.sl .no 1 (bC l),.int .i64 ((n+1:Nat):Int)] R;by_cases h3:n < l.length
 ·have h4:(n:Int) < (l.length:Int):=by omega
  have hr:=gC (l:=l) (i:=n) (x:=l.getD n 0) (by simp [getD_eq_getElem?_getD,h3]);simp only[F13,go_sem,num,aU,h4,h0,hr,hw,c18 _ m h1 h2,nxt,h3,hnum,htk]
 ·have h4:¬ (n:Int) < (l.length:Int):=by omega
  simp only[F13,go_sem,num,aU,h4,h0,hw,c18 _ m h1 h2,nxt,h3,hnum,htk]
theorem L3 {R:LL} (hR:Rok R) (l:List Int) (n:Nat) (hn:n<=1000000):G0 44 [.ptr 0 0] (num l n :: R)=some (.str (wd l n),(num l (n+1) :: R)):=by
 refine aB F44 rfl rfl rfl ?_;have hm:fY 1 [.str []] 24 [0,1,2,3,4,5,6,7,8,9,10,11,12,13,14,15,16,17,18,19,20,21,22,23] [.str [114,101,100],.str [99,97,114],.str [82,101,100],.str [97],.str [99,97,114,115],.str [49,44,53],.str [50,50],.str [100,111,110,39,116],.str [46],.str [33],.str [32],.str [32,32],.str [60],.str [38],.str [123],.str [34],.str [92],.str [120,45,121],.str [10],.str [61],.str [125],.str [62],.str [9],.str [98]]=some (.sl .full 1 (vO wds)):=by rfl
 have hb:=gL l n 24 (by omega);have h0:0<=nxt l n 24:=hb.1
 have hr:=w8 (l:=wds) (i:=(nxt l n 24).toNat) (s:=wd l n) (by
  unfold wd
  rw[getD_eq_getElem?_getD,getElem?_eq_getElem (by simp [wds];omega)];rfl)
 have hnum:=hR l (n+1);have htk:=sC (num l (n+1)) R;simp only[F44,go_sem,hm,m6 hR l n 24 hn (by decide) (by decide),h0,hr,hnum,htk]
theorem GP {R:LL} (hR:Rok R) (l:List Int):∀ (k n:Nat) (out:List UInt8),n+2*k<=1000000->out.length+6*k<=1000000 ->
  aC G0 rX (ST [(0,.ptr 0 0),(5,.str out),(6,.int .i64 k)] [] (num l n :: R))=some (.ex 0,ST [(0,.ptr 0 0),(5,.str (lnF l k n out).1),(6,.int .i64 0),(13,.bool false)] [] (num l (lnF l k n out).2 :: R))
 | 0,n,out,h1,h2=>by
  rw[aA (L:=rX) rfl];simp only[go_sem,Int.lt_irrefl,lnF]
 | k+1,n,out,h1,h2=>by
  have hk:(0:Int) < ((k+1:Nat):Int):=by omega
  have hw:IntKind.i64.wrap (((k+1:Nat):Int) - 1)=(k:Int):=by rw[w64 (by omega) (by omega)];omega
  have hl:=AW l n;by_cases h3:out=[]
  ·have ih:=GP hR l k (n+1) (out++wd l n) (by omega) (by rw[length_append];omega)
   have hc:out.length+(wd l n).length<=140737488355328:=by omega
   subst h3;rw[aA (L:=rX) rfl];simp only[go_sem,hk,L3 hR l n (by omega),hc,hw,lnF];simp only[length_nil] at hc;simp only[go_sem] at ih;have hc':(wd l n).length<=140737488355328:=by omega
   simp only[go_sem,hc',ih]
  ·have hne:(out != [])=true:=by simp [h3]
   have h24:=m6 hR l (n+1) 3 (by omega) (by decide) (by decide);by_cases h4:0 < nxt l (n+1) 3
   ·have ih:=GP hR l k (n+2) (out++[32]++wd l n) (by omega) (by simp only[length_append,length_cons,length_nil];omega)
    have hc:out.length+1<=140737488355328:=by omega
    have hc2:(out++[32]).length+(wd l n).length<=140737488355328:=by simp only[length_append,length_cons,length_nil];omega
    have e:lnF l (k+1) n out=lnF l k (n+2) (out++[32]++wd l n):=by simp only[lnF,h3,h4,if_true,if_false]
    rw[e,aA (L:=rX) rfl];simp only[go_sem,hk,L3 hR l n (by omega),hne,h24,h4,hc,hc2,hw];exact ih
   ·have ih:=GP hR l k (n+2) (out++wd l n) (by omega) (by simp only[length_append];omega)
    have hc:out.length+(wd l n).length<=140737488355328:=by omega
    have e:lnF l (k+1) n out=lnF l k (n+2) (out++wd l n):=by simp only[lnF,h3,h4,if_true,if_false]
    rw[e,aA (L:=rX) rfl];simp only[go_sem,hk,L3 hR l n (by omega),hne,h24,h4,hc,hw];exact ih
theorem VR {R:LL} (hR:Rok R) (l:List Int) (n:Nat) (m:Int) (hn:n<=900000) (h1:1<=m) (h2:m<=1000):G0 26 [.ptr 0 0,.int .i64 m] (num l n :: R)=some (.str (rH l n m).1,(num l (rH l n m).2 :: R)):=by
 refine aB F26 rfl rfl rfl ?_;have hb:=gL l n (m+1) (by omega);have hx:=GP hR l (nxt l n (m+1)).toNat (n+1) [] (by omega) (by simp only[length_nil];omega);have hc:(((nxt l n (m+1)).toNat:Nat):Int)=nxt l n (m+1):=by omega
 rw[hc] at hx;have hnum:∀ j,eI false (R.length+1) (num l j :: R)=true:=fun j=>hR l j
 simp only[F26,go_sem,take_length,w64 (n:=m+1) (by omega) (by omega),m6 hR l n (m+1) (by omega) (by omega) (by omega),hx,hnum,rH]
structure FIr (B M k n:Nat) (f ops:List Tk) (id:Int) (mdR:Own):Prop where
 k8:k<=8
 n0:n<=B+20*(9 - k)/\B<=100000
 f0:f.length+k<=M/\M<=8
 f1:tot f<=18*(8 - k)
 o0:ops.length<=8 - k
 o1:∀ t∈ops,t.2.1.length<=18
 i0:0<=id
 i1:id<=8 - (k:Int)
 md0:mdR≠.no
theorem v8 {R:LL} (hR:Rok R) (B M:Nat) (l:List Int):∀ (k n:Nat) (f ops:List Tk) (id:Int) (md9 md10:Own),FIr B M k n f ops id md10->FV f ops id ->
  ∃ n' f' ops' id' md9' md10',n'<=B+400/\f'.length<=M/\tot f'<=144/\ops'.length<=8/\FV f' ops' id' /\
   aC G0 g6 (ST [(0,.ptr 0 0),(2,.bool true),(3,.bool false),(9,.sl md9 3 (tks f)),(10,.sl md10 3 (tks ops)),(11,.int .i64 id),(12,.int .i64 k)] [] (num l n :: R))=some (.ex 0,ST [(0,.ptr 0 0),(2,.bool true),(3,.bool false),(9,.sl md9' 3 (tks f')),(10,.sl md10' 3 (tks ops')),(11,.int .i64 id'),(12,.int .i64 0),(21,.bool false)] [] (num l n' :: R))
 | 0,n,f,ops,id,md9,md10,h,fv=>by
  obtain⟨k8,⟨n0,nB⟩,f0,f1,o0,o1,i0,i1,md0⟩:=h;refine⟨n,f,ops,id,md9,md10,by omega,by omega,by omega,by omega,fv,?_⟩;rw[aA (L:=g6) rfl];simp only[go_sem,Int.lt_irrefl]
 | k+1,n,f,ops,id,md9,md10,h,fv=>by
  obtain⟨k8,⟨n0,nB⟩,f0,f1,o0,o1,i0,i1,md0⟩:=h;have hk:(0:Int) < ((k+1:Nat):Int):=by omega
  have hwk:IntKind.i64.wrap (((k+1:Nat):Int) - 1)=(k:Int):=by rw[w64 (by omega) (by omega)];omega
  have hl:=PO l n;have h48:=VR hR l n 3 (by omega) (by decide) (by decide);generalize hL:rH l n 3=L at hl h48;obtain⟨s,n1⟩:=L;simp only[] at hl h48;have h36:=m6 hR l n1 8 (by omega) (by decide) (by decide);have hy:=gL l n1 8 (by decide);generalize nxt l n1 8=y at h36 hy;by_cases y0:y=0\/y=1
  ·obtain⟨x,xm,x5,hx,hx0⟩:=A5 tbA TV l (n1+1) 3 (by decide) rfl
   have h36b:=m6 hR l (n1+1) 3 (by omega) (by decide) (by decide);obtain⟨r2,r1⟩:=kB f (5,x,0);have r3:=AL fv.vl (5,x,0) (by omega) (by simp only[length_cons,length_nil];omega);have fv':=G3 fv (JT x xm);simp only[length_cons,length_nil] at r1 r2 r3;generalize pn f (5,x,0)=r at r1 r2 r3 fv';obtain⟨n',f',ops',id',md9',md10',p1,p2,p3,p4,pf,p5⟩:=v8 hR B M l k (n1+2) r ops id .no md10 ⟨by omega,⟨by omega,nB⟩,by omega,by omega,by omega,o1,i0,by omega,md0⟩ fv';refine⟨n',f',ops',id',md9',md10',p1,p2,p3,p4,pf,?_⟩;rcases y0 with rfl | rfl
   ·rw[aA (L:=g6) rfl]
    simp only[go_sem,hk,h48,h36,h36b,mA,hx,hx0,hR l,r3,hwk];exact p5
   ·rw[aA (L:=g6) rfl]
    simp only[go_sem,hk,h48,h36,h36b,mA,hx,hx0,hR l,r3,hwk];exact p5
  have hid:IntKind.i64.wrap (id+1)=id+1:=w64 (by omega) (by omega);by_cases y2:y=2
  ·obtain⟨x,xm,x5,hx,hx0⟩:=A5 tbB TU l (n1+1) 2 (by decide) rfl
   have h36b:=m6 hR l (n1+1) 2 (by omega) (by decide) (by decide);obtain⟨r2,r1⟩:=kB f (4,x,id+1);have r3:=AL fv.vl (4,x,id+1) (by omega) (by simp only[length_cons,length_nil];omega);have fv':=C7 (k:=4) fv (.inl ⟨rfl,N9 x xm⟩) (by omega);simp only[length_cons,length_nil] at r1 r2 r3;generalize pn f (4,x,id+1)=r at r1 r2 r3 fv';obtain⟨n',f',ops',id',md9',md10',p1,p2,p3,p4,pf,p5⟩:=v8 hR B M l k (n1+2) r ops (id+1) .no md10 ⟨by omega,⟨by omega,nB⟩,by omega,by omega,by omega,o1,by omega,by omega,md0⟩ fv';refine⟨n',f',ops',id',md9',md10',p1,p2,p3,p4,pf,?_⟩;subst y2;rw[aA (L:=g6) rfl];simp only[go_sem,hk,h48,h36,h36b,mB,hx,hx0,hR l,r3,hwk,hid];exact p5
  by_cases y3:y=3\/y=4
  ·obtain⟨x,xm,x5,hx,hx0⟩:=A5 tbC TT l (n1+1) 3 (by decide) rfl
   have h36b:=m6 hR l (n1+1) 3 (by omega) (by decide) (by decide);obtain⟨r2,r1⟩:=kB f (2,x,id+1);have r3:=AL fv.vl (2,x,id+1) (by omega) (by simp only[length_cons,length_nil];omega);have fv':=G4 fv (N8 x xm) (by omega);simp only[length_cons,length_nil] at r1 r2 r3;generalize pn f (2,x,id+1)=r at r1 r2 r3 fv';have ha:cK 32 (ops.length+1)=true:=bD (by decide) (by omega)
   obtain⟨n',f',ops',id',md9',md10',p1,p2,p3,p4,pf,p5⟩:=v8 hR B M l k (n1+2) r (ops++[(2,x,id+1)]) (id+1) .no .own ⟨by omega,⟨by omega,nB⟩,by omega,by omega,by simp only[length_append,length_cons,length_nil];omega,fun t ht=>by
    rcases mem_append.1 ht with h | h
    ·exact o1 t h
    ·simp only[mem_cons,not_mem_nil,or_false] at h;subst h;simp only;omega,by omega,by omega,by decide⟩ fv'
   refine⟨n',f',ops',id',md9',md10',p1,p2,p3,p4,pf,?_⟩;have e4:tks (ops++[(2,x,id+1)])=tks ops++[[.int .i64 2,.str x,.int .i64 (id+1)]]:=by rw[<- dN];rfl
   rw[e4] at p5;rcases y3 with rfl | rfl
   ·rw[aA (L:=g6) rfl]
    simp only[go_sem,hk,h48,h36,h36b,mC,hx,hx0,hR l,r3,hwk,hid,bH md10 .full md0 3 32 (by decide),aE,ha];exact p5
   ·rw[aA (L:=g6) rfl]
    simp only[go_sem,hk,h48,h36,h36b,mC,hx,hx0,hR l,r3,hwk,hid,bH md10 .full md0 3 32 (by decide),aE,ha];exact p5
  by_cases y5:y=5\/y=6
  ·by_cases hop:1<=ops.length
   ·have hm1:IntKind.i64.wrap ((ops.length:Int) - 1)=((ops.length - 1:Nat):Int):=by rw[w64 (by omega) (by omega)];omega
    have hge:(0:Int)<=((ops.length - 1:Nat):Int):=by omega
    have hp1:IntKind.i64.wrap (((ops.length - 1:Nat):Int)+1)=((ops.length:Nat):Int):=by rw[w64 (by omega) (by omega)];omega
    have h36c:=m6 hR l (n1+1) (ops.length:Int) (by omega) (by omega) (by omega);have hj:=gL l (n1+1) (ops.length:Int) (by omega);generalize nxt l (n1+1) (ops.length:Int)=j at h36c hj;obtain⟨jn,rfl⟩:∃ jn:Nat,j=(jn:Int):=⟨j.toNat,by omega⟩
    have hjl:jn < ops.length:=by omega
    have hg:ops[jn]?=some ops[jn]:=getElem?_eq_getElem hjl;have ht:=o1 _ (getElem_mem hjl);generalize ops[jn]=T at hg ht;have hr:=bU hg;have nm2:=c64 T.2.1 (by omega);have nm1:=mN T.2.1;have j0:(0:Int)<=(jn:Int):=by omega
    have j1:(jn:Int)<=(ops.length:Int):=by omega
    have jw:IntKind.i64.wrap ((jn:Int)+1)=((jn+1:Nat):Int):=by rw[w64 (by omega) (by omega)];rfl
    have j2:(0:Int)<=((jn+1:Nat):Int):=by omega
    have j3:((jn+1:Nat):Int)<=(ops.length:Int):=by omega
    obtain⟨r2,r1⟩:=kB f (3,aQ T.2.1,T.2.2);have r3:=AL fv.vl (3,aQ T.2.1,T.2.2) (by omega) (by simp only[length_cons,length_nil];omega);have fv':=C9 fv (by omega) (oV hg);simp only[length_cons,length_nil] at r1 r2 r3;generalize pn f (3,aQ T.2.1,T.2.2)=r at r1 r2 r3 fv';have ha:cK 32 (ops.take jn).length=true:=bD (by decide) (by simp;omega);have ha2:cK 32 ((ops.take jn).length+(ops.drop (jn+1)).length)=true:=bD (by decide) (by simp;omega);have tk:(tks ops).take jn=tks (ops.take jn):=by simp [tks,map_take]
    have td:(tks ops).drop (jn+1)=tks (ops.drop (jn+1)):=by simp [tks,map_drop]
    obtain⟨n',f',ops',id',md9',md10',p1,p2,p3,p4,pf,p5⟩:=v8 hR B M l k (n1+2) r (ops.take jn++ops.drop (jn+1)) id .no .own ⟨by omega,⟨by omega,nB⟩,by omega,by omega,by simp only[length_append,length_take,length_drop];omega,fun t ht=>by
     rcases mem_append.1 ht with h | h
     ·exact o1 t (mem_of_mem_take h)
     ·exact o1 t (mem_of_mem_drop h),i0,by omega,by decide⟩ fv'
    refine⟨n',f',ops',id',md9',md10',p1,p2,p3,p4,pf,?_⟩;rcases y5 with rfl | rfl
    ·rw[aA (L:=g6) rfl]
     simp only[go_sem,hk,h48,h36,hR l,hwk,hm1,hge,hp1,h36c,hr,nm2,j0,j1,j2,j3,jw,aE,tk,td,bH .full .no (by decide) 3 32 (by decide),bH .own .no (by decide) 3 32 (by decide),ha,ha2,dN,r3];exact p5
    ·rw[aA (L:=g6) rfl]
     simp only[go_sem,hk,h48,h36,hR l,hwk,hm1,hge,hp1,h36c,hr,nm2,j0,j1,j2,j3,jw,aE,tk,td,bH .full .no (by decide) 3 32 (by decide),bH .own .no (by decide) 3 32 (by decide),ha,ha2,dN,r3];exact p5
   ·have hop0:ops=[]:=eq_nil_of_length_eq_zero (by omega)
    subst hop0;obtain⟨r2,r1⟩:=kB f (3,[98],id+1);have r3:=AL fv.vl (3,[98],id+1) (by omega) (by simp only[length_cons,length_nil];omega);have fv':=C7 (k:=3) (s:=[98]) fv (.inr ⟨rfl,by decide⟩) (by omega);simp only[length_cons,length_nil] at r1 r2 r3;generalize pn f (3,[98],id+1)=r at r1 r2 r3 fv';obtain⟨n',f',ops',id',md9',md10',p1,p2,p3,p4,pf,p5⟩:=v8 hR B M l k (n1+1) r [] (id+1) .no md10 ⟨by omega,⟨by omega,nB⟩,by omega,by omega,by simp,by simp,by omega,by omega,md0⟩ fv';refine⟨n',f',ops',id',md9',md10',p1,p2,p3,p4,pf,?_⟩;rw[dZ] at p5;rcases y5 with rfl | rfl
    ·rw[aA (L:=g6) rfl]
     simp only[go_sem,hk,h48,h36,hR l,hwk,dZ,hid,r3];exact p5
    ·rw[aA (L:=g6) rfl]
     simp only[go_sem,hk,h48,h36,hR l,hwk,dZ,hid,r3];exact p5
  ·have y7:y=7:=by omega
   subst y7;obtain⟨r2,r1⟩:=kB f (1,s,0);have r3:=AL fv.vl (1,s,0) (by omega) (by simp only[length_cons,length_nil];omega);have fv':=G2 fv (x:=(1,s,0)) rfl;simp only[length_cons,length_nil] at r1 r2 r3;generalize pn f (1,s,0)=r at r1 r2 r3 fv';obtain⟨n',f',ops',id',md9',md10',p1,p2,p3,p4,pf,p5⟩:=v8 hR B M l k (n1+1) r ops id .no md10 ⟨by omega,⟨by omega,nB⟩,by omega,by omega,by omega,o1,i0,by omega,md0⟩ fv';refine⟨n',f',ops',id',md9',md10',p1,p2,p3,p4,pf,?_⟩;rw[aA (L:=g6) rfl];simp only[go_sem,hk,h48,h36,hR l,hwk,r3];exact p5
theorem VS {R:LL} (hR:Rok R) (l:List Int) (p:Nat) (hp:p<=90000) (N:Int) (hN:1<=N) (hN8:N<=8):∃ n' f,n'<=p+500/\(f.length:Int)<=N/\tot f<=144/\vld f=0/\G0 14 [.ptr 0 0,.int .i64 N,.bool true,.bool false] (num l p :: R)=some (.sl .no 3 (tks f),(num l n' :: R)):=by
 have hb:=gL l p (N+1) (by omega);have h36:=m6 hR l p (N+1) (by omega) (by omega) (by omega);have hc:(((nxt l p (N+1)).toNat:Nat):Int)=nxt l p (N+1):=by omega
 obtain⟨n',f,ops,id,md9,md10,p1,p2,p3,p4,pf,p5⟩:=v8 hR p N.toNat l (nxt l p (N+1)).toNat (p+1) [] [] 0 .full .full ⟨by omega,⟨by omega,by omega⟩,by simp;omega,by rw[dL];omega,by simp,by simp,by omega,by omega,by decide⟩ LJ;rw[hc] at p5;simp only[dZ] at p5;have hL:=CU f;refine⟨n',f,by omega,by omega,p3,(fE f).2 ⟨pf.vl,by omega,by omega⟩,?_⟩;refine aB F14 rfl rfl rfl ?_;have hwN:IntKind.i64.wrap (N+1)=N+1:=w64 (by omega) (by omega);have htk:=sC (num l n') R;have hRn:=hR l n';have hw:IntKind.i64.wrap ((ops.length:Int) - 1)=(ops.length:Int) - 1:=w64 (by omega) (by omega);by_cases h:(0:Int)<=(ops.length:Int) - 1
 ·simp only[F14,go_sem,hwN,htk,hRn,h36,p5,aE,hw,hR l]
  rw[aA (L:=D8) rfl];simp only[go_sem,h,htk,hRn]
 ·simp only[F14,go_sem,hwN,htk,hRn,h36,p5,aE,hw,hR l]
  rw[aA (L:=D8) rfl];simp only[go_sem,h,htk,hRn]
end Go.Av
namespace Go.Av
open Go.Nt
structure LV (V:AV) (sh:LL) (L:List (List Tk)):Prop where
 len:pL false V=some (.int .i64 (L.length:Int))
 scrub:∀ k,aS k V=V
 dem:aH V=V
 arg:d9 true V=true
 at_:∀ (i:Nat) (f:List Tk),L[i]?=some f->∃ P,iaK 1 V (.int .i64 (i:Int))=some P/\∀ (X:LL) (m:List (Nat × Option (List AV))),ldA .sh false 1 m (sh++X) P=some (.sl .no 3 (tks f))
theorem JL (L:List (List Tk)) (sh:LL):LV (.sl .full 1 (frs L)) sh L:=by
 refine⟨by rw[<- oB L];rfl,fun _=>rfl,rfl,rfl,fun i f h=>?_⟩;refine⟨.ip [.sl .no 3 (tks f)],?_,fun X m=>rfl⟩;have h0:(0:Int)<=(i:Int):=by omega
 rw[C6,if_pos h0,Int.toNat_natCast,sZ h];rfl
def frc (L:List (List Tk)):List AV:=L.map fun f=>.sl .no 3 (tks f)
theorem oE (L:List (List Tk)):(frc L).length=L.length:=by simp [frc]
theorem G8 (L M:List (List Tk)):frc (L++M)=frc L++frc M:=by simp [frc]
theorem LK {L:List (List Tk)} {i:Nat} {f:List Tk} (h:L[i]?=some f):(frc L)[i]?=some (.sl .no 3 (tks f)):=by simp [frc,h]
def tF (sh:LL):Prop:=(sh.all fun c=>c.all (fB sh.length))=true
theorem tF.app {sh:LL} (h:tF sh) (X:LL):eI false sh.length (sh++X)=true:=by
 unfold eI;rw[Bool.false_or,take_left];exact h
theorem tF.self {sh:LL} (h:tF sh):eI false sh.length sh=true:=by
 unfold eI;rw[Bool.false_or,take_length];exact h
theorem CN (sh rows:LL):gP (sh++[[.mapv rows]]) sh.length=some rows:=by
 unfold gP;rw[gD]
theorem l25 {V:AV} {sh:LL} {L:List (List Tk)} (hV:LV V sh L) (hL:L.length<=100000) (hb:∀ f∈L,nA f):∀ (k i:Nat) (b:Bool) (o:List Int) (m:Km),i+k=L.length->o.length<=i ->
  ∃ b' m',aC G0 r8 (ST [(3,.mp sh.length),(4,.sl (mdR b) 1 (bC o)),(12,V),(13,.int .i64 L.length),(14,.int .i64 i)] [] (sh++[[.mapv (kmr m)]]))=some (.ex 0,ST [(3,.mp sh.length),(4,.sl (mdR b') 1 (bC (o++kK m i (L.drop i)))),(12,V),(13,.int .i64 L.length),(14,.int .i64 L.length),(15,.bool false)] [] (sh++[[.mapv (kmr m')]]))
 | 0,i,b,o,m,h,ho=>by
  have:i=L.length:=by omega
  subst this;refine⟨b,m,?_⟩;have e:kK m L.length (L.drop L.length)=[]:=by rw[drop_length];rfl
  have hs:=hV.scrub;rw[e,append_nil];rw[aA (L:=r8) rfl];simp only[go_sem,hs,Int.lt_irrefl]
 | k+1,i,b,o,m,h,ho=>by
  have hi:i < L.length:=by omega
  have h4:(i:Int) < (L.length:Int):=by omega
  have h0:(0:Int)<=(i:Int):=by omega
  have hw:=wI (i:=i) (by omega)
  have hg:L[i]?=some L[i]:=getElem?_eq_getElem hi;have hd:L.drop i=L[i] :: L.drop (i+1):=drop_eq_getElem_cons hi;have hm:=hb _ (getElem_mem hi);generalize L[i]=f at hg hd hm;obtain⟨P,hP,hld⟩:=hV.at_ i f hg;have hs:=hV.scrub;have hdv:=hV.dem;have h46:=c46 f hm.1 hm.2;have h20:=c20 f hm.1 hm.2;have e1:mdR true=.own:=rfl;rw[hd];by_cases hv:vld f=0
  ·rw[hv] at h46
   have hlk:=CR (nR f) m;cases hk:wA m (nR f) with
   | some v =>
    have es:kK m i (f :: L.drop (i+1))=v :: kK m (i+1) (L.drop (i+1)):=by
     simp only[kK];rw[if_pos hv,hk]
    rw[hk] at hlk;simp only[Option.map_some] at hlk;have ha:=u7 b o v (by omega);obtain⟨b',m',ih⟩:=l25 hV hL hb k (i+1) true (o++[v]) m (by omega) (by simp;omega);refine⟨b',m',?_⟩;rw[e1,append_assoc,singleton_append] at ih;rw[es];rw[aA (L:=r8) rfl];simp only[go_sem,hs,hdv,h4,h0,hP,hld,hw,h46,h20,CN,hlk,IV,cE,ha];exact ih
   | none =>
    have es:kK m i (f :: L.drop (i+1))=(i:Int) :: kK (m++[(nR f,(i:Int))]) (i+1) (L.drop (i+1)):=by
     simp only[kK];rw[if_pos hv,hk]
    rw[hk] at hlk;simp only[Option.map_none] at hlk;have hmu:=CI (nR f) (i:Int) m hk;have ha:=u7 b o (i:Int) (by omega);obtain⟨b',m',ih⟩:=l25 hV hL hb k (i+1) true (o++[(i:Int)]) (m++[(nR f,(i:Int))]) (by omega) (by simp;omega);refine⟨b',m',?_⟩;rw[e1,append_assoc,singleton_append] at ih;rw[es];rw[aA (L:=r8) rfl];simp only[go_sem,hs,hdv,h4,h0,hP,hld,hw,h46,h20,CN,hlk,IW,hmu,sD,cE,ha];exact ih
  ·have es:kK m i (f :: L.drop (i+1))=(i:Int) :: kK m (i+1) (L.drop (i+1)):=by
    simp only[kK];rw[if_neg hv]
   have ha:=u7 b o (i:Int) (by omega);obtain⟨b',m',ih⟩:=l25 hV hL hb k (i+1) true (o++[(i:Int)]) m (by omega) (by simp;omega);refine⟨b',m',?_⟩;rw[e1,append_assoc,singleton_append] at ih;rw[es];rw[aA (L:=r8) rfl];simp only[go_sem,hs,hdv,h4,h0,hP,hld,hw,h46,hv,cE,ha];exact ih
theorem c25 {V:AV} {sh:LL} {L:List (List Tk)} (hV:LV V sh L) (hR:tF sh) (hL:L.length<=100000) (hb:∀ f∈L,nA f):G0 12 [V] sh=some (.sl .no 1 (bC (wF L)),sh):=by
 obtain⟨b',m',x⟩:=l25 hV hL hb L.length 0 false [] [] (by omega) (by simp);have ec:((0:Nat):Int)=0:=rfl;have e2:mdR false=.full:=rfl;have e3:kmr []=[]:=rfl;rw[drop_zero,ec,e2,e3,pP,nil_append] at x;have hs:=hV.scrub;have hdv:=hV.dem;have hlen:=hV.len;have hRa:=hR.app;refine aB F12 rfl rfl rfl ?_;simp only[F12,go_sem,hs,hdv,hlen,x,cE,fJ,hRa,take_left];rfl
theorem UT:wF [[(1,[97],0)],[(1,[98],0)],[(1,[97],0)],[(1,[97],0)]]=[0,1,0,0]:=by decide +kernel
theorem US:wF [[(2,[98],1),(3,[98],1)],[(2,[98],2),(3,[98],2)]]=[0,0]:=by decide +kernel
end Go.Av
namespace Go.Av
open Go.Nt
theorem c16:G0 5 [] []=some (.bool true,[]):=by
 have hR:tF []:=rfl;have h1:=c25 (JL [[(1,[97],0)],[(1,[98],0)],[(1,[97],0)],[(1,[97],0)]] []) hR (by decide) (by intro f hf;simp only[mem_cons,not_mem_nil,or_false] at hf;rcases hf with rfl | rfl | rfl | rfl<;>exact⟨by decide,by decide⟩);have h2:=c25 (JL [[(2,[98],1),(3,[98],1)],[(2,[98],2),(3,[98],2)]] []) hR (by decide) (by intro f hf;simp only[mem_cons,not_mem_nil,or_false] at hf;rcases hf with rfl | rfl<;>exact⟨by decide,by decide⟩);rw[UT] at h1;rw[US] at h2;have k1:=c24 [0,1,0,0] [0,1,0,0] (by decide);have k2:=c24 [0,0] [0,0] (by decide);rw[decide_eq_true rfl] at k1 k2;have e1:frs [[(1,[97],0)],[(1,[98],0)],[(1,[97],0)],[(1,[97],0)]]=[[.sl .no 3 [[.int .i64 1,.str [97],.int .i64 0]]],[.sl .no 3 [[.int .i64 1,.str [98],.int .i64 0]]],[.sl .no 3 [[.int .i64 1,.str [97],.int .i64 0]]],[.sl .no 3 [[.int .i64 1,.str [97],.int .i64 0]]]]:=rfl;have e2:frs [[(2,[98],1),(3,[98],1)],[(2,[98],2),(3,[98],2)]]=[[.sl .no 3 [[.int .i64 2,.str [98],.int .i64 1],[.int .i64 3,.str [98],.int .i64 1]]],[.sl .no 3 [[.int .i64 2,.str [98],.int .i64 2],[.int .i64 3,.str [98],.int .i64 2]]]]:=rfl;have i1:bC [0,1,0,0]=[[.int .i64 0],[.int .i64 1],[.int .i64 0],[.int .i64 0]]:=rfl;have i2:bC [0,0]=[[.int .i64 0],[.int .i64 0]]:=rfl;rw[e1,i1] at h1;rw[e2,i2] at h2;rw[i1] at k1;rw[i2] at k2;refine aB F5 rfl rfl rfl ?_;have m1:fY 1 [.sl .full 3 []] 4 [0,1,2,3] [.sl .full 3 [[.int .i64 1,.str [97],.int .i64 0]],.sl .full 3 [[.int .i64 1,.str [98],.int .i64 0]],.sl .full 3 [[.int .i64 1,.str [97],.int .i64 0]],.sl .full 3 [[.int .i64 1,.str [97],.int .i64 0]]]=some (.sl .full 1 [[.sl .no 3 [[.int .i64 1,.str [97],.int .i64 0]]],[.sl .no 3 [[.int .i64 1,.str [98],.int .i64 0]]],[.sl .no 3 [[.int .i64 1,.str [97],.int .i64 0]]],[.sl .no 3 [[.int .i64 1,.str [97],.int .i64 0]]]]):=by rfl
 have m2:fY 1 [.sl .full 3 []] 2 [0,1] [.sl .full 3 [[.int .i64 2,.str [98],.int .i64 1],[.int .i64 3,.str [98],.int .i64 1]],.sl .full 3 [[.int .i64 2,.str [98],.int .i64 2],[.int .i64 3,.str [98],.int .i64 2]]]=some (.sl .full 1 [[.sl .no 3 [[.int .i64 2,.str [98],.int .i64 1],[.int .i64 3,.str [98],.int .i64 1]]],[.sl .no 3 [[.int .i64 2,.str [98],.int .i64 2],[.int .i64 3,.str [98],.int .i64 2]]]]):=by rfl
 have m3:fY 1 [.int .i64 0] 4 [0,1,2,3] [.int .i64 0,.int .i64 1,.int .i64 0,.int .i64 0]=some (.sl .full 1 [[.int .i64 0],[.int .i64 1],[.int .i64 0],[.int .i64 0]]):=by rfl
 have m4:fY 1 [.int .i64 0] 2 [0,1] [.int .i64 0,.int .i64 0]=some (.sl .full 1 [[.int .i64 0],[.int .i64 0]]):=by rfl
 simp only[F5,go_sem,m1,m2,m3,m4,h1,h2,k1,k2]
theorem G7 (L:List (List Tk)):bV (frc L)=true:=by
 cases L with
 | nil=>rfl
 | cons a L=>cases L<;>rfl
theorem uR:∀ L:List (List Tk),(frc L).all fC=true
 | []=>rfl
 | a :: L=>by
  show (fC _ && (frc L).all fC)=true;rw[uR L];rfl
def OSt (v:AV) (R:LL) (L:List (List Tk)):Prop:=
 (L=[]/\v=.sl .full 1 []/\R=[])\/(1<=L.length/\∃ d:Nat,v=.ss (d+1) 0 L.length 1/\R=List.replicate d bJ++[frc L])
theorem OSt.rok {v:AV} {R:LL} {L:List (List Tk)} (h:OSt v R L):Rok R:=by
 intro l n;have hn:∀ k,(num l n).all (fB k)=true:=fun k=>rfl
 rcases h with ⟨_,_,rfl⟩ | ⟨_,d,_,rfl⟩
 ·rfl
 ·unfold eI
  rw[Bool.false_or,sC,all_cons,hn,Bool.true_and,all_append,Bool.and_eq_true];constructor
  ·rw[all_eq_true]
   intro c hc;rw[(mem_replicate.1 hc).2];rfl
  ·have:∀ (k:Nat) (L:List (List Tk)),(frc L).all (fB k)=true:=by
    intro k L
    induction L with
    | nil=>rfl
    | cons a L ih =>
     show (fB k _ && (frc L).all _)=true;rw[ih];rfl
   rw[all_cons,this];rfl
theorem OSt.scrub {v:AV} {R:LL} {L:List (List Tk)} (h:OSt v R L) (k:List Nat):aS k v=v:=by
 rcases h with ⟨_,rfl,_⟩ | ⟨_,d,rfl,_⟩<;>rfl
theorem OSt.dem {v:AV} {R:LL} {L:List (List Tk)} (h:OSt v R L):aH v=v:=by
 rcases h with ⟨_,rfl,_⟩ | ⟨_,d,rfl,_⟩<;>rfl
theorem OSt.len {v:AV} {R:LL} {L:List (List Tk)} (h:OSt v R L):pL false v=some (.int .i64 (L.length:Int)):=by
 rcases h with ⟨rfl,rfl,_⟩ | ⟨_,d,rfl,_⟩<;>rfl
theorem vV (d:Nat) (x c:List AV):(x :: (List.replicate d bJ++[c]))[d+1]?=some c:=by
 rw[getElem?_cons_succ,getElem?_append_right (by simp)];simp
theorem FX (d:Nat) (x c e:List AV):(x :: (List.replicate d bJ++[c])).set (d+1) bJ++[e]=x :: (List.replicate (d+1) bJ++[e]):=by
 rw[set_cons_succ,set_append_right _ _ (by simp)];simp [replicate_succ']
theorem V0 {v:AV} {R:LL} {L:List (List Tk)} (h:OSt v R L) (f:List Tk) (hl:L.length<=1000) (l:List Int) (n:Nat):∃ v' R',OSt v' R' (L++[f])/\gE 1 24 (num l n :: R) (some [[.sl .no 3 (tks f)]]) v=some (v',num l n :: R'):=by
 have ha:cK 24 (L.length+1)=true:=bD (by decide) (by omega);rcases h with ⟨rfl,rfl,rfl⟩ | ⟨h1,d,rfl,rfl⟩
 ·refine⟨.ss 1 0 1 1,[frc [f]],.inr ⟨by simp,0,rfl,rfl⟩,?_⟩
  rw[rS 1 24 1 (by decide),if_pos (show cK 24 (([]:LL).length+1)=true from ha)];rfl
 ·refine⟨.ss (d+1+1) 0 (L++[f]).length 1,List.replicate (d+1) bJ++[frc (L++[f])],.inr ⟨by simp,d+1,rfl,rfl⟩,?_⟩
  rw[u9 (d+1) L.length 24 1 (by decide),length_singleton,if_pos ha,vV];simp only[Option.bind_some];rw[if_pos ⟨G7 L,by rw[oE];omega,uR L⟩,FX,G8];simp [frc]
theorem CK (f:List Tk):fY 1 [.sl .full 3 []] 1 [0] [.sl .no 3 (tks f)]=some (.sl .full 1 [[.sl .no 3 (tks f)]]):=rfl
theorem CG (g:List Tk):(nrm g).length<=g.length/\tot (nrm g)<=tot g:=by
 have key:∀ (g A:List Tk),(g.foldl pn A).length<=A.length+g.length/\tot (g.foldl pn A)<=tot A+tot g:=by
  intro g
  induction g with
  | nil=>intro A;simp [tot]
  | cons x g ih =>
   intro A;obtain⟨h1,h2⟩:=ih (pn A x);obtain⟨h3,h4⟩:=kB A x;rw[foldl_cons,length_cons,cC];omega
 have:=key g []
 simpa [nrm,tot] using this
def Sz (t:Nat) (f:List Tk):Prop:=f.length<=10+t/\tot f<=150+4*t
theorem Sz.mono {t t':Nat} {f:List Tk} (h:Sz t f) (ht:t<=t'):Sz t' f:=⟨by have:=h.1;omega,by have:=h.2;omega⟩
theorem UM:fY 1 [.int .i64 0] 6 [0,1,2,3,4,5] [.int .i64 9,.int .i64 4,.int .i64 6,.int .i64 2,.int .i64 8,.int .i64 3]=some (.sl .full 1 (bC [9,4,6,2,8,3])):=rfl
theorem H5:Rok []:=fun _ _=>rfl
end Go.Av
namespace Go.Av
open Go.Nt
section
variable {S:LL} {Mp:List AV} {E:LL}
end
def Q0 (q:Nat) (I:List Nat) (G:List (List Int)):List AV:=List.zipWith (fun o g=>AV.ss (q+1+o) 0 g.length 1) I G
def REF (n:Nat) (E:LL):Prop:=∀ c∈E,∀ x∈c,fB n x=true
def GS (q:Nat) (v:AV) (E:LL) (G:List (List Int)):Prop:=
 (G=[]/\v=.sl .full 1 []/\E=[])\/∃ (o:Nat) (I:List Nat),v=.ss (q+1+o) 0 G.length 1/\I.length=G.length/\E[o]?=some (Q0 q I G) /\
  (∀ (j a:Nat),I[j]?=some a->a≠o)/\(∀ (j j' a:Nat),I[j]?=some a->I[j']?=some a->j=j')/\(∀ (j a:Nat) (g:List Int),I[j]?=some a->G[j]?=some g->E[a]?=some (icl g))/\REF (q+1+E.length) E
theorem GS.len {q:Nat} {v:AV} {E:LL} {G:List (List Int)} (h:GS q v E G):pL false v=some (.int .i64 (G.length:Int)):=by
 rcases h with ⟨rfl,rfl,_⟩ | ⟨o,I,rfl,_⟩<;>rfl
end Go.Av
namespace Go.Av
open Go.Nt
end Go.Av
namespace Go.Av
open Go.Nt
end Go.Av
namespace Go.Av
open Go.Nt
end Go.Av
namespace Go.Av
open Go.Nt
end Go.Av
