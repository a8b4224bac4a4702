/- Renumbering in the program: numbers of tags, counting, other numbers. Renumbering: other numbers, the reference's functions, keys. The reference's renaming, keys, first repetitions, the fixed example. Numbers, words, lines and fragments made of them, where further objects lie behind the numbers. Numbers of tags in an object, renaming by them, the numbering of a source and its target: for any two valid fragments. No conditions. Renaming by numbers in an object; the numbering of a source and its target. No conditions. Equal fragments, the numbering of a source and its target by the reference. No conditions. -/
import Derived.Test.YtmjfblcmbcfkcaaGreatDoorG2XF
import Derived.Test.YtmjfblcmbcfkcaaGreatDoorG2XA
import Derived.Test.YtmjfblcmbcfkcaaGreatDoorG2XB
import Derived.Test.YtmjfblcmbcfkcaaGreatDoorG2XG
open List
set_option linter.unusedSimpArgs false
set_option linter.unusedVariables false
set_option linter.unusedSectionVars false
set_option maxRecDepth 100000
set_option maxHeartbeats 16000000
namespace Go.Av
open Go.Nt
def mdR (b:Bool):Own:=if b then .own else .full
def WO (b:Bool):Own:=if b then .no else .full
theorem MP (b:Bool):mdR b≠.no:=by cases b<;>decide
theorem dY (b:Bool) (z:Nat) (l:LL):aI (.sl (mdR b) z l)=.sl (WO b) z l:=by cases b<;>rfl
theorem jR (b:Bool) (z:Nat) (l:LL):aI (.sl (WO b) z l)=.sl (WO b) z l:=by cases b<;>rfl
theorem U3 (b:Bool) (l:List Int) (i:Int) (h:l.length<=1000000):jL false 1 8 (.sl (mdR b) 1 (bZ l)) (.sl .full 1 [[.int .i64 i]])=some (.sl .own 1 (bZ (l++[i]))):=by
 have ha:cU 8 (l.length+1)=true:=bU (by decide) (by omega);rw[dP (mdR b) .full (MP b) 1 8 (by decide),bJ,length_singleton,if_pos ha];simp [bZ]
theorem uC (b1:Bool) (fl:List Tk) (x:Tk) (h:fl.length<=1000000):jL false 3 32 (.sl (mdR b1) 3 (tks fl)) (.sl .full 3 [[.int .i64 x.1,.str x.2.1,.int .i64 x.2.2]])=some (.sl .own 3 (tks (fl++[x]))):=by
 have ha:cU 32 (fl.length+1)=true:=bU (by decide) (by omega);rw[dP (mdR b1) .full (MP b1) 3 32 (by decide),aD,length_singleton,if_pos ha,<- pH];rfl
def spm (l:List Int):List (List AV):=l.map fun i=>[.int .i64 i,.bool true]
theorem MW (i:Int):∀ l:List Int,lkA [0] (.int .i64 i) (spm l)=some (if i∈l then some (.bool true) else none)
 | []=>rfl
 | k :: r=>by
  have ih:=MW i r;have e:spm (k :: r)=[.int .i64 k,.bool true] :: spm r:=rfl;rw[e];simp only[lkA,nL,eqL,if_true,Option.map_some,Bool.and_true];by_cases h:i=k
  ·subst h;simp
  ·have:(i == k)=false:=by simpa using h
   simp only[this,ih,mem_cons,h,false_or]
theorem MM (i:Int):∀ l:List Int,i ∉ l->muA [0] (.int .i64 i) (.bool true) (spm l)=some (spm (l++[i]))
 | [],_=>rfl
 | k :: r,h=>by
  simp only[mem_cons,not_or] at h;have ih:=MM i r h.2;have e:spm (k :: r)=[.int .i64 k,.bool true] :: spm r:=rfl;rw[e]
  have:(i == k)=false:=by simpa using h.1
  simp only[muA,nL,eqL,if_true,Option.map_some,Bool.and_true,this,ih];rfl
theorem zDO (v:AV):lkR false false [.bool false] (some v)=some v:=rfl
theorem zDP:lkR false false [.bool false] none=some (.bool false):=rfl
theorem OK {l:List Int} {x:Tk} (h1:bD x=true) (h2:x.2.2 ∉ l):gA l x=l++[x.2.2]:=by unfold gA;rw[if_pos ⟨h1,h2⟩]
theorem BS {l:List Int} {x:Tk} (h:bD x=false\/x.2.2∈l):gA l x=l:=by
 unfold gA;rw[if_neg]
 rintro ⟨a,b⟩
 rcases h with h | h
 ·rw[h] at a;cases a
 ·exact b h
def icl (l:List Int):List AV:=l.map (AV.int .i64)
theorem vQ (l:List Int):(icl l).length=l.length:=by simp [icl]
theorem CF:∀ (a:List AV) (x y:AV) (r:List AV),lC a.length [x] (a++y :: r)=some (a++x :: r)
 | [],x,y,r=>by
  show lC 0 [x] (y :: r)=_;simp only[V8,LV,Option.map_some,nil_append]
 | c :: a,x,y,r=>by
  have ih:=CF a x y r;simp only[length_cons,cons_append,LU,ih,Option.map_some]
theorem uG:∀ n,b8 [AV.int .i64 0] n=List.replicate n (.int .i64 0)
 | 0=>rfl
 | n+1=>by
  show [AV.int .i64 0]++b8 [AV.int .i64 0] n=_;rw[uG n];rfl
theorem yU (l:List Int):dD 0 l.length 1 (icl l)=some (bZ l):=by
 have h1:∀ l:List Int,(icl l).all (fun x=>cD (aI x))=true:=by
  intro l
  induction l with
  | nil=>rfl
  | cons c l ih =>
   show (cD _ && (icl l).all _)=true;rw[ih];rfl
 have h2:∀ l:List Int,(icl l).map aI=icl l:=by
  intro l
  induction l with
  | nil=>rfl
  | cons c l ih =>
   show aI _ :: (icl l).map aI=_;rw[ih];rfl
 have h3:∀ l:List Int,dV 1 l.length (icl l)=bZ l:=by
  intro l
  induction l with
  | nil=>rfl
  | cons c l ih =>
   show (icl (c :: l)).take 1 :: dV 1 l.length ((icl (c :: l)).drop 1)=_;have e:(icl (c :: l)).drop 1=icl l:=rfl;rw[e,ih];rfl
 unfold dD;have h4:((icl l).drop 0).take (l.length*1)=icl l:=by rw[drop_zero];exact take_of_length_le (by rw[vQ];omega)
 rw[h4,h2,h3,if_pos ⟨by decide,by rw[vQ];omega,h1 l⟩]
def ccl (n i:Nat):List AV:=icl (dU i)++List.replicate (n - i) (.int .i64 0)
theorem SX {n i:Nat} (h:i < n):lC i [.int .i64 ((i:Int)+1)] (ccl n i)=some (ccl n (i+1)):=by
 have e:ccl n i=icl (dU i)++.int .i64 0 :: List.replicate (n - (i+1)) (.int .i64 0):=by
  unfold ccl;rw[show n - i=n - (i+1)+1 by omega,replicate_succ]
 have h1:=CF (icl (dU i)) (.int .i64 ((i:Int)+1)) (.int .i64 0) (List.replicate (n - (i+1)) (.int .i64 0));rw[vQ,fO] at h1;rw[e,h1];unfold ccl;rw[D8];simp [icl]
theorem SY (n i:Nat):cR (ccl n i)=true:=by
 have:∀ l:List AV,(∀ x∈l,∃ v,x=.int .i64 v)->cR l=true:=by
  intro l h
  cases l with
  | nil=>rfl
  | cons c l =>
   obtain⟨v,rfl⟩:=h c (by simp);rfl
 refine this _ fun x hx=>?_
 unfold ccl icl at hx;rcases mem_append.1 hx with q | q
 ·obtain⟨v,_,rfl⟩:=List.mem_map.1 q;exact⟨v,rfl⟩
 ·exact⟨0,(mem_replicate.1 q).2⟩
theorem l73 (n:Nat) (hn:n<=1000000):∀ (k i:Nat),i+k=n ->
  aC G0 BV (ST [(3,.ss 0 0 n 1),(8,.int .i64 n),(9,.int .i64 i)] [] [ccl n i])=some (.ex 0,ST [(3,.ss 0 0 n 1),(8,.int .i64 n),(9,.int .i64 n),(10,.bool false)] [] [ccl n n])
 | 0,i,h=>by
  have:i=n:=by omega
  subst this;rw[aB (L:=BV) rfl];simp only[go_sem,Int.lt_irrefl]
 | k+1,i,h=>by
  have h4:(i:Int) < (n:Int):=by omega
  have h0:(0:Int)<=(i:Int):=by omega
  have hw:IntKind.i64.wrap ((i:Int)+1)=(i:Int)+1:=w64 (by omega) (by omega);have hp:=SX (n:=n) (i:=i) (by omega);have hb:=SY n i;have ih:=l73 n hn k (i+1) (by omega);have ec:((i+1:Nat):Int)=(i:Int)+1:=rfl;rw[ec] at ih;rw[aB (L:=BV) rfl];simp only[go_sem,h4,h0,hw,hb,Nat.mul_one,hp];exact ih
theorem c73 (n:Nat) (hn:n<=1000000):G0 120 [.int .i64 n] []=some (.sl .no 1 (bZ (dU n)),[]):=by
 have x:=l73 n hn n 0 (by omega);have ec:((0:Nat):Int)=0:=rfl;have e0:ccl n 0=List.replicate n (.int .i64 0):=by unfold ccl dU icl;simp
 have e1:ccl n n=icl (dU n):=by unfold ccl;simp
 rw[ec,e0,e1] at x;have hr:=yU (dU n);rw[fO] at hr;have h0:(0:Int)<=(n:Int):=by omega
 have hb:(n:Int)*8<=140737488355328:=by omega
 have hc:(n:Int)<=4611686018427387904:=by omega
 refine aA ZB rfl rfl rfl ?_;have hsd:∀ q,eP [] q=true:=fun _=>rfl
 simp only[ZB,go_sem,h0,hb,hc,Int.le_refl,uG,x,hr,hsd]
theorem YZ (r:Bs) (h:r.length<=1000000):jL true 1 1 (.sl .full 1 []) (.str r)=some (.sl .own 1 (aJ r)):=by
 unfold jL;have e:jW true 1 (.str r)=some (aJ r):=rfl;simp only[e,Option.bind_some];rw[if_pos]
 ·simp
 ·refine⟨.inl trivial,by decide,by decide,?_,?_⟩
  ·rw[aP];simp;omega
  ·rw[aP];simp;omega
theorem L1 {tx:Bs} (h:tx≠[]):(0:Int) < (tx.length:Int):=by
 cases tx with
 | nil=>exact absurd rfl h
 | cons c r=>simp only[length_cons];omega
theorem l99a (g:List Tk) (hl:g.length<=1000000) (b:Bool) (o:List Tk) (i:Nat) (s:Bs) (id:Int) (hg:g[i]?=some (1,s,id)) (hs:s.length<=1000000) (hn:∀ y,g[i+1]?=some y->y.1≠1) :
  aC G0 rJ (ST [(0,.sl .no 3 (tks g)),(3,.sl (mdR b) 3 (tks o)),(4,.int .i64 i),(5,.sl .full 1 []),(9,.bool true),(15,.bool false)] [] [])=some (.ex 2,ST [(0,.sl .no 3 (tks g)),(3,.sl (mdR b) 3 (tks o)),(4,.int .i64 ((i+1:Nat):Int)),(5,.sl .own 1 (aJ s)),(9,.bool true),(15,.bool false),(36,.bool false)] [] []):=by
 have hi:i < g.length:=by
  by_cases q:i < g.length
  ·exact q
  ·rw[getElem?_eq_none (by omega)] at hg;cases hg
 have h4:(i:Int) < (g.length:Int):=by omega
 have h0:(0:Int)<=(i:Int):=by omega
 have hw:=wI (i:=i) (by omega)
 have hr:=dH hg;simp only[] at hr;have ha:=YZ s hs;have h1:aC G0 rJ (ST [(0,.sl .no 3 (tks g)),(3,.sl (mdR b) 3 (tks o)),(4,.int .i64 i),(5,.sl .full 1 []),(9,.bool true),(15,.bool false)] [] [])=aC G0 rJ (ST [(0,.sl .no 3 (tks g)),(3,.sl (mdR b) 3 (tks o)),(4,.int .i64 ((i+1:Nat):Int)),(5,.sl .own 1 (aJ s)),(9,.bool true),(15,.bool false)] [] []):=by
  conv=>lhs;rw[aB (L:=rJ) rfl]
  simp only[go_sem,aD,h4,h0,hr,hw,ha]
 rw[h1];by_cases q:i+1 < g.length
 ·have hg2:g[i+1]?=some g[i+1]:=getElem?_eq_getElem q
  have hne:=hn _ hg2;generalize g[i+1]=Y at hg2 hne;have hr2:=dH hg2;have h4':((i+1:Nat):Int) < (g.length:Int):=by omega
  have h0':(0:Int)<=((i+1:Nat):Int):=by omega
  rw[aB (L:=rJ) rfl];simp only[go_sem,aD,h4',h0',Int.toNat_natCast,hr2,hne]
 ·have h4':¬ ((i+1:Nat):Int) < (g.length:Int):=by omega
  rw[aB (L:=rJ) rfl];simp only[go_sem,aD,h4']
theorem l99 (g:List Tk) (hl:g.length<=100000) (hv:VL g) (hb:∀ t∈g,t.2.1.length<=1000000):∀ (k i:Nat) (b:Bool),i+k=g.length ->
  ∃ b',aC G0 yE (ST [(0,.sl .no 3 (tks g)),(3,.sl (mdR b) 3 (tks (g.take i))),(4,.int .i64 i)] [] [])=some (.ex 0,ST [(0,.sl .no 3 (tks g)),(3,.sl (mdR b') 3 (tks g)),(4,.int .i64 g.length),(9,.bool false)] [] [])
 | 0,i,b,h=>by
  have:i=g.length:=by omega
  subst this;refine⟨b,?_⟩;rw[take_length];rw[aB (L:=yE) rfl];simp only[go_sem,aD,Int.lt_irrefl]
 | k+1,i,b,h=>by
  have hi:i < g.length:=by omega
  have h4:(i:Int) < (g.length:Int):=by omega
  have h0:(0:Int)<=(i:Int):=by omega
  have hw:=wI (i:=i) (by omega)
  have hg:g[i]?=some g[i]:=getElem?_eq_getElem hi;have hm:=hb _ (getElem_mem hi);generalize g[i]=T at hg hm;have hr:=dH hg;have hts:=tM hg;have hc:=II hv hg;obtain⟨kk,s,id⟩:=T;simp only[] at hr hm;have e1:mdR true=.own:=rfl;have htl:(g.take i).length<=1000000:=by rw[length_take];omega
  obtain⟨b',ih⟩:=l99 g hl hv hb k (i+1) true (by omega);refine⟨b',?_⟩;rw[hts,e1] at ih;by_cases hk:kk=1
  ·subst hk
   obtain⟨q1,q2,q3⟩:=(fZ (x:=(1,s,id)) rfl).1 hc;simp only[] at q1 q2;subst q2;have hn:∀ y,g[i+1]?=some y->y.1≠1:=by
    intro y hy he;have hc2:=II hv hy
    have:=((fZ he).1 hc2).2.2
    rw[hts,fB] at this;exact this rfl
   have h99:=l99a g (by omega) b (g.take i) i s 0 hg hm hn;have ha:=uC b (g.take i) (1,s,0) htl;simp only[] at ha;have hp:=L1 q1;have hbb:=kZ s;rw[aB (L:=yE) rfl];simp only[go_sem,aD,h4,h0,hr,h99,aP,hp,hbb,ha,dY];exact ih
  ·have ha:=uC b (g.take i) (kk,s,id) htl
   simp only[] at ha;rw[aB (L:=yE) rfl];simp only[go_sem,aD,h4,h0,hr,hw,hk,ha,dY];exact ih
theorem c99 (g:List Tk) (hl:g.length<=100000) (hv:VL g) (hb:∀ t∈g,t.2.1.length<=1000000):G0 143 [.sl .no 3 (tks g)] []=some (.sl .no 3 (tks g),[]):=by
 obtain⟨b',x⟩:=l99 g hl hv hb g.length 0 false (by omega);have ec:((0:Nat):Int)=0:=rfl;have e2:mdR false=.full:=rfl;rw[take_zero,eB,ec,e2] at x;refine aA Y7 rfl rfl rfl ?_;simp only[Y7,go_sem,x,dY,jR]
end Go.Av
namespace Go.Av
open Go.Nt
abbrev Im:=List (Int × Int)
def mgI:Im->Int->Option Int
 | [],_=>none
 | (k,y) :: r,i=>if i=k then some y else mgI r i
def msI:Im->Int->Int->Im
 | [],i,x=>[(i,x)]
 | (k,y) :: r,i,x=>if i=k then (i,x) :: r else (k,y) :: msI r i x
theorem UH:∀ (m:Im) (i x j:Int),mgI (msI m i x) j=if j=i then some x else mgI m j
 | [],i,x,j=>by simp [msI,mgI]
 | (k,y) :: r,i,x,j=>by
  have ih:=UH r i x j;by_cases h:i=k
  ·subst h
   simp only[msI,if_true,mgI];by_cases h2:j=i<;>simp [h2]
  ·simp only[msI,if_neg h,mgI]
   by_cases h2:j=k
   ·subst h2;simp [Ne.symm h]
   ·simp only[h2,if_false,ih]
def imr (m:Im):List (List AV):=m.map fun p=>[.int .i64 p.1,.int .i64 p.2]
theorem MX (i:Int):∀ m:Im,lkA [0] (.int .i64 i) (imr m)=some ((mgI m i).map (AV.int .i64))
 | []=>rfl
 | (k,y) :: r=>by
  have ih:=MX i r;have e:imr ((k,y) :: r)=[.int .i64 k,.int .i64 y] :: imr r:=rfl;rw[e];simp only[lkA,nL,eqL,if_true,Option.map_some,Bool.and_true,mgI];by_cases h:i=k
  ·subst h;simp
  ·have:(i == k)=false:=by simpa using h
   simp only[this,h,if_false,ih]
theorem MN (i x:Int):∀ m:Im,muA [0] (.int .i64 i) (.int .i64 x) (imr m)=some (imr (msI m i x))
 | []=>rfl
 | (k,y) :: r=>by
  have ih:=MN i x r;have e:imr ((k,y) :: r)=[.int .i64 k,.int .i64 y] :: imr r:=rfl;rw[e];simp only[muA,nL,eqL,if_true,Option.map_some,Bool.and_true,msI];by_cases h:i=k
  ·subst h;simp [imr]
  ·have:(i == k)=false:=by simpa using h
   simp only[this,h,if_false,ih,Option.map_some];rfl
theorem zDM (v:AV):lkR true false [.int .i64 0] (some v)=some (.tup [v,.bool true]):=rfl
theorem zDN:lkR true false [.int .i64 0] none=some (.tup [.int .i64 0,.bool false]):=rfl
theorem CW {fr to:List Int} {k:Nat} {a b:Int} (h1:fr[k]?=some a) (h2:to[k]?=some b) (i:Int):lkz (fr.drop k) (to.drop k) i=if a=i then some b else lkz (fr.drop (k+1)) (to.drop (k+1)) i:=by
 have e1:k < fr.length:=by
  by_cases q:k < fr.length
  ·exact q
  ·rw[getElem?_eq_none (by omega)] at h1;cases h1
 have e2:k < to.length:=by
  by_cases q:k < to.length
  ·exact q
  ·rw[getElem?_eq_none (by omega)] at h2;cases h2
 rw[getElem?_eq_getElem e1] at h1;rw[getElem?_eq_getElem e2] at h2;simp only[Option.some.injEq] at h1 h2;rw[drop_eq_getElem_cons e1,drop_eq_getElem_cons e2,h1,h2];rfl
theorem w9 {fr to:List Int} {k:Nat} (h:fr.length<=k\/to.length<=k) (i:Int):lkz (fr.drop k) (to.drop k) i=none:=by
 rcases h with h | h
 ·rw[drop_of_length_le h];rfl
 ·rw[drop_of_length_le h]
  cases fr.drop k<;>rfl
theorem GH {fr to:List Int} {k:Int} {s:Bs} {i:Int} (h:bD (k,s,i)=false):rU fr to (k,s,i)=some (k,s,i):=by unfold rU;rw[h];rfl
theorem LJ {fr to:List Int} {k:Int} {s:Bs} {i v:Int} (h:bD (k,s,i)=true) (h2:lkz fr to i=some v):rU fr to (k,s,i)=some (k,s,v):=by unfold rU;rw[if_pos h,h2];rfl
theorem LK {fr to:List Int} {k:Int} {s:Bs} {i:Int} (h:bD (k,s,i)=true) (h2:lkz fr to i=none):rU fr to (k,s,i)=none:=by unfold rU;rw[if_pos h,h2];rfl
theorem wK (fr to:List Int) (x:Tk) (f:List Tk):jX fr to (x :: f)=(match rU fr to x with | some y=>[y] | none=>[])++jX fr to f:=by
 unfold jX;rw[filterMap_cons]
 cases rU fr to x<;>rfl
theorem AF {f:List Tk}:∀ t∈f,t.2.1.length<=tot f:=by
 induction f with
 | nil=>intro t ht;cases ht
 | cons a f ih =>
  intro t ht;rw[bH];rcases mem_cons.1 ht with rfl | h
  ·omega
  ·have:=ih t h;omega
theorem GG (fr to:List Int):∀ f:List Tk,(jX fr to f).length<=f.length/\tot (jX fr to f)<=tot f
 | []=>by simp [jX]
 | x :: f=>by
  have ih:=GG fr to f;rw[wK,dR,bH,length_append,length_cons]
  have:∀ y,rU fr to x=some y->y.2.1=x.2.1:=by
   intro y hy;unfold rU at hy
   split at hy
   ·obtain⟨v,_,rfl⟩:=Option.map_eq_some_iff.1 hy;rfl
   ·cases hy;rfl
  cases hx:rU fr to x with
  | none=>simp only[length_nil,cO];omega
  | some y =>
   have:=this y hx
   simp only[length_singleton,bH,cO,this];omega
theorem gE {f:List Tk} (h:vld f=0):tot f<=40000/\f.length<=512:=by
 obtain⟨h1,h2,h3⟩:=(cX f).1 h;have key:∀ (n:Nat) (f:List Tk),f.length=n->VL f->tot f<=len f+64*f.length:=by
  intro n
  induction n with
  | zero=>intro f hf _;rw[eq_nil_of_length_eq_zero hf];simp [tot]
  | succ n ih =>
   intro f hf hv;rcases fQ f with rfl | ⟨g,y,rfl⟩
   ·simp [tot]
   ·obtain⟨a,b⟩:=(cJ g y).1 hv
    have h1:=ih g (by simp at hf;exact hf) a;have h2:y.2.1.length<=wid y+64:=by
     obtain⟨k,s,i⟩:=y;rcases oX b with ⟨rfl,_⟩ | ⟨h64,_⟩
     ·have:wid (1,s,i)=s.length:=rfl
      simp only[];omega
     ·simp only[];omega
    rw[dR,bH,cO,eN,gG,length_append,length_singleton];omega
 have:=key _ f rfl h1
 omega
theorem l66 (l:List Int) (hl:l.length<=1000000) (x:Int):∀ (k i:Nat),i+k=l.length ->
  (x ∉ l.drop i->∃ l',aC G0 uR (ST [(0,.sl .no 1 (bZ l)),(1,.int .i64 x),(7,.int .i64 l.length),(8,.int .i64 i)] [] [])=some (.ex 0,ST l' [] [])) /\
  (x∈l.drop i->∃ l',aC G0 uR (ST [(0,.sl .no 1 (bZ l)),(1,.int .i64 x),(7,.int .i64 l.length),(8,.int .i64 i)] [] [])=some (.ret,ST l' [] [])/\aE .any l' 4=.bool true)
 | 0,i,h=>by
  have:i=l.length:=by omega
  subst this;refine⟨fun _=>?_,fun h=>(by simp at h)⟩;refine Exists.intro ?_ ?_
  rotate_left 1
  rw[aB (L:=uR) rfl];simp only[go_sem,Int.lt_irrefl];rfl
 | k+1,i,h=>by
  have hi:i < l.length:=by omega
  have h4:(i:Int) < (l.length:Int):=by omega
  have h0:(0:Int)<=(i:Int):=by omega
  have hw:=wI (i:=i) (by omega)
  have hg:l[i]?=some l[i]:=getElem?_eq_getElem hi;have hd:l.drop i=l[i] :: l.drop (i+1):=drop_eq_getElem_cons hi;generalize l[i]=a at hg hd;have hr:=kV hg;have ih:=l66 l hl x k (i+1) (by omega);rw[hd];by_cases q:a=x
  ·subst q
   refine⟨fun q=>absurd (mem_cons_self ..) q,fun _=>?_⟩;refine Exists.intro ?_ (And.intro ?_ ?_)
   rotate_left 1
   ·rw[aB (L:=uR) rfl]
    simp only[go_sem,h4,h0,hr,hw];rfl
   ·rfl
  ·have step:aC G0 uR (ST [(0,.sl .no 1 (bZ l)),(1,.int .i64 x),(7,.int .i64 l.length),(8,.int .i64 i)] [] [])=aC G0 uR (ST [(0,.sl .no 1 (bZ l)),(1,.int .i64 x),(7,.int .i64 l.length),(8,.int .i64 ((i+1:Nat):Int))] [] []):=by
    conv=>lhs;rw[aB (L:=uR) rfl]
    simp only[go_sem,h4,h0,hr,hw,q]
   rw[step];have em:(x∈a :: l.drop (i+1))↔x∈l.drop (i+1):=by simp [Ne.symm q]
   rw[em];exact ih
theorem c66 (l:List Int) (hl:l.length<=1000000) (x:Int):G0 90 [.sl .no 1 (bZ l),.int .i64 x] []=some (.bool (decide (x∈l)),[]):=by
 obtain⟨x1,x2⟩:=l66 l hl x l.length 0 (by omega);have ec:((0:Nat):Int)=0:=rfl;rw[drop_zero,ec] at x1 x2;refine aA F90 rfl rfl rfl ?_;by_cases h:x∈l
 ·rw[decide_eq_true h]
  obtain⟨l',y1,y2⟩:=x2 h;simp only[F90,go_sem,bJ,y1,y2]
 ·rw[decide_eq_false h]
  obtain⟨l',y1⟩:=x1 h;simp only[F90,go_sem,bJ,y1,fF,gF,not_mem_nil,if_true,if_false]
theorem l44 (f:List Tk) (hf:f.length<=100000):∀ (k i:Nat) (b:Bool) (l:List Int),i+k=f.length->l.length<=i ->
  ∃ b',aC G0 zV (ST [(0,.sl .no 3 (tks f)),(3,.sl (mdR b) 1 (bZ l)),(6,.int .i64 f.length),(7,.int .i64 i)] [] [])=some (.ex 0,ST [(0,.sl .no 3 (tks f)),(3,.sl (mdR b') 1 (bZ ((f.drop i).foldl gA l))),(6,.int .i64 f.length),(7,.int .i64 f.length),(8,.bool false)] [] [])
 | 0,i,b,l,h,hl=>by
  have:i=f.length:=by omega
  subst this;refine⟨b,?_⟩;rw[drop_length,foldl_nil];rw[aB (L:=zV) rfl];simp only[go_sem,Int.lt_irrefl]
 | k+1,i,b,l,h,hl=>by
  have hi:i < f.length:=by omega
  have h4:(i:Int) < (f.length:Int):=by omega
  have h0:(0:Int)<=(i:Int):=by omega
  have hw:=wI (i:=i) (by omega)
  have hg:f[i]?=some f[i]:=getElem?_eq_getElem hi;have hd:f.drop i=f[i] :: f.drop (i+1):=drop_eq_getElem_cons hi;generalize f[i]=T at hg hd;have hr:=dH hg;obtain⟨kk,s,id⟩:=T;simp only[] at hr;have c65:=c65 kk s id;have h66:=c66 l (by omega) id;have e1:mdR true=.own:=rfl;rw[hd,foldl_cons];cases ht:bD (kk,s,id) with
  | false =>
   rw[ht] at c65;rw[BS (.inl ht)];obtain⟨b',ih⟩:=l44 f hf k (i+1) b l (by omega) (by omega);refine⟨b',?_⟩;rw[aB (L:=zV) rfl];simp only[go_sem,h4,h0,hr,hw,c65];exact ih
  | true =>
   rw[ht] at c65;by_cases hm:id∈l
   ·rw[decide_eq_true hm] at h66
    rw[BS (.inr hm)];obtain⟨b',ih⟩:=l44 f hf k (i+1) b l (by omega) (by omega);refine⟨b',?_⟩;rw[aB (L:=zV) rfl];simp only[go_sem,h4,h0,hr,hw,c65,dY,AG,h66];exact ih
   ·rw[decide_eq_false hm] at h66
    rw[OK ht hm];have ha:=U3 b l id (by omega);obtain⟨b',ih⟩:=l44 f hf k (i+1) true (l++[id]) (by omega) (by simp;omega);refine⟨b',?_⟩;rw[e1] at ih;rw[aB (L:=zV) rfl];simp only[go_sem,h4,h0,hr,hw,c65,dY,AG,h66,ha];exact ih
theorem c44 (f:List Tk) (hf:f.length<=100000):G0 58 [.sl .no 3 (tks f)] []=some (.sl .no 1 (bZ (cB f)),[]):=by
 obtain⟨b',x⟩:=l44 f hf f.length 0 false [] (by omega) (by simp);have ec:((0:Nat):Int)=0:=rfl;have e2:mdR false=.full:=rfl;rw[drop_zero,ec,e2,M8] at x;have en:f.foldl gA []=cB f:=rfl;rw[en] at x;refine aA F58 rfl rfl rfl ?_;simp only[F58,go_sem,aD,x,dY,jR]
theorem l49 (n:Nat) (hn:n<=100000):∀ (k j:Nat) (b:Bool),j+k=n ->
  ∃ b',aC G0 IM (ST [(0,.int .i64 n),(3,.sl (mdR b) 1 (bZ (dU j))),(4,.int .i64 ((j:Int)+1))] [] [])=some (.ex 0,ST [(0,.int .i64 n),(3,.sl (mdR b') 1 (bZ (dU n))),(4,.int .i64 ((n:Int)+1)),(7,.bool false)] [] [])
 | 0,j,b,h=>by
  have:j=n:=by omega
  subst this;refine⟨b,?_⟩;have h4:¬ (j:Int)+1<=(j:Int):=by omega
  rw[aB (L:=IM) rfl];simp only[go_sem,h4]
 | k+1,j,b,h=>by
  have h4:(j:Int)+1<=(n:Int):=by omega
  have hw:IntKind.i64.wrap ((j:Int)+1+1)=((j+1:Nat):Int)+1:=by rw[w64 (by omega) (by omega)];rfl
  have ha:=U3 b (dU j) ((j:Int)+1) (by rw[fO];omega);rw[<- D8] at ha;obtain⟨b',ih⟩:=l49 n hn k (j+1) true (by omega);have e1:mdR true=.own:=rfl;rw[e1] at ih;refine⟨b',?_⟩;rw[aB (L:=IM) rfl];simp only[go_sem,h4,hw,dY,ha];exact ih
theorem c49 (n:Nat) (hn:n<=100000):G0 59 [.int .i64 n] []=some (.sl .no 1 (bZ (dU n)),[]):=by
 obtain⟨b',x⟩:=l49 n hn n 0 false (by omega);have ec:((0:Nat):Int)+1=1:=rfl;have e2:mdR false=.full:=rfl;have e0:bZ (dU 0)=[]:=rfl;rw[ec,e2,e0] at x;refine aA F59 rfl rfl rfl ?_;simp only[F59,go_sem,x,dY,jR]
end Go.Av
namespace Go.Av
open Go.Nt
theorem l43a (f:List Tk) (fr to:List Int) (hfr:fr.length<=1000000) (hto:to.length<=1000000) (o:List Tk) (ho:o.length<=1000000) (b:Bool) (kk:Int) (s:Bs) (id:Int) (n i:Int):∀ (g k:Nat),fr.length<=k+g ->
  (∀ v,lkz (fr.drop k) (to.drop k) id=some v->aC G0 tG (ST [(0,.sl .no 3 (tks f)),(1,.sl .no 1 (bZ fr)),(2,.sl .no 1 (bZ to)),(7,.sl (mdR b) 3 (tks o)),(9,.loc 9 0),(10,.int .i64 k),(12,.int .i64 n),(13,.int .i64 i),(14,.bool true),(22,.bool false)] [(9,some [.int .i64 kk,.str s,.int .i64 id])] [])=some (.ex 2,ST [(0,.sl .no 3 (tks f)),(1,.sl .no 1 (bZ fr)),(2,.sl .no 1 (bZ to)),(7,.sl .own 3 (tks (o++[(kk,s,v)]))),(12,.int .i64 n),(13,.int .i64 i),(14,.bool true),(22,.bool false),(36,.bool true),(45,.bool true)] [] [])) /\
  (lkz (fr.drop k) (to.drop k) id=none->∃ K:Int,aC G0 tG (ST [(0,.sl .no 3 (tks f)),(1,.sl .no 1 (bZ fr)),(2,.sl .no 1 (bZ to)),(7,.sl (mdR b) 3 (tks o)),(9,.loc 9 0),(10,.int .i64 k),(12,.int .i64 n),(13,.int .i64 i),(14,.bool true),(22,.bool false)] [(9,some [.int .i64 kk,.str s,.int .i64 id])] [])=some (.ex 2,ST [(0,.sl .no 3 (tks f)),(1,.sl .no 1 (bZ fr)),(2,.sl .no 1 (bZ to)),(7,.sl (mdR b) 3 (tks o)),(9,.loc 9 0),(10,.int .i64 K),(12,.int .i64 n),(13,.int .i64 i),(14,.bool true),(22,.bool false),(36,.bool false)] [(9,some [.int .i64 kk,.str s,.int .i64 id])] []))
 | g,k,hg=>by
  have h0:(0:Int)<=(k:Int):=by omega
  by_cases h1:fr.length<=k
  ·have h1':¬ (k:Int) < (fr.length:Int):=by omega
   refine⟨fun v hv=>(by rw[w9 (.inl h1)] at hv;cases hv),fun _=>⟨(k:Int),?_⟩⟩;rw[aB (L:=tG) rfl];simp only[go_sem,bJ,h1']
  have h1':(k:Int) < (fr.length:Int):=by omega
  by_cases h2:to.length<=k
  ·have h2':¬ (k:Int) < (to.length:Int):=by omega
   refine⟨fun v hv=>(by rw[w9 (.inr h2)] at hv;cases hv),fun _=>⟨(k:Int),?_⟩⟩;rw[aB (L:=tG) rfl];simp only[go_sem,bJ,h1',h2']
  have h2':(k:Int) < (to.length:Int):=by omega
  cases g with
  | zero=>omega
  | succ g =>
   have hw:IntKind.i64.wrap ((k:Int)+1)=((k+1:Nat):Int):=by rw[w64 (by omega) (by omega)];rfl
   have g1:fr[k]?=some fr[k]:=getElem?_eq_getElem (by omega);have g2:to[k]?=some to[k]:=getElem?_eq_getElem (by omega);generalize fr[k]=a at g1;generalize to[k]=c at g2;have r1:=kV g1;have r2:=kV g2;have ih:=l43a f fr to hfr hto o ho b kk s id n i g (k+1) (by omega);rw[CW g1 g2];by_cases hq:a=id
   ·subst hq
    rw[if_pos rfl];refine⟨fun v hv=>?_,fun q=>(by cases q)⟩;cases hv;have ha:=uC b o (kk,s,c) ho;simp only[] at ha;rw[aB (L:=tG) rfl];simp only[go_sem,bJ,h0,h1',h2',r1,r2,dY,ha]
   ·rw[if_neg hq]
    have step:aC G0 tG (ST [(0,.sl .no 3 (tks f)),(1,.sl .no 1 (bZ fr)),(2,.sl .no 1 (bZ to)),(7,.sl (mdR b) 3 (tks o)),(9,.loc 9 0),(10,.int .i64 k),(12,.int .i64 n),(13,.int .i64 i),(14,.bool true),(22,.bool false)] [(9,some [.int .i64 kk,.str s,.int .i64 id])] [])=aC G0 tG (ST [(0,.sl .no 3 (tks f)),(1,.sl .no 1 (bZ fr)),(2,.sl .no 1 (bZ to)),(7,.sl (mdR b) 3 (tks o)),(9,.loc 9 0),(10,.int .i64 ((k+1:Nat):Int)),(12,.int .i64 n),(13,.int .i64 i),(14,.bool true),(22,.bool false)] [(9,some [.int .i64 kk,.str s,.int .i64 id])] []):=by
     conv=>lhs;rw[aB (L:=tG) rfl]
     simp only[go_sem,bJ,h0,h1',h2',r1,r2,hq,hw]
    rw[step];exact ih
theorem l43 (f:List Tk) (hf:f.length<=100000) (fr to:List Int) (hfr:fr.length<=1000000) (hto:to.length<=1000000):∀ (k i:Nat) (b:Bool) (o:List Tk),i+k=f.length->o.length<=i ->
  ∃ b',aC G0 zU (ST [(0,.sl .no 3 (tks f)),(1,.sl .no 1 (bZ fr)),(2,.sl .no 1 (bZ to)),(7,.sl (mdR b) 3 (tks o)),(12,.int .i64 f.length),(13,.int .i64 i)] [] [])=some (.ex 0,ST [(0,.sl .no 3 (tks f)),(1,.sl .no 1 (bZ fr)),(2,.sl .no 1 (bZ to)),(7,.sl (mdR b') 3 (tks (o++jX fr to (f.drop i)))),(12,.int .i64 f.length),(13,.int .i64 f.length),(14,.bool false)] [] [])
 | 0,i,b,o,h,ho=>by
  have:i=f.length:=by omega
  subst this;refine⟨b,?_⟩;have e:jX fr to (f.drop f.length)=[]:=by rw[drop_length];rfl
  rw[e,append_nil];rw[aB (L:=zU) rfl];simp only[go_sem,Int.lt_irrefl]
 | k+1,i,b,o,h,ho=>by
  have hi:i < f.length:=by omega
  have h4:(i:Int) < (f.length:Int):=by omega
  have h0:(0:Int)<=(i:Int):=by omega
  have hw:=wI (i:=i) (by omega)
  have hg:f[i]?=some f[i]:=getElem?_eq_getElem hi;have hd:f.drop i=f[i] :: f.drop (i+1):=drop_eq_getElem_cons hi;generalize f[i]=T at hg hd;have hr:=dH hg;obtain⟨kk,s,id⟩:=T;simp only[] at hr;have c65:=c65 kk s id;have e1:mdR true=.own:=rfl;rw[hd,wK];cases ht:bD (kk,s,id) with
  | false =>
   rw[ht] at c65;rw[GH ht];have ha:=uC b o (kk,s,id) (by omega);simp only[] at ha;obtain⟨b',ih⟩:=l43 f hf fr to hfr hto k (i+1) true (o++[(kk,s,id)]) (by omega) (by simp;omega);refine⟨b',?_⟩;rw[e1] at ih;rw[aB (L:=zU) rfl];simp only[go_sem,h4,h0,hr,hw,c65,ha,dY];rw[append_assoc] at ih;exact ih
  | true =>
   rw[ht] at c65;obtain⟨x1,x2⟩:=l43a f fr to hfr hto o (by omega) b kk s id (f.length:Int) (i:Int) fr.length 0 (by omega);have ec:((0:Nat):Int)=0:=rfl;rw[drop_zero,drop_zero,ec] at x1 x2;cases hz:lkz fr to id with
   | none =>
    obtain⟨K,x⟩:=x2 hz;rw[LK ht hz];obtain⟨b',ih⟩:=l43 f hf fr to hfr hto k (i+1) b o (by omega) (by omega);refine⟨b',?_⟩;rw[aB (L:=zU) rfl];simp only[go_sem,h4,h0,hr,hw,c65,x,nil_append];exact ih
   | some v =>
    have x:=x1 v hz;rw[LJ ht hz];obtain⟨b',ih⟩:=l43 f hf fr to hfr hto k (i+1) true (o++[(kk,s,v)]) (by omega) (by simp;omega);refine⟨b',?_⟩;rw[e1] at ih;rw[aB (L:=zU) rfl];simp only[go_sem,h4,h0,hr,hw,c65,x];rw[append_assoc] at ih;exact ih
theorem c43 (f:List Tk) (hf:f.length<=100000) (hft:tot f<=1000000) (fr to:List Int) (hfr:fr.length<=1000000) (hto:to.length<=1000000):G0 60 [.sl .no 3 (tks f),.sl .no 1 (bZ fr),.sl .no 1 (bZ to)] []=some (.sl .no 3 (tks (nrm (jX fr to f))),[]):=by
 obtain⟨b',x⟩:=l43 f hf fr to hfr hto f.length 0 false [] (by omega) (by simp);have ec:((0:Nat):Int)=0:=rfl;have e2:mdR false=.full:=rfl;rw[drop_zero,ec,e2,eB,nil_append] at x;obtain⟨t1,t2⟩:=GG fr to f;have h57:=c57 (jX fr to f) (by omega) (by omega);refine aA F60 rfl rfl rfl ?_;simp only[F60,go_sem,aD,x,dY,jR,AG,h57]
end Go.Av
namespace Go.Av
open Go.Nt
def Rok (R:LL):Prop:=∀ (l:List Int) (n:Nat),eY false (R.length+1) (num l n :: R)=true
theorem KS (x:List AV) (R:LL):(x :: R).take (R.length+1)=x :: R:=by rw[take_succ_cons,take_length]
theorem FK {R:LL} (hR:Rok R) (l:List Int) (n:Nat) (m:Int) (hn:n<=1000000) (h1:1<=m) (h2:m<=1000000):G0 27 [.ptr 0 0,.int .i64 m] (num l n :: R)=some (.int .i64 (nxt l n m),(num l (n+1) :: R)):=by
 refine aA F27 rfl rfl rfl ?_;have hw:IntKind.i64.wrap ((n:Int)+1)=((n+1:Nat):Int):=by rw[w64 (by omega) (by omega)];rfl
 have h0:(0:Int)<=(n:Int):=by omega
 have hnum:eY false (R.length+1) ([.sl .no 1 (bZ l),.int .i64 ((n+1:Nat):Int)] :: R)=true:=hR l (n+1);have htk:=KS [.sl .no 1 (bZ l),.int .i64 ((n+1:Nat):Int)] R;by_cases h3:n < l.length
 ·have h4:(n:Int) < (l.length:Int):=by omega
  have hr:=kV (l:=l) (i:=n) (x:=l.getD n 0) (by simp [getD_eq_getElem?_getD,h3]);simp only[F27,go_sem,num,bJ,h4,h0,hr,hw,c18 _ m h1 h2,nxt,h3,hnum,htk]
 ·have h4:¬ (n:Int) < (l.length:Int):=by omega
  simp only[F27,go_sem,num,bJ,h4,h0,hw,c18 _ m h1 h2,nxt,h3,hnum,htk]
theorem YO {R:LL} (hR:Rok R) (l:List Int) (n:Nat) (hn:n<=1000000):G0 87 [.ptr 0 0] (num l n :: R)=some (.str (wd l n),(num l (n+1) :: R)):=by
 refine aA F87 rfl rfl rfl ?_;have hm:iE 1 [.str []] 24 [0,1,2,3,4,5,6,7,8,9,10,11,12,13,14,15,16,17,18,19,20,21,22,23] [.str [114,101,100],.str [99,97,114],.str [82,101,100],.str [97],.str [99,97,114,115],.str [49,44,53],.str [50,50],.str [100,111,110,39,116],.str [46],.str [33],.str [32],.str [32,32],.str [60],.str [38],.str [123],.str [34],.str [92],.str [120,45,121],.str [10],.str [61],.str [125],.str [62],.str [9],.str [98]]=some (.sl .full 1 (cP wds)):=by rfl
 have hb:=gY l n 24 (by omega);have h0:0<=nxt l n 24:=hb.1
 have hr:=eW (l:=wds) (i:=(nxt l n 24).toNat) (s:=wd l n) (by
  unfold wd
  rw[getD_eq_getElem?_getD,getElem?_eq_getElem (by simp [wds];omega)];rfl)
 have hnum:=hR l (n+1);have htk:=KS (num l (n+1)) R;simp only[F87,go_sem,hm,FK hR l n 24 hn (by decide) (by decide),h0,hr,hnum,htk]
theorem RH {R:LL} (hR:Rok R) (l:List Int):∀ (k n:Nat) (out:List UInt8),n+2*k<=1000000->out.length+6*k<=1000000 ->
  aC G0 o8 (ST [(0,.ptr 0 0),(5,.str out),(6,.int .i64 k)] [] (num l n :: R))=some (.ex 0,ST [(0,.ptr 0 0),(5,.str (lnF l k n out).1),(6,.int .i64 0),(13,.bool false)] [] (num l (lnF l k n out).2 :: R))
 | 0,n,out,h1,h2=>by
  rw[aB (L:=o8) rfl];simp only[go_sem,Int.lt_irrefl,lnF]
 | k+1,n,out,h1,h2=>by
  have hk:(0:Int) < ((k+1:Nat):Int):=by omega
  have hw:IntKind.i64.wrap (((k+1:Nat):Int) - 1)=(k:Int):=by rw[w64 (by omega) (by omega)];omega
  have hl:=D7 l n;by_cases h3:out=[]
  ·have ih:=RH hR l k (n+1) (out++wd l n) (by omega) (by rw[length_append];omega)
   have hc:out.length+(wd l n).length<=140737488355328:=by omega
   subst h3;rw[aB (L:=o8) rfl];simp only[go_sem,hk,YO hR l n (by omega),hc,hw,lnF];simp only[length_nil] at hc;simp only[go_sem] at ih;have hc':(wd l n).length<=140737488355328:=by omega
   simp only[go_sem,hc',ih]
  ·have hne:(out != [])=true:=by simp [h3]
   have h24:=FK hR l (n+1) 3 (by omega) (by decide) (by decide);by_cases h4:0 < nxt l (n+1) 3
   ·have ih:=RH hR l k (n+2) (out++[32]++wd l n) (by omega) (by simp only[length_append,length_cons,length_nil];omega)
    have hc:out.length+1<=140737488355328:=by omega
    have hc2:(out++[32]).length+(wd l n).length<=140737488355328:=by simp only[length_append,length_cons,length_nil];omega
    have e:lnF l (k+1) n out=lnF l k (n+2) (out++[32]++wd l n):=by simp only[lnF,h3,h4,if_true,if_false]
    rw[e,aB (L:=o8) rfl];simp only[go_sem,hk,YO hR l n (by omega),hne,h24,h4,hc,hc2,hw];exact ih
   ·have ih:=RH hR l k (n+2) (out++wd l n) (by omega) (by simp only[length_append];omega)
    have hc:out.length+(wd l n).length<=140737488355328:=by omega
    have e:lnF l (k+1) n out=lnF l k (n+2) (out++wd l n):=by simp only[lnF,h3,h4,if_true,if_false]
    rw[e,aB (L:=o8) rfl];simp only[go_sem,hk,YO hR l n (by omega),hne,h24,h4,hc,hw];exact ih
theorem c63r {R:LL} (hR:Rok R) (l:List Int) (n:Nat) (m:Int) (hn:n<=900000) (h1:1<=m) (h2:m<=1000):G0 55 [.ptr 0 0,.int .i64 m] (num l n :: R)=some (.str (nK l n m).1,(num l (nK l n m).2 :: R)):=by
 refine aA F55 rfl rfl rfl ?_;have hb:=gY l n (m+1) (by omega);have hx:=RH hR l (nxt l n (m+1)).toNat (n+1) [] (by omega) (by simp only[length_nil];omega);have hc:(((nxt l n (m+1)).toNat:Nat):Int)=nxt l n (m+1):=by omega
 rw[hc] at hx;have hnum:∀ j,eY false (R.length+1) (num l j :: R)=true:=fun j=>hR l j
 simp only[F55,go_sem,take_length,w64 (n:=m+1) (by omega) (by omega),FK hR l n (m+1) (by omega) (by omega) (by omega),hx,hnum,nK]
end Go.Av
namespace Go.Av
open Go.Nt
attribute [-go_sem] j9 jS
theorem l146 (l:List Int) (hl:l.length<=1000000) (x:Int):∀ (k i:Nat),i+k=l.length ->
  (x ∉ l.drop i->∃ l',aC G0 o9 (ST [(0,.sl .no 1 (bZ l)),(1,.int .i64 x),(7,.int .i64 l.length),(8,.int .i64 i)] [] [])=some (.ex 0,ST l' [] [])) /\
  (x∈l.drop i->∃ l' n,aC G0 o9 (ST [(0,.sl .no 1 (bZ l)),(1,.int .i64 x),(7,.int .i64 l.length),(8,.int .i64 i)] [] [])=some (.ret,ST l' [] [])/\aE .any l' 4=.int .i64 ((n:Nat):Int))
 | 0,i,h=>by
  have:i=l.length:=by omega
  subst this;refine⟨fun _=>?_,fun h=>(by simp at h)⟩;refine Exists.intro ?_ ?_
  rotate_left 1
  rw[aB (L:=o9) rfl];simp only[go_sem,Int.lt_irrefl];rfl
 | k+1,i,h=>by
  have hi:i < l.length:=by omega
  have h4:(i:Int) < (l.length:Int):=by omega
  have h0:(0:Int)<=(i:Int):=by omega
  have hw:=wI (i:=i) (by omega)
  have hg:l[i]?=some l[i]:=getElem?_eq_getElem hi;have hd:l.drop i=l[i] :: l.drop (i+1):=drop_eq_getElem_cons hi;generalize l[i]=a at hg hd;have hr:=kV hg;have ih:=l146 l hl x k (i+1) (by omega);rw[hd];by_cases q:a=x
  ·subst q
   refine⟨fun q=>absurd (mem_cons_self ..) q,fun _=>?_⟩;refine Exists.intro ?_ (Exists.intro i (And.intro ?_ ?_))
   rotate_left 1
   ·rw[aB (L:=o9) rfl]
    simp only[go_sem,h4,h0,hr,hw];rfl
   ·rfl
  ·have q':¬ x=a:=fun z=>q z.symm
   have step:aC G0 o9 (ST [(0,.sl .no 1 (bZ l)),(1,.int .i64 x),(7,.int .i64 l.length),(8,.int .i64 i)] [] [])=aC G0 o9 (ST [(0,.sl .no 1 (bZ l)),(1,.int .i64 x),(7,.int .i64 l.length),(8,.int .i64 ((i+1:Nat):Int))] [] []):=by
    conv=>lhs;rw[aB (L:=o9) rfl]
    simp only[go_sem,h4,h0,hr,hw,q']
   rw[step];have em:(x∈a :: l.drop (i+1))↔x∈l.drop (i+1):=by simp [q']
   rw[em];exact ih
theorem k146 (l:List Int) (hl:l.length<=1000000) (x:Int):(x ∉ l->G0 142 [.sl .no 1 (bZ l),.int .i64 x] []=some (.int .i64 (-1),[]))/\(x∈l->∃ n:Nat,G0 142 [.sl .no 1 (bZ l),.int .i64 x] []=some (.int .i64 (n:Int),[])):=by
 obtain⟨x1,x2⟩:=l146 l hl x l.length 0 (by omega);have ec:((0:Nat):Int)=0:=rfl;rw[drop_zero,ec] at x1 x2;constructor
 ·intro h
  refine aA OP rfl rfl rfl ?_;obtain⟨l',y1⟩:=x1 h;simp only[OP,go_sem,bJ,y1,fF,gF,not_mem_nil,if_true,if_false]
 ·intro h
  obtain⟨l',n,y1,y2⟩:=x2 h;refine⟨n,?_⟩;refine aA OP rfl rfl rfl ?_;simp only[OP,go_sem,bJ,y1,y2]
theorem k105 (l:List Int) (hl:l.length<=1000000) (x:Int):G0 118 [.sl .no 1 (bZ l),.int .i64 x] []=some (.bool (decide (x∈l)),[]):=by
 obtain⟨h1,h2⟩:=k146 l hl x;refine aA TJ rfl rfl rfl ?_;by_cases h:x∈l
 ·rw[decide_eq_true h]
  obtain⟨n,h2⟩:=h2 h;have hn:(0:Int)<=(n:Int):=by omega
  simp only[TJ,go_sem,h2,hn]
 ·rw[decide_eq_false h]
  have h1:=h1 h;simp only[TJ,go_sem,h1]
theorem dd {D:LL} (h:∀ c∈D,c=aZ):∀ c∈D++[aZ],c=aZ:=fun c hc=>by
 rcases mem_append.1 hc with q | q
 ·exact h c q
 ·exact mem_singleton.1 q
theorem AZ (P:LL) (r:LL) (X:LL):kS (P++[AV.mapv r] :: X) P.length=some r:=by
 unfold kS;rw[getElem?_append_right (Nat.le_refl _),Nat.sub_self];rfl
theorem map_set (P:LL) (c c':List AV) (X:LL):(P++c :: X).set P.length c'=P++c' :: X:=by
 rw[set_append_right _ _ (Nat.le_refl _),Nat.sub_self];rfl
def NS (P:LL) (l:List Int) (v:AV) (sh:LL):Prop:=
 (l=[]/\v=.sl .full 1 []/\sh=P++[AV.mapv (spm [])] :: []) \/
 (∃ D:LL,l≠[]/\(∀ c∈D,c=aZ)/\v=.ss (P.length+1+D.length) 0 l.length 1/\sh=P++[AV.mapv (spm l)] :: (D++[icl l]))
theorem NS.map {P:LL} {l:List Int} {v:AV} {sh:LL} (h:NS P l v sh):kS sh P.length=some (spm l):=by
 rcases h with ⟨rfl,_,rfl⟩ | ⟨D,_,_,_,rfl⟩
 ·exact AZ _ _ _
 ·exact AZ _ _ _
theorem NS.dem {P:LL} {l:List Int} {v:AV} {sh:LL} (h:NS P l v sh):aI v=v:=by
 rcases h with ⟨_,rfl,_⟩ | ⟨D,_,_,rfl,_⟩<;>rfl
theorem NS.scrub {P:LL} {l:List Int} {v:AV} {sh:LL} (h:NS P l v sh) (k:List Nat):b9 k v=v:=by
 rcases h with ⟨_,rfl,_⟩ | ⟨D,_,_,rfl,_⟩<;>rfl
theorem RX:∀ l:List Int,cR (icl l)=true
 | []=>rfl
 | _ :: _=>rfl
theorem M9 (l:List Int):(icl l).all jF=true:=by
 induction l with
 | nil=>rfl
 | cons x l ih=>show (jF (.int .i64 x) && (icl l).all jF)=true;rw[ih];rfl
theorem IF (o:Nat) (sh:LL) (l:List Int) (i:Int) (h:l.length<=1000000) (hs:sh[o]?=some (icl l)):gS 1 8 sh (some [[.int .i64 i]]) (.ss o 0 l.length 1)=some (.ss sh.length 0 (l.length+1) 1,sh.set o aZ++[icl (l++[i])]):=by
 have ha:cU 8 (l.length+1)=true:=bU (by decide) (by omega);rw[j9 o l.length 8 1 (by decide),length_singleton,if_pos ha,hs];simp only[Option.bind_some];rw[if_pos ⟨RX l,by rw[vQ];omega,M9 l⟩];simp [icl]
theorem DW (sh:LL) (i:Int):gS 1 8 sh (some [[.int .i64 i]]) (.sl .full 1 [])=some (.ss sh.length 0 1 1,sh++[icl [i]]):=by
 have ha:cU 8 (([]:LL).length+1)=true:=bU (by decide) (by decide);rw[jS 1 8 1 (by decide),if_pos ha];rfl
theorem NS.add {P:LL} {l:List Int} {v:AV} {sh:LL} (h:NS P l v sh) (hl:l.length<=1000000) (i:Int) (hi:i ∉ l) :
  ∃ v' sh1 sh',NS P (l++[i]) v' sh'/\sh.set P.length [.mapv (spm (l++[i]))]=sh1/\gS 1 8 sh1 (some [[.int .i64 i]]) v=some (v',sh'):=by
 rcases h with ⟨rfl,rfl,rfl⟩ | ⟨D,h1,h2,rfl,rfl⟩
 ·refine⟨_,_,_,?_,rfl,DW _ _⟩
  rw[map_set]
  refine .inr ⟨[],by simp,by simp,?_,?_⟩
  ·simp
  ·simp
 ·refine⟨_,_,_,?_,rfl,IF _ _ _ _ hl (by
   rw[map_set,getElem?_append_right (by omega)];have e:P.length+1+D.length - P.length=D.length+1:=by omega
   rw[e,getElem?_cons_succ,getElem?_append_right (Nat.le_refl _),Nat.sub_self]
   rfl)⟩
  rw[map_set];have e:P.length+1+D.length=P.length+(D.length+1):=by omega
  refine .inr ⟨D++[aZ],by simp,dd h2,?_,?_⟩
  ·simp;omega
  ·rw[set_append_right _ _ (by omega),e,Nat.add_sub_cancel_left,set_cons_succ,set_append_right _ _ (Nat.le_refl _),Nat.sub_self]
   simp
theorem HM (P:LL) (f:List Tk) (hf:f.length<=100000):∀ (k i:Nat) (l:List Int) (v:AV) (sh:LL),i+k=f.length->l.length<=i->NS P l v sh ->
  ∃ v' sh',NS P ((f.drop i).foldl gA l) v' sh'/\aC G0 uF (ST [(3,v),(4,.mp P.length),(8,.sl .no 3 (tks f)),(9,.int .i64 f.length),(10,.int .i64 i)] [] sh)=some (.ex 0,ST [(3,v'),(4,.mp P.length),(8,.sl .no 3 (tks f)),(9,.int .i64 f.length),(10,.int .i64 f.length),(11,.bool false)] [] sh')
 | 0,i,l,v,sh,h,hl,hN=>by
  have:i=f.length:=by omega
  subst this;refine⟨v,sh,by rw[drop_length,foldl_nil];exact hN,?_⟩;have sc:=hN.scrub;rw[aB (L:=uF) rfl];simp only[go_sem,Int.lt_irrefl,sc]
 | k+1,i,l,v,sh,h,hl,hN=>by
  have hi:i < f.length:=by omega
  have h4:(i:Int) < (f.length:Int):=by omega
  have h0:(0:Int)<=(i:Int):=by omega
  have hw:=wI (i:=i) (by omega)
  have hg:f[i]?=some f[i]:=getElem?_eq_getElem hi;have hd:f.drop i=f[i] :: f.drop (i+1):=drop_eq_getElem_cons hi;generalize f[i]=T at hg hd;have hr:=dH hg;obtain⟨kk,s,id⟩:=T;simp only[] at hr;have c69:=c69 kk s id;have hlk:=MW id l;have hmp:=hN.map;have sc:=hN.scrub;have dm:=hN.dem;rw[hd,foldl_cons];cases ht:bD (kk,s,id) with
  | false =>
   rw[ht] at c69;rw[BS (.inl ht)];obtain⟨v',sh',p1,ih⟩:=HM P f hf k (i+1) l v sh (by omega) (by omega) hN;refine⟨v',sh',p1,?_⟩;rw[aB (L:=uF) rfl];simp only[go_sem,h4,h0,hr,hw,c69,sc,dm];exact ih
  | true =>
   rw[ht] at c69;by_cases hm:id∈l
   ·rw[if_pos hm] at hlk
    rw[BS (.inr hm)];obtain⟨v',sh',p1,ih⟩:=HM P f hf k (i+1) l v sh (by omega) (by omega) hN;refine⟨v',sh',p1,?_⟩;rw[aB (L:=uF) rfl];simp only[go_sem,h4,h0,hr,hw,c69,hmp,hlk,zDO,sc,dm];exact ih
   ·rw[if_neg hm] at hlk
    rw[OK ht hm];have hmu:=MM id l hm;obtain⟨v1,sh1,sh2,q1,q2,q3⟩:=hN.add (by omega) id hm;have sc1:=q1.scrub;have dm1:=q1.dem;obtain⟨v',sh',p1,ih⟩:=HM P f hf k (i+1) (l++[id]) v1 sh2 (by omega) (by simp;omega) q1;refine⟨v',sh',p1,?_⟩;rw[aB (L:=uF) rfl];simp only[go_sem,h4,h0,hr,hw,c69,hmp,hlk,zDP,hmu,q2,q3,sc,dm,sc1,dm1];exact ih
def NV (sh:LL) (v:AV) (l:List Int):Prop:=(l=[]/\v=.sl .full 1 [])\/(∃ o,l≠[]/\v=.ss o 0 l.length 1/\sh[o]?=some (icl l))
theorem NV.dem {sh:LL} {v:AV} {l:List Int} (h:NV sh v l):aI v=v:=by
 rcases h with ⟨_,rfl⟩ | ⟨o,_,rfl,_⟩<;>rfl
theorem NV.scrub {sh:LL} {v:AV} {l:List Int} (h:NV sh v l) (k:List Nat):b9 k v=v:=by
 rcases h with ⟨_,rfl⟩ | ⟨o,_,rfl,_⟩<;>rfl
theorem NV.arg {sh:LL} {v:AV} {l:List Int} (h:NV sh v l):gR true v=true:=by
 rcases h with ⟨_,rfl⟩ | ⟨o,_,rfl,_⟩<;>rfl
theorem NV.app {sh:LL} {v:AV} {l:List Int} (h:NV sh v l) (E:LL):NV (sh++E) v l:=by
 rcases h with ⟨h1,h2⟩ | ⟨o,h1,h2,h3⟩
 ·exact .inl ⟨h1,h2⟩
 ·refine .inr ⟨o,h1,h2,?_⟩
  have hi:o < sh.length:=by
   by_cases q:o < sh.length
   ·exact q
   ·rw[getElem?_eq_none (by omega)] at h3;cases h3
  rw[getElem?_append_left hi,h3]
theorem k104 (P:LL) (f:List Tk) (hf:f.length<=100000):∃ v E,NV (P++E) v (cB f)/\(∀ o,v=.ss o 0 (cB f).length 1->P.length<=o)/\G0 117 [.sl .no 3 (tks f)] P=some (v,P++E):=by
 obtain⟨v,sh,p1,p2⟩:=HM P f hf f.length 0 [] (.sl .full 1 []) (P++[AV.mapv (spm [])] :: []) (by omega) (by simp) (.inl ⟨rfl,rfl,rfl⟩);have ec:((0:Nat):Int)=0:=rfl;have e3:spm []=[]:=rfl;rw[drop_zero] at p1;have en:f.foldl gA []=cB f:=rfl;rw[en] at p1;rw[ec,e3] at p2;have dm:=p1.dem;obtain⟨E,hE,hv,ho⟩:∃ E,sh=P++E/\NV (P++E) v (cB f)/\(∀ o,v=.ss o 0 (cB f).length 1->P.length<=o):=by
  rcases p1 with ⟨h1,rfl,rfl⟩ | ⟨D,h1,h2,rfl,rfl⟩
  ·exact⟨_,rfl,.inl ⟨h1,rfl⟩,fun o h=>by cases h⟩
  ·refine⟨_,rfl,.inr ⟨_,h1,rfl,?_⟩,fun o h=>by cases h;omega⟩
   rw[getElem?_append_right (by omega)];have e:P.length+1+D.length - P.length=D.length+1:=by omega
   rw[e,getElem?_cons_succ,getElem?_append_right (Nat.le_refl _),Nat.sub_self];rfl
 subst hE;refine⟨v,E,hv,ho,?_⟩;refine aA TK rfl rfl rfl ?_;rcases hv with ⟨_,rfl⟩ | ⟨o,_,rfl,_⟩
 ·simp only[TK,go_sem,aD,p2]
 ·simp only[TK,go_sem,aD,p2]
end Go.Av
namespace Go.Av
open Go.Nt
attribute [-go_sem] j9 jS
theorem NA {l:List Int} {i:Nat} {x:Int} (h:l[i]?=some x):(icl l)[i]?=some (.int .i64 x):=by simp [icl,h]
theorem zDG {sh:LL} {o:Nat} {l:List Int} (h:sh[o]?=some (icl l)) (X:LL):(sh++X)[o]?=some (icl l):=by
 have hi:o < sh.length:=by
  by_cases q:o < sh.length
  ·exact q
  ·rw[getElem?_eq_none (by omega)] at h;cases h
 rw[getElem?_append_left hi,h]
theorem UL (a0:AV) (ha0:∀ k,b9 k a0=a0) (P:LL) (o:Nat) (fr to:List Int) (hP:P[o]?=some (icl fr)) (h1:fr.length=to.length) (hl:fr.length<=1000000):∀ (k:Nat) (m:Im),k<=fr.length->(∀ i,mgI m i=lkz (fr.drop k) (to.drop k) i) ->
  ∃ m',(∀ i,mgI m' i=lkz fr to i)/\aC G0 uE (ST [(0,a0),(1,.ss o 0 fr.length 1),(2,.sl .no 1 (bZ to)),(7,.mp P.length),(8,.int .i64 ((k:Int) - 1))] [] (P++[AV.mapv (imr m)] :: []))=some (.ex 0,ST [(0,a0),(1,.ss o 0 fr.length 1),(2,.sl .no 1 (bZ to)),(7,.mp P.length),(8,.int .i64 (-1)),(22,.bool false)] [] (P++[AV.mapv (imr m')] :: []))
 | 0,m,hk,hm=>by
  refine⟨m,by simpa using hm,?_⟩;have e:((0:Nat):Int) - 1 = -1:=rfl;rw[e,aB (L:=uE) rfl];simp only[go_sem,ha0]
 | k+1,m,hk,hm=>by
  have e:((k+1:Nat):Int) - 1=(k:Int):=by omega
  have h0:(0:Int)<=(k:Int):=by omega
  have hk2:(k:Int) < (fr.length:Int):=by omega
  have hw:IntKind.i64.wrap ((k:Int) - 1)=(k:Int) - 1:=w64 (by omega) (by omega);have g1:fr[k]?=some fr[k]:=getElem?_eq_getElem (by omega);have g2:to[k]?=some to[k]:=getElem?_eq_getElem (by omega);generalize fr[k]=a at g1;generalize to[k]=b at g2;have r1:=NA g1;have r2:=kV g2;have hmu:=MN a b m;have hP2:=zDG hP ([AV.mapv (imr m)] :: []);have hm1:=AZ P (imr m) [];have hs1:=map_set P [AV.mapv (imr m)] [AV.mapv (imr (msI m a b))] []
  obtain⟨m',q1,q2⟩:=UL a0 ha0 P o fr to hP h1 hl k (msI m a b) (by omega) (fun i=>by
   rw[UH,CW g1 g2,hm];by_cases q:i=a
   ·subst q;simp
   ·rw[if_neg q,if_neg (Ne.symm q)])
  refine⟨m',q1,?_⟩;rw[e,aB (L:=uE) rfl];simp only[go_sem,ha0,h0,hk2,hP2,Int.toNat_natCast,Nat.zero_add,Nat.mul_one,r1,r2,hm1,hmu,hs1,hw];exact q2
theorem zDZ (a0:AV) (ha0:∀ k,b9 k a0=a0) (P:LL):aC G0 uE (ST [(0,a0),(1,.sl .full 1 []),(2,.sl .no 1 (bZ [])),(7,.mp P.length),(8,.int .i64 (-1))] [] (P++[AV.mapv (imr [])] :: []))=some (.ex 0,ST [(0,a0),(1,.sl .full 1 []),(2,.sl .no 1 (bZ [])),(7,.mp P.length),(8,.int .i64 (-1)),(22,.bool false)] [] (P++[AV.mapv (imr [])] :: [])):=by
 rw[aB (L:=uE) rfl];simp only[go_sem,ha0]
theorem C5 (P:LL) (f:List Tk) (hf:f.length<=100000) (a1 a2:AV) (s1:∀ k,b9 k a1=a1) (s2:∀ k,b9 k a2=a2) (fr to:List Int) (m:Im) (hm:∀ i,mgI m i=lkz fr to i):∀ (k i:Nat) (b:Bool) (o:List Tk),i+k=f.length->o.length<=i ->
  ∃ b',aC G0 uD (ST [(1,a1),(2,a2),(7,.mp P.length),(8,.int .i64 (-1)),(9,.sl (mdR b) 3 (tks o)),(22,.bool false),(34,.sl .no 3 (tks f)),(35,.int .i64 f.length),(36,.int .i64 i)] [] (P++[AV.mapv (imr m)] :: []))=some (.ex 2,ST [(1,a1),(2,a2),(7,.mp P.length),(8,.int .i64 (-1)),(9,.sl (mdR b') 3 (tks (o++jX fr to (f.drop i)))),(22,.bool false),(34,.sl .no 3 (tks f)),(35,.int .i64 f.length),(36,.int .i64 f.length),(37,.bool false)] [] (P++[AV.mapv (imr m)] :: []))
 | 0,i,b,o,h,ho=>by
  have:i=f.length:=by omega
  subst this;refine⟨b,?_⟩;have e:jX fr to (f.drop f.length)=[]:=by rw[drop_length];rfl
  rw[e,append_nil];rw[aB (L:=uD) rfl];simp only[go_sem,s1,s2,Int.lt_irrefl]
 | k+1,i,b,o,h,ho=>by
  have hi:i < f.length:=by omega
  have h4:(i:Int) < (f.length:Int):=by omega
  have h0:(0:Int)<=(i:Int):=by omega
  have hw:=wI (i:=i) (by omega)
  have hg:f[i]?=some f[i]:=getElem?_eq_getElem hi;have hd:f.drop i=f[i] :: f.drop (i+1):=drop_eq_getElem_cons hi;generalize f[i]=T at hg hd;have hr:=dH hg;obtain⟨kk,s,id⟩:=T;simp only[] at hr;have c69:=c69 kk s id;have hlk:=MX id m;rw[hm] at hlk;have hm1:=AZ P (imr m) [];have e1:mdR true=.own:=rfl;rw[hd,wK];cases ht:bD (kk,s,id) with
  | false =>
   rw[ht] at c69;rw[GH ht];have ha:=uC b o (kk,s,id) (by omega);simp only[] at ha;obtain⟨b',ih⟩:=C5 P f hf a1 a2 s1 s2 fr to m hm k (i+1) true (o++[(kk,s,id)]) (by omega) (by simp;omega);refine⟨b',?_⟩;rw[e1] at ih;rw[aB (L:=uD) rfl];simp only[go_sem,s1,s2,h4,h0,hr,hw,c69,ha,dY];rw[append_assoc] at ih;exact ih
  | true =>
   rw[ht] at c69;cases hz:lkz fr to id with
   | none =>
    rw[hz] at hlk;simp only[Option.map_none] at hlk;rw[LK ht hz];obtain⟨b',ih⟩:=C5 P f hf a1 a2 s1 s2 fr to m hm k (i+1) b o (by omega) (by omega);refine⟨b',?_⟩;rw[aB (L:=uD) rfl];simp only[go_sem,s1,s2,h4,h0,hr,hw,c69,hm1,hlk,zDN,nil_append];exact ih
   | some v =>
    rw[hz] at hlk;simp only[Option.map_some] at hlk;rw[LJ ht hz];have ha:=uC b o (kk,s,v) (by omega);simp only[] at ha;obtain⟨b',ih⟩:=C5 P f hf a1 a2 s1 s2 fr to m hm k (i+1) true (o++[(kk,s,v)]) (by omega) (by simp;omega);refine⟨b',?_⟩;rw[e1] at ih;rw[aB (L:=uD) rfl];simp only[go_sem,s1,s2,h4,h0,hr,hw,c69,hm1,hlk,zDM,ha,dY];rw[append_assoc] at ih;exact ih
theorem k106 (P:LL) (f:List Tk) (hf:f.length<=100000) (v:AV) (fr to:List Int) (hP:NV P v fr) (h1:fr.length=to.length) (hl:fr.length<=1000000) (hv:VL (jX fr to f)) (hr:(jX fr to f).length<=100000) (hb:∀ t∈jX fr to f,t.2.1.length<=1000000):∃ m,G0 119 [.sl .no 3 (tks f),v,.sl .no 1 (bZ to)] P=some (.sl .no 3 (tks (jX fr to f)),P++[AV.mapv (imr m)] :: []):=by
 have h99:=c99 (jX fr to f) hr hv hb;have hl1:(bZ to).length=fr.length:=by rw[bJ,h1]
 have hmin:min (fr.length:Int) (fr.length:Int)=(fr.length:Int):=by omega
 have hw:IntKind.i64.wrap ((fr.length:Int) - 1)=(fr.length:Int) - 1:=w64 (by omega) (by omega);have ec:((0:Nat):Int)=0:=rfl;have e2:mdR false=.full:=rfl;have e3:imr []=[]:=rfl;rcases hP with ⟨rfl,rfl⟩ | ⟨o,hne,rfl,hs⟩
 ·have et:to=[]:=eq_nil_of_length_eq_zero h1.symm
  subst et;have q2:=zDZ (.sl .no 3 (tks f)) (fun _=>rfl) P;obtain⟨b',q3⟩:=C5 P f hf (.sl .full 1 []) (.sl .no 1 (bZ [])) (fun _=>rfl) (fun _=>rfl) [] [] [] (fun i=>rfl) f.length 0 false [] (by omega) (by simp);rw[drop_zero,ec,e2,eB,nil_append] at q3;rw[e3] at q2 q3;refine⟨[],?_⟩;have e4:bZ []=[]:=rfl;have w1:IntKind.i64.wrap (min (0:Int) 0 - 1) = -1:=by rw[show (min (0:Int) 0 - 1) = -1 by decide];exact w64 (by decide) (by decide)
  rw[e3];rw[e4] at q2 q3 ⊢;refine aA OR rfl rfl rfl ?_;simp only[OR,go_sem,length_nil,q2,aD,q3,dY,jR,h99,w1]
 ·obtain⟨m',q1,q2⟩:=UL (.sl .no 3 (tks f)) (fun _=>rfl) P o fr to hs h1 hl fr.length [] (Nat.le_refl _) (fun i=>by rw[w9 (.inl (Nat.le_refl _))];rfl)
  obtain⟨b',q3⟩:=C5 P f hf (.ss o 0 fr.length 1) (.sl .no 1 (bZ to)) (fun _=>rfl) (fun _=>rfl) fr to m' q1 f.length 0 false [] (by omega) (by simp);rw[drop_zero,ec,e2,eB,nil_append] at q3;rw[e3] at q2;refine⟨m',?_⟩;refine aA OR rfl rfl rfl ?_;simp only[OR,go_sem,hl1,hmin,hw,q2,aD,q3,dY,jR,h99]
theorem WZ (a0 a1:AV) (s0:∀ k,b9 k a0=a0) (s1:∀ k,b9 k a1=a1) (N:List Int) (w:AV) (hN:N.length<=100000):∀ (k i:Nat) (l:List Int) (v:AV) (sh:LL),i+k=N.length->l.length<=100000+i->NV sh v l->NV sh w N->(∀ o n,v=.ss o 0 n 1->∀ o',w=.ss o' 0 N.length 1->o≠o') ->
  ∃ v' sh',NV sh' v' ((N.drop i).foldl mD l)/\aC G0 DY (ST [(0,a0),(1,a1),(6,v),(12,w),(13,.int .i64 N.length),(14,.int .i64 i)] [] sh)=some (.ex 0,ST [(0,a0),(1,a1),(6,v'),(12,w),(13,.int .i64 N.length),(14,.int .i64 N.length),(15,.bool false)] [] sh')
 | 0,i,l,v,sh,h,hl,hv,hw0,hne=>by
  have:i=N.length:=by omega
  subst this;refine⟨v,sh,by rw[drop_length,foldl_nil];exact hv,?_⟩;have sc:=hv.scrub;have sw:=hw0.scrub;rw[aB (L:=DY) rfl];simp only[go_sem,Int.lt_irrefl,sc,sw,s0,s1]
 | k+1,i,l,v,sh,h,hl,hv,hw0,hne=>by
  have hi:i < N.length:=by omega
  have h4:(i:Int) < (N.length:Int):=by omega
  have h0:(0:Int)<=(i:Int):=by omega
  have hw:=wI (i:=i) (by omega)
  have hg:N[i]?=some N[i]:=getElem?_eq_getElem hi;have hd:N.drop i=N[i] :: N.drop (i+1):=drop_eq_getElem_cons hi;generalize N[i]=x at hg hd;have hr:=NA hg;have sc:=hv.scrub;have dm:=hv.dem;have hc:=k105 l (by omega) x;rw[hd,foldl_cons];obtain⟨o',rfl,hs'⟩:∃ o',w=.ss o' 0 N.length 1/\sh[o']?=some (icl N):=by
   rcases hw0 with ⟨q,_⟩ | ⟨o',_,q1,q2⟩
   ·rw[q] at hi;simp at hi
   ·exact⟨o',q1,q2⟩
  have hsn:∃ m,lN sh v=some (.sl m 1 (bZ l)):=by
   rcases hv with ⟨rfl,rfl⟩ | ⟨o,_,rfl,hs⟩
   ·exact⟨_,rfl⟩
   ·refine⟨.no,?_⟩
    show ((sh[o]?).bind fun cells=>(dD 0 l.length 1 cells).map fun l=>AV.sl .no 1 l)=_;rw[hs];simp only[Option.bind_some,yU,Option.map_some]
  obtain⟨md,hsn⟩:=hsn;by_cases hm:x∈l
  ·have e:mD l x=l:=by unfold mD;rw[if_pos hm]
   rw[decide_eq_true hm] at hc;rw[e];obtain⟨v',sh',p1,ih⟩:=WZ a0 a1 s0 s1 N _ hN k (i+1) l v sh (by omega) (by omega) hv hw0 hne;refine⟨v',sh',p1,?_⟩;rw[aB (L:=DY) rfl];simp only[go_sem,h4,h0,hs',Int.toNat_natCast,Nat.zero_add,Nat.mul_one,hr,hw,hc,hsn,sc,dm,s0,s1];exact ih
  ·have e:mD l x=l++[x]:=by unfold mD;rw[if_neg hm]
   rw[decide_eq_false hm] at hc;rw[e];obtain⟨v1,sh1,q1,q2,q3,q4⟩:∃ v1 sh1,NV sh1 v1 (l++[x])/\NV sh1 (.ss o' 0 N.length 1) N/\(∀ o n,v1=.ss o 0 n 1->∀ o'',AV.ss o' 0 N.length 1=.ss o'' 0 N.length 1->o≠o'')/\gS 1 8 sh (some [[.int .i64 x]]) v=some (v1,sh1):=by
    have hol:o' < sh.length:=by
     by_cases q:o' < sh.length
     ·exact q
     ·rw[getElem?_eq_none (by omega)] at hs';cases hs'
    have hNne:N≠[]:=fun q=>by rw[q] at hi;simp at hi
    rcases hv with ⟨rfl,rfl⟩ | ⟨o,h1,rfl,hs⟩
    ·refine⟨_,_,.inr ⟨sh.length,by simp,rfl,?_⟩,hw0.app _,fun o n ho o'' ho'=>?_,DW sh x⟩
     ·rw[getElem?_append_right (Nat.le_refl _),Nat.sub_self];rfl
     ·cases ho;cases ho';omega
    ·have hoo:=hne o l.length rfl o' rfl
     have ha:=IF o sh l x (by omega) hs;have el:l.length+1=(l++[x]).length:=by simp
     rw[el] at ha;refine⟨_,_,.inr ⟨sh.length,by simp,rfl,?_⟩,.inr ⟨o',hNne,rfl,?_⟩,fun o2 n ho o'' ho'=>?_,ha⟩
     ·rw[getElem?_append_right (by simp)];simp
     ·rw[getElem?_append_left (by simpa using hol),getElem?_set_ne hoo,hs']
     ·cases ho;cases ho';omega
   have sc1:=q1.scrub;have dm1:=q1.dem;obtain⟨v',sh',p1,ih⟩:=WZ a0 a1 s0 s1 N _ hN k (i+1) (l++[x]) v1 sh1 (by omega) (by simp;omega) q1 q2 q3;refine⟨v',sh',p1,?_⟩;rw[aB (L:=DY) rfl];simp only[go_sem,h4,h0,hs',Int.toNat_natCast,Nat.zero_add,Nat.mul_one,hr,hw,hc,hsn,q4,sc,dm,sc1,dm1,s0,s1];exact ih
theorem MF {sh:LL} {v:AV} {l:List Int} (h:NV sh v l):C1 false v=some (.int .i64 l.length):=by
 rcases h with ⟨rfl,rfl⟩ | ⟨o,_,rfl,_⟩<;>rfl
theorem k60 (s t:List Tk) (hs:vld s=0) (ht:vld t=0):G0 92 [.sl .no 3 (tks s),.sl .no 3 (tks t)] []=some (.tup [.sl .no 3 (tks (hZ s t)),.sl .no 3 (tks (iH s t))],[]):=by
 have ls:=(cX s).1 hs;have lt:=(cX t).1 ht;have hN:=kP hs ht;obtain⟨e1,v1⟩:=jA hN hs;obtain⟨e2,v2⟩:=i9 hN ht;have n1:=wT s;have n2:=wT t;obtain⟨v,E1,a1,ao,a2⟩:=k104 [] s (by omega);rw[nil_append] at a1 a2;obtain⟨w,E2,b1,bo,b2⟩:=k104 E1 t (by omega);have a3:=a1.app E2;have hne:∀ o n,v=.ss o 0 n 1->∀ o',w=.ss o' 0 (cB t).length 1->o≠o':=by
  intro o n h1 o' h2
  have:=bo o' h2
  rcases a1 with ⟨_,q⟩ | ⟨o1,_,q,q2⟩
  ·rw[q] at h1;cases h1
  ·rw[q] at h1;cases h1
   have:o < E1.length:=by
    by_cases z:o < E1.length
    ·exact z
    ·rw[getElem?_eq_none (by omega)] at q2;cases q2
   omega
 obtain⟨v',sh',c1,c2⟩:=WZ (.sl .no 3 (tks s)) (.sl .no 3 (tks t)) (fun _=>rfl) (fun _=>rfl) (cB t) w (by omega) (cB t).length 0 (cB s) v (E1++E2) (by omega) (by omega) a3 b1 hne;have ec:((0:Nat):Int)=0:=rfl;rw[drop_zero,NZ] at c1;rw[ec] at c2;have hc:(cnl s t).length<=999:=hN;have d1:=c73 (cnl s t).length (by omega);have r1:jX (cnl s t) (dU (cnl s t).length) s=hZ s t:=by rw[e1,<- LN];rfl
 have r2:jX (cnl s t) (dU (cnl s t).length) t=iH s t:=by rw[e2,<- LM];rfl
 have w1:=gE v1;have w2:=gE v2;obtain⟨m1,d2⟩:=k106 sh' s (by omega) v' (cnl s t) (dU (cnl s t).length) c1 (by rw[fO]) (by omega) (by rw[r1];exact ((cX _).1 v1).1) (by rw[r1];omega) (by rw[r1];exact fun x hx=>by have:=AF x hx;omega);obtain⟨m2,d3⟩:=k106 (sh'++[AV.mapv (imr m1)] :: []) t (by omega) v' (cnl s t) (dU (cnl s t).length) (c1.app _) (by rw[fO]) (by omega) (by rw[r2];exact ((cX _).1 v2).1) (by rw[r2];omega) (by rw[r2];exact fun x hx=>by have:=AF x hx;omega);rw[r1] at d2;rw[r2] at d3;have dm:=a1.dem;have dw:=b1.dem;have dv:=c1.dem;have sv:=c1.scrub;have sa:=a1.scrub;have sw:=b1.scrub;have av:=c1.arg;have lw:=MF b1;have lv:=MF c1;refine aA F92 rfl rfl rfl ?_;simp only[F92,go_sem,a2,b2,dm,dw,dv,sv,sa,sw,av,lw,lv,c2,d1,d2,d3]
end Go.Av
namespace Go.Av
open Go.Nt
theorem l108 (a b:List Tk) (hab:a.length=b.length) (ha:a.length<=4611686018427387904):∀ (k i:Nat),i+k=a.length ->
  (a.drop i=b.drop i->aC G0 lK (ST [(0,.sl .no 3 (tks a)),(1,.sl .no 3 (tks b)),(10,.bool false),(12,.int .i64 a.length),(13,.int .i64 i)] [] [])=some (.ex 0,ST [(0,.sl .no 3 (tks a)),(1,.sl .no 3 (tks b)),(10,.bool false),(12,.int .i64 a.length),(13,.int .i64 a.length),(14,.bool false)] [] [])) /\
  (a.drop i≠b.drop i->∃ l',aC G0 lK (ST [(0,.sl .no 3 (tks a)),(1,.sl .no 3 (tks b)),(10,.bool false),(12,.int .i64 a.length),(13,.int .i64 i)] [] [])=some (.ret,ST l' [] [])/\aE .any l' 4=.bool false)
 | 0,i,h=>by
  have:i=a.length:=by omega
  subst this;refine⟨fun _=>?_,fun q=>absurd (by rw[drop_length,hab,drop_length]) q⟩;rw[aB (L:=lK) rfl];simp only[go_sem,Int.lt_irrefl]
 | k+1,i,h=>by
  have hi:i < a.length:=by omega
  have h4:(i:Int) < (a.length:Int):=by omega
  have h0:(0:Int)<=(i:Int):=by omega
  have hw:=wI (i:=i) (by omega)
  have hg:a[i]?=some a[i]:=getElem?_eq_getElem hi;have hd:a.drop i=a[i] :: a.drop (i+1):=drop_eq_getElem_cons hi;generalize a[i]=T at hg hd;have hg2:b[i]?=some b[i]:=getElem?_eq_getElem (by omega);have hd2:b.drop i=b[i] :: b.drop (i+1):=drop_eq_getElem_cons (by omega);generalize b[i]=U at hg2 hd2;have hr:=dH hg;have hr2:=dH hg2;have ih:=l108 a b hab ha k (i+1) (by omega);rw[hd,hd2];obtain⟨k1,s1,i1⟩:=T;obtain⟨k2,s2,i2⟩:=U;simp only[] at hr hr2;by_cases hE:((k1,s1,i1):Tk)=(k2,s2,i2)
  ·cases hE
   have e:(s1 == s1)=true:=by simp
   have step:aC G0 lK (ST [(0,.sl .no 3 (tks a)),(1,.sl .no 3 (tks b)),(10,.bool false),(12,.int .i64 a.length),(13,.int .i64 i)] [] [])=aC G0 lK (ST [(0,.sl .no 3 (tks a)),(1,.sl .no 3 (tks b)),(10,.bool false),(12,.int .i64 a.length),(13,.int .i64 ((i+1:Nat):Int))] [] []):=by
    conv=>lhs;rw[aB (L:=lK) rfl]
    simp only[go_sem,h4,h0,hr,hr2,hw,e]
   rw[step];refine⟨fun q=>ih.1 (by injection q),fun q=>ih.2 (fun z=>q (by rw[z]))⟩
  ·refine⟨fun q=>absurd (by injection q) hE,fun _=>?_⟩
   by_cases e1:k1=k2
   ·subst e1
    by_cases e2:s1=s2
    ·subst e2
     have e3:¬ i1=i2:=fun q=>hE (by rw[q])
     have e:(s1 == s1)=true:=by simp
     refine Exists.intro ?_ (And.intro ?_ ?_)
     rotate_left 1
     ·rw[aB (L:=lK) rfl]
      simp only[go_sem,h4,h0,hr,hr2,hw,e,e3];rfl
     ·rfl
    ·have e:(s1 == s2)=false:=by simpa using e2
     refine Exists.intro ?_ (And.intro ?_ ?_)
     rotate_left 1
     ·rw[aB (L:=lK) rfl]
      simp only[go_sem,h4,h0,hr,hr2,hw,e,Bool.false_and,Bool.and_false];rfl
     ·rfl
   ·refine Exists.intro ?_ (And.intro ?_ ?_)
    rotate_left 1
    ·rw[aB (L:=lK) rfl]
     simp only[go_sem,h4,h0,hr,hr2,hw,e1,decide_false,Bool.false_and,Bool.and_false];rfl
    ·rfl
theorem k108 (a b:List Tk) (ha:a.length<=4611686018427387904):G0 121 [.sl .no 3 (tks a),.sl .no 3 (tks b)] []=some (.bool (decide (a=b)),[]):=by
 refine aA KA rfl rfl rfl ?_;by_cases hab:a.length=b.length
 ·have hab':(a.length:Int)=(b.length:Int):=by omega
  obtain⟨x1,x2⟩:=l108 a b hab ha a.length 0 (by omega);have ec:((0:Nat):Int)=0:=rfl;rw[drop_zero,drop_zero,ec] at x1 x2;by_cases h:a=b
  ·rw[decide_eq_true h]
   simp only[KA,go_sem,aD,hab',x1 h];rw[hab'] at x1;simp only[KA,go_sem,aD,x1 h]
  ·rw[decide_eq_false h]
   obtain⟨l',y1,y2⟩:=x2 h;rw[hab'] at y1;simp only[KA,go_sem,aD,hab',y1,y2]
 ·have hab':¬ (a.length:Int)=(b.length:Int):=by omega
  have h:¬ a=b:=fun q=>hab (by rw[q])
  rw[decide_eq_false h];simp only[KA,go_sem,aD,hab']
theorem k61 (a b:List Tk) (ha:a.length<=4611686018427387904):G0 93 [.sl .no 3 (tks a),.sl .no 3 (tks b)] []=some (.bool (decide (a=b)),[]):=by
 refine aA F93 rfl rfl rfl ?_;have h:=k108 a b ha;simp only[F93,go_sem,h]
theorem KN (a b:List Tk):tks a++tks b=tks (a++b):=by simp [tks]
theorem k76 (s t:List Tk) (hl:s.length+t.length<=50000) (ht:tot s+tot t<=500000):G0 31 [.sl .no 3 (tks s),.sl .no 3 (tks t)] []=some (.tup [.sl .no 3 (tks (hZ s t)),.sl .no 3 (tks (iH s t))],[]):=by
 have a1:=c44 (s++t) (by rw[length_append];omega);have n1:=wT (s++t);rw[length_append] at n1;have a2:=c49 (cB (s++t)).length (by omega);have a3:=c43 s (by omega) (by omega) (cB (s++t)) (dU (cB (s++t)).length) (by omega) (by rw[fO];omega);have a4:=c43 t (by omega) (by omega) (cB (s++t)) (dU (cB (s++t)).length) (by omega) (by rw[fO];omega);have e1:nrm (jX (cB (s++t)) (dU (cB (s++t)).length) s)=hZ s t:=rfl;have e2:nrm (jX (cB (s++t)) (dU (cB (s++t)).length) t)=iH s t:=rfl;rw[e1] at a3;rw[e2] at a4;have p1:∀ o:Own,jL false 3 32 (.sl .full 3 []) (.sl o 3 (tks s))=some (.sl .own 3 (tks s)):=fun o=>by
  rw[dP _ _ (by decide) _ _ (by decide)];simp only[length_nil,Nat.zero_add,nil_append,aD];rw[if_pos (by unfold cU;simp;omega)]
 have p2:∀ o:Own,jL false 3 32 (.sl .own 3 (tks s)) (.sl o 3 (tks t))=some (.sl .own 3 (tks (s++t))):=fun o=>by
  rw[dP _ _ (by decide) _ _ (by decide),KN];rw[if_pos (by unfold cU;simp [aD];omega)]
 refine aA F31 rfl rfl rfl ?_;simp only[F31,go_sem,p1,p2,a1,a2,a3,a4,bJ]
end Go.Av
