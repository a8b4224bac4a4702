/- The least price of turning one list of tokens into another: forwards and backwards it is the same. No conditions. What the tags that one list has more than the other one cost, as plain data: counted key by key in any order it is the same. No conditions. The most similar earlier element, as plain data. No conditions. Prices of tokens and the distance of two lists of tokens, as plain data. No conditions. A sum over keys that come one by one in any order, as plain data. No conditions. Rows of numbers that are filled from the front or from the back; the steps of the distance, as plain data. No conditions. A map of counts, as it reads: which keys it has, and what stands at each; the sum over it in whatever order. No conditions. 'm[k] op= x' on a map that the call makes, keys of any kind: the entry is fetched, then stored. No conditions. A function of two lists of tokens that gives a number: from a walk to a given contract. No conditions. Bounds of sums of counts, as plain data. No conditions. -/
import Init
import Derived.Maps.RangeWalk
import Derived.WideKeyEntry
import Derived.Maps.OwnOps
import Derived.Test.YtgbjlnijjonidaaDoorG1Ev30
import Derived.Lib.Walk
import Derived.Deep.DeepCutAuto
open List
set_option linter.unusedSimpArgs false
set_option linter.unusedVariables false
set_option linter.unusedSectionVars false
set_option maxRecDepth 100000
set_option maxHeartbeats 16000000
namespace Go.Nt
section
variable {α:Type} (c:α->α->Option Nat) (w:α->Nat)
def lev:List α->List α->Nat
 | [],[]=>0
 | t :: a,[]=>w t+lev a []
 | [],u :: b=>w u+lev [] b
 | t :: a,u :: b=>match c t u with
  | some n=>min (min (w t+lev a (u :: b)) (w u+lev (t :: a) b)) (n+lev a b)
  | none=>min (w t+lev a (u :: b)) (w u+lev (t :: a) b)
termination_by a b=>a.length+b.length
inductive Sc:List α->List α->Nat->Prop
 | nil:Sc [] [] 0
 | del {t a b n}:Sc a b n->Sc (t :: a) b (w t+n)
 | ins {u a b n}:Sc a b n->Sc a (u :: b) (w u+n)
 | sub {t u k a b n}:c t u=some k->Sc a b n->Sc (t :: a) (u :: b) (k+n)
theorem kL:∀ (N:Nat) (a b:List α),a.length+b.length<=N->Sc c w a b (lev c w a b)
 | _,[],[],_=>by rw[lev];exact .nil
 | 0,_ :: _,_,h=>by simp at h
 | 0,[],_ :: _,h=>by simp at h
 | N+1,t :: a,[],h=>by rw[lev];exact .del (kL N a [] (by simp at h ⊢;omega))
 | N+1,[],u :: b,h=>by rw[lev];exact .ins (kL N [] b (by simp at h ⊢;omega))
 | N+1,t :: a,u :: b,h=>by
  have h1:=kL N a (u :: b) (by simp at h ⊢;omega);have h2:=kL N (t :: a) b (by simp at h ⊢;omega);have h3:=kL N a b (by simp at h ⊢;omega);rw[lev];have hm:Sc c w (t :: a) (u :: b) (min (w t+lev c w a (u :: b)) (w u+lev c w (t :: a) b)):=by
   rcases Nat.le_total (w t+lev c w a (u :: b)) (w u+lev c w (t :: a) b) with q | q
   ·rw[Nat.min_eq_left q];exact .del h1
   ·rw[Nat.min_eq_right q];exact .ins h2
  cases hc:c t u with
  | none=>exact hm
  | some k =>
   simp only;rcases Nat.le_total (min (w t+lev c w a (u :: b)) (w u+lev c w (t :: a) b)) (k+lev c w a b) with q | q
   ·rw[Nat.min_eq_left q];exact hm
   ·rw[Nat.min_eq_right q];exact .sub hc h3
theorem zG (t:α) (a b:List α):lev c w (t :: a) b<=w t+lev c w a b:=by
 cases b with
 | nil=>rw[lev];exact Nat.le_refl _
 | cons u b =>
  conv=>lhs;rw[lev]
  split<;>omega
theorem zE (u:α) (a b:List α):lev c w a (u :: b)<=w u+lev c w a b:=by
 cases a with
 | nil=>rw[lev];exact Nat.le_refl _
 | cons t a =>
  conv=>lhs;rw[lev]
  split<;>omega
theorem zD {t u:α} {k:Nat} (h:c t u=some k) (a b:List α):lev c w (t :: a) (u :: b)<=k+lev c w a b:=by
 conv=>lhs;rw[lev]
 rw[h];simp only;omega
theorem EM {a b:List α} {n:Nat} (h:Sc c w a b n):lev c w a b<=n:=by
 induction h with
 | nil=>rw[lev];exact Nat.le_refl _
 | del _ ih=>exact Nat.le_trans (zG c w _ _ _) (Nat.add_le_add_left ih _)
 | ins _ ih=>exact Nat.le_trans (zE c w _ _ _) (Nat.add_le_add_left ih _)
 | sub hc _ ih=>exact Nat.le_trans (zD c w hc _ _) (Nat.add_le_add_left ih _)
theorem Sc.dels {a b:List α} {n:Nat} (h:Sc c w a b n) (t:α):Sc c w (a++[t]) b (w t+n):=by
 induction h with
 | nil=>exact .del .nil
 | @del t' a b n h ih=>have:=Sc.del (t:=t') ih;rwa [Nat.add_left_comm] at this
 | @ins u a b n h ih=>have:=Sc.ins (u:=u) ih;rwa [Nat.add_left_comm] at this
 | @sub t' u k a b n hc h ih=>have:=Sc.sub hc ih;rwa [Nat.add_left_comm] at this
theorem Sc.inss {a b:List α} {n:Nat} (h:Sc c w a b n) (u:α):Sc c w a (b++[u]) (w u+n):=by
 induction h with
 | nil=>exact .ins .nil
 | @del t' a b n h ih=>have:=Sc.del (t:=t') ih;rwa [Nat.add_left_comm] at this
 | @ins u' a b n h ih=>have:=Sc.ins (u:=u') ih;rwa [Nat.add_left_comm] at this
 | @sub t' u' k a b n hc h ih=>have:=Sc.sub hc ih;rwa [Nat.add_left_comm] at this
theorem Sc.subs {a b:List α} {n:Nat} (h:Sc c w a b n) {t u:α} {k:Nat} (hk:c t u=some k):Sc c w (a++[t]) (b++[u]) (k+n):=by
 induction h with
 | nil=>exact .sub hk .nil
 | @del t' a b n h ih=>have:=Sc.del (t:=t') ih;rwa [Nat.add_left_comm] at this
 | @ins u' a b n h ih=>have:=Sc.ins (u:=u') ih;rwa [Nat.add_left_comm] at this
 | @sub t' u' k' a b n hc h ih=>have:=Sc.sub hc ih;rwa [Nat.add_left_comm] at this
theorem Sc.rev {a b:List α} {n:Nat} (h:Sc c w a b n):Sc c w a.reverse b.reverse n:=by
 induction h with
 | nil=>exact .nil
 | del h ih=>rw[reverse_cons];exact ih.dels c w _
 | ins h ih=>rw[reverse_cons];exact ih.inss c w _
 | sub hc h ih=>rw[reverse_cons,reverse_cons];exact ih.subs c w hc
theorem gJ (a b:List α):lev c w a.reverse b.reverse=lev c w a b:=by
 apply Nat.le_antisymm
 ·exact EM c w ((kL c w _ a b (Nat.le_refl _)).rev c w)
 ·have:=EM c w ((kL c w _ a.reverse b.reverse (Nat.le_refl _)).rev c w)
  rwa [reverse_reverse,reverse_reverse] at this
theorem M4:lev c w [] []=0:=by rw[lev]
theorem M2 (a:List α) (t:α):lev c w (a++[t]) []=lev c w a []+w t:=by
 have h1:=gJ c w (a++[t]) [];have h2:=gJ c w a [];rw[reverse_append] at h1;rw[<- h1,<- h2];show lev c w (t :: a.reverse) []=_;rw[lev];exact Nat.add_comm _ _
theorem M3 (b:List α) (u:α):lev c w [] (b++[u])=lev c w [] b+w u:=by
 have h1:=gJ c w [] (b++[u]);have h2:=gJ c w [] b;rw[reverse_append] at h1;rw[<- h1,<- h2];show lev c w [] (u :: b.reverse)=_;rw[lev];exact Nat.add_comm _ _
theorem M1 (a b:List α) (t u:α):lev c w (a++[t]) (b++[u])=(match c t u with
  | some n=>min (min (lev c w a (b++[u])+w t) (lev c w (a++[t]) b+w u)) (lev c w a b+n)
  | none=>min (lev c w a (b++[u])+w t) (lev c w (a++[t]) b+w u)):=by
 have h1:=gJ c w (a++[t]) (b++[u]);have h2:=gJ c w a (b++[u]);have h3:=gJ c w (a++[t]) b;have h4:=gJ c w a b;rw[reverse_append] at h1 h2 h3;rw[reverse_append] at h1;have h1:lev c w (t :: a.reverse) (u :: b.reverse)=_:=h1;have h2:lev c w a.reverse (u :: b.reverse)=_:=h2;have h3:lev c w (t :: a.reverse) b.reverse=_:=h3;rw[<- h1,lev,h2,h3,h4]
 cases c t u with
 | none=>simp only[Nat.add_comm]
 | some n=>simp only[Nat.add_comm]
end
end Go.Nt
namespace Go.Nt
section
variable {κ:Type} [DecidableEq κ]
def dfN (x y:Nat):Nat:=(x - y)+(y - x)
def dfL (a b:List κ) (k:κ):Nat:=dfN (a.count k) (b.count k)
def lP:List κ->List κ->List κ
 | acc,[]=>acc
 | acc,x :: l=>if x∈acc then lP acc l else lP (acc++[x]) l
theorem pQ:∀ (l acc:List κ) (x:κ),x∈lP acc l↔x∈acc\/x∈l
 | [],acc,x=>by simp [lP]
 | y :: l,acc,x=>by
  unfold lP;split
  ·rename_i h
   rw[pQ l acc x,mem_cons];constructor
   ·rintro (q | q)
    ·exact .inl q
    ·exact .inr (.inr q)
   ·rintro (q | q | q)
    ·exact .inl q
    ·subst q;exact .inl h
    ·exact .inr q
  ·rw[pQ l (acc++[y]) x,mem_append,mem_singleton,mem_cons,or_assoc]
theorem iG:∀ (l acc:List κ),acc.Nodup->(lP acc l).Nodup
 | [],acc,h=>h
 | y :: l,acc,h=>by
  unfold lP;split
  ·exact iG l acc h
  ·rename_i q
   refine iG l _ ?_;rw[nodup_append];refine⟨h,by simp,fun a ha b hb=>?_⟩;rw[mem_singleton] at hb;subst hb;exact fun e=>q (e ▸ ha)
def mU (a b:List κ):Nat:=((lP [] (a++b)).map (dfL a b)).sum
theorem CP {l m:List Nat} (h:l.Perm m):l.sum=m.sum:=by
 induction h with
 | nil=>rfl
 | cons x _ ih=>rw[sum_cons,sum_cons,ih]
 | swap x y l=>simp only[sum_cons];omega
 | trans _ _ h1 h2=>exact h1.trans h2
theorem IJ {l m:List κ} (hl:l.Nodup) (hm:m.Nodup) (h:∀ x,x∈l↔x∈m):l.Perm m:=by
 rw[perm_iff_count];intro x;rw[hl.count,hm.count];simp only[h x]
theorem uE (a b l:List κ) (hl:l.Nodup) (h:∀ x,x∈l↔x∈a\/x∈b):(l.map (dfL a b)).sum=mU a b:=by
 unfold mU;refine CP (List.Perm.map _ (IJ hl (iG _ _ nodup_nil) fun x=>?_));rw[h,pQ,mem_append];simp
def rD (a b:List κ):List κ->List κ->Nat
 | _,[]=>0
 | p,x :: l=>(if x∈p then 0 else dfL a b x)+rD a b (p++[x]) l
def uF (a b:List κ):List κ->List κ->Nat
 | _,[]=>0
 | p,x :: l=>(if x∈p\/x∈a then 0 else b.count x)+uF a b (p++[x]) l
def fsL:List κ->List κ->List κ
 | _,[]=>[]
 | p,x :: l=>if x∈p then fsL (p++[x]) l else x :: fsL (p++[x]) l
theorem l0:∀ (l p:List κ) (x:κ),x∈fsL p l↔x∈l/\x ∉ p
 | [],p,x=>by simp [fsL]
 | y :: l,p,x=>by
  have ih:=l0 l (p++[y]) x;rw[mem_append,mem_singleton,not_or] at ih;unfold fsL;split
  ·rename_i h
   rw[ih,mem_cons];constructor
   ·rintro ⟨q1,q2,_⟩
    exact⟨.inr q1,q2⟩
   ·rintro ⟨q1,q2⟩
    have hne:¬ x=y:=fun e=>q2 (e ▸ h)
    exact⟨q1.resolve_left hne,q2,hne⟩
  ·rename_i h
   rw[mem_cons,ih,mem_cons];constructor
   ·rintro (q | ⟨q1,q2,_⟩)
    ·subst q;exact⟨.inl rfl,h⟩
    ·exact⟨.inr q1,q2⟩
   ·rintro ⟨q1,q2⟩
    by_cases e:x=y
    ·exact .inl e
    ·exact .inr ⟨q1.resolve_left e,q2,e⟩
theorem jQ:∀ (l p:List κ),(fsL p l).Nodup
 | [],p=>nodup_nil
 | y :: l,p=>by
  unfold fsL;split
  ·exact jQ l _
  ·rw[nodup_cons]
   refine⟨fun h=>?_,jQ l _⟩
   have:=((l0 l (p++[y]) y).1 h).2
   exact this (mem_append_right _ (mem_singleton.2 rfl))
theorem yB (a b:List κ):∀ (l p:List κ),rD a b p l=((fsL p l).map (dfL a b)).sum
 | [],p=>rfl
 | x :: l,p=>by
  unfold rD fsL;rw[yB a b l (p++[x])];split
  ·rw[Nat.zero_add]
  ·rw[map_cons,sum_cons]
theorem yA (a b:List κ):∀ (l p:List κ),uF a b p l=(((fsL p l).filter fun x=>decide (x ∉ a)).map (dfL a b)).sum
 | [],p=>rfl
 | x :: l,p=>by
  unfold uF fsL;rw[yA a b l (p++[x])];by_cases h:x∈p
  ·rw[if_pos (.inl h),if_pos h,Nat.zero_add]
  ·rw[if_neg h]
   by_cases h2:x∈a
   ·rw[if_pos (.inr h2),filter_cons_of_neg (by simpa using h2),Nat.zero_add]
   ·rw[if_neg (fun z=>z.elim h h2),filter_cons_of_pos (by simpa using h2),map_cons,sum_cons]
    have:dfL a b x=b.count x:=by unfold dfL dfN;rw[count_eq_zero.2 h2];omega
    rw[this]
theorem GJ (a b:List κ):rD a b [] a+uF a b [] b=mU a b:=by
 rw[yB,yA,<- sum_append_nat,<- map_append];refine uE a b _ ?_ fun x=>?_
 ·rw[nodup_append]
  refine⟨jQ _ _,(jQ _ _).filter _,fun x hx y hy e=>?_⟩;subst e;have h1:=((l0 _ _ _).1 hx).1;have h2:=(mem_filter.1 hy).2;exact absurd h1 (by simpa using h2)
 ·rw[mem_append,mem_filter,l0,l0]
  simp only[not_mem_nil,not_false_eq_true,and_true,decide_eq_true_eq];constructor
  ·rintro (q | q)
   ·exact .inl q
   ·exact .inr q.1
  ·rintro (q | q)
   ·exact .inl q
   ·by_cases h:x∈a
    ·exact .inl h
    ·exact .inr ⟨q,h⟩
end
end Go.Nt
namespace Go.Nt
def bst (P:Nat->Int) (t:Int):Nat->Int × Int
 | 0=>(-1,0)
 | k+1=>if t<=P k/\(bst P t k).2 < P k then ((k:Int),P k) else bst P t k
def mxP (P:Nat->Int):Nat->Int
 | 0=>0
 | k+1=>max (mxP P k) (P k)
theorem KV (P:Nat->Int):∀ k,0<=mxP P k
 | 0=>Int.le_refl _
 | k+1=>by have:=KV P k;unfold mxP;omega
theorem D3 (P:Nat->Int) (h:∀ k,P k<=100):∀ k,mxP P k<=100
 | 0=>by unfold mxP;omega
 | k+1=>by have:=D3 P h k;have:=h k;unfold mxP;omega
theorem D4 (P:Nat->Int):∀ {k j:Nat},j < k->P j<=mxP P k
 | 0,j,h=>by omega
 | k+1,j,h=>by
  unfold mxP;by_cases e:j=k
  ·subst e;omega
  ·have:=D4 P (k:=k) (j:=j) (by omega);omega
theorem vZ (P:Nat->Int) (t:Int) (ht:1<=t):∀ k,(t<=mxP P k/\0<=(bst P t k).1/\(bst P t k).1 < (k:Int)/\(bst P t k).2=mxP P k)\/(mxP P k < t/\bst P t k=(-1,0))
 | 0=>by right;unfold mxP bst;exact⟨by omega,rfl⟩
 | k+1=>by
  have h0:=KV P k;unfold mxP bst;rcases vZ P t ht k with ⟨h1,h2,h3,h4⟩ | ⟨h1,h2⟩
  ·by_cases q:t<=P k/\(bst P t k).2 < P k
   ·rw[if_pos q]
    left
    rw[h4] at q;refine⟨by omega,by simp,by simp;omega,?_⟩;show P k=_;omega
   ·rw[if_neg q]
    left
    rw[h4] at q;refine⟨by omega,h2,by omega,?_⟩;rw[h4];by_cases z:t<=P k
    ·have:¬ mxP P k < P k:=fun y=>q ⟨z,y⟩
     omega
    ·omega
  ·rw[h2]
   by_cases q:t<=P k/\(0:Int) < P k
   ·rw[if_pos q]
    left
    refine⟨by omega,by simp,by simp;omega,?_⟩;show P k=_;omega
   ·rw[if_neg q]
    right
    refine⟨?_,rfl⟩
    have:¬ t<=P k:=fun y=>q ⟨y,by omega⟩
    omega
def iZ (P:Nat->Nat->Int) (t:Int) (n:Nat):List (Int × Int):=(List.range n).map fun i=>bst (fun k=>P k i) t i
theorem pE (P:Nat->Nat->Int) (t:Int) (n:Nat):(iZ P t n).length=n:=by simp [iZ]
theorem yN (P:Nat->Nat->Int) (t:Int) {n i:Nat} (h:i < n):(iZ P t n)[i]?=some (bst (fun k=>P k i) t i):=by
 unfold iZ;rw[getElem?_map,getElem?_range h];rfl
theorem L5 (P:Nat->Nat->Int) (t:Int) (n:Nat):iZ P t (n+1)=iZ P t n++[bst (fun k=>P k n) t n]:=by
 unfold iZ;rw[range_succ,map_append];rfl
def prc (t d:Nat):Int:=if t=0 then 100 else (100*((t - d:Nat):Int)) / (t:Int)
theorem DQ (t d:Nat):0<=prc t d/\prc t d<=100:=by
 unfold prc;split
 ·omega
 ·rename_i h
  constructor
  ·exact Int.ediv_nonneg (by omega) (by omega)
  ·apply Int.ediv_le_of_le_mul (by omega)
   omega
theorem Q9 (t:Nat):prc t 0=100:=by
 unfold prc;split
 ·rfl
 ·rename_i h
  rw[Nat.sub_zero];exact Int.mul_ediv_cancel _ (by omega)
theorem Q8 (t d:Nat) (h:t≠0):(100*max ((t:Int) - (d:Int)) 0).tdiv (t:Int)=prc t d:=by
 unfold prc;rw[if_neg h,Int.tdiv_eq_ediv_of_nonneg (by omega)]
 congr 2
 omega
theorem Q7 (t d:Nat) (h:t≠0):max 0 ((100*((t:Int) - (d:Int))).tdiv (t:Int))=prc t d:=by
 unfold prc;rw[if_neg h];by_cases q:d<=t
 ·rw[Int.tdiv_eq_ediv_of_nonneg (by omega)]
  have e:((t - d:Nat):Int)=(t:Int) - (d:Int):=by omega
  rw[e]
  have:0<=100*((t:Int) - (d:Int)) / (t:Int):=Int.ediv_nonneg (by omega) (by omega)
  omega
 ·have e:t - d=0:=by omega
  rw[e];have h1:(100*((t:Int) - (d:Int))) = -(100*((d:Int) - (t:Int))):=by omega
  rw[h1,Int.neg_tdiv,Int.tdiv_eq_ediv_of_nonneg (by omega)]
  have:0<=100*((d:Int) - (t:Int)) / (t:Int):=Int.ediv_nonneg (by omega) (by omega)
  simp;omega
end Go.Nt
namespace Go.Nt
abbrev Tok:=Int × List UInt8 × Int
def WR (b:UInt8):UInt8:=if (65:Int)<=(b.toNat:Int)/\(b.toNat:Int)<=90 then b+32 else b
def kyT (t:Tok):List UInt8:=if t.1=6 then t.2.1.map WR else t.2.1
def wgT (t:Tok):Nat:=if t.1=6\/t.1=5 then 4 else if t.1=7\/t.1=2\/t.1=3\/t.1=4 then 3 else if t.1=9 then 2 else if t.1=8 then 1 else 0
def tgT (t:Tok):Bool:=decide (t.1=2\/t.1=3\/t.1=4)
def smT (a b:Tok):Bool:=decide (a.1=b.1) && decide (a.2.1=b.2.1)
def cst (a b:Tok):Option Nat:=if smT a b=true then some 0 else if a.1≠b.1\/a.1 < 5\/9 < a.1 then none else if a.1=6/\kyT a=kyT b then some 1 else some (wgT a)
def aln (t:Tok):Nat:=if tgT t=true then 1 else wgT t
def tky (l:List Tok):List (Int × List UInt8):=(l.filter tgT).map fun t=>(t.1,t.2.1)
def iB (a b:List Tok):Nat:=mU (tky a) (tky b)
def dst (a b:List Tok):Nat:=lev cst aln a b+2*iB a b
def ttl (l:List Tok):Nat:=(l.map wgT).sum
def prT (a b:List Tok):Int:=prc (max (ttl a) (ttl b)) (dst a b)
theorem o5 (t:Tok):wgT t<=4:=by
 unfold wgT
 repeat' split
 all_goals omega
theorem iL (t:Tok):aln t<=4:=by unfold aln;have:=o5 t;split<;>omega
theorem FG {a b:Tok} {n:Nat} (h:cst a b=some n):n<=4:=by
 unfold cst at h
 have:=o5 a
 split at h
 ·cases h;omega
 split at h
 ·cases h
 split at h
 ·cases h;omega
 ·cases h;omega
theorem kD:∀ l:List Tok,ttl l<=4*l.length
 | []=>Nat.le_refl _
 | t :: l=>by
  have h1:=kD l;have h2:=o5 t;unfold ttl at h1 ⊢;rw[map_cons,sum_cons,length_cons];omega
theorem pZ:∀ (N:Nat) (a b:List Tok),a.length+b.length<=N->lev cst aln a b<=4*(a.length+b.length)
 | _,[],[],_=>by rw[lev];omega
 | 0,_ :: _,_,h=>by simp at h
 | 0,[],_ :: _,h=>by simp at h
 | N+1,t :: a,b,h=>by
  have h1:=zG cst aln t a b;have h2:=pZ N a b (by simp at h ⊢;omega);have h3:=iL t;rw[length_cons];omega
 | N+1,[],u :: b,h=>by
  have h1:=zE cst aln u [] b;have h2:=pZ N [] b (by simp at h ⊢;omega);have h3:=iL u;rw[length_cons];omega
def smL:List Tok->List Tok->Bool
 | [],[]=>true
 | a :: l,b :: m=>smT a b && smL l m
 | _,_=>false
theorem lB {a b:Tok}:smT a b=true↔a.1=b.1/\a.2.1=b.2.1:=by unfold smT;simp
theorem yK:∀ {l m:List Tok},smL l m=true->lev cst aln l m=0
 | [],[],_=>by rw[lev]
 | a :: l,b :: m,h=>by
  unfold smL at h;rw[Bool.and_eq_true] at h;have e:cst a b=some 0:=by unfold cst;rw[if_pos h.1]
  have h1:=zD cst aln e l m;have h2:=yK h.2;omega
theorem yI:∀ {l m:List Tok},smL l m=true->tky l=tky m
 | [],[],_=>rfl
 | a :: l,b :: m,h=>by
  unfold smL at h;rw[Bool.and_eq_true] at h;obtain⟨e1,e2⟩:=lB.1 h.1;have ih:=yI h.2;unfold tky at ih ⊢;have et:tgT a=tgT b:=by unfold tgT;rw[e1]
  by_cases q:tgT a=true
  ·rw[filter_cons_of_pos q,filter_cons_of_pos (et ▸ q),map_cons,map_cons,ih,e1,e2]
  ·rw[filter_cons_of_neg q,filter_cons_of_neg (et ▸ q),ih]
theorem uG {α:Type} (f:α->Nat):∀ (l:List α),(∀ x∈l,f x=0)->(l.map f).sum=0
 | [],_=>rfl
 | x :: l,h=>by rw[map_cons,sum_cons,h x mem_cons_self,uG f l fun y hy=>h y (mem_cons_of_mem _ hy)]
theorem A5 {κ:Type} [DecidableEq κ] (a:List κ):mU a a=0:=by
 unfold mU;exact uG _ _ fun x _=>by unfold dfL dfN;omega
theorem yJ {l m:List Tok} (h:smL l m=true):prT l m=100:=by
 unfold prT dst iB;rw[yK h,yI h,A5];exact Q9 _
end Go.Nt
namespace Go.Nt
section
variable {κ:Type} [DecidableEq κ]
def sfN (f:κ->Nat) (p:κ->Bool) (l:List κ):Nat:=((l.filter fun x=>!p x).map f).sum
theorem H0 (f:κ->Nat) (p:κ->Bool) (l:List κ) (h:∀ x∈l,p x=true):sfN f p l=0:=by
 unfold sfN;rw[filter_eq_nil_iff.2 fun x hx=>by simp [h x hx]];rfl
theorem DA (f:κ->Nat) (p:κ->Bool) (l:List κ) (h:∀ x∈l,p x=false):sfN f p l=(l.map f).sum:=by
 unfold sfN;rw[filter_eq_self.2 fun x hx=>by simp [h x hx]]
theorem pF (f:κ->Nat) (p:κ->Bool) (x:κ) (l:List κ):sfN f p (x :: l)=(if p x=true then 0 else f x)+sfN f p l:=by
 unfold sfN;by_cases h:p x=true
 ·rw[filter_cons_of_neg (by simp [h]),if_pos h,Nat.zero_add]
 ·rw[filter_cons_of_pos (by simpa using h),if_neg h,map_cons,sum_cons]
theorem yO (f:κ->Nat) {p q:κ->Bool} {l:List κ} (h:∀ x∈l,p x=q x):sfN f p l=sfN f q l:=by
 unfold sfN;rw[filter_congr fun x hx=>by rw[h x hx]]
theorem uI (f:κ->Nat) (p:κ->Bool) {k:κ} (hp:p k=true):∀ {l:List κ},l.Nodup->k∈l->sfN f (fun x=>p x && !decide (x=k)) l=sfN f p l+f k
 | [],_,h=>by cases h
 | x :: l,hn,h=>by
  rw[nodup_cons] at hn;rw[pF,pF];rcases mem_cons.1 h with e | h
  ·subst e
   have:sfN f (fun x=>p x && !decide (x=k)) l=sfN f p l:=yO f fun y hy=>by
    have:¬ y=k:=fun e=>hn.1 (e ▸ hy)
    simp [this]
   rw[this,if_pos hp];simp;omega
  ·have ih:=uI f p hp hn.2 h
   have hx:¬ x=k:=fun e=>hn.1 (e ▸ h)
   rw[ih];simp [hx];omega
end
end Go.Nt
namespace Go.Nt
def iE (f g:Nat->Int) (j m:Nat):List Int:=(List.range (m+1)).map fun i=>if i < j then f i else g i
theorem dK (f g:Nat->Int) (j m:Nat):(iE f g j m).length=m+1:=by simp [iE]
theorem eM (f g:Nat->Int) (j:Nat) {m i:Nat} (h:i<=m):(iE f g j m)[i]?=some (if i < j then f i else g i):=by
 unfold iE;rw[getElem?_map,getElem?_range (by omega)];rfl
theorem lJ (f g:Nat->Int) {j m:Nat} (h:j<=m):(iE f g j m).set j (f j)=iE f g (j+1) m:=by
 apply ext_getElem?;intro i;rw[getElem?_set,dK];by_cases e:j=i
 ·subst e
  rw[if_pos rfl,if_pos (by omega),eM f g (j+1) h,if_pos (by omega)]
 ·rw[if_neg e]
  by_cases q:i<=m
  ·rw[eM f g j q,eM f g (j+1) q]
   by_cases z:i < j
   ·rw[if_pos z,if_pos (by omega)]
   ·rw[if_neg z,if_neg (by omega)]
  ·rw[getElem?_eq_none (by rw[dK];omega),getElem?_eq_none (by rw[dK];omega)]
theorem mX (f g h:Nat->Int) (m:Nat):iE f g (m+1) m=iE h f 0 m:=by
 unfold iE;apply map_congr_left;intro i hi;rw[mem_range] at hi;rw[if_pos (by omega),if_neg (by omega)]
theorem BG (f:Nat->Int) (m:Nat):List.replicate (m+1) (0:Int)=iE f (fun _=>0) 0 m:=by
 apply ext_getElem?;intro i;by_cases q:i<=m
 ·rw[eM _ _ _ q,getElem?_replicate,if_pos (by omega),if_neg (by omega)]
 ·rw[getElem?_eq_none (by rw[length_replicate];omega),getElem?_eq_none (by rw[dK];omega)]
def iS (f:Nat->Int) (j m:Nat):List Int:=(List.range (m+1)).map fun i=>if j<=i then f i else 0
theorem fV (f:Nat->Int) (j m:Nat):(iS f j m).length=m+1:=by simp [iS]
theorem iF (f:Nat->Int) (j:Nat) {m i:Nat} (h:i<=m):(iS f j m)[i]?=some (if j<=i then f i else 0):=by
 unfold iS;rw[getElem?_map,getElem?_range (by omega)];rfl
theorem DG (f:Nat->Int) {j m:Nat} (h:j<=m):(iS f (j+1) m).set j (f j)=iS f j m:=by
 apply ext_getElem?;intro i;rw[getElem?_set,fV];by_cases e:j=i
 ·subst e
  rw[if_pos rfl,if_pos (by omega),iF f j h,if_pos (by omega)]
 ·rw[if_neg e]
  by_cases q:i<=m
  ·rw[iF f (j+1) q,iF f j q]
   by_cases z:j<=i
   ·rw[if_pos (by omega),if_pos z]
   ·rw[if_neg (by omega),if_neg z]
  ·rw[getElem?_eq_none (by rw[fV];omega),getElem?_eq_none (by rw[fV];omega)]
theorem BH (f:Nat->Int) (m:Nat):List.replicate (m+1) (0:Int)=iS f (m+1) m:=by
 apply ext_getElem?;intro i;by_cases q:i<=m
 ·rw[iF _ _ q,getElem?_replicate,if_pos (by omega),if_neg (by omega)]
 ·rw[getElem?_eq_none (by rw[length_replicate];omega),getElem?_eq_none (by rw[fV];omega)]
def fwd (a b:List Tok) (j:Nat):Int:=(lev cst aln a (b.take j):Int)
theorem NO (b:List Tok):fwd [] b 0=0:=by unfold fwd;rw[take_zero,M4];rfl
theorem NN {b:List Tok} {j:Nat} {u:Tok} (h:b[j]?=some u):fwd [] b (j+1)=fwd [] b j+(aln u:Int):=by
 unfold fwd;rw[take_add_one,h];show ((lev cst aln [] (b.take j++[u]):Nat):Int)=_;rw[M3];omega
theorem NM (a b:List Tok) (t:Tok):fwd (a++[t]) b 0=fwd a b 0+(aln t:Int):=by
 unfold fwd;rw[take_zero,M2];omega
theorem NL (a:List Tok) {b:List Tok} {j:Nat} {t u:Tok} (h:b[j]?=some u):fwd (a++[t]) b (j+1)=(match cst t u with
  | some n=>min (min (fwd a b (j+1)+(aln t:Int)) (fwd (a++[t]) b j+(aln u:Int))) (fwd a b j+(n:Int))
  | none=>min (fwd a b (j+1)+(aln t:Int)) (fwd (a++[t]) b j+(aln u:Int))):=by
 unfold fwd;rw[take_add_one,h]
 show ((lev cst aln (a++[t]) (b.take j++[u]):Nat):Int)=(match cst t u with
  | some n=>min (min ((lev cst aln a (b.take j++[u]):Nat)+(aln t:Int)) ((lev cst aln (a++[t]) (b.take j):Nat)+(aln u:Int))) ((lev cst aln a (b.take j):Nat)+(n:Int))
  | none=>min ((lev cst aln a (b.take j++[u]):Nat)+(aln t:Int)) ((lev cst aln (a++[t]) (b.take j):Nat)+(aln u:Int)))
 rw[M1]
 cases cst t u with
 | none=>simp only;omega
 | some n=>simp only;omega
def bwd (a b:List Tok) (i k:Nat):Int:=(lev cst aln (a.drop i) (b.drop k):Int)
theorem l7 {α:Type} {l:List α} {i:Nat} {x:α} (h:l[i]?=some x):l.drop i=x :: l.drop (i+1):=by
 obtain⟨h1,h2⟩:=List.getElem?_eq_some_iff.1 h;rw[<- h2];exact drop_eq_getElem_cons h1
theorem OA (a b:List Tok):bwd a b a.length b.length=0:=by unfold bwd;rw[drop_length,drop_length,lev];rfl
theorem N8 {a b:List Tok} {i:Nat} {t:Tok} (h:a[i]?=some t):bwd a b i b.length=(aln t:Int)+bwd a b (i+1) b.length:=by
 unfold bwd;rw[drop_length,l7 h,lev];omega
theorem N9 {a b:List Tok} {k:Nat} {u:Tok} (h:b[k]?=some u):bwd a b a.length k=(aln u:Int)+bwd a b a.length (k+1):=by
 unfold bwd;rw[drop_length,l7 h,lev];omega
theorem N7 {a b:List Tok} {i k:Nat} {t u:Tok} (h:a[i]?=some t) (h2:b[k]?=some u):bwd a b i k=(match cst t u with
  | some n=>min (min ((aln t:Int)+bwd a b (i+1) k) ((aln u:Int)+bwd a b i (k+1))) ((n:Int)+bwd a b (i+1) (k+1))
  | none=>min ((aln t:Int)+bwd a b (i+1) k) ((aln u:Int)+bwd a b i (k+1))):=by
 unfold bwd;rw[l7 h,l7 h2,lev]
 cases cst t u with
 | none=>simp only;omega
 | some n=>simp only;omega
end Go.Nt
namespace Go.Av
open Go.Maps Go.Nt
section
variable {κ H:Type} [DecidableEq κ]
abbrev tM (n:Int):DataW H:=.lit (.int .i64 n)
structure MI (kl:κ->Lit) (g:κ->Prop) (D:DataW H) (n:κ->Int) (Ks:List κ):Prop where
 m:IsMap D
 at_:∀ k,g k->D.atKey (kl k) (tM 0)=tM (n k)
 has:∀ l,Maps.has D l=true↔∃ k∈Ks,l=kl k
 g:∀ k∈Ks,g k
 nd:Ks.Nodup
def xP (Ks:List κ) (k:κ):List κ:=if k∈Ks then Ks else Ks++[k]
theorem hJ {Ks:List κ} {k x:κ}:x∈xP Ks k↔x∈Ks\/x=k:=by
 unfold xP;split
 ·rename_i h
  constructor
  ·exact .inl
  ·rintro (q | q)
   ·exact q
   ·subst q;exact h
 ·rw[mem_append,mem_singleton]
theorem xO {Ks:List κ} (h:Ks.Nodup) (k:κ):(xP Ks k).Nodup:=by
 unfold xP;split
 ·exact h
 ·rename_i q
  rw[nodup_append];refine⟨h,by simp,fun a ha b hb e=>?_⟩;rw[mem_singleton] at hb;subst hb;exact q (e ▸ ha)
variable {kl:κ->Lit} {g:κ->Prop}
theorem MI.start:MI (H:=H) kl g (.map []) (fun _=>0) []:=
 ⟨isMap_empty,fun k _=>rfl,fun l=>⟨fun h=>(by cases h),fun ⟨k,h,_⟩=>(by cases h)⟩,fun k h=>(by cases h),nodup_nil⟩
theorem MI.put {D:DataW H} {n:κ->Int} {Ks:List κ} (h:MI kl g D n Ks) (hk:∀ k,WideAt.IsKeyLit (kl k)) (hi:∀ x y,g x->g y->kl x=kl y->x=y) {k:κ} (gk:g k) (z:Int):MI kl g (D.put (kl k) (tM z)) (fun x=>if x=k then z else n x) (xP Ks k):=by
 refine⟨h.m.put _ _,fun x gx=>?_,fun l=>?_,fun x hx=>?_,xO h.nd k⟩
 ·by_cases e:x=k
  ·subst e
   rw[atKey_put_same h.m (hk _),if_pos rfl]
  ·rw[atKey_put_other (fun q=>e (hi _ _ gx gk q)),if_neg e]
   exact h.at_ x gx
 ·by_cases e:l=kl k
  ·subst e
   rw[has_put_same h.m (hk _)];exact⟨fun _=>⟨k,hJ.2 (.inr rfl),rfl⟩,fun _=>rfl⟩
  ·rw[has_put_other e,h.has]
   constructor
   ·rintro ⟨x,q1,q2⟩
    exact⟨x,hJ.2 (.inl q1),q2⟩
   ·rintro ⟨x,q1,q2⟩
    rcases hJ.1 q1 with q | q
    ·exact⟨x,q,q2⟩
    ·subst q;exact absurd q2 e
 ·rcases hJ.1 hx with q | q
  ·exact h.g x q
  ·subst q;exact gk
structure RI (kl:κ->Lit) (g:κ->Prop) (n:κ->Int) (Ks:List κ) (left:Lit->Bool) (s:Int):Prop where
 sum:s=((sfN (fun k=>(n k).natAbs) (fun k=>left (kl k)) Ks:Nat):Int)
 dom:∀ l,left l=true->∃ k∈Ks,l=kl k
theorem MI.ri {D:DataW H} {n:κ->Int} {Ks:List κ} (h:MI kl g D n Ks):RI kl g n Ks (Maps.has D) 0:=
 ⟨by rw[H0 _ _ _ fun x hx=>(h.has _).2 ⟨x,hx,rfl⟩];rfl,fun l hl=>(h.has l).1 hl⟩
theorem RI.step {D:DataW H} {n:κ->Int} {Ks:List κ} (h:MI kl g D n Ks) (hk:∀ k,WideAt.IsKeyLit (kl k)) (hi:∀ x y,g x->g y->kl x=kl y->x=y) {left:Lit->Bool} {s:Int} (r:RI kl g n Ks left s) {l:Lit} (hl:left l=true) {c:Int} (hc:∀ zd,D.atKey l zd=tM c) :
  RI kl g n Ks (fun z=>left z && !z.sameKey l) (s+(c.natAbs:Int)):=by
 obtain⟨k,hk1,rfl⟩:=r.dom l hl;have hn:n k=c:=by
  have h1:=h.at_ k (h.g k hk1);rw[hc] at h1
  have:(tM c:DataW H)=tM (n k):=h1
  simp only[tM,DataW.lit.injEq,Lit.int.injEq,true_and] at this;exact this.symm
 refine⟨?_,fun z hz=>r.dom z (by simp only[Bool.and_eq_true] at hz;exact hz.1)⟩;have st:=uI (fun k=>(n k).natAbs) (fun k=>left (kl k)) hl h.nd hk1;have e:sfN (fun k=>(n k).natAbs) (fun x=>left (kl x) && !(kl x).sameKey (kl k)) Ks=sfN (fun k=>(n k).natAbs) (fun x=>left (kl x) && !decide (x=k)) Ks:=yO _ fun x hx=>by
  by_cases q:x=k
  ·subst q
   rw[WideAt.sameKey_self (hk _)];simp
  ·rw[sameKey_ne (fun e=>q (hi _ _ (h.g x hx) (h.g k hk1) e))]
   simp [q]
 rw[e,st,r.sum,hn];omega
theorem RI.fin {n:κ->Int} {Ks:List κ} {left:Lit->Bool} {s:Int} (r:RI kl g n Ks left s) (hl:∀ l,left l=false):s=(((Ks.map fun k=>(n k).natAbs).sum:Nat):Int):=by
 rw[r.sum,DA _ _ _ fun x _=>hl _]
end
end Go.Av
namespace Go
open Go.Maps Go.WideShapes Go.ChangeMaps Go.WideElems
open Go.WideMaps (KeyLaw)
section
variable {H:Type} {P:Program} {k e t:TypeId} {w:World} {b n:Nat} {D:DataW H} {q:IntKind}
theorem BX {es:Array MapEntry} {clock:Nat} {R:Value->Option (DataW H × List MemPlace)} (K:KeyLaw P k) (ht:P.underlying t=some (.map k e)) {z:Value} (hz:∀ u:World,(zeroValue e).run P u=.ok z u) (hb:w.heap[b]?=some (.map es clock)) (F:Fit P k R es clock) {key:Value} {kl:Lit} (hkey:keyOf P k key=some kl) :
  ∃ (v0:Value) (st:Nat) (es1:Array MapEntry) (clock1:Nat),(Instr.mapEntry t (.map (some b)) key).run P w=.ok (.tuple #[v0,goInt st]) (setBlock w b (.map es1 clock1))/\(∃ x∈es1.toList,x.key=key)/\(∀ x∈es1.toList,x.key=key->x.val=v0)/\(∀ x∈es1.toList,∃ l,keyOf P k x.key=some l):=by
 rcases K.find w hkey es.toList F.keys with ⟨h1,h2⟩ | ⟨j,e0,h1,h2,h3⟩
 ·refine⟨z,clock,es.push ⟨key,z,clock⟩,clock+1,?_,⟨⟨key,z,clock⟩,by simp,rfl⟩,fun x hx hk=>?_,fun x hx=>?_⟩
  ·simp [Instr.mapEntry,run_underlying ht,MapKept.run_getObj_map hb,K.check w false hkey,h1,hz,MapKept.run_setObj_map _ hb,Result.andThen,setBlock]
  ·rw[Array.toList_push] at hx
   rcases mem_append.1 hx with q | q
   ·exact absurd hk (h2 x q)
   ·rw[mem_singleton.1 q]
  ·rw[Array.toList_push] at hx
   rcases mem_append.1 hx with q | q
   ·exact F.keys x q
   ·rw[mem_singleton.1 q];exact⟨kl,hkey⟩
 ·have hj:es[j]?=some e0:=by simpa using h2
  have hm:=mem_of_getElem? h2;have hself:es.modify j (fun x=>{ x with key:=key })=es:=by
   apply Array.ext';rw[Array.toList_modify];apply ext_getElem?;intro i;rw[getElem?_modify];by_cases q:j=i
   ·subst q
    rw[h2];simp [<- h3]
   ·simp [q]
  refine⟨e0.val,e0.born,es,clock,?_,⟨e0,hm,h3⟩,fun x hx hk=>?_,F.keys⟩
  ·simp [Instr.mapEntry,run_underlying ht,MapKept.run_getObj_map hb,K.check w false hkey,h1,hj,h3,K.stays w hkey,hself,MapKept.run_setObj_map _ hb,Result.andThen,setBlock]
  ·rw[entry_eq_of_key (pairwise_map.1 F.stamped.2.2) hx hm (hk.trans h3.symm)]
theorem IN {es:Array MapEntry} {clock:Nat} (K:KeyLaw P k) (ht:P.underlying t=some (.map k e)) (hb:w.heap[b]?=some (.map es clock)) {key v0:Value} {kl:Lit} (hkey:keyOf P k key=some kl) (hex:∃ x∈es.toList,x.key=key) (hall:∀ x∈es.toList,x.key=key->x.val=v0) (hks:∀ x∈es.toList,∃ l,keyOf P k x.key=some l) :
  (Instr.lookup t (.map (some b)) key false).run P w=.ok v0 w:=by
 rcases K.find w hkey es.toList hks with ⟨h1,h2⟩ | ⟨j,e0,h1,h2,h3⟩
 ·obtain⟨x,m,q⟩:=hex
  exact absurd q (h2 x m)
 ·have hv:=hall e0 (mem_of_getElem? h2) h3
  simp [Instr.lookup,run_underlying ht,MapKept.run_getObj_map hb,K.check w _ hkey,h1,hv,Result.andThen]
theorem World.ownsMap.entry (h:w.ownsMap P k (plainElem P e) b n D) (K:KeyLaw P k) (ht:P.underlying t=some (.map k e)) (he:P.underlying e=some (.int q)) (hz:∀ u:World,(zeroValue e).run P u=.ok (.int q 0) u) (hn:n < maxLen)
  {key:Value} {kl:Lit} (hkey:keyOf P k key=some kl) :
  ∃ (c:Int) (st:Nat) (w1:World),(Instr.mapEntry t (.map (some b)) key).run P w=.ok (.tuple #[.int q c,goInt st]) w1/\w.grownBy w1 (some b)/\w1.heap.size=w.heap.size/\D.atKey kl (.lit (.int q 0))=.lit (.int q c)/\(Lit.int q c).wf=true /\
   (∀ w2:World,w2.heap[b]?=w1.heap[b]?->(Instr.lookup t (.map (some b)) key false).run P w2=.ok (.int q c) w2) /\
   ∀ (w2:World) (x:Int),(Lit.int q x).wf=true->w2.heap[b]?=w1.heap[b]?->∃ w3,(Instr.entryStore t (.map (some b)) (goInt st) (.int q x)).run P w2=.ok () w3/\w3.ownsMap P k (plainElem P e) b (n+1) (D.put kl (.lit (.int q x)))/\w2.grownBy w3 (some b)/\w3.heap.size=w2.heap.size:=by
 have KK:=Keyed.of_law K;obtain⟨c,hl,hat,hwc⟩:=h.lookup_int KK ht he (hz w) hkey;have h0:=h;obtain⟨es,clock,hb,F,hs,hD⟩:=h;obtain⟨v0,st,es1,clock1,e1,e2,e3⟩:=entry_then_store K ht hz hb F hkey;have hv0:v0=.int q c:=by
  rcases Maps.fit_look false KK ht (hz w) hb F hkey with ⟨r1,m1,_⟩ | ⟨e0,y,m1,m2,r1,_⟩
  ·rw[r1] at hl
   rcases e2 with ⟨e0,n1,n2,n3⟩ | ⟨n1,n2⟩
   ·exact absurd n2 (m1 e0 n1)
   ·rw[n2]
    simpa using hl
  ·rw[r1] at hl
   rcases e2 with ⟨e0',n1,n2,n3⟩ | ⟨n1,n2⟩
   ·have:e0'=e0:=entry_eq_of_key (pairwise_map.1 F.stamped.2.2) n1 m1 (n2.trans m2.symm)
    rw[n3,this];simpa using hl
   ·exact absurd m2 (n1 e0 m1)
 subst hv0;have hsz:∀ o:Obj,(setBlock w b o).heap.size=w.heap.size:=fun o=>by simp [setBlock]
 refine⟨c,st,_,e1,⟨rfl,rfl,rfl,by rw[hsz];exact Nat.le_refl _,fun i _ hi=>heap_setBlock_other hb _ (fun e=>hi (by rw[e]))⟩,hsz _,hat,hwc,fun w2 h2=>?_,fun w2 x hx h2=>?_⟩
 ·obtain⟨v0',st',es1',clock1',f1,f2,f3,f4⟩:=BX K ht hz hb F hkey
  rw[e1] at f1;simp only[Result.ok.injEq,Value.tuple.injEq] at f1;obtain⟨g1,g2⟩:=f1;have g1:#[Value.int q c,goInt st]=#[v0',goInt st']:=g1;simp only[Array.mk.injEq,List.cons.injEq] at g1;have g3:=congrArg (fun u:World=>u.heap[b]?) g2;simp only[heap_setBlock_same hb] at g3;simp only[Option.some.injEq,Obj.map.injEq] at g3;rw[g3.1] at h2;rw[g1.1];exact IN K ht (h2.trans (heap_setBlock_same hb _)) hkey f2 f3 f4
 have hw2:w2.heap[b]?=some (.map es1 clock1):=h2.trans (heap_setBlock_same hb _);obtain⟨es',clock',r1,r2⟩:=e3 w2 (.int q x) hw2;obtain⟨w',u1,u2,_⟩:=h0.update KK ht hn hkey (plainElem_int he hx);rw[r2] at u1;simp only[Result.ok.injEq,true_and] at u1;subst u1;obtain⟨es2,clock2,f1,f2,f3,f4⟩:=u2;rw[heap_setBlock_same hb] at f1;simp only[Option.some.injEq,Obj.map.injEq] at f1;obtain⟨rfl,rfl⟩:=f1;refine⟨_,r1,⟨es',clock',heap_setBlock_same hw2 _,f2,f3,f4⟩,⟨rfl,rfl,rfl,by simp [setBlock],fun i _ hi=>heap_setBlock_other hw2 _ (fun e=>hi (by rw[e]))⟩,by simp [setBlock]⟩
end
section
variable {H:Type} {P:Program} (w:World) {ops:Array Oper} {rest:List Oper} {o:Oper} {a:Act} {Q:Exit->Act->World->Prop}
theorem World.ownsMap.of_heap {k:TypeId} {R:Value->Option (DataW H × List MemPlace)} {b n:Nat} {D:DataW H} {w w':World} (h:w.ownsMap P k R b n D) (e:w'.heap[b]?=w.heap[b]?):w'.ownsMap P k R b n D:=by
 obtain⟨es,clock,h1,h2,h3,h4⟩:=h;exact⟨es,clock,e.trans h1,h2,h3,h4⟩
theorem World.ownsMap.look_any {k e t:TypeId} {q:IntKind} {b n:Nat} {D:DataW H} {w:World} (h:w.ownsMap P k (plainElem P e) b n D) (K:Keyed P k) (ht:P.underlying t=some (.map k e)) (he:P.underlying e=some (.int q)) (hz:∀ u:World,(zeroValue e).run P u=.ok (.int q 0) u) {key:Value} {kl:Lit} (hkey:keyOf P k key=some kl) :
  ∃ c,D.atKey kl (.lit (.int q 0))=.lit (.int q c)/\(Lit.int q c).wf=true/\∀ W:World,W.heap[b]?=w.heap[b]?->(Instr.lookup t (.map (some b)) key false).run P W=.ok (.int q c) W:=by
 obtain⟨c,_,hat,hwc⟩:=h.lookup_int K ht he (hz w) hkey;refine⟨c,hat,hwc,fun W hW=>?_⟩;obtain⟨c',hl',hat',_⟩:=(h.of_heap hW).lookup_int K ht he (hz W) hkey;rw[hat] at hat';simp only[DataW.lit.injEq,Lit.int.injEq,true_and] at hat';rw[hat'];exact hl'
end
end Go
namespace Go.Av
open Go.Nt Go.RowKit
def tk3 (f:List Tok):List (List AV):=f.map fun t=>[.int .i64 t.1,.str t.2.1,.int .i64 t.2.2]
theorem GG (f:List Tok):(tk3 f).length=f.length:=by simp [tk3]
theorem x9 {f g:List Tok} (h:tk3 f=tk3 g):f=g:=by
 unfold tk3 at h;refine (map_inj_right (fun x y hxy=>?_)).1 h;obtain⟨a,b,c⟩:=x;obtain⟨a',b',c'⟩:=y;simpa using hxy
structure TkAt (w:World) (f:List Tok) (v:Value) (A:Option Addr) (b o c:Nat):Prop where
 v:v=.slice A f.length c
 a:f≠[]->A=some ⟨b,o,none⟩
 c:f.length<=c
 r:∀ (i:Nat) (t:Tok),f[i]?=some t->b < w.heap.size/\∀ W:World,Below w.heap.size w W->W.cell? ⟨b,o+i*3,none⟩=some (.int .i64 t.1)/\W.cell? ⟨b,o+i*3+1,none⟩=some (.string ⟨t.2.1.toArray⟩)/\W.cell? ⟨b,o+i*3+2,none⟩=some (.int .i64 t.2.2)
theorem LY {b:ByteArray} {s:List UInt8} (h:b.data.toList=s):b=⟨s.toArray⟩:=by cases b;subst h;simp
theorem P9 [Gtab] {S0:Nat->Nat->Prop} {w:World} (hlt:∀ b o,S0 b o->b < w.heap.size) {f:List Tok} {v:Value} (h:aC S0 w (.sl .no 3 (tk3 f)) v):∃ A b o c,TkAt w f v A b o c:=by
 obtain⟨A,c,q1,q2,_,_,q3⟩:∃ A c,v=.slice A (tk3 f).length c/\(tk3 f).length<=c/\(Own.no=.full->c=(tk3 f).length)/\Own.no≠.own/\(tk3 f=[]\/∃ b o,A=some ⟨b,o,none⟩/\dT S0 w 3 (tk3 f) b o):=h;rw[GG] at q1 q2;rcases q3 with q3 | ⟨b,o,q3,q4⟩
 ·have hf:f=[]:=by simpa [tk3] using q3
  subst hf;exact⟨A,0,0,c,q1,fun z=>absurd rfl z,q2,fun i t hi=>by simp at hi⟩
 ·refine⟨A,b,o,c,q1,fun _=>q3,q2,fun i t hi=>?_⟩
  obtain⟨_,hr⟩:=q4.get (i:=i) (e:=[.int .i64 t.1,.str t.2.1,.int .i64 t.2.2]) (by simp [tk3,hi]);obtain⟨s0,v0,k0,r0⟩:=hr.get (j:=0) (x:=.int .i64 t.1) rfl;obtain⟨s1,v1,k1,b1,rfl,r1⟩:=hr.get (j:=1) (x:=.str t.2.1) rfl;obtain⟨s2,v2,k2,r2⟩:=hr.get (j:=2) (x:=.int .i64 t.2.2) rfl;have r0:v0=.int .i64 t.1:=r0;have r2:v2=.int .i64 t.2.2:=r2;rw[r0] at k0;rw[r2] at k2;rw[LY r1] at k1;have hc:∀ {W:World},Below w.heap.size w W->∀ j,S0 b j->W.cell? ⟨b,j,none⟩=w.cell? ⟨b,j,none⟩:=fun hW j hj=>hW.cell (p:=⟨b,j,none⟩) (hlt b j hj)
  exact⟨hlt _ _ s0,fun W hW=>⟨(hc hW _ s0).trans k0,(hc hW _ s1).trans k1,(hc hW _ s2).trans k2⟩⟩
theorem H2 [Gtab] {P:Program} {f:FuncId} {a b:List Tok} {r:Int} (h:∀ (w:World) (va vb:Value) (A B:Option Addr) (ba oa ca bb ob cb:Nat),TkAt w a va A ba oa ca->TkAt w b vb B bb ob cb->Calls P f #[va,vb] w fun e w'=>e=.returned (.int .i64 r)/\Below w.heap.size w w') :
  gM P f [.sl .no 3 (tk3 a),.sl .no 3 (tk3 b)] [] (.int .i64 r) []:=by
 intro kd β bs S0 O0 w vs hent hargs;obtain⟨_,h3,h4,h5,h6⟩:=hent;obtain⟨l⟩:=vs
 match l,hargs with
 | [va,vb],⟨ha,hb,_⟩ =>
  have hlt:∀ b o,S0 b o->b < w.heap.size:=fun b o hs=>(h3 b o hs).1
  obtain⟨A,ba,oa,ca,qa⟩:=P9 hlt ha;obtain⟨B,bb,ob,cb,qb⟩:=P9 hlt hb;refine (h w va vb A B ba oa ca bb ob cb qa qb).mono ?_
  rintro e w' ⟨rfl,hB⟩
  refine⟨_,fun b=>if b < w.heap.size then kd b else .stab,β,bs,rfl,⟨fun i hi=>absurd hi (by simp),Nat.le_refl _,⟨fun i c hi=>(by simp at hi),fun i hi=>(by simp at hi)⟩,rfl,hB.os,hB.tape,hB.output,hB.size,fun b q _ _=>hB.block b q,fun b o hs=>hB.cell (p:=⟨b,o,none⟩) (hlt b o hs),fun b k hk=>?_,fun b t k hk=>?_,fun i _ hi=>absurd hi (by simp),fun i hi=>(by simp at hi)⟩⟩
  ·obtain⟨q1,_,t,k',q2,q3⟩:=h4 b k hk
   exact⟨t,k',by rw[if_pos q1];exact q2,q3⟩
  ·by_cases q:b < w.heap.size
   ·rw[if_pos q] at hk
    exact .inr (h5 b t k hk q)
   ·exact .inl (by omega)
open Classical in
noncomputable def CO (fs:FuncId):aK:=fun f args sh=>if f=fs then (if h:sh=[]/\∃ p:List Tok × List Tok,args=[.sl .no 3 (tk3 p.1),.sl .no 3 (tk3 p.2)]/\p.1.length<=5000/\p.2.length<=5000/\(∀ t∈p.1,t.2.1.length<=1000000)/\(∀ t∈p.2,t.2.1.length<=1000000) then some (.int .i64 (2*(iB h.2.choose.1 h.2.choose.2:Int)),[]) else none) else none
theorem wN [Gtab] {P:Program} {fs:FuncId} (hr:v9 P fs) (hw:∀ (a b:List Tok),a.length<=5000->b.length<=5000->(∀ t∈a,t.2.1.length<=1000000)->(∀ t∈b,t.2.1.length<=1000000)->∀ (w:World) (va vb:Value) (A B:Option Addr) (ba oa ca bb ob cb:Nat),TkAt w a va A ba oa ca->TkAt w b vb B bb ob cb->Calls P fs #[va,vb] w fun e w'=>e=.returned (.int .i64 (2*(iB a b:Int)))/\Below w.heap.size w w')
  {f:FuncId} {args:List AV} {sh sh':LL} {r:AV} (h:CO fs f args sh=some (r,sh')):(v9 P f/\gM P f args sh r sh')\/FZ P f args sh r sh':=by
 unfold CO at h
 split at h
 ·rename_i hf
  subst hf
  split at h
  ·rename_i q
   obtain⟨q1,q2,q3,q4,q5⟩:=q.2.choose_spec;simp only[Option.some.injEq,Prod.mk.injEq] at h;obtain⟨rfl,rfl⟩:=h;generalize q.2.choose=m at q1 q2 q3 q4 q5 ⊢;rw[q.1,q1];exact .inl ⟨hr,H2 (hw m.1 m.2 q2 q3 q4 q5)⟩
  ·cases h
 ·cases h
theorem GL (fs:FuncId) {a b:List Tok} (h1:a.length<=5000) (h2:b.length<=5000) (h3:∀ t∈a,t.2.1.length<=1000000) (h4:∀ t∈b,t.2.1.length<=1000000):CO fs fs [.sl .no 3 (tk3 a),.sl .no 3 (tk3 b)] []=some (.int .i64 (2*(iB a b:Int)),[]):=by
 unfold CO;have q:([]:LL)=[]/\∃ p:List Tok × List Tok,[AV.sl .no 3 (tk3 a),AV.sl .no 3 (tk3 b)]=[.sl .no 3 (tk3 p.1),.sl .no 3 (tk3 p.2)]/\p.1.length<=5000/\p.2.length<=5000/\(∀ t∈p.1,t.2.1.length<=1000000)/\(∀ t∈p.2,t.2.1.length<=1000000):=⟨rfl,(a,b),rfl,h1,h2,h3,h4⟩
 rw[if_pos rfl,dif_pos q];have key:∀ m:List Tok × List Tok,[AV.sl .no 3 (tk3 a),AV.sl .no 3 (tk3 b)]=[.sl .no 3 (tk3 m.1),.sl .no 3 (tk3 m.2)]->(a,b)=m:=fun m hm=>by
  simp only[List.cons.injEq,AV.sl.injEq,true_and,and_true] at hm;obtain⟨m1,m2⟩:=m;rw[x9 hm.1,x9 hm.2]
 rw[<- key _ q.2.choose_spec.1]
end Go.Av
namespace Go.Nt
section
variable {κ:Type} [DecidableEq κ]
theorem DB (f:κ->Nat) (p:κ->Bool):∀ l:List κ,sfN f p l<=(l.map f).sum
 | []=>Nat.le_refl _
 | x :: l=>by
  have:=DB f p l
  rw[pF,map_cons,sum_cons]
  split<;>omega
theorem EU (x:κ):∀ {l:List κ},l.Nodup->(l.map fun k=>if x=k then 1 else 0).sum<=1
 | [],_=>by simp
 | y :: l,h=>by
  rw[nodup_cons] at h;rw[map_cons,sum_cons];by_cases e:x=y
  ·subst e
   rw[if_pos rfl]
   have:(l.map fun k=>if x=k then 1 else 0).sum=0:=by
    have hz:∀ m:List κ,x ∉ m->(m.map fun k=>if x=k then 1 else 0).sum=0:=by
     intro m
     induction m with
     | nil=>intro _;rfl
     | cons z m ih =>
      intro hm;rw[mem_cons,not_or] at hm;rw[map_cons,sum_cons,if_neg hm.1,ih hm.2]
    exact hz l h.1
   omega
  ·rw[if_neg e]
   have:=EU x h.2
   omega
theorem xM {l:List κ} (hl:l.Nodup):∀ p:List κ,(l.map fun k=>p.count k).sum<=p.length
 | []=>by
  have:∀ m:List κ,(m.map fun k=>List.count k ([]:List κ)).sum=0:=by
   intro m
   induction m with
   | nil=>rfl
   | cons z m ih=>rw[map_cons,sum_cons,ih];simp
  rw[this];exact Nat.zero_le _
 | x :: p=>by
  have h1:=xM hl p;have h2:=EU x hl;have h3:∀ m:List κ,(m.map fun k=>(x :: p).count k).sum=(m.map fun k=>p.count k).sum+(m.map fun k=>if x=k then 1 else 0).sum:=by
   intro m
   induction m with
   | nil=>rfl
   | cons z m ih =>
    rw[map_cons,sum_cons,ih,map_cons,sum_cons,map_cons,sum_cons,count_cons];by_cases e:x=z
    ·subst e;simp;omega
    ·have:(x == z)=false:=by simpa using e
     rw[this,if_neg e];simp;omega
  rw[h3,length_cons];omega
theorem MS (a b:List κ) (k:κ):(((a.count k:Nat):Int) - ((b.count k:Nat):Int)).natAbs=dfL a b k:=by
 unfold dfL dfN;omega
theorem LX {a b Ks:List κ} (hn:Ks.Nodup) (h:∀ k,k∈Ks↔k∈a\/k∈b):(Ks.map fun k=>(((a.count k:Nat):Int) - ((b.count k:Nat):Int)).natAbs).sum=mU a b:=by
 rw[<- uE a b Ks hn h]
 congr 1
 exact map_congr_left fun k _=>MS a b k
theorem GK (a b:List κ):mU a b<=a.length+b.length:=by
 have hn:=iG (a++b) ([]:List κ) nodup_nil;have h1:=xM hn a;have h2:=xM hn b;have h3:∀ m:List κ,(m.map (dfL a b)).sum<=(m.map fun k=>a.count k).sum+(m.map fun k=>b.count k).sum:=by
  intro m
  induction m with
  | nil=>simp
  | cons z m ih =>
   rw[map_cons,sum_cons,map_cons,sum_cons,map_cons,sum_cons]
   have:dfL a b z<=a.count z+b.count z:=by unfold dfL dfN;omega
   omega
 have:=h3 (lP [] (a++b))
 unfold mU;omega
end
end Go.Nt
