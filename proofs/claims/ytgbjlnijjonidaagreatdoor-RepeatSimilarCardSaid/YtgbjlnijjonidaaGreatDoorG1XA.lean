/- The least price of turning one list of tokens into another: forwards and backwards it is the same. No conditions. What the tags that one list has more than the other one cost, as plain data: counted key by key in any order it is the same. No conditions. The most similar earlier element, as plain data. No conditions. Prices of tokens and the distance of two lists of tokens, as plain data. No conditions. A sum over keys that come one by one in any order, as plain data. No conditions. Rows of numbers that are filled from the front or from the back; the steps of the distance, as plain data. No conditions. A map of counts, as it reads: which keys it has, and what stands at each; the sum over it in whatever order. No conditions. 'm[k] op= x' on a map that the call makes, keys of any kind: the entry is fetched, then stored. No conditions. A function of two lists of tokens that gives a number: from a walk to a given contract. No conditions. Bounds of sums of counts, as plain data. No conditions. The notation of fragments as plain data: bytes, names, contents, numbers, items. The notation of fragments as plain data: an element that is read is one that is written. The notation of fragments as plain data: parsing inverts formatting, what is parsed is valid and formats to1 what was read, an error's offset. Fragments that are made of numbers are valid: what each step of their making keeps. The notation of fragments as plain data: the tags that were seen, the limits of a notation, what the parts of the programs test. The notation of fragments as plain data: how the reference reads a tag and a byte. Renumbering the tags of a fragment as plain data: valid fragments stay valid. -/
import Init
import Derived.Maps.RangeWalk
import Derived.WideKeyEntry
import Derived.Maps.OwnOps
import Derived.Test.YtgbjlnijjonidaaGreatDoorG1Ev30
import Derived.Lib.Walk
import Derived.Deep.DeepCutAuto
open List
set_option linter.unusedSimpArgs false
set_option linter.unusedVariables false
set_option linter.unusedSectionVars false
set_option maxRecDepth 100000
set_option maxHeartbeats 16000000
namespace Go.Nt
section
variable {α:Type} (c:α->α->Option Nat) (w:α->Nat)
def lev:List α->List α->Nat
 | [],[]=>0
 | t :: a,[]=>w t+lev a []
 | [],u :: b=>w u+lev [] b
 | t :: a,u :: b=>match c t u with
  | some n=>min (min (w t+lev a (u :: b)) (w u+lev (t :: a) b)) (n+lev a b)
  | none=>min (w t+lev a (u :: b)) (w u+lev (t :: a) b)
termination_by a b=>a.length+b.length
inductive Sc:List α->List α->Nat->Prop
 | nil:Sc [] [] 0
 | del {t a b n}:Sc a b n->Sc (t :: a) b (w t+n)
 | ins {u a b n}:Sc a b n->Sc a (u :: b) (w u+n)
 | sub {t u k a b n}:c t u=some k->Sc a b n->Sc (t :: a) (u :: b) (k+n)
theorem kJ:∀ (N:Nat) (a b:List α),a.length+b.length<=N->Sc c w a b (lev c w a b)
 | _,[],[],_=>by rw[lev];exact .nil
 | 0,_ :: _,_,h=>by simp at h
 | 0,[],_ :: _,h=>by simp at h
 | N+1,t :: a,[],h=>by rw[lev];exact .del (kJ N a [] (by simp at h ⊢;omega))
 | N+1,[],u :: b,h=>by rw[lev];exact .ins (kJ N [] b (by simp at h ⊢;omega))
 | N+1,t :: a,u :: b,h=>by
  have h1:=kJ N a (u :: b) (by simp at h ⊢;omega);have h2:=kJ N (t :: a) b (by simp at h ⊢;omega);have h3:=kJ N a b (by simp at h ⊢;omega);rw[lev];have hm:Sc c w (t :: a) (u :: b) (min (w t+lev c w a (u :: b)) (w u+lev c w (t :: a) b)):=by
   rcases Nat.le_total (w t+lev c w a (u :: b)) (w u+lev c w (t :: a) b) with q | q
   ·rw[Nat.min_eq_left q];exact .del h1
   ·rw[Nat.min_eq_right q];exact .ins h2
  cases hc:c t u with
  | none=>exact hm
  | some k =>
   simp only;rcases Nat.le_total (min (w t+lev c w a (u :: b)) (w u+lev c w (t :: a) b)) (k+lev c w a b) with q | q
   ·rw[Nat.min_eq_left q];exact hm
   ·rw[Nat.min_eq_right q];exact .sub hc h3
theorem xY (t:α) (a b:List α):lev c w (t :: a) b<=w t+lev c w a b:=by
 cases b with
 | nil=>rw[lev];exact Nat.le_refl _
 | cons u b =>
  conv=>lhs;rw[lev]
  split<;>omega
theorem xX (u:α) (a b:List α):lev c w a (u :: b)<=w u+lev c w a b:=by
 cases a with
 | nil=>rw[lev];exact Nat.le_refl _
 | cons t a =>
  conv=>lhs;rw[lev]
  split<;>omega
theorem GH {t u:α} {k:Nat} (h:c t u=some k) (a b:List α):lev c w (t :: a) (u :: b)<=k+lev c w a b:=by
 conv=>lhs;rw[lev]
 rw[h];simp only;omega
theorem CT {a b:List α} {n:Nat} (h:Sc c w a b n):lev c w a b<=n:=by
 induction h with
 | nil=>rw[lev];exact Nat.le_refl _
 | del _ ih=>exact Nat.le_trans (xY c w _ _ _) (Nat.add_le_add_left ih _)
 | ins _ ih=>exact Nat.le_trans (xX c w _ _ _) (Nat.add_le_add_left ih _)
 | sub hc _ ih=>exact Nat.le_trans (GH c w hc _ _) (Nat.add_le_add_left ih _)
theorem Sc.dels {a b:List α} {n:Nat} (h:Sc c w a b n) (t:α):Sc c w (a++[t]) b (w t+n):=by
 induction h with
 | nil=>exact .del .nil
 | @del t' a b n h ih=>have:=Sc.del (t:=t') ih;rwa [Nat.add_left_comm] at this
 | @ins u a b n h ih=>have:=Sc.ins (u:=u) ih;rwa [Nat.add_left_comm] at this
 | @sub t' u k a b n hc h ih=>have:=Sc.sub hc ih;rwa [Nat.add_left_comm] at this
theorem Sc.inss {a b:List α} {n:Nat} (h:Sc c w a b n) (u:α):Sc c w a (b++[u]) (w u+n):=by
 induction h with
 | nil=>exact .ins .nil
 | @del t' a b n h ih=>have:=Sc.del (t:=t') ih;rwa [Nat.add_left_comm] at this
 | @ins u' a b n h ih=>have:=Sc.ins (u:=u') ih;rwa [Nat.add_left_comm] at this
 | @sub t' u' k a b n hc h ih=>have:=Sc.sub hc ih;rwa [Nat.add_left_comm] at this
theorem Sc.subs {a b:List α} {n:Nat} (h:Sc c w a b n) {t u:α} {k:Nat} (hk:c t u=some k):Sc c w (a++[t]) (b++[u]) (k+n):=by
 induction h with
 | nil=>exact .sub hk .nil
 | @del t' a b n h ih=>have:=Sc.del (t:=t') ih;rwa [Nat.add_left_comm] at this
 | @ins u' a b n h ih=>have:=Sc.ins (u:=u') ih;rwa [Nat.add_left_comm] at this
 | @sub t' u' k' a b n hc h ih=>have:=Sc.sub hc ih;rwa [Nat.add_left_comm] at this
theorem Sc.rev {a b:List α} {n:Nat} (h:Sc c w a b n):Sc c w a.reverse b.reverse n:=by
 induction h with
 | nil=>exact .nil
 | del h ih=>rw[reverse_cons];exact ih.dels c w _
 | ins h ih=>rw[reverse_cons];exact ih.inss c w _
 | sub hc h ih=>rw[reverse_cons,reverse_cons];exact ih.subs c w hc
theorem gB (a b:List α):lev c w a.reverse b.reverse=lev c w a b:=by
 apply Nat.le_antisymm
 ·exact CT c w ((kJ c w _ a b (Nat.le_refl _)).rev c w)
 ·have:=CT c w ((kJ c w _ a.reverse b.reverse (Nat.le_refl _)).rev c w)
  rwa [reverse_reverse,reverse_reverse] at this
theorem KZ:lev c w [] []=0:=by rw[lev]
theorem KX (a:List α) (t:α):lev c w (a++[t]) []=lev c w a []+w t:=by
 have h1:=gB c w (a++[t]) [];have h2:=gB c w a [];rw[reverse_append] at h1;rw[<- h1,<- h2];show lev c w (t :: a.reverse) []=_;rw[lev];exact Nat.add_comm _ _
theorem KY (b:List α) (u:α):lev c w [] (b++[u])=lev c w [] b+w u:=by
 have h1:=gB c w [] (b++[u]);have h2:=gB c w [] b;rw[reverse_append] at h1;rw[<- h1,<- h2];show lev c w [] (u :: b.reverse)=_;rw[lev];exact Nat.add_comm _ _
theorem KW (a b:List α) (t u:α):lev c w (a++[t]) (b++[u])=(match c t u with
  | some n=>min (min (lev c w a (b++[u])+w t) (lev c w (a++[t]) b+w u)) (lev c w a b+n)
  | none=>min (lev c w a (b++[u])+w t) (lev c w (a++[t]) b+w u)):=by
 have h1:=gB c w (a++[t]) (b++[u]);have h2:=gB c w a (b++[u]);have h3:=gB c w (a++[t]) b;have h4:=gB c w a b;rw[reverse_append] at h1 h2 h3;rw[reverse_append] at h1;have h1:lev c w (t :: a.reverse) (u :: b.reverse)=_:=h1;have h2:lev c w a.reverse (u :: b.reverse)=_:=h2;have h3:lev c w (t :: a.reverse) b.reverse=_:=h3;rw[<- h1,lev,h2,h3,h4]
 cases c t u with
 | none=>simp only[Nat.add_comm]
 | some n=>simp only[Nat.add_comm]
end
end Go.Nt
namespace Go.Nt
section
variable {κ:Type} [DecidableEq κ]
def dfN (x y:Nat):Nat:=(x - y)+(y - x)
def dfL (a b:List κ) (k:κ):Nat:=dfN (a.count k) (b.count k)
def lL:List κ->List κ->List κ
 | acc,[]=>acc
 | acc,x :: l=>if x∈acc then lL acc l else lL (acc++[x]) l
theorem pC:∀ (l acc:List κ) (x:κ),x∈lL acc l↔x∈acc\/x∈l
 | [],acc,x=>by simp [lL]
 | y :: l,acc,x=>by
  unfold lL;split
  ·rename_i h
   rw[pC l acc x,mem_cons];constructor
   ·rintro (q | q)
    ·exact .inl q
    ·exact .inr (.inr q)
   ·rintro (q | q | q)
    ·exact .inl q
    ·subst q;exact .inl h
    ·exact .inr q
  ·rw[pC l (acc++[y]) x,mem_append,mem_singleton,mem_cons,or_assoc]
theorem iA:∀ (l acc:List κ),acc.Nodup->(lL acc l).Nodup
 | [],acc,h=>h
 | y :: l,acc,h=>by
  unfold lL;split
  ·exact iA l acc h
  ·rename_i q
   refine iA l _ ?_;rw[nodup_append];refine⟨h,by simp,fun a ha b hb=>?_⟩;rw[mem_singleton] at hb;subst hb;exact fun e=>q (e ▸ ha)
def oR (a b:List κ):Nat:=((lL [] (a++b)).map (dfL a b)).sum
theorem A9 {l m:List Nat} (h:l.Perm m):l.sum=m.sum:=by
 induction h with
 | nil=>rfl
 | cons x _ ih=>rw[sum_cons,sum_cons,ih]
 | swap x y l=>simp only[sum_cons];omega
 | trans _ _ h1 h2=>exact h1.trans h2
theorem GC {l m:List κ} (hl:l.Nodup) (hm:m.Nodup) (h:∀ x,x∈l↔x∈m):l.Perm m:=by
 rw[perm_iff_count];intro x;rw[hl.count,hm.count];simp only[h x]
theorem tN (a b l:List κ) (hl:l.Nodup) (h:∀ x,x∈l↔x∈a\/x∈b):(l.map (dfL a b)).sum=oR a b:=by
 unfold oR;refine A9 (List.Perm.map _ (GC hl (iA _ _ nodup_nil) fun x=>?_));rw[h,pC,mem_append];simp
def qL (a b:List κ):List κ->List κ->Nat
 | _,[]=>0
 | p,x :: l=>(if x∈p then 0 else dfL a b x)+qL a b (p++[x]) l
def tO (a b:List κ):List κ->List κ->Nat
 | _,[]=>0
 | p,x :: l=>(if x∈p\/x∈a then 0 else b.count x)+tO a b (p++[x]) l
def fsL:List κ->List κ->List κ
 | _,[]=>[]
 | p,x :: l=>if x∈p then fsL (p++[x]) l else x :: fsL (p++[x]) l
theorem lS:∀ (l p:List κ) (x:κ),x∈fsL p l↔x∈l/\x ∉ p
 | [],p,x=>by simp [fsL]
 | y :: l,p,x=>by
  have ih:=lS l (p++[y]) x;rw[mem_append,mem_singleton,not_or] at ih;unfold fsL;split
  ·rename_i h
   rw[ih,mem_cons];constructor
   ·rintro ⟨q1,q2,_⟩
    exact⟨.inr q1,q2⟩
   ·rintro ⟨q1,q2⟩
    have hne:¬ x=y:=fun e=>q2 (e ▸ h)
    exact⟨q1.resolve_left hne,q2,hne⟩
  ·rename_i h
   rw[mem_cons,ih,mem_cons];constructor
   ·rintro (q | ⟨q1,q2,_⟩)
    ·subst q;exact⟨.inl rfl,h⟩
    ·exact⟨.inr q1,q2⟩
   ·rintro ⟨q1,q2⟩
    by_cases e:x=y
    ·exact .inl e
    ·exact .inr ⟨q1.resolve_left e,q2,e⟩
theorem jN:∀ (l p:List κ),(fsL p l).Nodup
 | [],p=>nodup_nil
 | y :: l,p=>by
  unfold fsL;split
  ·exact jN l _
  ·rw[nodup_cons]
   refine⟨fun h=>?_,jN l _⟩
   have:=((lS l (p++[y]) y).1 h).2
   exact this (mem_append_right _ (mem_singleton.2 rfl))
theorem w7 (a b:List κ):∀ (l p:List κ),qL a b p l=((fsL p l).map (dfL a b)).sum
 | [],p=>rfl
 | x :: l,p=>by
  unfold qL fsL;rw[w7 a b l (p++[x])];split
  ·rw[Nat.zero_add]
  ·rw[map_cons,sum_cons]
theorem w6 (a b:List κ):∀ (l p:List κ),tO a b p l=(((fsL p l).filter fun x=>decide (x ∉ a)).map (dfL a b)).sum
 | [],p=>rfl
 | x :: l,p=>by
  unfold tO fsL;rw[w6 a b l (p++[x])];by_cases h:x∈p
  ·rw[if_pos (.inl h),if_pos h,Nat.zero_add]
  ·rw[if_neg h]
   by_cases h2:x∈a
   ·rw[if_pos (.inr h2),filter_cons_of_neg (by simpa using h2),Nat.zero_add]
   ·rw[if_neg (fun z=>z.elim h h2),filter_cons_of_pos (by simpa using h2),map_cons,sum_cons]
    have:dfL a b x=b.count x:=by unfold dfL dfN;rw[count_eq_zero.2 h2];omega
    rw[this]
theorem EJ (a b:List κ):qL a b [] a+tO a b [] b=oR a b:=by
 rw[w7,w6,<- sum_append_nat,<- map_append];refine tN a b _ ?_ fun x=>?_
 ·rw[nodup_append]
  refine⟨jN _ _,(jN _ _).filter _,fun x hx y hy e=>?_⟩;subst e;have h1:=((lS _ _ _).1 hx).1;have h2:=(mem_filter.1 hy).2;exact absurd h1 (by simpa using h2)
 ·rw[mem_append,mem_filter,lS,lS]
  simp only[not_mem_nil,not_false_eq_true,and_true,decide_eq_true_eq];constructor
  ·rintro (q | q)
   ·exact .inl q
   ·exact .inr q.1
  ·rintro (q | q)
   ·exact .inl q
   ·by_cases h:x∈a
    ·exact .inl h
    ·exact .inr ⟨q,h⟩
end
end Go.Nt
namespace Go.Nt
def bst (P:Nat->Int) (t:Int):Nat->Int × Int
 | 0=>(-1,0)
 | k+1=>if t<=P k/\(bst P t k).2 < P k then ((k:Int),P k) else bst P t k
def jR (P:Nat->Nat->Int) (t:Int) (n:Nat):List (Int × Int):=(List.range n).map fun i=>bst (fun k=>P k i) t i
theorem oX (P:Nat->Nat->Int) (t:Int) (n:Nat):(jR P t n).length=n:=by simp [jR]
theorem BS (P:Nat->Nat->Int) (t:Int) (n:Nat):jR P t (n+1)=jR P t n++[bst (fun k=>P k n) t n]:=by
 unfold jR;rw[range_succ,map_append];rfl
def prc (t d:Nat):Int:=if t=0 then 100 else (100*((t - d:Nat):Int)) / (t:Int)
theorem KF (t d:Nat):0<=prc t d/\prc t d<=100:=by
 unfold prc;split
 ·omega
 ·rename_i h
  constructor
  ·exact Int.ediv_nonneg (by omega) (by omega)
  ·apply Int.ediv_le_of_le_mul (by omega)
   omega
theorem O2 (t d:Nat) (h:t≠0):(100*max ((t:Int) - (d:Int)) 0).tdiv (t:Int)=prc t d:=by
 unfold prc;rw[if_neg h,Int.tdiv_eq_ediv_of_nonneg (by omega)]
 congr 2
 omega
theorem OZ (t d:Nat) (h:t≠0):max 0 ((100*((t:Int) - (d:Int))).tdiv (t:Int))=prc t d:=by
 unfold prc;rw[if_neg h];by_cases q:d<=t
 ·rw[Int.tdiv_eq_ediv_of_nonneg (by omega)]
  have e:((t - d:Nat):Int)=(t:Int) - (d:Int):=by omega
  rw[e]
  have:0<=100*((t:Int) - (d:Int)) / (t:Int):=Int.ediv_nonneg (by omega) (by omega)
  omega
 ·have e:t - d=0:=by omega
  rw[e];have h1:(100*((t:Int) - (d:Int))) = -(100*((d:Int) - (t:Int))):=by omega
  rw[h1,Int.neg_tdiv,Int.tdiv_eq_ediv_of_nonneg (by omega)]
  have:0<=100*((d:Int) - (t:Int)) / (t:Int):=Int.ediv_nonneg (by omega) (by omega)
  simp;omega
end Go.Nt
namespace Go.Nt
abbrev Tok:=Int × List UInt8 × Int
def UN (b:UInt8):UInt8:=if (65:Int)<=(b.toNat:Int)/\(b.toNat:Int)<=90 then b+32 else b
def kyT (t:Tok):List UInt8:=if t.1=6 then t.2.1.map UN else t.2.1
def wgT (t:Tok):Nat:=if t.1=6\/t.1=5 then 4 else if t.1=7\/t.1=2\/t.1=3\/t.1=4 then 3 else if t.1=9 then 2 else if t.1=8 then 1 else 0
def tgT (t:Tok):Bool:=decide (t.1=2\/t.1=3\/t.1=4)
def smT (a b:Tok):Bool:=decide (a.1=b.1) && decide (a.2.1=b.2.1)
def cst (a b:Tok):Option Nat:=if smT a b=true then some 0 else if a.1≠b.1\/a.1 < 5\/9 < a.1 then none else if a.1=6/\kyT a=kyT b then some 1 else some (wgT a)
def aln (t:Tok):Nat:=if tgT t=true then 1 else wgT t
def tky (l:List Tok):List (Int × List UInt8):=(l.filter tgT).map fun t=>(t.1,t.2.1)
def iM (a b:List Tok):Nat:=oR (tky a) (tky b)
def dst (a b:List Tok):Nat:=lev cst aln a b+2*iM a b
def ttl (l:List Tok):Nat:=(l.map wgT).sum
def prT (a b:List Tok):Int:=prc (max (ttl a) (ttl b)) (dst a b)
theorem oN (t:Tok):wgT t<=4:=by
 unfold wgT
 repeat' split
 all_goals omega
theorem iG (t:Tok):aln t<=4:=by unfold aln;have:=oN t;split<;>omega
theorem DM {a b:Tok} {n:Nat} (h:cst a b=some n):n<=4:=by
 unfold cst at h
 have:=oN a
 split at h
 ·cases h;omega
 split at h
 ·cases h
 split at h
 ·cases h;omega
 ·cases h;omega
theorem kA:∀ l:List Tok,ttl l<=4*l.length
 | []=>Nat.le_refl _
 | t :: l=>by
  have h1:=kA l;have h2:=oN t;unfold ttl at h1 ⊢;rw[map_cons,sum_cons,length_cons];omega
theorem pJ:∀ (N:Nat) (a b:List Tok),a.length+b.length<=N->lev cst aln a b<=4*(a.length+b.length)
 | _,[],[],_=>by rw[lev];omega
 | 0,_ :: _,_,h=>by simp at h
 | 0,[],_ :: _,h=>by simp at h
 | N+1,t :: a,b,h=>by
  have h1:=xY cst aln t a b;have h2:=pJ N a b (by simp at h ⊢;omega);have h3:=iG t;rw[length_cons];omega
 | N+1,[],u :: b,h=>by
  have h1:=xX cst aln u [] b;have h2:=pJ N [] b (by simp at h ⊢;omega);have h3:=iG u;rw[length_cons];omega
theorem xE {a b:Tok}:smT a b=true↔a.1=b.1/\a.2.1=b.2.1:=by unfold smT;simp
end Go.Nt
namespace Go.Nt
section
variable {κ:Type} [DecidableEq κ]
def sfN (f:κ->Nat) (p:κ->Bool) (l:List κ):Nat:=((l.filter fun x=>!p x).map f).sum
theorem FR (f:κ->Nat) (p:κ->Bool) (l:List κ) (h:∀ x∈l,p x=true):sfN f p l=0:=by
 unfold sfN;rw[filter_eq_nil_iff.2 fun x hx=>by simp [h x hx]];rfl
theorem BT (f:κ->Nat) (p:κ->Bool) (l:List κ) (h:∀ x∈l,p x=false):sfN f p l=(l.map f).sum:=by
 unfold sfN;rw[filter_eq_self.2 fun x hx=>by simp [h x hx]]
theorem oY (f:κ->Nat) (p:κ->Bool) (x:κ) (l:List κ):sfN f p (x :: l)=(if p x=true then 0 else f x)+sfN f p l:=by
 unfold sfN;by_cases h:p x=true
 ·rw[filter_cons_of_neg (by simp [h]),if_pos h,Nat.zero_add]
 ·rw[filter_cons_of_pos (by simpa using h),if_neg h,map_cons,sum_cons]
theorem xF (f:κ->Nat) {p q:κ->Bool} {l:List κ} (h:∀ x∈l,p x=q x):sfN f p l=sfN f q l:=by
 unfold sfN;rw[filter_congr fun x hx=>by rw[h x hx]]
theorem tR (f:κ->Nat) (p:κ->Bool) {k:κ} (hp:p k=true):∀ {l:List κ},l.Nodup->k∈l->sfN f (fun x=>p x && !decide (x=k)) l=sfN f p l+f k
 | [],_,h=>by cases h
 | x :: l,hn,h=>by
  rw[nodup_cons] at hn;rw[oY,oY];rcases mem_cons.1 h with e | h
  ·subst e
   have:sfN f (fun x=>p x && !decide (x=k)) l=sfN f p l:=xF f fun y hy=>by
    have:¬ y=k:=fun e=>hn.1 (e ▸ hy)
    simp [this]
   rw[this,if_pos hp];simp;omega
  ·have ih:=tR f p hp hn.2 h
   have hx:¬ x=k:=fun e=>hn.1 (e ▸ h)
   rw[ih];simp [hx];omega
end
end Go.Nt
namespace Go.Nt
def hU (f g:Nat->Int) (j m:Nat):List Int:=(List.range (m+1)).map fun i=>if i < j then f i else g i
theorem dF (f g:Nat->Int) (j m:Nat):(hU f g j m).length=m+1:=by simp [hU]
theorem eH (f g:Nat->Int) (j:Nat) {m i:Nat} (h:i<=m):(hU f g j m)[i]?=some (if i < j then f i else g i):=by
 unfold hU;rw[getElem?_map,getElem?_range (by omega)];rfl
theorem lE (f g:Nat->Int) {j m:Nat} (h:j<=m):(hU f g j m).set j (f j)=hU f g (j+1) m:=by
 apply ext_getElem?;intro i;rw[getElem?_set,dF];by_cases e:j=i
 ·subst e
  rw[if_pos rfl,if_pos (by omega),eH f g (j+1) h,if_pos (by omega)]
 ·rw[if_neg e]
  by_cases q:i<=m
  ·rw[eH f g j q,eH f g (j+1) q]
   by_cases z:i < j
   ·rw[if_pos z,if_pos (by omega)]
   ·rw[if_neg z,if_neg (by omega)]
  ·rw[getElem?_eq_none (by rw[dF];omega),getElem?_eq_none (by rw[dF];omega)]
theorem mM (f g h:Nat->Int) (m:Nat):hU f g (m+1) m=hU h f 0 m:=by
 unfold hU;apply map_congr_left;intro i hi;rw[mem_range] at hi;rw[if_pos (by omega),if_neg (by omega)]
theorem zX (f:Nat->Int) (m:Nat):List.replicate (m+1) (0:Int)=hU f (fun _=>0) 0 m:=by
 apply ext_getElem?;intro i;by_cases q:i<=m
 ·rw[eH _ _ _ q,getElem?_replicate,if_pos (by omega),if_neg (by omega)]
 ·rw[getElem?_eq_none (by rw[length_replicate];omega),getElem?_eq_none (by rw[dF];omega)]
def iN (f:Nat->Int) (j m:Nat):List Int:=(List.range (m+1)).map fun i=>if j<=i then f i else 0
theorem fN (f:Nat->Int) (j m:Nat):(iN f j m).length=m+1:=by simp [iN]
theorem hZ (f:Nat->Int) (j:Nat) {m i:Nat} (h:i<=m):(iN f j m)[i]?=some (if j<=i then f i else 0):=by
 unfold iN;rw[getElem?_map,getElem?_range (by omega)];rfl
theorem BZ (f:Nat->Int) {j m:Nat} (h:j<=m):(iN f (j+1) m).set j (f j)=iN f j m:=by
 apply ext_getElem?;intro i;rw[getElem?_set,fN];by_cases e:j=i
 ·subst e
  rw[if_pos rfl,if_pos (by omega),hZ f j h,if_pos (by omega)]
 ·rw[if_neg e]
  by_cases q:i<=m
  ·rw[hZ f (j+1) q,hZ f j q]
   by_cases z:j<=i
   ·rw[if_pos (by omega),if_pos z]
   ·rw[if_neg (by omega),if_neg z]
  ·rw[getElem?_eq_none (by rw[fN];omega),getElem?_eq_none (by rw[fN];omega)]
theorem zY (f:Nat->Int) (m:Nat):List.replicate (m+1) (0:Int)=iN f (m+1) m:=by
 apply ext_getElem?;intro i;by_cases q:i<=m
 ·rw[hZ _ _ q,getElem?_replicate,if_pos (by omega),if_neg (by omega)]
 ·rw[getElem?_eq_none (by rw[length_replicate];omega),getElem?_eq_none (by rw[fN];omega)]
def fwd (a b:List Tok) (j:Nat):Int:=(lev cst aln a (b.take j):Int)
theorem LI (b:List Tok):fwd [] b 0=0:=by unfold fwd;rw[take_zero,KZ];rfl
theorem LH {b:List Tok} {j:Nat} {u:Tok} (h:b[j]?=some u):fwd [] b (j+1)=fwd [] b j+(aln u:Int):=by
 unfold fwd;rw[take_add_one,h];show ((lev cst aln [] (b.take j++[u]):Nat):Int)=_;rw[KY];omega
theorem LG (a b:List Tok) (t:Tok):fwd (a++[t]) b 0=fwd a b 0+(aln t:Int):=by
 unfold fwd;rw[take_zero,KX];omega
theorem LF (a:List Tok) {b:List Tok} {j:Nat} {t u:Tok} (h:b[j]?=some u):fwd (a++[t]) b (j+1)=(match cst t u with
  | some n=>min (min (fwd a b (j+1)+(aln t:Int)) (fwd (a++[t]) b j+(aln u:Int))) (fwd a b j+(n:Int))
  | none=>min (fwd a b (j+1)+(aln t:Int)) (fwd (a++[t]) b j+(aln u:Int))):=by
 unfold fwd;rw[take_add_one,h]
 show ((lev cst aln (a++[t]) (b.take j++[u]):Nat):Int)=(match cst t u with
  | some n=>min (min ((lev cst aln a (b.take j++[u]):Nat)+(aln t:Int)) ((lev cst aln (a++[t]) (b.take j):Nat)+(aln u:Int))) ((lev cst aln a (b.take j):Nat)+(n:Int))
  | none=>min ((lev cst aln a (b.take j++[u]):Nat)+(aln t:Int)) ((lev cst aln (a++[t]) (b.take j):Nat)+(aln u:Int)))
 rw[KW]
 cases cst t u with
 | none=>simp only;omega
 | some n=>simp only;omega
def bwd (a b:List Tok) (i k:Nat):Int:=(lev cst aln (a.drop i) (b.drop k):Int)
theorem lY {α:Type} {l:List α} {i:Nat} {x:α} (h:l[i]?=some x):l.drop i=x :: l.drop (i+1):=by
 obtain⟨h1,h2⟩:=List.getElem?_eq_some_iff.1 h;rw[<- h2];exact drop_eq_getElem_cons h1
theorem L8 (a b:List Tok):bwd a b a.length b.length=0:=by unfold bwd;rw[drop_length,drop_length,lev];rfl
theorem L6 {a b:List Tok} {i:Nat} {t:Tok} (h:a[i]?=some t):bwd a b i b.length=(aln t:Int)+bwd a b (i+1) b.length:=by
 unfold bwd;rw[drop_length,lY h,lev];omega
theorem L7 {a b:List Tok} {k:Nat} {u:Tok} (h:b[k]?=some u):bwd a b a.length k=(aln u:Int)+bwd a b a.length (k+1):=by
 unfold bwd;rw[drop_length,lY h,lev];omega
theorem L5 {a b:List Tok} {i k:Nat} {t u:Tok} (h:a[i]?=some t) (h2:b[k]?=some u):bwd a b i k=(match cst t u with
  | some n=>min (min ((aln t:Int)+bwd a b (i+1) k) ((aln u:Int)+bwd a b i (k+1))) ((n:Int)+bwd a b (i+1) (k+1))
  | none=>min ((aln t:Int)+bwd a b (i+1) k) ((aln u:Int)+bwd a b i (k+1))):=by
 unfold bwd;rw[lY h,lY h2,lev]
 cases cst t u with
 | none=>simp only;omega
 | some n=>simp only;omega
end Go.Nt
namespace Go.Av
open Go.Maps Go.Nt
section
variable {κ H:Type} [DecidableEq κ]
abbrev sX (n:Int):DataW H:=.lit (.int .i64 n)
structure MI (kl:κ->Lit) (g:κ->Prop) (D:DataW H) (n:κ->Int) (Ks:List κ):Prop where
 m:IsMap D
 at_:∀ k,g k->D.atKey (kl k) (sX 0)=sX (n k)
 has:∀ l,Maps.has D l=true↔∃ k∈Ks,l=kl k
 g:∀ k∈Ks,g k
 nd:Ks.Nodup
def wL (Ks:List κ) (k:κ):List κ:=if k∈Ks then Ks else Ks++[k]
theorem gY {Ks:List κ} {k x:κ}:x∈wL Ks k↔x∈Ks\/x=k:=by
 unfold wL;split
 ·rename_i h
  constructor
  ·exact .inl
  ·rintro (q | q)
   ·exact q
   ·subst q;exact h
 ·rw[mem_append,mem_singleton]
theorem wK {Ks:List κ} (h:Ks.Nodup) (k:κ):(wL Ks k).Nodup:=by
 unfold wL;split
 ·exact h
 ·rename_i q
  rw[nodup_append];refine⟨h,by simp,fun a ha b hb e=>?_⟩;rw[mem_singleton] at hb;subst hb;exact q (e ▸ ha)
variable {kl:κ->Lit} {g:κ->Prop}
theorem MI.start:MI (H:=H) kl g (.map []) (fun _=>0) []:=
 ⟨isMap_empty,fun k _=>rfl,fun l=>⟨fun h=>(by cases h),fun ⟨k,h,_⟩=>(by cases h)⟩,fun k h=>(by cases h),nodup_nil⟩
theorem MI.put {D:DataW H} {n:κ->Int} {Ks:List κ} (h:MI kl g D n Ks) (hk:∀ k,WideAt.IsKeyLit (kl k)) (hi:∀ x y,g x->g y->kl x=kl y->x=y) {k:κ} (gk:g k) (z:Int):MI kl g (D.put (kl k) (sX z)) (fun x=>if x=k then z else n x) (wL Ks k):=by
 refine⟨h.m.put _ _,fun x gx=>?_,fun l=>?_,fun x hx=>?_,wK h.nd k⟩
 ·by_cases e:x=k
  ·subst e
   rw[atKey_put_same h.m (hk _),if_pos rfl]
  ·rw[atKey_put_other (fun q=>e (hi _ _ gx gk q)),if_neg e]
   exact h.at_ x gx
 ·by_cases e:l=kl k
  ·subst e
   rw[has_put_same h.m (hk _)];exact⟨fun _=>⟨k,gY.2 (.inr rfl),rfl⟩,fun _=>rfl⟩
  ·rw[has_put_other e,h.has]
   constructor
   ·rintro ⟨x,q1,q2⟩
    exact⟨x,gY.2 (.inl q1),q2⟩
   ·rintro ⟨x,q1,q2⟩
    rcases gY.1 q1 with q | q
    ·exact⟨x,q,q2⟩
    ·subst q;exact absurd q2 e
 ·rcases gY.1 hx with q | q
  ·exact h.g x q
  ·subst q;exact gk
structure RI (kl:κ->Lit) (g:κ->Prop) (n:κ->Int) (Ks:List κ) (left:Lit->Bool) (s:Int):Prop where
 sum:s=((sfN (fun k=>(n k).natAbs) (fun k=>left (kl k)) Ks:Nat):Int)
 dom:∀ l,left l=true->∃ k∈Ks,l=kl k
theorem MI.ri {D:DataW H} {n:κ->Int} {Ks:List κ} (h:MI kl g D n Ks):RI kl g n Ks (Maps.has D) 0:=
 ⟨by rw[FR _ _ _ fun x hx=>(h.has _).2 ⟨x,hx,rfl⟩];rfl,fun l hl=>(h.has l).1 hl⟩
theorem RI.step {D:DataW H} {n:κ->Int} {Ks:List κ} (h:MI kl g D n Ks) (hk:∀ k,WideAt.IsKeyLit (kl k)) (hi:∀ x y,g x->g y->kl x=kl y->x=y) {left:Lit->Bool} {s:Int} (r:RI kl g n Ks left s) {l:Lit} (hl:left l=true) {c:Int} (hc:∀ zd,D.atKey l zd=sX c) :
  RI kl g n Ks (fun z=>left z && !z.sameKey l) (s+(c.natAbs:Int)):=by
 obtain⟨k,hk1,rfl⟩:=r.dom l hl;have hn:n k=c:=by
  have h1:=h.at_ k (h.g k hk1);rw[hc] at h1
  have:(sX c:DataW H)=sX (n k):=h1
  simp only[sX,DataW.lit.injEq,Lit.int.injEq,true_and] at this;exact this.symm
 refine⟨?_,fun z hz=>r.dom z (by simp only[Bool.and_eq_true] at hz;exact hz.1)⟩;have st:=tR (fun k=>(n k).natAbs) (fun k=>left (kl k)) hl h.nd hk1;have e:sfN (fun k=>(n k).natAbs) (fun x=>left (kl x) && !(kl x).sameKey (kl k)) Ks=sfN (fun k=>(n k).natAbs) (fun x=>left (kl x) && !decide (x=k)) Ks:=xF _ fun x hx=>by
  by_cases q:x=k
  ·subst q
   rw[WideAt.sameKey_self (hk _)];simp
  ·rw[sameKey_ne (fun e=>q (hi _ _ (h.g x hx) (h.g k hk1) e))]
   simp [q]
 rw[e,st,r.sum,hn];omega
theorem RI.fin {n:κ->Int} {Ks:List κ} {left:Lit->Bool} {s:Int} (r:RI kl g n Ks left s) (hl:∀ l,left l=false):s=(((Ks.map fun k=>(n k).natAbs).sum:Nat):Int):=by
 rw[r.sum,BT _ _ _ fun x _=>hl _]
end
end Go.Av
namespace Go
open Go.Maps Go.WideShapes Go.ChangeMaps Go.WideElems
open Go.WideMaps (KeyLaw)
section
variable {H:Type} {P:Program} {k e t:TypeId} {w:World} {b n:Nat} {D:DataW H} {q:IntKind}
theorem AH {es:Array MapEntry} {clock:Nat} {R:Value->Option (DataW H × List MemPlace)} (K:KeyLaw P k) (ht:P.underlying t=some (.map k e)) {z:Value} (hz:∀ u:World,(zeroValue e).run P u=.ok z u) (hb:w.heap[b]?=some (.map es clock)) (F:Fit P k R es clock) {key:Value} {kl:Lit} (hkey:keyOf P k key=some kl) :
  ∃ (v0:Value) (st:Nat) (es1:Array MapEntry) (clock1:Nat),(Instr.mapEntry t (.map (some b)) key).run P w=.ok (.tuple #[v0,goInt st]) (setBlock w b (.map es1 clock1))/\(∃ x∈es1.toList,x.key=key)/\(∀ x∈es1.toList,x.key=key->x.val=v0)/\(∀ x∈es1.toList,∃ l,keyOf P k x.key=some l):=by
 rcases K.find w hkey es.toList F.keys with ⟨h1,h2⟩ | ⟨j,e0,h1,h2,h3⟩
 ·refine⟨z,clock,es.push ⟨key,z,clock⟩,clock+1,?_,⟨⟨key,z,clock⟩,by simp,rfl⟩,fun x hx hk=>?_,fun x hx=>?_⟩
  ·simp [Instr.mapEntry,run_underlying ht,MapKept.run_getObj_map hb,K.check w false hkey,h1,hz,MapKept.run_setObj_map _ hb,Result.andThen,setBlock]
  ·rw[Array.toList_push] at hx
   rcases mem_append.1 hx with q | q
   ·exact absurd hk (h2 x q)
   ·rw[mem_singleton.1 q]
  ·rw[Array.toList_push] at hx
   rcases mem_append.1 hx with q | q
   ·exact F.keys x q
   ·rw[mem_singleton.1 q];exact⟨kl,hkey⟩
 ·have hj:es[j]?=some e0:=by simpa using h2
  have hm:=mem_of_getElem? h2;have hself:es.modify j (fun x=>{ x with key:=key })=es:=by
   apply Array.ext';rw[Array.toList_modify];apply ext_getElem?;intro i;rw[getElem?_modify];by_cases q:j=i
   ·subst q
    rw[h2];simp [<- h3]
   ·simp [q]
  refine⟨e0.val,e0.born,es,clock,?_,⟨e0,hm,h3⟩,fun x hx hk=>?_,F.keys⟩
  ·simp [Instr.mapEntry,run_underlying ht,MapKept.run_getObj_map hb,K.check w false hkey,h1,hj,h3,K.stays w hkey,hself,MapKept.run_setObj_map _ hb,Result.andThen,setBlock]
  ·rw[entry_eq_of_key (pairwise_map.1 F.stamped.2.2) hx hm (hk.trans h3.symm)]
theorem GG {es:Array MapEntry} {clock:Nat} (K:KeyLaw P k) (ht:P.underlying t=some (.map k e)) (hb:w.heap[b]?=some (.map es clock)) {key v0:Value} {kl:Lit} (hkey:keyOf P k key=some kl) (hex:∃ x∈es.toList,x.key=key) (hall:∀ x∈es.toList,x.key=key->x.val=v0) (hks:∀ x∈es.toList,∃ l,keyOf P k x.key=some l) :
  (Instr.lookup t (.map (some b)) key false).run P w=.ok v0 w:=by
 rcases K.find w hkey es.toList hks with ⟨h1,h2⟩ | ⟨j,e0,h1,h2,h3⟩
 ·obtain⟨x,m,q⟩:=hex
  exact absurd q (h2 x m)
 ·have hv:=hall e0 (mem_of_getElem? h2) h3
  simp [Instr.lookup,run_underlying ht,MapKept.run_getObj_map hb,K.check w _ hkey,h1,hv,Result.andThen]
theorem World.ownsMap.entry (h:w.ownsMap P k (plainElem P e) b n D) (K:KeyLaw P k) (ht:P.underlying t=some (.map k e)) (he:P.underlying e=some (.int q)) (hz:∀ u:World,(zeroValue e).run P u=.ok (.int q 0) u) (hn:n < maxLen)
  {key:Value} {kl:Lit} (hkey:keyOf P k key=some kl) :
  ∃ (c:Int) (st:Nat) (w1:World),(Instr.mapEntry t (.map (some b)) key).run P w=.ok (.tuple #[.int q c,goInt st]) w1/\w.grownBy w1 (some b)/\w1.heap.size=w.heap.size/\D.atKey kl (.lit (.int q 0))=.lit (.int q c)/\(Lit.int q c).wf=true /\
   (∀ w2:World,w2.heap[b]?=w1.heap[b]?->(Instr.lookup t (.map (some b)) key false).run P w2=.ok (.int q c) w2) /\
   ∀ (w2:World) (x:Int),(Lit.int q x).wf=true->w2.heap[b]?=w1.heap[b]?->∃ w3,(Instr.entryStore t (.map (some b)) (goInt st) (.int q x)).run P w2=.ok () w3/\w3.ownsMap P k (plainElem P e) b (n+1) (D.put kl (.lit (.int q x)))/\w2.grownBy w3 (some b)/\w3.heap.size=w2.heap.size:=by
 have KK:=Keyed.of_law K;obtain⟨c,hl,hat,hwc⟩:=h.lookup_int KK ht he (hz w) hkey;have h0:=h;obtain⟨es,clock,hb,F,hs,hD⟩:=h;obtain⟨v0,st,es1,clock1,e1,e2,e3⟩:=entry_then_store K ht hz hb F hkey;have hv0:v0=.int q c:=by
  rcases Maps.fit_look false KK ht (hz w) hb F hkey with ⟨r1,m1,_⟩ | ⟨e0,y,m1,m2,r1,_⟩
  ·rw[r1] at hl
   rcases e2 with ⟨e0,n1,n2,n3⟩ | ⟨n1,n2⟩
   ·exact absurd n2 (m1 e0 n1)
   ·rw[n2]
    simpa using hl
  ·rw[r1] at hl
   rcases e2 with ⟨e0',n1,n2,n3⟩ | ⟨n1,n2⟩
   ·have:e0'=e0:=entry_eq_of_key (pairwise_map.1 F.stamped.2.2) n1 m1 (n2.trans m2.symm)
    rw[n3,this];simpa using hl
   ·exact absurd m2 (n1 e0 m1)
 subst hv0;have hsz:∀ o:Obj,(setBlock w b o).heap.size=w.heap.size:=fun o=>by simp [setBlock]
 refine⟨c,st,_,e1,⟨rfl,rfl,rfl,by rw[hsz];exact Nat.le_refl _,fun i _ hi=>heap_setBlock_other hb _ (fun e=>hi (by rw[e]))⟩,hsz _,hat,hwc,fun w2 h2=>?_,fun w2 x hx h2=>?_⟩
 ·obtain⟨v0',st',es1',clock1',f1,f2,f3,f4⟩:=AH K ht hz hb F hkey
  rw[e1] at f1;simp only[Result.ok.injEq,Value.tuple.injEq] at f1;obtain⟨g1,g2⟩:=f1;have g1:#[Value.int q c,goInt st]=#[v0',goInt st']:=g1;simp only[Array.mk.injEq,List.cons.injEq] at g1;have g3:=congrArg (fun u:World=>u.heap[b]?) g2;simp only[heap_setBlock_same hb] at g3;simp only[Option.some.injEq,Obj.map.injEq] at g3;rw[g3.1] at h2;rw[g1.1];exact GG K ht (h2.trans (heap_setBlock_same hb _)) hkey f2 f3 f4
 have hw2:w2.heap[b]?=some (.map es1 clock1):=h2.trans (heap_setBlock_same hb _);obtain⟨es',clock',r1,r2⟩:=e3 w2 (.int q x) hw2;obtain⟨w',u1,u2,_⟩:=h0.update KK ht hn hkey (plainElem_int he hx);rw[r2] at u1;simp only[Result.ok.injEq,true_and] at u1;subst u1;obtain⟨es2,clock2,f1,f2,f3,f4⟩:=u2;rw[heap_setBlock_same hb] at f1;simp only[Option.some.injEq,Obj.map.injEq] at f1;obtain⟨rfl,rfl⟩:=f1;refine⟨_,r1,⟨es',clock',heap_setBlock_same hw2 _,f2,f3,f4⟩,⟨rfl,rfl,rfl,by simp [setBlock],fun i _ hi=>heap_setBlock_other hw2 _ (fun e=>hi (by rw[e]))⟩,by simp [setBlock]⟩
end
section
variable {H:Type} {P:Program} (w:World) {ops:Array Oper} {rest:List Oper} {o:Oper} {a:Act} {Q:Exit->Act->World->Prop}
theorem World.ownsMap.of_heap {k:TypeId} {R:Value->Option (DataW H × List MemPlace)} {b n:Nat} {D:DataW H} {w w':World} (h:w.ownsMap P k R b n D) (e:w'.heap[b]?=w.heap[b]?):w'.ownsMap P k R b n D:=by
 obtain⟨es,clock,h1,h2,h3,h4⟩:=h;exact⟨es,clock,e.trans h1,h2,h3,h4⟩
theorem World.ownsMap.look_any {k e t:TypeId} {q:IntKind} {b n:Nat} {D:DataW H} {w:World} (h:w.ownsMap P k (plainElem P e) b n D) (K:Keyed P k) (ht:P.underlying t=some (.map k e)) (he:P.underlying e=some (.int q)) (hz:∀ u:World,(zeroValue e).run P u=.ok (.int q 0) u) {key:Value} {kl:Lit} (hkey:keyOf P k key=some kl) :
  ∃ c,D.atKey kl (.lit (.int q 0))=.lit (.int q c)/\(Lit.int q c).wf=true/\∀ W:World,W.heap[b]?=w.heap[b]?->(Instr.lookup t (.map (some b)) key false).run P W=.ok (.int q c) W:=by
 obtain⟨c,_,hat,hwc⟩:=h.lookup_int K ht he (hz w) hkey;refine⟨c,hat,hwc,fun W hW=>?_⟩;obtain⟨c',hl',hat',_⟩:=(h.of_heap hW).lookup_int K ht he (hz W) hkey;rw[hat] at hat';simp only[DataW.lit.injEq,Lit.int.injEq,true_and] at hat';rw[hat'];exact hl'
end
end Go
namespace Go.Av
open Go.Nt Go.RowKit
def tk3 (f:List Tok):List (List AV):=f.map fun t=>[.int .i64 t.1,.str t.2.1,.int .i64 t.2.2]
theorem EG (f:List Tok):(tk3 f).length=f.length:=by simp [tk3]
theorem wZ {f g:List Tok} (h:tk3 f=tk3 g):f=g:=by
 unfold tk3 at h;refine (map_inj_right (fun x y hxy=>?_)).1 h;obtain⟨a,b,c⟩:=x;obtain⟨a',b',c'⟩:=y;simpa using hxy
structure TkAt (w:World) (f:List Tok) (v:Value) (A:Option Addr) (b o c:Nat):Prop where
 v:v=.slice A f.length c
 a:f≠[]->A=some ⟨b,o,none⟩
 c:f.length<=c
 r:∀ (i:Nat) (t:Tok),f[i]?=some t->b < w.heap.size/\∀ W:World,Below w.heap.size w W->W.cell? ⟨b,o+i*3,none⟩=some (.int .i64 t.1)/\W.cell? ⟨b,o+i*3+1,none⟩=some (.string ⟨t.2.1.toArray⟩)/\W.cell? ⟨b,o+i*3+2,none⟩=some (.int .i64 t.2.2)
theorem JY {b:ByteArray} {s:List UInt8} (h:b.data.toList=s):b=⟨s.toArray⟩:=by cases b;subst h;simp
theorem N7 [Gtab] {S0:Nat->Nat->Prop} {w:World} (hlt:∀ b o,S0 b o->b < w.heap.size) {f:List Tok} {v:Value} (h:aD S0 w (.sl .no 3 (tk3 f)) v):∃ A b o c,TkAt w f v A b o c:=by
 obtain⟨A,c,q1,q2,_,_,q3⟩:∃ A c,v=.slice A (tk3 f).length c/\(tk3 f).length<=c/\(Own.no=.full->c=(tk3 f).length)/\Own.no≠.own/\(tk3 f=[]\/∃ b o,A=some ⟨b,o,none⟩/\dK S0 w 3 (tk3 f) b o):=h;rw[EG] at q1 q2;rcases q3 with q3 | ⟨b,o,q3,q4⟩
 ·have hf:f=[]:=by simpa [tk3] using q3
  subst hf;exact⟨A,0,0,c,q1,fun z=>absurd rfl z,q2,fun i t hi=>by simp at hi⟩
 ·refine⟨A,b,o,c,q1,fun _=>q3,q2,fun i t hi=>?_⟩
  obtain⟨_,hr⟩:=q4.get (i:=i) (e:=[.int .i64 t.1,.str t.2.1,.int .i64 t.2.2]) (by simp [tk3,hi]);obtain⟨s0,v0,k0,r0⟩:=hr.get (j:=0) (x:=.int .i64 t.1) rfl;obtain⟨s1,v1,k1,b1,rfl,r1⟩:=hr.get (j:=1) (x:=.str t.2.1) rfl;obtain⟨s2,v2,k2,r2⟩:=hr.get (j:=2) (x:=.int .i64 t.2.2) rfl;have r0:v0=.int .i64 t.1:=r0;have r2:v2=.int .i64 t.2.2:=r2;rw[r0] at k0;rw[r2] at k2;rw[JY r1] at k1;have hc:∀ {W:World},Below w.heap.size w W->∀ j,S0 b j->W.cell? ⟨b,j,none⟩=w.cell? ⟨b,j,none⟩:=fun hW j hj=>hW.cell (p:=⟨b,j,none⟩) (hlt b j hj)
  exact⟨hlt _ _ s0,fun W hW=>⟨(hc hW _ s0).trans k0,(hc hW _ s1).trans k1,(hc hW _ s2).trans k2⟩⟩
theorem FT [Gtab] {P:Program} {f:FuncId} {a b:List Tok} {r:Int} (h:∀ (w:World) (va vb:Value) (A B:Option Addr) (ba oa ca bb ob cb:Nat),TkAt w a va A ba oa ca->TkAt w b vb B bb ob cb->Calls P f #[va,vb] w fun e w'=>e=.returned (.int .i64 r)/\Below w.heap.size w w') :
  gF P f [.sl .no 3 (tk3 a),.sl .no 3 (tk3 b)] [] (.int .i64 r) []:=by
 intro kd β bs S0 O0 w vs hent hargs;obtain⟨_,h3,h4,h5,h6⟩:=hent;obtain⟨l⟩:=vs
 match l,hargs with
 | [va,vb],⟨ha,hb,_⟩ =>
  have hlt:∀ b o,S0 b o->b < w.heap.size:=fun b o hs=>(h3 b o hs).1
  obtain⟨A,ba,oa,ca,qa⟩:=N7 hlt ha;obtain⟨B,bb,ob,cb,qb⟩:=N7 hlt hb;refine (h w va vb A B ba oa ca bb ob cb qa qb).mono ?_
  rintro e w' ⟨rfl,hB⟩
  refine⟨_,fun b=>if b < w.heap.size then kd b else .stab,β,bs,rfl,⟨fun i hi=>absurd hi (by simp),Nat.le_refl _,⟨fun i c hi=>(by simp at hi),fun i hi=>(by simp at hi)⟩,rfl,hB.os,hB.tape,hB.output,hB.size,fun b q _ _=>hB.block b q,fun b o hs=>hB.cell (p:=⟨b,o,none⟩) (hlt b o hs),fun b k hk=>?_,fun b t k hk=>?_,fun i _ hi=>absurd hi (by simp),fun i hi=>(by simp at hi)⟩⟩
  ·obtain⟨q1,_,t,k',q2,q3⟩:=h4 b k hk
   exact⟨t,k',by rw[if_pos q1];exact q2,q3⟩
  ·by_cases q:b < w.heap.size
   ·rw[if_pos q] at hk
    exact .inr (h5 b t k hk q)
   ·exact .inl (by omega)
open Classical in
noncomputable def A8 (fs:FuncId):aL:=fun f args sh=>if f=fs then (if h:sh=[]/\∃ p:List Tok × List Tok,args=[.sl .no 3 (tk3 p.1),.sl .no 3 (tk3 p.2)]/\p.1.length<=5000/\p.2.length<=5000/\(∀ t∈p.1,t.2.1.length<=1000000)/\(∀ t∈p.2,t.2.1.length<=1000000) then some (.int .i64 (2*(iM h.2.choose.1 h.2.choose.2:Int)),[]) else none) else none
theorem vM [Gtab] {P:Program} {fs:FuncId} (hr:vB P fs) (hw:∀ (a b:List Tok),a.length<=5000->b.length<=5000->(∀ t∈a,t.2.1.length<=1000000)->(∀ t∈b,t.2.1.length<=1000000)->∀ (w:World) (va vb:Value) (A B:Option Addr) (ba oa ca bb ob cb:Nat),TkAt w a va A ba oa ca->TkAt w b vb B bb ob cb->Calls P fs #[va,vb] w fun e w'=>e=.returned (.int .i64 (2*(iM a b:Int)))/\Below w.heap.size w w')
  {f:FuncId} {args:List AV} {sh sh':LL} {r:AV} (h:A8 fs f args sh=some (r,sh')):(vB P f/\gF P f args sh r sh')\/D4 P f args sh r sh':=by
 unfold A8 at h
 split at h
 ·rename_i hf
  subst hf
  split at h
  ·rename_i q
   obtain⟨q1,q2,q3,q4,q5⟩:=q.2.choose_spec;simp only[Option.some.injEq,Prod.mk.injEq] at h;obtain⟨rfl,rfl⟩:=h;generalize q.2.choose=m at q1 q2 q3 q4 q5 ⊢;rw[q.1,q1];exact .inl ⟨hr,FT (hw m.1 m.2 q2 q3 q4 q5)⟩
  ·cases h
 ·cases h
theorem EL (fs:FuncId) {a b:List Tok} (h1:a.length<=5000) (h2:b.length<=5000) (h3:∀ t∈a,t.2.1.length<=1000000) (h4:∀ t∈b,t.2.1.length<=1000000):A8 fs fs [.sl .no 3 (tk3 a),.sl .no 3 (tk3 b)] []=some (.int .i64 (2*(iM a b:Int)),[]):=by
 unfold A8;have q:([]:LL)=[]/\∃ p:List Tok × List Tok,[AV.sl .no 3 (tk3 a),AV.sl .no 3 (tk3 b)]=[.sl .no 3 (tk3 p.1),.sl .no 3 (tk3 p.2)]/\p.1.length<=5000/\p.2.length<=5000/\(∀ t∈p.1,t.2.1.length<=1000000)/\(∀ t∈p.2,t.2.1.length<=1000000):=⟨rfl,(a,b),rfl,h1,h2,h3,h4⟩
 rw[if_pos rfl,dif_pos q];have key:∀ m:List Tok × List Tok,[AV.sl .no 3 (tk3 a),AV.sl .no 3 (tk3 b)]=[.sl .no 3 (tk3 m.1),.sl .no 3 (tk3 m.2)]->(a,b)=m:=fun m hm=>by
  simp only[List.cons.injEq,AV.sl.injEq,true_and,and_true] at hm;obtain⟨m1,m2⟩:=m;rw[wZ hm.1,wZ hm.2]
 rw[<- key _ q.2.choose_spec.1]
end Go.Av
namespace Go.Nt
section
variable {κ:Type} [DecidableEq κ]
theorem BU (f:κ->Nat) (p:κ->Bool):∀ l:List κ,sfN f p l<=(l.map f).sum
 | []=>Nat.le_refl _
 | x :: l=>by
  have:=BU f p l
  rw[oY,map_cons,sum_cons]
  split<;>omega
theorem C4 (x:κ):∀ {l:List κ},l.Nodup->(l.map fun k=>if x=k then 1 else 0).sum<=1
 | [],_=>by simp
 | y :: l,h=>by
  rw[nodup_cons] at h;rw[map_cons,sum_cons];by_cases e:x=y
  ·subst e
   rw[if_pos rfl]
   have:(l.map fun k=>if x=k then 1 else 0).sum=0:=by
    have hz:∀ m:List κ,x ∉ m->(m.map fun k=>if x=k then 1 else 0).sum=0:=by
     intro m
     induction m with
     | nil=>intro _;rfl
     | cons z m ih =>
      intro hm;rw[mem_cons,not_or] at hm;rw[map_cons,sum_cons,if_neg hm.1,ih hm.2]
    exact hz l h.1
   omega
  ·rw[if_neg e]
   have:=C4 x h.2
   omega
theorem wH {l:List κ} (hl:l.Nodup):∀ p:List κ,(l.map fun k=>p.count k).sum<=p.length
 | []=>by
  have:∀ m:List κ,(m.map fun k=>List.count k ([]:List κ)).sum=0:=by
   intro m
   induction m with
   | nil=>rfl
   | cons z m ih=>rw[map_cons,sum_cons,ih];simp
  rw[this];exact Nat.zero_le _
 | x :: p=>by
  have h1:=wH hl p;have h2:=C4 x hl;have h3:∀ m:List κ,(m.map fun k=>(x :: p).count k).sum=(m.map fun k=>p.count k).sum+(m.map fun k=>if x=k then 1 else 0).sum:=by
   intro m
   induction m with
   | nil=>rfl
   | cons z m ih =>
    rw[map_cons,sum_cons,ih,map_cons,sum_cons,map_cons,sum_cons,count_cons];by_cases e:x=z
    ·subst e;simp;omega
    ·have:(x == z)=false:=by simpa using e
     rw[this,if_neg e];simp;omega
  rw[h3,length_cons];omega
theorem KN (a b:List κ) (k:κ):(((a.count k:Nat):Int) - ((b.count k:Nat):Int)).natAbs=dfL a b k:=by
 unfold dfL dfN;omega
theorem JX {a b Ks:List κ} (hn:Ks.Nodup) (h:∀ k,k∈Ks↔k∈a\/k∈b):(Ks.map fun k=>(((a.count k:Nat):Int) - ((b.count k:Nat):Int)).natAbs).sum=oR a b:=by
 rw[<- tN a b Ks hn h]
 congr 1
 exact map_congr_left fun k _=>KN a b k
theorem EK (a b:List κ):oR a b<=a.length+b.length:=by
 have hn:=iA (a++b) ([]:List κ) nodup_nil;have h1:=wH hn a;have h2:=wH hn b;have h3:∀ m:List κ,(m.map (dfL a b)).sum<=(m.map fun k=>a.count k).sum+(m.map fun k=>b.count k).sum:=by
  intro m
  induction m with
  | nil=>simp
  | cons z m ih =>
   rw[map_cons,sum_cons,map_cons,sum_cons,map_cons,sum_cons]
   have:dfL a b z<=a.count z+b.count z:=by unfold dfL dfN;omega
   omega
 have:=h3 (lL [] (a++b))
 unfold oR;omega
end
end Go.Nt
namespace Go.Nt
abbrev Bs:=List UInt8
abbrev It:=Int × Bs × Int
theorem gW (p:UInt8->Bool) (h:∀ n:Fin 256,p (UInt8.ofNat n.1)=true) (c:UInt8):p c=true:=by
 have:=h ⟨c.toNat,c.toNat_lt⟩
 simpa using this
def jS (c:UInt8):Bool:=decide (97<=c.toNat) && decide (c.toNat<=122)
def nmB (c:UInt8):Bool:=jS c || (decide (48<=c.toNat) && decide (c.toNat<=57)) || decide (c.toNat=45)
def eF:Bs->Bool
 | []=>false
 | c :: r=>decide (r.length < 24) && jS c && r.all nmB
def aQ (s:Bs):Bs:=s.takeWhile fun c=>c != 32
def okB (c:UInt8):Bool:=decide (32<=c.toNat) && decide (c.toNat<=126) && c != 60 && c != 62 && c != 123 && c != 125
def isC (s:Bs):Bool:=
 decide (s.length<=64) && s.all okB && eF (aQ s) && (decide ((aQ s).length=s.length) || decide ((aQ s).length+1 < s.length)) && !(s.getLast? == some 47)
def aW (x:It):Bool:=decide (x.1=2) || decide (x.1=3) || decide (x.1=4)
def bZ (x y:It):Bool:=aW y && decide (y.2.2=x.2.2) && !(decide (x.1=3) && decide (y.1=2) && (aQ y.2.1 == x.2.1))
def fD (f:List It):Int:=match f.getLast? with
 | some y=>y.1
 | none=>0
def oQ (f:List It) (x:It):Int:=if f.any (bZ x)=true then 7 else 0
def chk (f:List It) (x:It):Int:=
 if x.1=1 then (if x.2.1=[]\/x.2.2≠0\/fD f=1 then 1 else 0)
 else if x.1=5 then (if eF x.2.1=true/\x.2.2=0 then 0 else 1)
 else if x.1=2\/x.1=4 then (if isC x.2.1=true/\1<=x.2.2/\x.2.2<=999 then oQ f x else 1)
 else if x.1=3 then (if eF x.2.1=true/\1<=x.2.2/\x.2.2<=999 then oQ f x else 1)
 else 1
def wid (x:It):Nat:=if x.1=1 then x.2.1.length else 1
def len (f:List It):Nat:=(f.map wid).sum
def dB (f:List It):List It->Int
 | []=>0
 | x :: r=>if chk f x≠0 then chk f x else dB (f++[x]) r
def vld (f:List It):Int:=if 512 < f.length\/1024 < len f then 3 else dB [] f
def dig (n:Nat):UInt8:=UInt8.ofNat (48+n)
def dec (n:Nat):Bs:=if n < 10 then [dig n] else if n < 100 then [dig (n / 10),dig (n % 10)] else [dig (n / 100),dig (n / 10 % 10),dig (n % 10)]
def qN (n:Nat):UInt8:=if n < 10 then UInt8.ofNat (48+n) else UInt8.ofNat (87+n)
def ctl (c:UInt8):Bool:=(decide (c.toNat < 32) && c != 9 && c != 10 && c != 13) || c == 127
def plain (c:UInt8):Bool:=c != 92 && c != 60 && c != 123 && c != 9 && c != 10 && c != 13 && !ctl c
def wrt (c:UInt8):Bs:=
 if c=92\/c=60\/c=123 then [92,c]
 else if c=10 then [92,110]
 else if c=9 then [92,116]
 else if c=13\/ctl c=true then [92,120,qN (c.toNat / 16),qN (c.toNat % 16)]
 else [c]
def elt (x:It):Bs:=
 if x.1=1 then x.2.1.flatMap wrt
 else if x.1=2 then 60 :: (dec x.2.2.toNat++58 :: (x.2.1++[62]))
 else if x.1=3 then 60 :: 47 :: (dec x.2.2.toNat++58 :: (x.2.1++[62]))
 else if x.1=4 then 60 :: (dec x.2.2.toNat++58 :: (x.2.1++[47,62]))
 else 123 :: (x.2.1++[125])
def fmt (f:List It):Bs:=f.flatMap elt
def cut (b:UInt8) (s:Bs):Option (Bs × Bs):=match s with
 | []=>none
 | c :: r=>if c=b then some ([],r) else (cut b r).map fun p=>(c :: p.1,p.2)
def put (f:List It) (x:It):List It:=
 if x.1=1 then (match f.getLast? with
  | some y=>if y.1=1 then f.dropLast++[(1,y.2.1++x.2.1,0)] else f++[x]
  | none=>[x])
 else f++[x]
end Go.Nt
namespace Go.Nt
theorem jD {b:UInt8}:∀ {s:Bs} {a r:Bs},cut b s=some (a,r)↔s=a++b :: r/\b ∉ a
 | [],a,r=>by simp [cut]
 | c :: s,a,r=>by
  simp only[cut];by_cases h:c=b
  ·subst h
   rw[if_pos rfl];constructor
   ·intro h;simp only[Option.some.injEq,Prod.mk.injEq] at h;obtain⟨rfl,rfl⟩:=h;simp
   ·rintro ⟨h1,h2⟩
    cases a with
    | nil=>simp at h1;simp [h1]
    | cons x a=>simp at h1;simp [h1.1] at h2
  ·rw[if_neg h]
   simp only[Option.map_eq_some_iff,Prod.exists,Prod.mk.injEq];constructor
   ·rintro ⟨p,q,h1,rfl,rfl⟩
    obtain⟨h2,h3⟩:=jD.1 h1;exact⟨by rw[h2];rfl,by simp [h3,Ne.symm h]⟩
   ·rintro ⟨h1,h2⟩
    cases a with
    | nil=>simp at h1;exact absurd h1.1 h
    | cons x a =>
     simp at h1 h2;obtain⟨rfl,h1⟩:=h1;exact⟨a,r,jD.2 ⟨h1,h2.2⟩,rfl,rfl⟩
theorem l0 {b:UInt8}:∀ {s:Bs},cut b s=none↔b ∉ s
 | []=>by simp [cut]
 | c :: s=>by
  simp only[cut];by_cases h:c=b
  ·simp [h]
  ·rw[if_neg h,Option.map_eq_none_iff,l0];simp [Ne.symm h]
theorem qY (c:UInt8) (h:plain c=true):wrt c=[c]:=by
 have:=gW (fun c=>!plain c || decide (wrt c=[c])) (by decide) c
 simpa [h] using this
theorem v6 (c:UInt8) (h:plain c=false):∃ w,wrt c=92 :: w:=by
 have:=gW (fun c=>plain c || decide ((wrt c).head?=some 92)) (by decide) c
 simp [h] at this;cases hw:wrt c with
 | nil=>rw[hw] at this;cases this
 | cons a w=>rw[hw] at this;simp at this;exact⟨w,by rw[this]⟩
theorem JN (c:UInt8):wrt c≠[]:=by
 cases h:plain c with
 | true=>rw[qY c h];simp
 | false=>obtain⟨w,hw⟩:=v6 c h;rw[hw];simp
theorem QH (c:UInt8) (h:c=13\/ctl c=true):wrt c=[92,120,qN (c.toNat / 16),qN (c.toNat % 16)]:=by
 have:=gW (fun c=>!(decide (c=13) || ctl c) || decide (wrt c=[92,120,qN (c.toNat / 16),qN (c.toNat % 16)])) (by decide) c
 rcases h with h | h
 ·simpa [h] using this
 ·simpa [h] using this
theorem uO {s:Bs} (h:eF s=true):s≠[]/\s.length<=24/\∀ c∈s,nmB c=true:=by
 cases s with
 | nil=>cases h
 | cons a s =>
  simp only[eF,Bool.and_eq_true,decide_eq_true_eq,all_eq_true] at h;refine⟨by simp,by simp;omega,fun c hc=>?_⟩;rcases mem_cons.1 hc with rfl | hc
  ·unfold nmB;rw[h.1.2];rfl
  ·exact h.2 c hc
def wfX (x:It):Prop:=(x.1=1/\(∃ c,x.2.1=[c])/\x.2.2=0)\/(x.1=5/\eF x.2.1=true/\x.2.2=0)\/((x.1=2\/x.1=4)/\isC x.2.1=true/\1<=x.2.2/\x.2.2<=999)\/(x.1=3/\eF x.2.1=true/\1<=x.2.2/\x.2.2<=999)
end Go.Nt
namespace Go.Nt
theorem pX:∀ (A B C:List It),dB A (B++C)=if dB A B≠0 then dB A B else dB (A++B) C
 | A,[],C=>by simp [dB]
 | A,x :: B,C=>by
  have e1:dB A (x :: B++C)=if chk A x≠0 then chk A x else dB (A++[x]) (B++C):=rfl
  have e2:dB A (x :: B)=if chk A x≠0 then chk A x else dB (A++[x]) B:=rfl
  by_cases h:chk A x≠0
  ·rw[if_pos h] at e1 e2
   rw[e1,e2,if_pos h]
  ·rw[if_neg h] at e1 e2
   rw[e1,e2,pX (A++[x]) B C,append_assoc];rfl
theorem cU (f:List It) (x:It):dB [] (f++[x])=0↔dB [] f=0/\chk f x=0:=by
 rw[pX];by_cases h:dB [] f=0
 ·simp only[h,ne_eq,not_true_eq_false,if_false,nil_append,dB,true_and]
  by_cases h2:chk f x=0
  ·simp [h2]
  ·simp [h2]
 ·simp [h]
theorem iB (f g:List It):len (f++g)=len f+len g:=by simp [len]
theorem jM (x:It):len [x]=wid x:=by simp [len]
theorem dH (f:List It) (x:It):fD (f++[x])=x.1:=by simp [fD]
theorem HE (f g:List It):fmt (f++g)=fmt f++fmt g:=by simp [fmt]
theorem G9 (x:It):fmt [x]=elt x:=by simp [fmt]
theorem fU {f:List It} {x:It} (h:x.1=1):chk f x=0↔x.2.1≠[]/\x.2.2=0/\fD f≠1:=by
 unfold chk;rw[if_pos h];constructor
 ·intro h1
  split at h1
  ·cases h1
  ·rename_i hc
   refine⟨fun q=>hc (.inl q),Classical.byContradiction fun q=>hc (.inr (.inl q)),fun q=>hc (.inr (.inr q))⟩
 ·rintro ⟨a,b,c⟩
  rw[if_neg]
  rintro (q | q | q)
  ·exact a q
  ·exact q b
  ·exact c q
def VL (f:List It):Prop:=dB [] f=0
theorem d5 (f:List It):f=[]\/∃ g y,f=g++[y]:=by
 rcases eq_nil_or_concat f with h | ⟨g,y,h⟩
 ·exact .inl h
 ·exact .inr ⟨g,y,by simpa using h⟩
theorem iY {f:List It} {x:It} (hx:x.1=1):(fD f≠1/\put f x=f++[x])\/∃ g y,f=g++[y]/\y.1=1/\put f x=g++[(1,y.2.1++x.2.1,0)]:=by
 rcases d5 f with rfl | ⟨g,y,rfl⟩
 ·left;simp [put,hx,fD]
 ·by_cases hy:y.1=1
  ·right;exact⟨g,y,rfl,hy,by simp [put,hx,hy]⟩
  ·left;simp [put,hx,hy,fD]
theorem fE (f:List It):vld f=0↔VL f/\f.length<=512/\len f<=1024:=by
 unfold vld VL;constructor
 ·intro h
  split at h
  ·cases h
  ·rename_i hc
   exact⟨h,by omega,by omega⟩
 ·rintro ⟨h1,h2,h3⟩
  rw[if_neg (by omega),h1]
theorem L1 {f:List It} {x:It} (h:chk f x=0) (hx:x.1≠1):wfX x:=by
 unfold chk at h;rw[if_neg hx] at h
 split at h
 ·rename_i h5
  split at h
  ·rename_i hc;exact .inr (.inl ⟨h5,hc⟩)
  ·cases h
 split at h
 ·rename_i h5
  split at h
  ·rename_i hc;exact .inr (.inr (.inl ⟨h5,hc⟩))
  ·cases h
 split at h
 ·rename_i h5
  split at h
  ·rename_i hc;exact .inr (.inr (.inr ⟨h5,hc⟩))
  ·cases h
 ·cases h
end Go.Nt
namespace Go.Nt
def pn (f:List It) (x:It):List It:=if x.1=1 then (if x.2.1=[] then f else put f (1,x.2.1,0)) else f++[x]
def nrm (f:List It):List It:=f.foldl pn []
theorem xO {f:List It} {x:It} (h:chk f x=0):pn f x=f++[x]:=by
 unfold pn;by_cases hx:x.1=1
 ·obtain⟨h1,h2,h3⟩:=(fU hx).1 h
  rw[if_pos hx,if_neg h1];obtain⟨k,s,i⟩:=x;simp only[] at hx h2;subst hx h2;rcases iY (f:=f) (x:=(1,s,0)) rfl with ⟨_,h⟩ | ⟨g,y,rfl,hy,_⟩
  ·exact h
  ·rw[dH] at h3;exact absurd hy h3
 ·rw[if_neg hx]
theorem s4:∀ (B A:List It),dB A B=0->B.foldl pn A=A++B
 | [],A,_=>by simp
 | x :: B,A,h=>by
  simp only[dB] at h;have h0:chk A x=0:=by
   by_cases h1:chk A x=0
   ·exact h1
   ·rw[if_pos h1] at h;exact absurd h h1
  rw[if_neg (by simp [h0])] at h;rw[foldl_cons,xO h0,s4 B _ h];simp
theorem uC {f:List It} (h:VL f) (x:It):nrm (f++[x])=pn f x:=by
 unfold nrm;rw[foldl_append,s4 f [] h];rfl
theorem KM {f:List It} (h:VL f):nrm f=f:=s4 f [] h
def tg (f:List It):List It:=f.filter aW
theorem eG (f g:List It):tg (f++g)=tg f++tg g:=by simp [tg]
theorem qR {x:It} (h:aW x=false):tg [x]=[]:=by simp [tg,h]
theorem gH {x:It} (h:aW x=true):tg [x]=[x]:=by simp [tg,h]
theorem kX {x:It} (h:x.1=1):aW x=false:=by simp [aW,h]
theorem kC {f:List It} {x:It} (h:x.1=1):tg (pn f x)=tg f:=by
 unfold pn;rw[if_pos h];split
 ·rfl
 ·rcases iY (f:=f) (x:=(1,x.2.1,0)) rfl with ⟨_,h⟩ | ⟨g,y,rfl,hy,h⟩
  ·rw[h,eG,qR (kX rfl),append_nil]
  ·rw[h,eG,eG,qR (kX rfl),qR (kX hy)]
theorem qI {f:List It} {x:It} (hf:VL f) (h:x.1=1):VL (pn f x):=by
 unfold pn;rw[if_pos h];split
 ·exact hf
 ·rename_i hs
  rcases iY (f:=f) (x:=(1,x.2.1,0)) rfl with ⟨h1,h2⟩ | ⟨g,y,rfl,hy,h2⟩
  ·rw[h2]
   exact (cU f _).2 ⟨hf,(fU rfl).2 ⟨hs,rfl,h1⟩⟩
  ·rw[h2]
   obtain⟨a1,a2⟩:=(cU g y).1 hf;obtain⟨b1,b2,b3⟩:=(fU hy).1 a2;exact (cU g _).2 ⟨a1,(fU rfl).2 ⟨by simp [b1],rfl,b3⟩⟩
theorem K1 (f:List It) (x:It):len (pn f x)<=len f+wid x/\(pn f x).length<=f.length+1:=by
 unfold pn;by_cases h:x.1=1
 ·rw[if_pos h]
  split
  ·exact⟨by omega,by omega⟩
  ·rcases iY (f:=f) (x:=(1,x.2.1,0)) rfl with ⟨_,h2⟩ | ⟨g,y,rfl,hy,h2⟩
   ·rw[h2,iB,jM]
    simp [wid,h]
   ·rw[h2,iB,iB,jM,jM]
    simp only[wid,hy,h,if_true,length_append,length_cons,length_nil];omega
 ·rw[if_neg h,iB,jM]
  simp
theorem tM {f:List It} {x:It}:oQ f x=0↔∀ z∈tg f,z.2.2=x.2.2->x.1=3/\z.1=2/\aQ z.2.1=x.2.1:=by
 unfold oQ;constructor
 ·intro h z hz hi
  obtain⟨h1,h2⟩:=mem_filter.1 hz
  have:f.any (bZ x)≠true:=by
   intro q;rw[if_pos q] at h;cases h
  have hc:bZ x z≠true:=fun q=>this (any_eq_true.2 ⟨z,h1,q⟩)
  unfold bZ at hc;simp only[h2,hi,decide_true,Bool.and_self,Bool.true_and,Bool.not_eq_true',ne_eq,Bool.not_eq_false,Bool.and_eq_true,decide_eq_true_eq,beq_iff_eq] at hc;exact⟨hc.1.1,hc.1.2,hc.2⟩
 ·intro h
  rw[if_neg];intro q;obtain⟨z,h1,h2⟩:=any_eq_true.1 q;unfold bZ at h2;simp only[Bool.and_eq_true,decide_eq_true_eq,Bool.not_eq_true'] at h2;obtain⟨⟨a1,a2⟩,a3⟩:=h2;obtain⟨b1,b2,b3⟩:=h z (mem_filter.2 ⟨h1,a1⟩) a2;rw[b1,b2,b3] at a3;simp at a3
structure FV (f op:List It) (id:Int):Prop where
 vl:VL f
 i0:0<=id
 ids:∀ z∈tg f,z.2.2<=id
 nd:(op.map fun t=>t.2.2).Nodup
 opn:∀ t∈op,t.1=2/\isC t.2.1=true/\1<=t.2.2/\t.2.2<=id/\∀ z∈tg f,z.2.2=t.2.2->z=t
theorem LJ:FV [] [] 0:=⟨rfl,by omega,by simp [tg],by simp,by simp⟩
theorem G2 {f op:List It} {id:Int} (h:FV f op id) {x:It} (hx:x.1=1):FV (pn f x) op id:=
 ⟨qI h.vl hx,h.i0,by rw[kC hx];exact h.ids,h.nd,by rw[kC hx];exact h.opn⟩
theorem G3 {f op:List It} {id:Int} (h:FV f op id) {s:Bs} (hs:eF s=true):FV (pn f (5,s,0)) op id:=by
 have e:pn f (5,s,0)=f++[(5,s,0)]:=rfl;have et:tg (f++[((5:Int),s,(0:Int))])=tg f:=by rw[eG,qR (by rfl),append_nil]
 rw[e];exact⟨(cU f _).2 ⟨h.vl,by simp [chk,hs]⟩,h.i0,by rw[et];exact h.ids,h.nd,by rw[et];exact h.opn⟩
theorem C8 {f op:List It} {id:Int} (h:FV f op id) {k:Int} {s:Bs} (hk:((k=2\/k=4)/\isC s=true)\/(k=3/\eF s=true)) (hi:id < 999):chk f (k,s,id+1)=0:=by
 have ht:oQ f (k,s,id+1)=0:=tM.2 fun z hz he=>by
  have:=h.ids z hz
  simp only[] at he;omega
 have h0:=h.i0;rcases hk with ⟨rfl | rfl,hc⟩ | ⟨rfl,hc⟩
 ·simp only[chk]
  rw[if_neg (by decide),if_neg (by decide),if_pos (.inl trivial),if_pos ⟨hc,by omega,by omega⟩,ht]
 ·simp only[chk]
  rw[if_neg (by decide),if_neg (by decide),if_pos (.inr trivial),if_pos ⟨hc,by omega,by omega⟩,ht]
 ·simp only[chk]
  rw[if_neg (by decide),if_neg (by decide),if_neg (by decide),if_pos trivial,if_pos ⟨hc,by omega,by omega⟩,ht]
theorem C7 {f op:List It} {id:Int} (h:FV f op id) {k:Int} {s:Bs} (hk:(k=4/\isC s=true)\/(k=3/\eF s=true)) (hi:id < 999):FV (pn f (k,s,id+1)) op (id+1):=by
 have hc:=C8 h (k:=k) (s:=s) (by rcases hk with ⟨a,b⟩ | ⟨a,b⟩;exact .inl ⟨.inr a,b⟩;exact .inr ⟨a,b⟩) hi;have hty:aW (k,s,id+1)=true:=by rcases hk with ⟨rfl,_⟩ | ⟨rfl,_⟩<;>rfl
 rw[xO hc];refine⟨(cU f _).2 ⟨h.vl,hc⟩,by have:=h.i0;omega,?_,h.nd,?_⟩
 ·intro z hz
  rw[eG,gH hty] at hz;rcases mem_append.1 hz with q | q
  ·have:=h.ids z q;omega
  ·simp only[mem_singleton] at q;subst q;simp
 ·intro t ht
  obtain⟨a1,a2,a3,a4,a5⟩:=h.opn t ht;refine⟨a1,a2,a3,by omega,fun z hz he=>?_⟩;rw[eG,gH hty] at hz;rcases mem_append.1 hz with q | q
  ·exact a5 z q he
  ·simp only[mem_singleton] at q;subst q;simp only[] at he;omega
theorem G4 {f op:List It} {id:Int} (h:FV f op id) {s:Bs} (hk:isC s=true) (hi:id < 999):FV (pn f (2,s,id+1)) (op++[(2,s,id+1)]) (id+1):=by
 have hc:=C8 h (k:=2) (s:=s) (.inl ⟨.inl rfl,hk⟩) hi;have hty:aW ((2:Int),s,id+1)=true:=rfl;have h0:=h.i0;rw[xO hc];refine⟨(cU f _).2 ⟨h.vl,hc⟩,by omega,?_,?_,?_⟩
 ·intro z hz
  rw[eG,gH hty] at hz;rcases mem_append.1 hz with q | q
  ·have:=h.ids z q;omega
  ·simp only[mem_singleton] at q;subst q;simp
 ·rw[map_append,nodup_append]
  refine⟨h.nd,by simp,fun a ha b hb=>?_⟩;obtain⟨t,ht,rfl⟩:=mem_map.1 ha;obtain⟨_,_,_,a4,_⟩:=h.opn t ht;simp only[map_cons,map_nil,mem_singleton] at hb;omega
 ·intro t ht
  rcases mem_append.1 ht with q | q
  ·obtain⟨a1,a2,a3,a4,a5⟩:=h.opn t q
   refine⟨a1,a2,a3,by omega,fun z hz he=>?_⟩;rw[eG,gH hty] at hz;rcases mem_append.1 hz with q | q
   ·exact a5 z q he
   ·simp only[mem_singleton] at q;subst q;simp only[] at he;omega
  ·simp only[mem_singleton] at q
   subst q;refine⟨rfl,hk,by simp only[];omega,by simp only[];omega,fun z hz he=>?_⟩;rw[eG,gH hty] at hz;rcases mem_append.1 hz with q | q
   ·have:=h.ids z q;simp only[] at he;omega
   ·simpa using q
theorem C1 {s:Bs} (h:isC s=true):eF (aQ s)=true:=by
 unfold isC at h;simp only[Bool.and_eq_true] at h;exact h.1.1.2
theorem C9 {f op:List It} {id:Int} (h:FV f op id) (hi:id<=999) {a b:List It} {t:It} (he:op=a++t :: b):FV (pn f (3,aQ t.2.1,t.2.2)) (a++b) id:=by
 obtain⟨t1,t2,t3,t4,t5⟩:=h.opn t (by rw[he];simp);have hty:aW ((3:Int),aQ t.2.1,t.2.2)=true:=rfl;have ht:oQ f (3,aQ t.2.1,t.2.2)=0:=tM.2 fun z hz hzi=>by
  have:=t5 z hz hzi
  subst this;exact⟨rfl,t1,rfl⟩
 have hc:chk f (3,aQ t.2.1,t.2.2)=0:=by
  simp only[chk];rw[if_neg (by decide),if_neg (by decide),if_neg (by decide),if_pos trivial,if_pos ⟨C1 t2,t3,by omega⟩,ht]
 rw[xO hc];have hnd:=h.nd;rw[he,map_append,map_cons] at hnd;have hne:∀ s∈a++b,s.2.2≠t.2.2:=by
  intro s hs e;rw[nodup_append] at hnd;obtain⟨n1,n2,n3⟩:=hnd;rcases mem_append.1 hs with q | q
  ·exact n3 _ (mem_map_of_mem q) _ (by simp) e
  ·exact (nodup_cons.1 n2).1 (by rw[<- e];exact mem_map_of_mem q)
 refine⟨(cU f _).2 ⟨h.vl,hc⟩,h.i0,?_,?_,?_⟩
 ·intro z hz
  rw[eG,gH hty] at hz;rcases mem_append.1 hz with q | q
  ·exact h.ids z q
  ·simp only[mem_singleton] at q;subst q;exact t4
 ·rw[map_append]
  rw[nodup_append] at hnd ⊢;exact⟨hnd.1,(nodup_cons.1 hnd.2.1).2,fun x hx y hy=>hnd.2.2 x hx y (by simp [hy])⟩
 ·intro s hs
  obtain⟨a1,a2,a3,a4,a5⟩:=h.opn s (by rw[he];rcases mem_append.1 hs with q | q<;>simp [q]);refine⟨a1,a2,a3,a4,fun z hz hzi=>?_⟩;rw[eG,gH hty] at hz;rcases mem_append.1 hz with q | q
  ·exact a5 z q hzi
  ·simp only[mem_singleton] at q
   subst q;exact absurd hzi.symm (hne s hs)
end Go.Nt
namespace Go.Nt
def wfB (f:List It) (x:It):Bool:=
 if x.1=1 then !(decide (x.2.1=[]) || decide (x.2.2≠0) || decide (fD f=1))
 else if x.1=5 then eF x.2.1 && decide (x.2.2=0)
 else if x.1=2\/x.1=4 then isC x.2.1 && (decide (1<=x.2.2) && decide (x.2.2<=999))
 else if x.1=3 then eF x.2.1 && (decide (1<=x.2.2) && decide (x.2.2<=999))
 else false
def i9 (f:List It) (x:It):Bool:=!(f.any (bZ x))
theorem l5 (f:List It) (x:It):chk f x=if wfB f x=true then (if aW x=true then (if i9 f x=true then 0 else 7) else 0) else 1:=by
 obtain⟨k,s,i⟩:=x;unfold chk wfB i9 oQ;simp only[];by_cases h1:k=1
 ·subst h1
  simp only[↓reduceIte];have e:aW ((1:Int),s,i)=false:=rfl;rw[e];by_cases a:s=[]<;>by_cases b:i=0<;>by_cases c:fD f=1<;>simp [a,b,c]
 rw[if_neg h1,if_neg h1];by_cases h5:k=5
 ·subst h5
  simp only[↓reduceIte];have e:aW ((5:Int),s,i)=false:=rfl;rw[e]
  cases eF s<;>by_cases b:i=0<;>simp [b]
 rw[if_neg h5,if_neg h5];by_cases h2:k=2\/k=4
 ·rw[if_pos h2,if_pos h2]
  have e:aW (k,s,i)=true:=by rcases h2 with rfl | rfl<;>rfl
  rw[e]
  cases isC s<;>by_cases b:1<=i<;>by_cases c:i<=999<;>cases f.any (bZ (k,s,i))<;>simp [b,c]
 rw[if_neg h2,if_neg h2];by_cases h3:k=3
 ·subst h3
  simp only[↓reduceIte];have e:aW ((3:Int),s,i)=true:=rfl;rw[e]
  cases eF s<;>by_cases b:1<=i<;>by_cases c:i<=999<;>cases f.any (bZ ((3:Int),s,i))<;>simp [b,c]
 ·rw[if_neg h3,if_neg h3];rfl
def fin (f:List It) (t:Bs):List It:=if t=[] then f else f++[(1,t,0)]
end Go.Nt
namespace Go.Nt
end Go.Nt
namespace Go.Nt
def fA (l:List Int) (x:It):List Int:=if aW x=true/\x.2.2 ∉ l then l++[x.2.2] else l
def cL (f:List It):List Int:=f.foldl fA []
def lkz:List Int->List Int->Int->Option Int
 | a :: as,b :: bs,i=>if a=i then some b else lkz as bs i
 | _,_,_=>none
def iO (fr to1:List Int) (x:It):Option It:=if aW x=true then (lkz fr to1 x.2.2).map fun n=>(x.1,x.2.1,n) else some x
def fO (fr to1:List Int) (f:List It):List It:=f.filterMap (iO fr to1)
def fL (n:Nat):List Int:=(List.range n).map fun (i:Nat)=>(i:Int)+1
def rnm (f:List It):List It:=fO (cL f) (fL (cL f).length) f
theorem kV (n:Nat):(fL n).length=n:=by simp [fL]
theorem JO (n:Nat):fL (n+1)=fL n++[(n:Int)+1]:=by simp [fL,range_succ]
theorem D1 (l:List Int) (x:It) (i:Int) (h:i∈l):i∈fA l x:=by
 unfold fA;split
 ·simp [h]
 ·exact h
theorem uU:∀ (f:List It) (l:List Int) (i:Int),i∈l->i∈f.foldl fA l
 | [],l,i,h=>h
 | x :: f,l,i,h=>uU f _ i (D1 l x i h)
theorem uT:∀ (f:List It) (l:List Int) (x:It),x∈f->aW x=true->x.2.2∈f.foldl fA l
 | y :: f,l,x,h,ht=>by
  rw[foldl_cons];rcases mem_cons.1 h with rfl | h
  ·refine uU f _ _ ?_
   unfold fA;by_cases q:x.2.2∈l
   ·rw[if_neg (fun z=>z.2 q)];exact q
   ·rw[if_pos ⟨ht,q⟩];simp
  ·exact uT f _ x h ht
theorem eV {f:List It} {x:It} (h:x∈f) (ht:aW x=true):x.2.2∈cL f:=uT f [] x h ht
theorem uV:∀ (f:List It) (l:List Int),(f.foldl fA l).length<=l.length+f.length
 | [],l=>by simp
 | x :: f,l=>by
  have:=uV f (fA l x)
  have h2:(fA l x).length<=l.length+1:=by unfold fA;split<;>simp
  rw[foldl_cons,length_cons];omega
theorem pB (f:List It):(cL f).length<=f.length:=by have:=uV f [];simpa [cL] using this
theorem kH:∀ (l to1:List Int) (i v:Int),lkz l to1 i=some v->∃ j:Nat,l[j]?=some i/\to1[j]?=some v
 | [],_,i,v,h=>by simp [lkz] at h
 | a :: as,[],i,v,h=>by simp [lkz] at h
 | a :: as,b :: bs,i,v,h=>by
  simp only[lkz] at h
  split at h
  ·rename_i e;cases h;exact⟨0,by simp [e],rfl⟩
  ·obtain⟨j,h1,h2⟩:=kH as bs i v h
   exact⟨j+1,by simpa using h1,by simpa using h2⟩
theorem pH:∀ (l to1:List Int) (i:Int),l.length<=to1.length->i∈l->∃ v,lkz l to1 i=some v
 | [],_,i,_,h=>by cases h
 | a :: as,[],i,h,_=>by simp at h
 | a :: as,b :: bs,i,h,hm=>by
  simp only[lkz];by_cases e:a=i
  ·exact⟨b,by rw[if_pos e]⟩
  ·rw[if_neg e]
   refine pH as bs i (by simpa using h) ?_;rcases mem_cons.1 hm with q | q
   ·exact absurd q.symm e
   ·exact q
theorem r9 {n j:Nat} {v:Int} (h:(fL n)[j]?=some v):v=(j:Int)+1/\j < n:=by
 unfold fL at h;rw[getElem?_map,Option.map_eq_some_iff] at h;obtain⟨a,h1,h2⟩:=h;rw[List.getElem?_eq_some_iff] at h1;obtain⟨h3,h4⟩:=h1;simp at h3 h4;omega
def sig (f:List It) (i:Int):Int:=(lkz (cL f) (fL (cL f).length) i).getD 0
theorem k7 {f:List It} {i:Int} (h:i∈cL f):lkz (cL f) (fL (cL f).length) i=some (sig f i):=by
 obtain⟨v,hv⟩:=pH (cL f) (fL (cL f).length) i (by rw[kV];exact Nat.le_refl _) h;rw[hv];unfold sig;rw[hv];rfl
theorem J4 {f:List It} {i:Int} (h:i∈cL f):1<=sig f i/\sig f i<=((cL f).length:Int):=by
 obtain⟨j,h1,h2⟩:=kH _ _ _ _ (k7 h);obtain⟨h3,h4⟩:=r9 h2;omega
theorem FO {f:List It} {i k:Int} (hi:i∈cL f) (hk:k∈cL f) (h:sig f i=sig f k):i=k:=by
 obtain⟨j,h1,h2⟩:=kH _ _ _ _ (k7 hi);obtain⟨j',h1',h2'⟩:=kH _ _ _ _ (k7 hk);obtain⟨h3,_⟩:=r9 h2;obtain⟨h3',_⟩:=r9 h2'
 have:j=j':=by omega
 subst this;rw[h1] at h1';cases h1';rfl
def phi (f:List It) (x:It):It:=if aW x=true then (x.1,x.2.1,sig f x.2.2) else x
theorem xK (f:List It):rnm f=f.map (phi f):=by
 have key:∀ g:List It,(∀ x∈g,x∈f)->g.filterMap (iO (cL f) (fL (cL f).length))=g.map (phi f):=by
  intro g
  induction g with
  | nil=>intro _;rfl
  | cons x g ih =>
   intro h;rw[filterMap_cons,map_cons,<- ih (fun y hy=>h y (by simp [hy]))];have e:iO (cL f) (fL (cL f).length) x=some (phi f x):=by
    unfold iO phi;by_cases ht:aW x=true
    ·rw[if_pos ht,if_pos ht,k7 (eV (h x (by simp)) ht)];rfl
    ·rw[if_neg ht,if_neg ht]
   rw[e]
 exact key f (fun x hx=>hx)
theorem jY (f:List It) (x:It):(phi f x).1=x.1/\(phi f x).2.1=x.2.1:=by unfold phi;split<;>simp
theorem xP (f:List It) (x:It):aW (phi f x)=aW x:=by unfold aW;rw[(jY f x).1]
theorem GA (f:List It) (x:It):wid (phi f x)=wid x:=by unfold wid;rw[(jY f x).1,(jY f x).2]
theorem z7 (f A:List It):fD (A.map (phi f))=fD A:=by
 rcases d5 A with rfl | ⟨B,y,rfl⟩
 ·rfl
 ·rw[map_append,map_singleton,dH,dH,(jY f y).1]
theorem z8 {f:List It} {x y:It} (hx:x∈f) (hy:y∈f) (ht:aW x=true):bZ (phi f x) (phi f y)=bZ x y:=by
 unfold bZ;rw[xP,(jY f x).1,(jY f x).2,(jY f y).1,(jY f y).2];cases hty:aW y with
 | false=>rfl
 | true =>
  have e:decide ((phi f y).2.2=(phi f x).2.2)=decide (y.2.2=x.2.2):=by
   unfold phi;rw[if_pos hty,if_pos ht,decide_eq_decide];exact⟨fun q=>FO (eV hy hty) (eV hx ht) q,fun q=>by simp only[];rw[q]⟩
  rw[e]
theorem GB {f A:List It} {x:It} (hn:(cL f).length<=999) (hA:∀ y∈A,y∈f) (hx:x∈f) (h:chk A x=0):chk (A.map (phi f)) (phi f x)=0:=by
 rw[l5] at h ⊢;have hw:wfB A x=true:=by
  cases q:wfB A x with
  | true=>rfl
  | false=>rw[q] at h;simp at h
 rw[hw] at h;have hw2:wfB (A.map (phi f)) (phi f x)=true:=by
  by_cases ht:aW x=true
  ·have hb:=J4 (eV hx ht)
   have h1:¬ x.1=1:=fun q=>by rw[kX q] at ht;cases ht
   have h5:¬ x.1=5:=fun q=>by unfold aW at ht;rw[q] at ht;simp at ht
   unfold wfB at hw ⊢;rw[(jY f x).1,(jY f x).2];rw[if_neg h1,if_neg h5] at hw ⊢;have e:(phi f x).2.2=sig f x.2.2:=by unfold phi;rw[if_pos ht]
   rw[e]
   split at hw
   ·rename_i q
    rw[if_pos q];simp only[Bool.and_eq_true,decide_eq_true_eq] at hw ⊢;exact⟨hw.1,by omega,by omega⟩
   ·rename_i q
    rw[if_neg q]
    split at hw
    ·rename_i q3
     rw[if_pos q3];simp only[Bool.and_eq_true,decide_eq_true_eq] at hw ⊢;exact⟨hw.1,by omega,by omega⟩
    ·cases hw
  ·have e:phi f x=x:=by unfold phi;rw[if_neg ht]
   rw[e];unfold wfB at hw ⊢;rw[z7];exact hw
 rw[hw2,xP];simp only[if_true] at h ⊢;cases ht:aW x with
 | false=>rfl
 | true =>
  rw[ht] at h;simp only[if_true] at h ⊢;have e:i9 (A.map (phi f)) (phi f x)=i9 A x:=by
   unfold i9
   congr 1
   rw[any_map]
   have:∀ B:List It,(∀ y∈B,y∈f)->B.any (bZ (phi f x) ∘ phi f)=B.any (bZ x):=by
    intro B
    induction B with
    | nil=>intro _;rfl
    | cons y B ih =>
     intro hB;rw[any_cons,any_cons,ih (fun z hz=>hB z (by simp [hz]))];show (bZ (phi f x) (phi f y) || _)=_;rw[z8 hx (hB y (by simp)) ht]
   exact this A hA
  rw[e];exact h
theorem t7 {f:List It} (hn:(cL f).length<=999):∀ (B A:List It),(∀ y∈A,y∈f)->(∀ y∈B,y∈f)->dB A B=0->dB (A.map (phi f)) (B.map (phi f))=0
 | [],A,_,_,_=>rfl
 | x :: B,A,hA,hB,h=>by
  simp only[dB] at h;have h0:chk A x=0:=by
   by_cases q:chk A x=0
   ·exact q
   ·rw[if_pos q] at h;exact absurd h q
  rw[if_neg (by simp [h0])] at h;have h1:=GB hn hA (hB x (by simp)) h0
  have ih:=t7 hn B (A++[x]) (fun y hy=>by
   rcases mem_append.1 hy with q | q
   ·exact hA y q
   ·simp only[mem_singleton] at q;subst q;exact hB y (by simp)) (fun y hy=>hB y (by simp [hy])) h
  rw[map_append,map_singleton] at ih;rw[map_cons];simp only[dB];rw[if_neg (by simp [h1])];exact ih
theorem FU (f:List It):(rnm f).length=f.length/\len (rnm f)=len f:=by
 rw[xK];refine⟨by simp,?_⟩;unfold len;rw[map_map]
 congr 1
 refine map_congr_left fun x _=>?_
 exact GA f x
theorem xJ {f:List It} (h:vld f=0):vld (rnm f)=0:=by
 obtain⟨h1,h2,h3⟩:=(fE f).1 h;obtain⟨l1,l2⟩:=FU f;refine (fE _).2 ⟨?_,by omega,by omega⟩
 have:=pB f
 have:=t7 (f:=f) (by omega) f [] (by simp) (fun y hy=>hy) h1
 unfold VL;rw[xK];exact this
def nR (f:List It):Bs:=if vld f=0 then fmt (rnm f) else []
end Go.Nt
