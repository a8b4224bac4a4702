/- Orders of byte strings, of numbers, and one behind the other. Entries of a memory as plain data: validity, keys, the order. Memories as plain data: sorted lists of entries, lookups, putting, deleting, uniting. A target of a source: the same tags in the same order, other texts. Entries that are made are valid. -/
import Derived.Test.YtigalfbihapdnaaGreatDoorG7XA
import GoSem.Op.String
open List
set_option linter.unusedSimpArgs false
set_option linter.unusedVariables false
set_option linter.unusedSectionVars false
set_option maxRecDepth 100000
set_option maxHeartbeats 16000000
namespace Go.Nt
abbrev ltB (a b:Bs):Bool:=Op.bytesLess a b
theorem ltB_nil (a:Bs):ltB a []=false:=by cases a<;>rfl
theorem ltB_cc (a b:UInt8) (x y:Bs):ltB (a :: x) (b :: y)=(decide (a < b) || (a == b && ltB x y)):=rfl
theorem ltB_irr:∀ a:Bs,ltB a a=false
 | []=>rfl
 | a :: x=>by
  rw[ltB_cc,ltB_irr x,Bool.and_false,Bool.or_false,decide_eq_false_iff_not];exact UInt8.lt_irrefl a
theorem ltB_tri:∀ a b:Bs,ltB a b=false->a≠b->ltB b a=true
 | [],[],_,h=>absurd rfl h
 | [],b :: y,h,_=>by cases h
 | a :: x,[],_,_=>rfl
 | a :: x,b :: y,h,hne=>by
  rw[ltB_cc,Bool.or_eq_false_iff,decide_eq_false_iff_not] at h;rw[ltB_cc,Bool.or_eq_true,decide_eq_true_iff];by_cases e:a=b
  ·subst e
   refine .inr ?_
   have h2:=h.2;simp only[beq_self_eq_true,Bool.true_and] at h2 ⊢;exact ltB_tri x y h2 (fun q=>hne (by rw[q]))
  ·refine .inl ?_
   have:=UInt8.not_lt.1 h.1
   exact UInt8.lt_of_le_of_ne this (fun q=>e q.symm)
theorem ltB_tr:∀ a b c:Bs,ltB a b=true->ltB b c=true->ltB a c=true
 | _,[],c,h,_=>by rw[ltB_nil] at h;cases h
 | _,_ :: _,[],_,h=>by rw[ltB_nil] at h;cases h
 | [],b :: y,c :: z,_,_=>rfl
 | a :: x,b :: y,c :: z,h1,h2=>by
  rw[ltB_cc,Bool.or_eq_true,decide_eq_true_iff,Bool.and_eq_true,beq_iff_eq] at h1 h2 ⊢;rcases h1 with h1 | ⟨rfl,h1⟩
  ·rcases h2 with h2 | ⟨rfl,h2⟩
   ·exact .inl (UInt8.lt_trans h1 h2)
   ·exact .inl h1
  ·rcases h2 with h2 | ⟨rfl,h2⟩
   ·exact .inl h2
   ·exact .inr ⟨rfl,ltB_tr x y z h1 h2⟩
theorem ltB_asym {a b:Bs} (h:ltB a b=true):ltB b a=false:=by
 cases q:ltB b a with
 | false=>rfl
 | true=>have:=ltB_tr a b a h q;rw[ltB_irr] at this;cases this
theorem ltB_ne {a b:Bs} (h:ltB a b=true):a≠b:=fun e=>by rw[e,ltB_irr] at h;cases h
structure TO {α:Type} (f:α->α->Int):Prop where
 anti:∀ a b,f b a = - f a b
 le:∀ a b c,f a b<=0->f b c<=0->f a c<=0
 lt:∀ a b c,f a b<=0->f b c<=0->(f a b < 0\/f b c < 0)->f a c < 0
theorem TO.z {α:Type} {f:α->α->Int} (h:TO f) {a b c:α} (h1:f a b=0) (h2:f b c=0):f a c=0:=by
 have:=h.le a b c (by omega) (by omega)
 have:=h.le c b a (by have:=h.anti b c;omega) (by have:=h.anti a b;omega)
 have:=h.anti a c
 omega
end Go.Nt
namespace Go.Nt
structure En where
 S:List It
 T:List It
 p:Bs
 n:Bs
 a:Bs
 j:Bs
 c:Int
 o:Int
theorem En.eq {x y:En} (h1:x.S=y.S) (h2:x.T=y.T) (h3:x.p=y.p) (h4:x.n=y.n) (h5:x.a=y.a) (h6:x.j=y.j) (h7:x.c=y.c) (h8:x.o=y.o):x=y:=by
 cases x;cases y;simp only[] at *;subst h1;subst h2;subst h3;subst h4;subst h5;subst h6;subst h7;subst h8;rfl
def perr (s:Bs):Int:=(parse s).2.2
def nmOk (s:Bs):Bool:=decide (s=[]) || isNm s
def vE (e:En):Int:=
 if vld e.S≠0 then vld e.S else if vld e.T≠0 then vld e.T else
 if e.S=[]\/canS e.S e.T≠e.S\/canT e.S e.T≠e.T then 1 else
 if perr e.p≠0 then perr e.p else if perr e.n≠0 then perr e.n else
 if ¬ (nmOk e.a=true/\nmOk e.j=true) then 4 else
 if e.c < 0\/1073741824 < e.c\/e.o < 1\/3 < e.o then 1 else 0
structure VE (e:En):Prop where
 vS:vld e.S=0
 vT:vld e.T=0
 ne:e.S≠[]
 cS:canS e.S e.T=e.S
 cT:canT e.S e.T=e.T
 pp:perr e.p=0
 pn:perr e.n=0
 na:nmOk e.a=true
 nj:nmOk e.j=true
 c0:0<=e.c
 c1:e.c<=1073741824
 o1:1<=e.o
 o3:e.o<=3
theorem vE_iff (e:En):vE e=0↔VE e:=by
 unfold vE;constructor
 ·intro h
  split at h
  ·rename_i q;exact absurd h q
  rename_i h1
  split at h
  ·rename_i q;exact absurd h q
  rename_i h2
  split at h
  ·cases h
  rename_i h3
  split at h
  ·rename_i q;exact absurd h q
  rename_i h4
  split at h
  ·rename_i q;exact absurd h q
  rename_i h5
  split at h
  ·cases h
  rename_i h6
  split at h
  ·cases h
  rename_i h7;have h6:=Decidable.not_not.1 h6;refine⟨Decidable.not_not.1 h1,Decidable.not_not.1 h2,fun q=>h3 (.inl q),?_,?_,Decidable.not_not.1 h4,Decidable.not_not.1 h5,h6.1,h6.2,by omega,by omega,by omega,by omega⟩
  ·by_cases q:canS e.S e.T=e.S
   ·exact q
   ·exact absurd (.inr (.inl q)) h3
  ·by_cases q:canT e.S e.T=e.T
   ·exact q
   ·exact absurd (.inr (.inr q)) h3
 ·rintro ⟨vS,vT,ne,cS,cT,pp,pn,na,nj,c0,c1,o1,o3⟩
  rw[if_neg (by simp [vS]),if_neg (by simp [vT]),if_neg (by simp [ne,cS,cT]),if_neg (by simp [pp]),if_neg (by simp [pn]),if_neg (by simp [na,nj]),if_neg (by omega)]
def fmE (f:List It):Bs:=if vld f=0 then fmt f else []
def joinE (e:En):Bs:=fmE e.S++10 :: (e.p++10 :: e.n)
def keyE (e:En):Bs:=if vE e=0 then joinE e else []
end Go.Nt
namespace Go.Nt
def Sr (m:List En):Prop:=m.Pairwise fun x y=>ltB (keyE x) (keyE y)=true
def Mem (m:List En):Prop:=(∀ e∈m,VE e)/\Sr m
theorem mem_nil:Mem []:=⟨fun e h=>(by cases h),List.Pairwise.nil⟩
def getM (m:List En) (k:Bs):Option En:=m.find? fun e=>keyE e == k
theorem getM_cons (x:En) (m:List En) (k:Bs):getM (x :: m) k=if keyE x=k then some x else getM m k:=by
 unfold getM;rw[find?_cons];by_cases h:keyE x=k
 ·have:(keyE x == k)=true:=by simpa using h
  rw[this,if_pos h]
 ·have:(keyE x == k)=false:=by simpa using h
  rw[this,if_neg h]
theorem getM_some {m:List En} {k:Bs} {e:En} (h:getM m k=some e):e∈m/\keyE e=k:=by
 unfold getM at h;exact⟨mem_of_find?_eq_some h,by simpa using find?_some h⟩
theorem getM_mem {m:List En} (h:Sr m) {e:En} (he:e∈m):getM m (keyE e)=some e:=by
 induction m with
 | nil=>cases he
 | cons x m ih =>
  rw[getM_cons];rcases mem_cons.1 he with rfl | he
  ·rw[if_pos rfl]
  ·have:=(pairwise_cons.1 h).1 e he
   rw[if_neg (ltB_ne this)];exact ih (pairwise_cons.1 h).2 he
def bel (k:Bs) (m:List En):List En:=m.filter fun e=>ltB (keyE e) k
def abv (k:Bs) (m:List En):List En:=m.filter fun e=>ltB k (keyE e)
theorem split_none {m:List En} (h:Sr m) {k:Bs} (hn:getM m k=none):m=bel k m++abv k m:=by
 induction m with
 | nil=>rfl
 | cons x m ih =>
  obtain⟨h1,h2⟩:=pairwise_cons.1 h;rw[getM_cons] at hn;by_cases e:keyE x=k
  ·rw[if_pos e] at hn;cases hn
  rw[if_neg e] at hn;unfold bel abv;rw[filter_cons,filter_cons];cases hl:ltB (keyE x) k with
  | true =>
   rw[ltB_asym hl];simp only[if_true,Bool.false_eq_true,if_false,cons_append]
   congr 1
   exact ih h2 hn
  | false =>
   have hg:=ltB_tri _ _ hl e;rw[hg];simp only[if_true,Bool.false_eq_true,if_false];have e1:m.filter (fun e=>ltB (keyE e) k)=[]:=by
    rw[filter_eq_nil_iff];intro z hz;rw[ltB_asym (ltB_tr _ _ _ hg (h1 z hz))];simp
   have e2:m.filter (fun e=>ltB k (keyE e))=m:=by
    rw[filter_eq_self];intro z hz;exact ltB_tr _ _ _ hg (h1 z hz)
   rw[e1,e2,nil_append]
theorem split_some {m:List En} (h:Sr m) {k:Bs} {x:En} (hs:getM m k=some x):m=bel k m++x :: abv k m:=by
 induction m with
 | nil=>cases hs
 | cons y m ih =>
  obtain⟨h1,h2⟩:=pairwise_cons.1 h;rw[getM_cons] at hs;unfold bel abv;rw[filter_cons,filter_cons];by_cases e:keyE y=k
  ·rw[if_pos e] at hs
   cases hs;subst e;rw[ltB_irr];simp only[Bool.false_eq_true,if_false];have e1:m.filter (fun e=>ltB (keyE e) (keyE x))=[]:=by
    rw[filter_eq_nil_iff];intro z hz;rw[ltB_asym (h1 z hz)];simp
   have e2:m.filter (fun e=>ltB (keyE x) (keyE e))=m:=by
    rw[filter_eq_self];exact h1
   rw[e1,e2,nil_append]
  ·rw[if_neg e] at hs
   obtain⟨q1,q2⟩:=getM_some hs;have hl:ltB (keyE y) k=true:=by rw[<- q2];exact h1 x q1
   rw[hl,ltB_asym hl];simp only[if_true,Bool.false_eq_true,if_false,cons_append]
   congr 1
   exact ih h2 hs
def putM (m:List En) (e:En):List En:=bel (keyE e) m++e :: abv (keyE e) m
def delM (m:List En) (k:Bs):List En:=bel k m++abv k m
theorem sr_bel {m:List En} (h:Sr m) (k:Bs):Sr (bel k m):=h.filter _
theorem sr_abv {m:List En} (h:Sr m) (k:Bs):Sr (abv k m):=h.filter _
theorem mem_bel {k:Bs} {m:List En} {e:En}:e∈bel k m↔e∈m/\ltB (keyE e) k=true:=by unfold bel;rw[mem_filter]
theorem mem_abv {k:Bs} {m:List En} {e:En}:e∈abv k m↔e∈m/\ltB k (keyE e)=true:=by unfold abv;rw[mem_filter]
theorem sr_put {m:List En} (h:Sr m) (e:En):Sr (putM m e):=by
 unfold putM Sr;rw[pairwise_append];refine⟨sr_bel h _,pairwise_cons.2 ⟨fun z hz=>(mem_abv.1 hz).2,sr_abv h _⟩,fun a ha b hb=>?_⟩;have h1:=(mem_bel.1 ha).2;rcases mem_cons.1 hb with rfl | hb
 ·exact h1
 ·exact ltB_tr _ _ _ h1 (mem_abv.1 hb).2
theorem mem_put {m:List En} {e z:En}:z∈putM m e↔z=e\/(z∈m/\keyE z≠keyE e):=by
 unfold putM;rw[mem_append,mem_cons,mem_bel,mem_abv];constructor
 ·rintro (⟨h1,h2⟩ | h | ⟨h1,h2⟩)
  ·exact .inr ⟨h1,ltB_ne h2⟩
  ·exact .inl h
  ·exact .inr ⟨h1,(ltB_ne h2).symm⟩
 ·rintro (h | ⟨h1,h2⟩)
  ·exact .inr (.inl h)
  ·cases hl:ltB (keyE z) (keyE e) with
   | true=>exact .inl ⟨h1,rfl⟩
   | false=>exact .inr (.inr ⟨h1,ltB_tri _ _ hl h2⟩)
theorem mem_del {m:List En} {k:Bs} {z:En}:z∈delM m k↔z∈m/\keyE z≠k:=by
 unfold delM;rw[mem_append,mem_bel,mem_abv];constructor
 ·rintro (⟨h1,h2⟩ | ⟨h1,h2⟩)
  ·exact⟨h1,ltB_ne h2⟩
  ·exact⟨h1,(ltB_ne h2).symm⟩
 ·rintro ⟨h1,h2⟩
  cases hl:ltB (keyE z) k with
  | true=>exact .inl ⟨h1,rfl⟩
  | false=>exact .inr ⟨h1,ltB_tri _ _ hl h2⟩
theorem mem_putM {m:List En} (h:Mem m) {e:En} (he:VE e):Mem (putM m e):=
 ⟨fun z hz=>(mem_put.1 hz).elim (fun q=>by rw[q];exact he) (fun q=>h.1 z q.1),sr_put h.2 e⟩
theorem put_len {m:List En} (h:Sr m) (e:En):(putM m e).length=if (getM m (keyE e)).isSome=true then m.length else m.length+1:=by
 unfold putM;cases hg:getM m (keyE e) with
 | none =>
  have:=congrArg List.length (split_none h hg)
  rw[length_append] at this;simp only[length_append,length_cons,Option.isSome_none,Bool.false_eq_true,if_false];omega
 | some x =>
  have:=congrArg List.length (split_some h hg)
  rw[length_append,length_cons] at this;simp only[length_append,length_cons,Option.isSome_some,if_true];omega
end Go.Nt
namespace Go.Nt
theorem any_tg (x:It):∀ f:List It,f.any (clash x)=(tg f).any (clash x)
 | []=>rfl
 | y :: f=>by
  have ih:=any_tg x f;unfold tg at ih ⊢;rw[any_cons,ih,filter_cons];cases h:isTag y with
  | true=>simp only[if_true,any_cons]
  | false =>
   have:clash x y=false:=by unfold clash;rw[h];rfl
   rw[this,Bool.false_or];simp only[Bool.false_eq_true,if_false]
theorem wfB_tg {f g:List It} {x:It} (hx:x.1≠1):wfB f x=wfB g x:=by
 unfold wfB;rw[if_neg hx,if_neg hx]
theorem chk_tg {f g:List It} {x:It} (hx:x.1≠1) (h:tg f=tg g):chk f x=chk g x:=by
 rw[chk_wfB,chk_wfB,wfB_tg (g:=g) hx];unfold fitsB;rw[any_tg x f,any_tg x g,h]
theorem pn_tag {f g:List It} {x:It} (hx:x.1≠1) (hf:VL f) (ht:tg f=tg g) (hc:chk g x=0):pn f x=f++[x]/\VL (pn f x)/\tg (pn f x)=tg (g++[x]):=by
 have e:pn f x=f++[x]:=by unfold pn;rw[if_neg hx]
 refine⟨e,?_,?_⟩
 ·rw[e]
  exact (chks_snoc f x).2 ⟨hf,by rw[chk_tg hx ht];exact hc⟩
 ·rw[e,tg_app,tg_app,ht]
theorem mkVE {f t:List It} {p n a j:Bs} {c o:Int} (hf:vld f=0) (ht:vld t=0) (hne:f≠[]) (pp:perr p=0) (pn:perr n=0) (na:nmOk a=true) (nj:nmOk j=true) (c0:0<=c) (c1:c<=1073741824) (o1:1<=o) (o3:o<=3):VE ⟨canS f t,canT f t,p,n,a,j,c,o⟩:=by
 have hl:=nums_le hf ht;obtain⟨e1,v1⟩:=canS_vld hl hf;obtain⟨e2,v2⟩:=canT_vld hl ht;obtain⟨q1,q2⟩:=can_can hf ht;exact⟨v1,v2,by show canS f t≠[];rw[e1];simpa using hne,q1,q2,pp,pn,na,nj,c0,c1,o1,o3⟩
end Go.Nt
