/- Memories as plain data: sorted lists of entries, lookups, putting, deleting, uniting. A target of a source: the same tags in the same order, other texts. Entries that are made are valid. -/
import Derived.Test.YtigalfbihapdnaaGreatDoorG3XA
set_option linter.unusedSimpArgs false
set_option linter.unusedVariables false
set_option linter.unusedSectionVars false
set_option maxRecDepth 100000
set_option maxHeartbeats 16000000
namespace Go.Nt
def Sr (m:List En):Prop:=m.Pairwise fun x y=>ltB (keyE x) (keyE y)=true
def Mem (m:List En):Prop:=(∀ e∈m,VE e)∧Sr m
theorem mem_nil:Mem []:=⟨fun e h=>(by cases h),List.Pairwise.nil⟩
def getM (m:List En) (k:Bs):Option En:=m.find? fun e=>keyE e == k
theorem getM_cons (x:En) (m:List En) (k:Bs):getM (x :: m) k=if keyE x=k then some x else getM m k:=by
 unfold getM
 rw[List.find?_cons]
 by_cases h:keyE x=k
 ·have:(keyE x == k)=true:=by simpa using h
  rw[this,if_pos h]
 ·have:(keyE x == k)=false:=by simpa using h
  rw[this,if_neg h]
theorem getM_none {m:List En} {k:Bs} (h:∀ e∈m,keyE e≠k):getM m k=none:=by
 unfold getM
 rw[List.find?_eq_none]
 intro e he q
 exact h e he (by simpa using q)
theorem getM_some {m:List En} {k:Bs} {e:En} (h:getM m k=some e):e∈m∧keyE e=k:=by
 unfold getM at h
 exact⟨List.mem_of_find?_eq_some h,by simpa using List.find?_some h⟩
theorem getM_lt {x:En} {m:List En} (h:Sr (x :: m)) {k:Bs} (hk:ltB k (keyE x)=true):getM (x :: m) k=none:=by
 refine getM_none fun e he=>?_
 rcases List.mem_cons.1 he with rfl | he
 ·exact (ltB_ne hk).symm
 ·have:=(List.pairwise_cons.1 h).1 e he
  exact (ltB_ne (ltB_tr _ _ _ hk this)).symm
theorem getM_tail {x:En} {m:List En} (h:Sr (x :: m)):getM m (keyE x)=none:=
 getM_none fun e he=>(ltB_ne ((List.pairwise_cons.1 h).1 e he)).symm
theorem getM_mem {m:List En} (h:Sr m) {e:En} (he:e∈m):getM m (keyE e)=some e:=by
 induction m with
 | nil=>cases he
 | cons x m ih =>
  rw[getM_cons]
  rcases List.mem_cons.1 he with rfl | he
  ·rw[if_pos rfl]
  ·have:=(List.pairwise_cons.1 h).1 e he
   rw[if_neg (ltB_ne this)]
   exact ih (List.pairwise_cons.1 h).2 he
theorem sr_ext:∀ {a b:List En},Sr a→Sr b→(∀ e,e∈a↔e∈b)→a=b
 | [],[],_,_,_=>rfl
 | [],y :: b,_,_,h=>absurd ((h y).2 (List.mem_cons_self ..)) (by simp)
 | x :: a,[],_,_,h=>absurd ((h x).1 (List.mem_cons_self ..)) (by simp)
 | x :: a,y :: b,ha,hb,h=>by
  obtain⟨a1,a2⟩:=List.pairwise_cons.1 ha
  obtain⟨b1,b2⟩:=List.pairwise_cons.1 hb
  have e:x=y:=by
   rcases List.mem_cons.1 ((h x).1 (List.mem_cons_self ..)) with q | q
   ·exact q
   ·rcases List.mem_cons.1 ((h y).2 (List.mem_cons_self ..)) with r | r
    ·exact r.symm
    ·have h1:=b1 x q
     have h2:=a1 y r
     rw[ltB_asym h1] at h2;cases h2
  subst e
  congr 1
  refine sr_ext a2 b2 fun z=>?_
  constructor
  ·intro q
   rcases List.mem_cons.1 ((h z).1 (List.mem_cons_of_mem _ q)) with r | r
   ·subst r;have:=a1 z q;rw[ltB_irr] at this;cases this
   ·exact r
  ·intro q
   rcases List.mem_cons.1 ((h z).2 (List.mem_cons_of_mem _ q)) with r | r
   ·subst r;have:=b1 z q;rw[ltB_irr] at this;cases this
   ·exact r
theorem mem_ext {a b:List En} (ha:Sr a) (hb:Sr b) (h:∀ k,getM a k=getM b k):a=b:=by
 refine sr_ext ha hb fun e=>?_
 constructor
 ·intro q
  have:=getM_mem ha q
  rw[h] at this
  exact (getM_some this).1
 ·intro q
  have:=getM_mem hb q
  rw[← h] at this
  exact (getM_some this).1
def bel (k:Bs) (m:List En):List En:=m.filter fun e=>ltB (keyE e) k
def abv (k:Bs) (m:List En):List En:=m.filter fun e=>ltB k (keyE e)
theorem split_none {m:List En} (h:Sr m) {k:Bs} (hn:getM m k=none):m=bel k m++abv k m:=by
 induction m with
 | nil=>rfl
 | cons x m ih =>
  obtain⟨h1,h2⟩:=List.pairwise_cons.1 h
  rw[getM_cons] at hn
  by_cases e:keyE x=k
  ·rw[if_pos e] at hn;cases hn
  rw[if_neg e] at hn
  unfold bel abv
  rw[List.filter_cons,List.filter_cons]
  cases hl:ltB (keyE x) k with
  | true =>
   rw[ltB_asym hl]
   simp only[if_true,Bool.false_eq_true,if_false,List.cons_append]
   congr 1
   exact ih h2 hn
  | false =>
   have hg:=ltB_tri _ _ hl e
   rw[hg]
   simp only[if_true,Bool.false_eq_true,if_false]
   have e1:m.filter (fun e=>ltB (keyE e) k)=[]:=by
    rw[List.filter_eq_nil_iff]
    intro z hz
    rw[ltB_asym (ltB_tr _ _ _ hg (h1 z hz))];simp
   have e2:m.filter (fun e=>ltB k (keyE e))=m:=by
    rw[List.filter_eq_self]
    intro z hz
    exact ltB_tr _ _ _ hg (h1 z hz)
   rw[e1,e2,List.nil_append]
theorem split_some {m:List En} (h:Sr m) {k:Bs} {x:En} (hs:getM m k=some x):m=bel k m++x :: abv k m:=by
 induction m with
 | nil=>cases hs
 | cons y m ih =>
  obtain⟨h1,h2⟩:=List.pairwise_cons.1 h
  rw[getM_cons] at hs
  unfold bel abv
  rw[List.filter_cons,List.filter_cons]
  by_cases e:keyE y=k
  ·rw[if_pos e] at hs
   cases hs
   subst e
   rw[ltB_irr]
   simp only[Bool.false_eq_true,if_false]
   have e1:m.filter (fun e=>ltB (keyE e) (keyE x))=[]:=by
    rw[List.filter_eq_nil_iff]
    intro z hz
    rw[ltB_asym (h1 z hz)];simp
   have e2:m.filter (fun e=>ltB (keyE x) (keyE e))=m:=by
    rw[List.filter_eq_self]
    exact h1
   rw[e1,e2,List.nil_append]
  ·rw[if_neg e] at hs
   obtain⟨q1,q2⟩:=getM_some hs
   have hl:ltB (keyE y) k=true:=by rw[← q2];exact h1 x q1
   rw[hl,ltB_asym hl]
   simp only[if_true,Bool.false_eq_true,if_false,List.cons_append]
   congr 1
   exact ih h2 hs
def putM (m:List En) (e:En):List En:=bel (keyE e) m++e :: abv (keyE e) m
theorem sr_bel {m:List En} (h:Sr m) (k:Bs):Sr (bel k m):=h.filter _
theorem sr_abv {m:List En} (h:Sr m) (k:Bs):Sr (abv k m):=h.filter _
theorem mem_bel {k:Bs} {m:List En} {e:En}:e∈bel k m↔e∈m∧ltB (keyE e) k=true:=by unfold bel;rw[List.mem_filter]
theorem mem_abv {k:Bs} {m:List En} {e:En}:e∈abv k m↔e∈m∧ltB k (keyE e)=true:=by unfold abv;rw[List.mem_filter]
theorem sr_put {m:List En} (h:Sr m) (e:En):Sr (putM m e):=by
 unfold putM Sr
 rw[List.pairwise_append]
 refine⟨sr_bel h _,List.pairwise_cons.2 ⟨fun z hz=>(mem_abv.1 hz).2,sr_abv h _⟩,fun a ha b hb=>?_⟩
 have h1:=(mem_bel.1 ha).2
 rcases List.mem_cons.1 hb with rfl | hb
 ·exact h1
 ·exact ltB_tr _ _ _ h1 (mem_abv.1 hb).2
theorem mem_put {m:List En} {e z:En}:z∈putM m e↔z=e∨(z∈m∧keyE z≠keyE e):=by
 unfold putM
 rw[List.mem_append,List.mem_cons,mem_bel,mem_abv]
 constructor
 ·rintro (⟨h1,h2⟩ | h | ⟨h1,h2⟩)
  ·exact .inr ⟨h1,ltB_ne h2⟩
  ·exact .inl h
  ·exact .inr ⟨h1,(ltB_ne h2).symm⟩
 ·rintro (h | ⟨h1,h2⟩)
  ·exact .inr (.inl h)
  ·cases hl:ltB (keyE z) (keyE e) with
   | true=>exact .inl ⟨h1,rfl⟩
   | false=>exact .inr (.inr ⟨h1,ltB_tri _ _ hl h2⟩)
theorem mem_putM {m:List En} (h:Mem m) {e:En} (he:VE e):Mem (putM m e):=
 ⟨fun z hz=>(mem_put.1 hz).elim (fun q=>by rw[q];exact he) (fun q=>h.1 z q.1),sr_put h.2 e⟩
theorem getM_iff {m:List En} (h:Sr m) {k:Bs} {e:En}:getM m k=some e↔e∈m∧keyE e=k:=
 ⟨getM_some,fun ⟨h1,h2⟩=>by rw[← h2];exact getM_mem h h1⟩
theorem opt_ext {α:Type} {a b:Option α} (h:∀ x,a=some x↔b=some x):a=b:=by
 cases a with
 | none=>cases b with
  | none=>rfl
  | some y=>exact absurd ((h y).2 rfl) (by simp)
 | some x=>exact ((h x).1 rfl).symm
theorem get_put {m:List En} (h:Sr m) (e:En) (k:Bs):getM (putM m e) k=if k=keyE e then some e else getM m k:=by
 refine opt_ext fun x=>?_
 rw[getM_iff (sr_put h e),mem_put]
 by_cases q:k=keyE e
 ·rw[if_pos q]
  constructor
  ·rintro ⟨h1 | ⟨h1,h2⟩,h3⟩
   ·rw[h1]
   ·exact absurd (h3.trans q) h2
  ·intro h1
   cases h1
   exact⟨.inl rfl,q.symm⟩
 ·rw[if_neg q,getM_iff h]
  constructor
  ·rintro ⟨h1 | ⟨h1,h2⟩,h3⟩
   ·rw[h1] at h3;exact absurd h3.symm q
   ·exact⟨h1,h3⟩
  ·rintro ⟨h1,h2⟩
   exact⟨.inr ⟨h1,fun z=>q (h2.symm.trans z)⟩,h2⟩
theorem put_len {m:List En} (h:Sr m) (e:En):(putM m e).length=if (getM m (keyE e)).isSome=true then m.length else m.length+1:=by
 unfold putM
 cases hg:getM m (keyE e) with
 | none =>
  have:=congrArg List.length (split_none h hg)
  rw[List.length_append] at this
  simp only[List.length_append,List.length_cons,Option.isSome_none,Bool.false_eq_true,if_false]
  omega
 | some x =>
  have:=congrArg List.length (split_some h hg)
  rw[List.length_append,List.length_cons] at this
  simp only[List.length_append,List.length_cons,Option.isSome_some,if_true]
  omega
def mxE:Option En→Option En→Option En
 | none,y=>y
 | some x,none=>some x
 | some x,some y=>some (if cmpE x y < 0 then y else x)
def uni:List En→List En→List En
 | [],b=>b
 | x :: a,[]=>x :: a
 | x :: a,y :: b=>if ltB (keyE x) (keyE y)=true then x :: uni a (y :: b) else if ltB (keyE y) (keyE x)=true then y :: uni (x :: a) b else (if cmpE x y < 0 then y else x) :: uni a b
termination_by a b=>a.length+b.length
theorem uni_nil (a:List En):uni a []=a:=by cases a<;>simp [uni]
theorem nil_uni (b:List En):uni [] b=b:=by simp [uni]
theorem uni_cons (x y:En) (a b:List En):uni (x :: a) (y :: b)=if ltB (keyE x) (keyE y)=true then x :: uni a (y :: b) else if ltB (keyE y) (keyE x)=true then y :: uni (x :: a) b else (if cmpE x y < 0 then y else x) :: uni a b:=by
 conv=>lhs;unfold uni
theorem uni_sub:∀ (n:Nat) (a b:List En),a.length+b.length≤n→∀ e∈uni a b,e∈a∨e∈b
 | _,[],b,_,e,h=>by rw[nil_uni] at h;exact .inr h
 | _,x :: a,[],_,e,h=>by rw[uni_nil] at h;exact .inl h
 | 0,x :: a,y :: b,hn,e,h=>by simp at hn
 | n+1,x :: a,y :: b,hn,e,h=>by
  simp only[List.length_cons] at hn
  rw[uni_cons] at h
  split at h
  ·rcases List.mem_cons.1 h with q | q
   ·exact .inl (by rw[q];exact List.mem_cons_self ..)
   ·rcases uni_sub n a (y :: b) (by simp;omega) e q with r | r
    ·exact .inl (List.mem_cons_of_mem _ r)
    ·exact .inr r
  ·split at h
   ·rcases List.mem_cons.1 h with q | q
    ·exact .inr (by rw[q];exact List.mem_cons_self ..)
    ·rcases uni_sub n (x :: a) b (by simp;omega) e q with r | r
     ·exact .inl r
     ·exact .inr (List.mem_cons_of_mem _ r)
   ·rcases List.mem_cons.1 h with q | q
    ·split at q
     ·exact .inr (by rw[q];exact List.mem_cons_self ..)
     ·exact .inl (by rw[q];exact List.mem_cons_self ..)
    ·rcases uni_sub n a b (by omega) e q with r | r
     ·exact .inl (List.mem_cons_of_mem _ r)
     ·exact .inr (List.mem_cons_of_mem _ r)
theorem uni_sr:∀ (n:Nat) (a b:List En),a.length+b.length≤n→Sr a→Sr b→Sr (uni a b)
 | _,[],b,_,_,hb=>by rw[nil_uni];exact hb
 | _,x :: a,[],_,ha,_=>by rw[uni_nil];exact ha
 | 0,x :: a,y :: b,hn,_,_=>by simp at hn
 | n+1,x :: a,y :: b,hn,ha,hb=>by
  simp only[List.length_cons] at hn
  obtain⟨a1,a2⟩:=List.pairwise_cons.1 ha
  obtain⟨b1,b2⟩:=List.pairwise_cons.1 hb
  rw[uni_cons]
  split
  ·rename_i hl
   refine List.pairwise_cons.2 ⟨fun z hz=>?_,uni_sr n a (y :: b) (by simp;omega) a2 hb⟩
   rcases uni_sub _ a (y :: b) (Nat.le_refl _) z hz with r | r
   ·exact a1 z r
   ·rcases List.mem_cons.1 r with rfl | r
    ·exact hl
    ·exact ltB_tr _ _ _ hl (b1 z r)
  ·split
   ·rename_i _ hl
    refine List.pairwise_cons.2 ⟨fun z hz=>?_,uni_sr n (x :: a) b (by simp;omega) ha b2⟩
    rcases uni_sub _ (x :: a) b (Nat.le_refl _) z hz with r | r
    ·rcases List.mem_cons.1 r with rfl | r
     ·exact hl
     ·exact ltB_tr _ _ _ hl (a1 z r)
    ·exact b1 z r
   ·rename_i h1 h2
    have e:keyE x=keyE y:=by
     by_cases q:keyE x=keyE y
     ·exact q
     ·exact absurd (ltB_tri _ _ (by simpa using h1) q) h2
    refine List.pairwise_cons.2 ⟨fun z hz=>?_,uni_sr n a b (by omega) a2 b2⟩
    have ek:keyE (if cmpE x y < 0 then y else x)=keyE x:=by split<;>simp [e]
    rw[ek]
    rcases uni_sub _ a b (Nat.le_refl _) z hz with r | r
    ·exact a1 z r
    ·rw[e];exact b1 z r
theorem get_uni:∀ (n:Nat) (a b:List En),a.length+b.length≤n→Sr a→Sr b→∀ k,getM (uni a b) k=mxE (getM a k) (getM b k)
 | _,[],b,_,_,hb,k=>by rw[nil_uni];rfl
 | _,x :: a,[],_,ha,_,k=>by
  rw[uni_nil]
  cases getM (x :: a) k<;>rfl
 | 0,x :: a,y :: b,hn,_,_,k=>by simp at hn
 | n+1,x :: a,y :: b,hn,ha,hb,k=>by
  simp only[List.length_cons] at hn
  obtain⟨a1,a2⟩:=List.pairwise_cons.1 ha
  obtain⟨b1,b2⟩:=List.pairwise_cons.1 hb
  rw[uni_cons]
  split
  ·rename_i hl
   rw[getM_cons,get_uni n a (y :: b) (by simp;omega) a2 hb k,getM_cons x a]
   by_cases q:keyE x=k
   ·rw[if_pos q,if_pos q,getM_lt hb (by rw[← q];exact hl)];rfl
   ·rw[if_neg q,if_neg q]
  ·split
   ·rename_i _ hl
    rw[getM_cons,get_uni n (x :: a) b (by simp;omega) ha b2 k,getM_cons y b]
    by_cases q:keyE y=k
    ·rw[if_pos q,if_pos q,getM_lt ha (by rw[← q];exact hl)];rfl
    ·rw[if_neg q,if_neg q]
   ·rename_i h1 h2
    have e:keyE x=keyE y:=by
     by_cases q:keyE x=keyE y
     ·exact q
     ·exact absurd (ltB_tri _ _ (by simpa using h1) q) h2
    rw[getM_cons,get_uni n a b (by omega) a2 b2 k,getM_cons x a,getM_cons y b]
    have ek:keyE (if cmpE x y < 0 then y else x)=keyE x:=by split<;>simp [e]
    rw[ek,← e]
    by_cases q:keyE x=k
    ·rw[if_pos q,if_pos q,if_pos q];rfl
    ·rw[if_neg q,if_neg q,if_neg q]
theorem uni_mem {a b:List En} (ha:Mem a) (hb:Mem b):Mem (uni a b):=
 ⟨fun e he=>(uni_sub _ a b (Nat.le_refl _) e he).elim (ha.1 e) (hb.1 e),uni_sr _ a b (Nat.le_refl _) ha.2 hb.2⟩
end Go.Nt
namespace Go.Nt
end Go.Nt
