/- Numbering the tags of a source and its target together, as plain data. Orders of byte strings, of numbers, and one behind the other. Entries of a memory as plain data: validity, keys, the order. Memories as plain data: sorted lists of entries, lookups, putting, deleting, uniting. A target of a source: the same tags in the same order, other texts. Entries that are made are valid. Lines and decimal numbers of a text, as plain data. No conditions. The text of a memory as plain data: how its lines are read, and what is written. No conditions. The text of a memory as plain data: what is written is read again, and only what is written is read. No conditions. The text of a memory as plain data: what can be read is what is written of the memory that is read. No conditions. -/
import Derived.Test.YtmjfblcmbcfkcaaGreatDoorG2XA
import GoSem.Op.String
open List
set_option linter.unusedSimpArgs false
set_option linter.unusedVariables false
set_option linter.unusedSectionVars false
set_option maxRecDepth 100000
set_option maxHeartbeats 16000000
namespace Go.Nt
def mD (l:List Int) (n:Int):List Int:=if n∈l then l else l++[n]
theorem OM (l:List Int) (n i:Int) (h:i∈l):i∈mD l n:=by
 unfold mD;split
 ·exact h
 ·simp [h]
theorem J8 (l:List Int) (n:Int):n∈mD l n:=by
 unfold mD;split
 ·assumption
 ·simp
theorem zL:∀ (a l:List Int) (i:Int),i∈l->i∈a.foldl mD l
 | [],l,i,h=>h
 | x :: a,l,i,h=>zL a _ i (OM l x i h)
theorem xJ:∀ (a l:List Int) (i:Int),i∈a->i∈a.foldl mD l
 | x :: a,l,i,h=>by
  rw[foldl_cons];rcases mem_cons.1 h with rfl | h
  ·exact zL a _ _ (J8 l i)
  ·exact xJ a _ i h
theorem xK:∀ (t:List It) (acc l:List Int),(t.foldl gA acc).foldl mD l=t.foldl gA (acc.foldl mD l)
 | [],acc,l=>rfl
 | x :: t,acc,l=>by
  rw[foldl_cons,foldl_cons,xK t (gA acc x) l]
  congr 1
  unfold gA;by_cases ht:bD x=true
  ·by_cases hm:x.2.2∈acc
   ·rw[if_neg (fun z=>z.2 hm),if_neg (fun z=>z.2 (xJ acc l _ hm))]
   ·rw[if_pos ⟨ht,hm⟩,foldl_append]
    have e:[x.2.2].foldl mD (acc.foldl mD l)=if x.2.2∈acc.foldl mD l then acc.foldl mD l else acc.foldl mD l++[x.2.2]:=rfl
    rw[e];by_cases q:x.2.2∈acc.foldl mD l
    ·rw[if_pos q,if_neg (fun z=>z.2 q)]
    ·rw[if_neg q,if_pos ⟨ht,q⟩]
  ·rw[if_neg (fun z=>ht z.1),if_neg (fun z=>ht z.1)]
def cnl (s t:List It):List Int:=cB (s++t)
theorem NZ (s t:List It):(cB t).foldl mD (cB s)=cnl s t:=by
 unfold cnl cB;rw[xK,foldl_append];rfl
def QM (s t f:List It):List It:=jX (cnl s t) (dU (cnl s t).length) f
def hZ (s t:List It):List It:=nrm (QM s t s)
def iH (s t:List It):List It:=nrm (QM s t t)
theorem wL (g:List It):∀ f:List It,(∀ x∈f,x∈g)->jX (cB g) (dU (cB g).length) f=f.map (phi g)
 | [],_=>rfl
 | x :: f,h=>by
  have ih:=wL g f (fun y hy=>h y (by simp [hy]));have e:rU (cB g) (dU (cB g).length) x=some (phi g x):=by
   unfold rU phi;by_cases ht:bD x=true
   ·rw[if_pos ht,if_pos ht,n8 (oJ (h x (by simp)) ht)];rfl
   ·rw[if_neg ht,if_neg ht]
  show (x :: f).filterMap _=_;rw[filterMap_cons,e,map_cons,<- ih];rfl
theorem LN (s t:List It):QM s t s=s.map (phi (s++t)):=wL (s++t) s (fun x h=>by simp [h])
theorem LM (s t:List It):QM s t t=t.map (phi (s++t)):=wL (s++t) t (fun x h=>by simp [h])
theorem Q2 (g f:List It):len (f.map (phi g))=len f:=by
 unfold len;rw[map_map]
 congr 1
 refine map_congr_left fun x _=>?_
 exact QU g x
theorem G3 {g f:List It} (hn:(cB g).length<=999) (hf:∀ x∈f,x∈g) (h:vld f=0):vld (f.map (phi g))=0:=by
 obtain⟨h1,h2,h3⟩:=(cX f).1 h;refine (cX _).2 ⟨?_,by simpa using h2,by rw[Q2];exact h3⟩
 have:=CJ (f:=g) hn f [] (by simp) hf h1
 exact this
theorem jA {s t:List It} (hl:(cB (s++t)).length<=999) (h:vld s=0):hZ s t=s.map (phi (s++t))/\vld (hZ s t)=0:=by
 have hv:=G3 hl (fun x hx=>by simp [hx]) h (f:=s);have e:hZ s t=s.map (phi (s++t)):=by unfold hZ;rw[LN,MH ((cX _).1 hv).1]
 exact⟨e,by rw[e];exact hv⟩
theorem i9 {s t:List It} (hl:(cB (s++t)).length<=999) (h:vld t=0):iH s t=t.map (phi (s++t))/\vld (iH s t)=0:=by
 have hv:=G3 hl (fun x hx=>by simp [hx]) h (f:=t);have e:iH s t=t.map (phi (s++t)):=by unfold iH;rw[LM,MH ((cX _).1 hv).1]
 exact⟨e,by rw[e];exact hv⟩
theorem MU:∀ (n:Nat) (k:Nat),k < n->lkz (dU n) (dU n) ((k:Int)+1)=some ((k:Int)+1):=by
 have key:∀ (l:List Int) (i:Int),i∈l->lkz l l i=some i:=by
  intro l
  induction l with
  | nil=>intro i h;cases h
  | cons a l ih =>
   intro i h;simp only[lkz];by_cases e:a=i
   ·rw[if_pos e,e]
   ·rw[if_neg e]
    exact ih i ((mem_cons.1 h).resolve_left (fun q=>e q.symm))
 intro n k h;refine key _ _ ?_;unfold dU;exact List.mem_map.2 ⟨k,mem_range.2 h,rfl⟩
theorem CM (g:List It):cB (g.map (phi g))=dU (cB g).length:=by
 have hnd:∀ (f:List It) (l:List Int),l.Nodup->(f.foldl gA l).Nodup:=by
  intro f
  induction f with
  | nil=>intro l h;exact h
  | cons x f ih =>
   intro l h;refine ih _ ?_;unfold gA;split
   ·rename_i q
    rw[nodup_append];exact⟨h,by simp,fun a ha b hb=>by simp only[mem_singleton] at hb;rw[hb];exact fun e=>q.2 (e ▸ ha)⟩
   ·exact h
 have hN:(cB g).Nodup:=hnd g [] nodup_nil
 have hsig:∀ (j:Nat) (i:Int),(cB g)[j]?=some i->sig g i=(j:Int)+1:=by
  intro j i hj;obtain⟨j',h1,h2⟩:=xA _ _ _ _ (n8 (mem_of_getElem? hj));have hjl:j < (cB g).length:=by
   by_cases q:j < (cB g).length
   ·exact q
   ·rw[getElem?_eq_none (by omega)] at hj;cases hj
  have e:j=j':=(getElem?_inj hjl hN).1 (by rw[hj,h1]);rw[<- e] at h2;exact (vB h2).1
 have key:∀ (f h:List It),h++f=g->(f.map (phi g)).foldl gA (dU (cB h).length)=dU (cB g).length/\∃ r,cB g=cB h++r:=by
  intro f
  induction f with
  | nil =>
   intro h e;rw[append_nil] at e;subst e;exact⟨rfl,[],by simp⟩
  | cons x f ih =>
   intro h e;have e2:(h++[x])++f=g:=by rw[append_assoc];exact e
   obtain⟨i1,r,i2⟩:=ih (h++[x]) e2;have en:cB (h++[x])=gA (cB h) x:=by unfold cB;rw[foldl_append];rfl
   have hx:x∈g:=by rw[<- e];simp
   rw[map_cons,foldl_cons];have step:gA (dU (cB h).length) (phi g x)=dU (cB (h++[x])).length:=by
    rw[en];unfold gA;rw[vG];by_cases ht:bD x=true
    ·have ep:(phi g x).2.2=sig g x.2.2:=by unfold phi;rw[if_pos ht]
     rw[ep];by_cases hm:x.2.2∈cB h
     ·obtain⟨j,hj⟩:=mem_iff_getElem?.1 hm
      have hjl:j < (cB h).length:=by
       by_cases q:j < (cB h).length
       ·exact q
       ·rw[getElem?_eq_none (by omega)] at hj;cases hj
      have hjg:(cB g)[j]?=some x.2.2:=by
       rw[i2,en];unfold gA;rw[if_neg (fun z=>z.2 hm),getElem?_append_left hjl,hj]
      have es:=hsig j _ hjg;have hmem:sig g x.2.2∈dU (cB h).length:=by
       rw[es];unfold dU;exact List.mem_map.2 ⟨j,mem_range.2 hjl,rfl⟩
      rw[if_neg (fun z=>z.2 hmem),if_neg (fun z=>z.2 hm)]
     ·have hjg:(cB g)[(cB h).length]?=some x.2.2:=by
       rw[i2,en];unfold gA;rw[if_pos ⟨ht,hm⟩,append_assoc,getElem?_append_right (Nat.le_refl _),Nat.sub_self];rfl
      have es:=hsig _ _ hjg;have hmem:sig g x.2.2 ∉ dU (cB h).length:=by
       rw[es];intro q;unfold dU at q;obtain⟨a,ha,hb⟩:=List.mem_map.1 q
       have:=mem_range.1 ha
       omega
      rw[if_pos ⟨ht,hmem⟩,if_pos ⟨ht,hm⟩,es,length_append,length_singleton,D8]
    ·rw[if_neg (fun z=>ht z.1),if_neg (fun z=>ht z.1)]
   rw[step];refine⟨i1,?_⟩;rw[i2,en];unfold gA;split
   ·exact⟨x.2.2 :: r,by simp⟩
   ·exact⟨r,rfl⟩
 have:=(key g [] rfl).1
 exact this
theorem QT {f:List It} {x:It} (h:bD x=true):phi f x=(x.1,x.2.1,sig f x.2.2):=by unfold phi;rw[if_pos h]
theorem GS (g:List It):∀ x∈g,phi (g.map (phi g)) (phi g x)=phi g x:=by
 intro x hx;by_cases ht:bD x=true
 ·have ep:phi g x=(x.1,x.2.1,sig g x.2.2):=by unfold phi;rw[if_pos ht]
  have hb:=LC (oJ hx ht);have htp:bD (phi g x)=true:=by rw[vG];exact ht
  have e:phi (g.map (phi g)) (phi g x)=((phi g x).1,(phi g x).2.1,sig (g.map (phi g)) (phi g x).2.2):=QT htp;rw[e,ep];simp only[]
  have:sig (g.map (phi g)) (sig g x.2.2)=sig g x.2.2:=by
   unfold sig;rw[CM,fO];have hk:=MU (cB g).length (sig g x.2.2 - 1).toNat (by omega);have ec:(((sig g x.2.2 - 1).toNat:Nat):Int)+1=sig g x.2.2:=by omega
   rw[ec] at hk;unfold sig at hk;rw[hk];rfl
  rw[this]
 ·have ep:phi g x=x:=by unfold phi;rw[if_neg ht]
  rw[ep];unfold phi;rw[if_neg ht]
theorem ET (g:List It):(cB g).Nodup:=by
 have hnd:∀ (f:List It) (l:List Int),l.Nodup->(f.foldl gA l).Nodup:=by
  intro f
  induction f with
  | nil=>intro l h;exact h
  | cons x f ih =>
   intro l h;refine ih _ ?_;unfold gA;split
   ·rename_i q
    rw[nodup_append];exact⟨h,by simp,fun a ha b hb=>by simp only[mem_singleton] at hb;rw[hb];exact fun e=>q.2 (e ▸ ha)⟩
   ·exact h
 exact hnd g [] nodup_nil
theorem JL {g:List It} {i:Int} (h:i∈cB g):∃ x∈g,bD x=true/\x.2.2=i:=by
 have key:∀ (f:List It) (l:List Int),i∈f.foldl gA l->i∈l\/∃ x∈f,bD x=true/\x.2.2=i:=by
  intro f
  induction f with
  | nil=>intro l h;exact .inl h
  | cons x f ih =>
   intro l h;rcases ih _ h with q | ⟨y,h1,h2⟩
   ·unfold gA at q
    split at q
    ·rename_i z
     rcases mem_append.1 q with q | q
     ·exact .inl q
     ·exact .inr ⟨x,mem_cons_self ..,z.1,(mem_singleton.1 q).symm⟩
    ·exact .inl q
   ·exact .inr ⟨y,mem_cons_of_mem _ h1,h2⟩
 rcases key g [] h with q | q
 ·cases q
 ·exact q
theorem TS {f:List It} (h:VL f):∀ x∈f,x.1≠1->wfX x:=by
 have key:∀ (n:Nat) (f:List It),f.length=n->VL f->∀ x∈f,x.1≠1->wfX x:=by
  intro n
  induction n with
  | zero=>intro f hf _ x hx;rw[eq_nil_of_length_eq_zero hf] at hx;cases hx
  | succ n ih =>
   intro f hf hv x hx;rcases fQ f with rfl | ⟨g,y,rfl⟩
   ·simp at hf
   ·obtain⟨a,b⟩:=(cJ g y).1 hv
    rcases mem_append.1 hx with q | q
    ·exact ih g (by simp at hf;exact hf) a x q
    ·rw[mem_singleton.1 q]
     exact BL b
 exact key _ f rfl h
theorem zAY {x:It} (h:wfX x) (ht:bD x=true):1<=x.2.2/\x.2.2<=999:=by
 unfold bD at ht;rcases h with ⟨h1,_⟩ | ⟨h1,_⟩ | ⟨_,_,h⟩ | ⟨_,_,h⟩
 ·rw[h1] at ht;simp at ht
 ·rw[h1] at ht;simp at ht
 ·exact h
 ·exact h
theorem kP {s t:List It} (hs:vld s=0) (ht:vld t=0):(cB (s++t)).length<=999:=by
 have hsub:cB (s++t) ⊆ dU 999:=by
  intro i hi;obtain⟨x,hx,h1,h2⟩:=JL hi;have hw:wfX x:=by
   have hk:x.1≠1:=fun q=>by unfold bD at h1;rw[q] at h1;simp at h1
   rcases mem_append.1 hx with q | q
   ·exact TS ((cX s).1 hs).1 x q hk
   ·exact TS ((cX t).1 ht).1 x q hk
  have:=zAY hw h1
  unfold dU;exact List.mem_map.2 ⟨(i - 1).toNat,mem_range.2 (by omega),by omega⟩
 have:=(ET (s++t)).length_le_of_subset hsub
 rw[fO] at this;exact this
theorem S2 {s t:List It} (hs:vld s=0) (ht:vld t=0):hZ (hZ s t) (iH s t)=hZ s t/\iH (hZ s t) (iH s t)=iH s t:=by
 have hn:=kP hs ht;obtain⟨e1,v1⟩:=jA hn hs;obtain⟨e2,v2⟩:=i9 hn ht;have hl:(cB (hZ s t++iH s t)).length<=999:=by rw[e1,e2,<- map_append,CM,fO];exact hn
 obtain⟨e3,_⟩:=jA (t:=iH s t) hl v1;obtain⟨e4,_⟩:=i9 (s:=hZ s t) hl v2;have eg:hZ s t++iH s t=(s++t).map (phi (s++t)):=by rw[e1,e2,map_append]
 rw[e3,e4,eg,e1,e2,map_map,map_map];constructor
 ·refine map_congr_left fun x hx=>?_
  exact GS (s++t) x (by simp [hx])
 ·refine map_congr_left fun x hx=>?_
  exact GS (s++t) x (by simp [hx])
end Go.Nt
namespace Go.Nt
abbrev ltB (a b:Bs):Bool:=Op.bytesLess a b
theorem G4 (a:Bs):ltB a []=false:=by cases a<;>rfl
theorem A0 (a b:UInt8) (x y:Bs):ltB (a :: x) (b :: y)=(decide (a < b) || (a == b && ltB x y)):=rfl
theorem iW:∀ a:Bs,ltB a a=false
 | []=>rfl
 | a :: x=>by
  rw[A0,iW x,Bool.and_false,Bool.or_false,decide_eq_false_iff_not];exact UInt8.lt_irrefl a
theorem jH:∀ a b:Bs,ltB a b=false->a≠b->ltB b a=true
 | [],[],_,h=>absurd rfl h
 | [],b :: y,h,_=>by cases h
 | a :: x,[],_,_=>rfl
 | a :: x,b :: y,h,hne=>by
  rw[A0,Bool.or_eq_false_iff,decide_eq_false_iff_not] at h;rw[A0,Bool.or_eq_true,decide_eq_true_iff];by_cases e:a=b
  ·subst e
   refine .inr ?_
   have h2:=h.2;simp only[beq_self_eq_true,Bool.true_and] at h2 ⊢;exact jH x y h2 (fun q=>hne (by rw[q]))
  ·refine .inl ?_
   have:=UInt8.not_lt.1 h.1
   exact UInt8.lt_of_le_of_ne this (fun q=>e q.symm)
theorem j5:∀ a b c:Bs,ltB a b=true->ltB b c=true->ltB a c=true
 | _,[],c,h,_=>by rw[G4] at h;cases h
 | _,_ :: _,[],_,h=>by rw[G4] at h;cases h
 | [],b :: y,c :: z,_,_=>rfl
 | a :: x,b :: y,c :: z,h1,h2=>by
  rw[A0,Bool.or_eq_true,decide_eq_true_iff,Bool.and_eq_true,beq_iff_eq] at h1 h2 ⊢;rcases h1 with h1 | ⟨rfl,h1⟩
  ·rcases h2 with h2 | ⟨rfl,h2⟩
   ·exact .inl (UInt8.lt_trans h1 h2)
   ·exact .inl h1
  ·rcases h2 with h2 | ⟨rfl,h2⟩
   ·exact .inl h2
   ·exact .inr ⟨rfl,j5 x y z h1 h2⟩
theorem fU {a b:Bs} (h:ltB a b=true):ltB b a=false:=by
 cases q:ltB b a with
 | false=>rfl
 | true=>have:=j5 a b a h q;rw[iW] at this;cases this
theorem tW {a b:Bs} (h:ltB a b=true):a≠b:=fun e=>by rw[e,iW] at h;cases h
def eT (a b:Bs):Int:=if ltB a b=true then -1 else if ltB b a=true then 1 else 0
def qG (a b:Int):Int:=if a < b then -1 else if b < a then 1 else 0
structure TO {α:Type} (f:α->α->Int):Prop where
 anti:∀ a b,f b a = - f a b
 le:∀ a b c,f a b<=0->f b c<=0->f a c<=0
 lt:∀ a b c,f a b<=0->f b c<=0->(f a b < 0\/f b c < 0)->f a c < 0
theorem IA:TO qG:=by
 refine⟨fun a b=>?_,fun a b c=>?_,fun a b c=>?_⟩<;>unfold qG
 ·repeat' split
  all_goals omega
 ·repeat' split
  all_goals omega
 ·repeat' split
  all_goals omega
theorem BI {a b:Bs}:eT a b < 0↔ltB a b=true:=by
 unfold eT;constructor
 ·intro h
  split at h
  ·assumption
  ·split at h<;>omega
 ·intro h;rw[if_pos h];omega
theorem lI {a b:Bs}:eT a b=0↔a=b:=by
 unfold eT;constructor
 ·intro h
  split at h
  ·omega
  ·rename_i h1
   split at h
   ·omega
   ·rename_i h2
    by_cases e:a=b
    ·exact e
    ·exact absurd (jH a b (by simpa using h1) e) h2
 ·intro h;subst h;rw[iW];rfl
theorem J2 (a b:Bs):eT b a = - eT a b:=by
 unfold eT;cases h1:ltB a b with
 | true=>rw[fU h1];rfl
 | false=>cases h2:ltB b a<;>rfl
theorem v8:TO eT:=by
 have tr:∀ a b c,eT a b<=0->eT b c<=0->(eT a b < 0\/eT b c < 0)->eT a c < 0:=by
  intro a b c h1 h2 h3;by_cases e1:a=b
  ·subst e1
   rcases h3 with q | q
   ·have:=(lI (a:=a) (b:=a)).2 rfl;omega
   ·exact q
  ·have n1:eT a b < 0:=by have:eT a b≠0:=fun q=>e1 (lI.1 q);omega
   by_cases e2:b=c
   ·subst e2;exact n1
   ·have n2:eT b c < 0:=by have:eT b c≠0:=fun q=>e2 (lI.1 q);omega
    exact BI.2 (j5 a b c (BI.1 n1) (BI.1 n2))
 refine⟨fun a b=>J2 a b,fun a b c h1 h2=>?_,tr⟩;by_cases q:eT a b < 0\/eT b c < 0
 ·have:=tr a b c h1 h2 q;omega
 ·have z1:eT a b=0:=by omega
  have z2:eT b c=0:=by omega
  have:=(lI (a:=a) (b:=c)).2 ((lI.1 z1).trans (lI.1 z2))
  omega
def lex {α:Type} (f g:α->α->Int) (a b:α):Int:=if f a b≠0 then f a b else g a b
theorem TO.z {α:Type} {f:α->α->Int} (h:TO f) {a b c:α} (h1:f a b=0) (h2:f b c=0):f a c=0:=by
 have:=h.le a b c (by omega) (by omega)
 have:=h.le c b a (by have:=h.anti b c;omega) (by have:=h.anti a b;omega)
 have:=h.anti a c
 omega
theorem TO.lex {α:Type} {f g:α->α->Int} (hf:TO f) (hg:TO g):TO (lex f g):=by
 have anti:∀ a b,Nt.lex f g b a = - Nt.lex f g a b:=by
  intro a b;unfold Nt.lex;have h1:=hf.anti a b;have h2:=hg.anti a b
  split<;>split<;>omega
 have lt:∀ a b c,Nt.lex f g a b<=0->Nt.lex f g b c<=0->(Nt.lex f g a b < 0\/Nt.lex f g b c < 0)->Nt.lex f g a c < 0:=by
  intro a b c h1 h2 h3;unfold Nt.lex at h1 h2 h3 ⊢;by_cases e1:f a b=0<;>by_cases e2:f b c=0
  ·have e3:=hf.z e1 e2
   rw[if_neg (by simp [e1])] at h1 h3;rw[if_neg (by simp [e2])] at h2 h3;rw[if_neg (by simp [e3])];exact hg.lt a b c h1 h2 h3
  ·rw[if_pos e2] at h2 h3
   have:=hf.lt a b c (by omega) h2 (.inr (by omega))
   rw[if_pos (by omega)];exact this
  ·rw[if_pos e1] at h1 h3
   have:=hf.lt a b c h1 (by omega) (.inl (by omega))
   rw[if_pos (by omega)];exact this
  ·rw[if_pos e1] at h1 h3
   rw[if_pos e2] at h2 h3
   have:=hf.lt a b c h1 h2 (.inl (by omega))
   rw[if_pos (by omega)];exact this
 refine⟨anti,fun a b c h1 h2=>?_,lt⟩;by_cases q:Nt.lex f g a b < 0\/Nt.lex f g b c < 0
 ·have:=lt a b c h1 h2 q;omega
 ·have z1:Nt.lex f g a b=0:=by omega
  have z2:Nt.lex f g b c=0:=by omega
  unfold Nt.lex at z1 z2 ⊢;by_cases e1:f a b=0
  ·by_cases e2:f b c=0
   ·have e3:=hf.z e1 e2
    rw[if_neg (by simp [e1])] at z1;rw[if_neg (by simp [e2])] at z2;rw[if_neg (by simp [e3]),hg.z z1 z2];exact Int.le_refl _
   ·rw[if_pos e2] at z2;exact absurd z2 e2
  ·rw[if_pos e1] at z1;exact absurd z1 e1
theorem TO.on {α β:Type} {f:α->α->Int} (h:TO f) (k:β->α):TO (fun x y=>f (k x) (k y)):=
 ⟨fun a b=>h.anti _ _,fun a b c=>h.le _ _ _,fun a b c=>h.lt _ _ _⟩
theorem TO.flip {α:Type} {f:α->α->Int} (h:TO f):TO (fun x y=>f y x):=
 ⟨fun a b=>h.anti _ _,fun a b c h1 h2=>h.le c b a h2 h1,fun a b c h1 h2 h3=>h.lt c b a h2 h1 (h3.elim .inr .inl)⟩
end Go.Nt
namespace Go.Nt
theorem O7 (c:UInt8):(10:UInt8) ∉ wrt c:=by
 have:=eH (fun c=>!((wrt c).contains 10)) (by decide +kernel) c
 simpa using this
theorem PC {f:List It} {x:It} (h:chk f x=0):(10:UInt8) ∉ elt x:=by
 obtain⟨k,s,i⟩:=x;by_cases hk:k=1
 ·subst hk
  show (10:UInt8) ∉ s.flatMap wrt;rw[mem_flatMap]
  rintro ⟨c,_,hc⟩
  exact O7 c hc
 ·have hw:=BL h hk
  have hd:∀ n:Nat,n<=999->(10:UInt8) ∉ Nt.dec n:=fun n hn q=>absurd (sS hn _ q) (by decide)
  have hnm:∀ t:Bs,cW t=true->(10:UInt8) ∉ t:=fun t ht q=>absurd ((iF ht).2.2 _ q) (by decide)
  have hic:∀ t:Bs,isC t=true->(10:UInt8) ∉ t:=fun t ht q=>absurd ((A6 ht).1 _ q) (by decide)
  rcases hw with ⟨h1,_⟩ | ⟨h1,h2,h3⟩ | ⟨h1,h2,h3,h4⟩ | ⟨h1,h2,h3,h4⟩
  ·exact absurd h1 hk
  ·simp only[] at h1 h2 h3
   subst h1;simp [elt,hnm s h2]
  ·simp only[] at h1 h2 h3 h4
   have hdi:=hd i.toNat (by omega);rcases h1 with rfl | rfl
   ·simp [elt,hic s h2,hdi]
   ·simp [elt,hic s h2,hdi]
  ·simp only[] at h1 h2 h3 h4
   have hdi:=hd i.toNat (by omega);subst h1;simp [elt,hnm s h2,hdi]
theorem vC {f:List It} (h:VL f):(10:UInt8) ∉ fmt f:=by
 have key:∀ (n:Nat) (f:List It),f.length=n->VL f->(10:UInt8) ∉ fmt f:=by
  intro n
  induction n with
  | zero=>intro f hf _;rw[eq_nil_of_length_eq_zero hf];simp [fmt]
  | succ n ih =>
   intro f hf hv;rcases fQ f with rfl | ⟨g,y,rfl⟩
   ·simp at hf
   ·obtain⟨a,b⟩:=(cJ g y).1 hv
    rw[pV,pU,mem_append]
    rintro (q | q)
    ·exact ih g (by simp at hf;exact hf) a q
    ·exact PC b q
 exact key _ f rfl h
theorem pI {s:Bs} (h:(aM s).2.2=0):(10:UInt8) ∉ s:=by
 obtain⟨g,b,e,hp⟩:∃ g b e,aM s=(g,b,e):=⟨(aM s).1,(aM s).2.1,(aM s).2.2,rfl⟩
 rw[hp] at h;simp only[] at h;subst h;obtain⟨h1,h2,_⟩:=eV hp;rw[<- h2];exact vC ((cX g).1 h1).1
structure En where
 S:List It
 T:List It
 p:Bs
 n:Bs
 a:Bs
 j:Bs
 c:Int
 o:Int
theorem En.eq {x y:En} (h1:x.S=y.S) (h2:x.T=y.T) (h3:x.p=y.p) (h4:x.n=y.n) (h5:x.a=y.a) (h6:x.j=y.j) (h7:x.c=y.c) (h8:x.o=y.o):x=y:=by
 cases x;cases y;simp only[] at *;subst h1;subst h2;subst h3;subst h4;subst h5;subst h6;subst h7;subst h8;rfl
def kG (s:Bs):Int:=(aM s).2.2
def iD (s:Bs):Bool:=decide (s=[]) || cW s
def vE (e:En):Int:=
 if vld e.S≠0 then vld e.S else if vld e.T≠0 then vld e.T else
 if e.S=[]\/hZ e.S e.T≠e.S\/iH e.S e.T≠e.T then 1 else
 if kG e.p≠0 then kG e.p else if kG e.n≠0 then kG e.n else
 if ¬ (iD e.a=true/\iD e.j=true) then 4 else
 if e.c < 0\/1073741824 < e.c\/e.o < 1\/3 < e.o then 1 else 0
structure VE (e:En):Prop where
 vS:vld e.S=0
 vT:vld e.T=0
 ne:e.S≠[]
 cS:hZ e.S e.T=e.S
 cT:iH e.S e.T=e.T
 pp:kG e.p=0
 pn:kG e.n=0
 na:iD e.a=true
 nj:iD e.j=true
 c0:0<=e.c
 c1:e.c<=1073741824
 o1:1<=e.o
 o3:e.o<=3
theorem lA (e:En):vE e=0↔VE e:=by
 unfold vE;constructor
 ·intro h
  split at h
  ·rename_i q;exact absurd h q
  rename_i h1
  split at h
  ·rename_i q;exact absurd h q
  rename_i h2
  split at h
  ·cases h
  rename_i h3
  split at h
  ·rename_i q;exact absurd h q
  rename_i h4
  split at h
  ·rename_i q;exact absurd h q
  rename_i h5
  split at h
  ·cases h
  rename_i h6
  split at h
  ·cases h
  rename_i h7;have h6:=Decidable.not_not.1 h6;refine⟨Decidable.not_not.1 h1,Decidable.not_not.1 h2,fun q=>h3 (.inl q),?_,?_,Decidable.not_not.1 h4,Decidable.not_not.1 h5,h6.1,h6.2,by omega,by omega,by omega,by omega⟩
  ·by_cases q:hZ e.S e.T=e.S
   ·exact q
   ·exact absurd (.inr (.inl q)) h3
  ·by_cases q:iH e.S e.T=e.T
   ·exact q
   ·exact absurd (.inr (.inr q)) h3
 ·rintro ⟨vS,vT,ne,cS,cT,pp,pn,na,nj,c0,c1,o1,o3⟩
  rw[if_neg (by simp [vS]),if_neg (by simp [vT]),if_neg (by simp [ne,cS,cT]),if_neg (by simp [pp]),if_neg (by simp [pn]),if_neg (by simp [na,nj]),if_neg (by omega)]
def fmE (f:List It):Bs:=if vld f=0 then fmt f else []
def bX (e:En):Bs:=fmE e.S++10 :: (e.p++10 :: e.n)
def aG (e:En):Bs:=if vE e=0 then bX e else []
theorem HO {e:En} (h:VE e):aG e=fmt e.S++10 :: (e.p++10 :: e.n):=by
 unfold aG bX fmE;rw[if_pos ((lA e).2 h),if_pos h.vS]
theorem RM {x y:En} (hx:VE x) (hy:VE y):aG x=aG y↔x.S=y.S/\x.p=y.p/\x.n=y.n:=by
 rw[HO hx,HO hy];constructor
 ·intro h
  have t1:=vC ((cX _).1 hx.vS).1;have t2:=vC ((cX _).1 hy.vS).1;have c1:=gU t1 (x.p++10 :: x.n);rw[h,gU t2] at c1;simp only[Option.some.injEq,Prod.mk.injEq] at c1;obtain⟨e1,e2⟩:=c1;have c2:=gU (pI hx.pp) x.n;rw[<- e2,gU (pI hy.pp)] at c2;simp only[Option.some.injEq,Prod.mk.injEq] at c2;exact⟨(H2 hy.vS hx.vS e1).symm,c2.1.symm,c2.2.symm⟩
 ·rintro ⟨h1,h2,h3⟩
  rw[h1,h2,h3]
def gM:En->En->Int:=lex (fun x y=>eT (aG x) (aG y)) (lex (fun x y=>qG x.c y.c) (lex (fun x y=>qG y.o x.o) (lex (fun x y=>eT x.a y.a) (lex (fun x y=>eT x.j y.j) (fun x y=>eT (fmE x.T) (fmE y.T))))))
theorem pY:TO gM:=by
 unfold gM;exact (v8.on aG).lex ((IA.on En.c).lex ((IA.flip.on En.o).lex ((v8.on En.a).lex ((v8.on En.j).lex (v8.on (fun e:En=>fmE e.T))))))
theorem C0 {α:Type} {f g:α->α->Int} {a b:α}:lex f g a b=0↔f a b=0/\g a b=0:=by
 unfold lex;split
 ·rename_i h;exact⟨fun q=>absurd q h,fun q=>q.1⟩
 ·rename_i h
  have h:=Decidable.not_not.1 h;exact⟨fun q=>⟨h,q⟩,fun q=>q.2⟩
theorem N0 {a b:Int}:qG a b=0↔a=b:=by
 unfold qG;constructor
 ·intro h
  split at h
  ·omega
  ·split at h<;>omega
 ·intro h;subst h;rw[if_neg (by omega),if_neg (by omega)]
theorem YK {x y:En} (hx:VE x) (hy:VE y):gM x y=0↔x=y:=by
 unfold gM;rw[C0,C0,C0,C0,C0,lI,N0,N0,lI,lI,lI,RM hx hy];constructor
 ·rintro ⟨⟨h1,h2,h3⟩,h4,h5,h6,h7,h8⟩
  unfold fmE at h8;rw[if_pos hx.vT,if_pos hy.vT] at h8;exact En.eq h1 (H2 hx.vT hy.vT h8) h2 h3 h6 h7 h4 h5.symm
 ·rintro rfl
  exact⟨⟨rfl,rfl,rfl⟩,rfl,rfl,rfl,rfl,rfl⟩
end Go.Nt
namespace Go.Nt
def Sr (m:List En):Prop:=m.Pairwise fun x y=>ltB (aG x) (aG y)=true
def Mem (m:List En):Prop:=(∀ e∈m,VE e)/\Sr m
theorem mV:Mem []:=⟨fun e h=>(by cases h),List.Pairwise.nil⟩
def dL (m:List En) (k:Bs):Option En:=m.find? fun e=>aG e == k
theorem eS (x:En) (m:List En) (k:Bs):dL (x :: m) k=if aG x=k then some x else dL m k:=by
 unfold dL;rw[find?_cons];by_cases h:aG x=k
 ·have:(aG x == k)=true:=by simpa using h
  rw[this,if_pos h]
 ·have:(aG x == k)=false:=by simpa using h
  rw[this,if_neg h]
theorem zK {m:List En} {k:Bs} (h:∀ e∈m,aG e≠k):dL m k=none:=by
 unfold dL;rw[find?_eq_none];intro e he q;exact h e he (by simpa using q)
theorem fG {m:List En} {k:Bs} {e:En} (h:dL m k=some e):e∈m/\aG e=k:=by
 unfold dL at h;exact⟨mem_of_find?_eq_some h,by simpa using find?_some h⟩
theorem HY {x:En} {m:List En} (h:Sr (x :: m)) {k:Bs} (hk:ltB k (aG x)=true):dL (x :: m) k=none:=by
 refine zK fun e he=>?_
 rcases mem_cons.1 he with rfl | he
 ·exact (tW hk).symm
 ·have:=(pairwise_cons.1 h).1 e he
  exact (tW (j5 _ _ _ hk this)).symm
theorem JW {x:En} {m:List En} (h:Sr (x :: m)):dL m (aG x)=none:=
 zK fun e he=>(tW ((pairwise_cons.1 h).1 e he)).symm
theorem sN {m:List En} (h:Sr m) {e:En} (he:e∈m):dL m (aG e)=some e:=by
 induction m with
 | nil=>cases he
 | cons x m ih =>
  rw[eS];rcases mem_cons.1 he with rfl | he
  ·rw[if_pos rfl]
  ·have:=(pairwise_cons.1 h).1 e he
   rw[if_neg (tW this)];exact ih (pairwise_cons.1 h).2 he
theorem KX:∀ {a b:List En},Sr a->Sr b->(∀ e,e∈a↔e∈b)->a=b
 | [],[],_,_,_=>rfl
 | [],y :: b,_,_,h=>absurd ((h y).2 (mem_cons_self ..)) (by simp)
 | x :: a,[],_,_,h=>absurd ((h x).1 (mem_cons_self ..)) (by simp)
 | x :: a,y :: b,ha,hb,h=>by
  obtain⟨a1,a2⟩:=pairwise_cons.1 ha;obtain⟨b1,b2⟩:=pairwise_cons.1 hb;have e:x=y:=by
   rcases mem_cons.1 ((h x).1 (mem_cons_self ..)) with q | q
   ·exact q
   ·rcases mem_cons.1 ((h y).2 (mem_cons_self ..)) with r | r
    ·exact r.symm
    ·have h1:=b1 x q
     have h2:=a1 y r;rw[fU h1] at h2;cases h2
  subst e
  congr 1
  refine KX a2 b2 fun z=>?_
  constructor
  ·intro q
   rcases mem_cons.1 ((h z).1 (mem_cons_of_mem _ q)) with r | r
   ·subst r;have:=a1 z q;rw[iW] at this;cases this
   ·exact r
  ·intro q
   rcases mem_cons.1 ((h z).2 (mem_cons_of_mem _ q)) with r | r
   ·subst r;have:=b1 z q;rw[iW] at this;cases this
   ·exact r
theorem vK {a b:List En} (ha:Sr a) (hb:Sr b) (h:∀ k,dL a k=dL b k):a=b:=by
 refine KX ha hb fun e=>?_
 constructor
 ·intro q
  have:=sN ha q
  rw[h] at this;exact (fG this).1
 ·intro q
  have:=sN hb q
  rw[<- h] at this;exact (fG this).1
def bel (k:Bs) (m:List En):List En:=m.filter fun e=>ltB (aG e) k
def abv (k:Bs) (m:List En):List En:=m.filter fun e=>ltB k (aG e)
theorem qT {m:List En} (h:Sr m) {k:Bs} (hn:dL m k=none):m=bel k m++abv k m:=by
 induction m with
 | nil=>rfl
 | cons x m ih =>
  obtain⟨h1,h2⟩:=pairwise_cons.1 h;rw[eS] at hn;by_cases e:aG x=k
  ·rw[if_pos e] at hn;cases hn
  rw[if_neg e] at hn;unfold bel abv;rw[filter_cons,filter_cons];cases hl:ltB (aG x) k with
  | true =>
   rw[fU hl];simp only[if_true,Bool.false_eq_true,if_false,cons_append]
   congr 1
   exact ih h2 hn
  | false =>
   have hg:=jH _ _ hl e;rw[hg];simp only[if_true,Bool.false_eq_true,if_false];have e1:m.filter (fun e=>ltB (aG e) k)=[]:=by
    rw[filter_eq_nil_iff];intro z hz;rw[fU (j5 _ _ _ hg (h1 z hz))];simp
   have e2:m.filter (fun e=>ltB k (aG e))=m:=by
    rw[filter_eq_self];intro z hz;exact j5 _ _ _ hg (h1 z hz)
   rw[e1,e2,nil_append]
theorem mQ {m:List En} (h:Sr m) {k:Bs} {x:En} (hs:dL m k=some x):m=bel k m++x :: abv k m:=by
 induction m with
 | nil=>cases hs
 | cons y m ih =>
  obtain⟨h1,h2⟩:=pairwise_cons.1 h;rw[eS] at hs;unfold bel abv;rw[filter_cons,filter_cons];by_cases e:aG y=k
  ·rw[if_pos e] at hs
   cases hs;subst e;rw[iW];simp only[Bool.false_eq_true,if_false];have e1:m.filter (fun e=>ltB (aG e) (aG x))=[]:=by
    rw[filter_eq_nil_iff];intro z hz;rw[fU (h1 z hz)];simp
   have e2:m.filter (fun e=>ltB (aG x) (aG e))=m:=by
    rw[filter_eq_self];exact h1
   rw[e1,e2,nil_append]
  ·rw[if_neg e] at hs
   obtain⟨q1,q2⟩:=fG hs;have hl:ltB (aG y) k=true:=by rw[<- q2];exact h1 x q1
   rw[hl,fU hl];simp only[if_true,Bool.false_eq_true,if_false,cons_append]
   congr 1
   exact ih h2 hs
def jG (m:List En) (e:En):List En:=bel (aG e) m++e :: abv (aG e) m
theorem VS {m:List En} (h:Sr m) (k:Bs):Sr (bel k m):=h.filter _
theorem VT {m:List En} (h:Sr m) (k:Bs):Sr (abv k m):=h.filter _
theorem AY {k:Bs} {m:List En} {e:En}:e∈bel k m↔e∈m/\ltB (aG e) k=true:=by unfold bel;rw[mem_filter]
theorem sI {k:Bs} {m:List En} {e:En}:e∈abv k m↔e∈m/\ltB k (aG e)=true:=by unfold abv;rw[mem_filter]
theorem AI {m:List En} (h:Sr m) (e:En):Sr (jG m e):=by
 unfold jG Sr;rw[pairwise_append];refine⟨VS h _,pairwise_cons.2 ⟨fun z hz=>(sI.1 hz).2,VT h _⟩,fun a ha b hb=>?_⟩;have h1:=(AY.1 ha).2;rcases mem_cons.1 hb with rfl | hb
 ·exact h1
 ·exact j5 _ _ _ h1 (sI.1 hb).2
theorem sH {m:List En} {e z:En}:z∈jG m e↔z=e\/(z∈m/\aG z≠aG e):=by
 unfold jG;rw[mem_append,mem_cons,AY,sI];constructor
 ·rintro (⟨h1,h2⟩ | h | ⟨h1,h2⟩)
  ·exact .inr ⟨h1,tW h2⟩
  ·exact .inl h
  ·exact .inr ⟨h1,(tW h2).symm⟩
 ·rintro (h | ⟨h1,h2⟩)
  ·exact .inr (.inl h)
  ·cases hl:ltB (aG z) (aG e) with
   | true=>exact .inl ⟨h1,rfl⟩
   | false=>exact .inr (.inr ⟨h1,jH _ _ hl h2⟩)
theorem MO {m:List En} (h:Mem m) {e:En} (he:VE e):Mem (jG m e):=
 ⟨fun z hz=>(sH.1 hz).elim (fun q=>by rw[q];exact he) (fun q=>h.1 z q.1),AI h.2 e⟩
theorem DA {m:List En} (h:Sr m) {k:Bs} {e:En}:dL m k=some e↔e∈m/\aG e=k:=
 ⟨fG,fun ⟨h1,h2⟩=>by rw[<- h2];exact sN h h1⟩
theorem QY {α:Type} {a b:Option α} (h:∀ x,a=some x↔b=some x):a=b:=by
 cases a with
 | none=>cases b with
  | none=>rfl
  | some y=>exact absurd ((h y).2 rfl) (by simp)
 | some x=>exact ((h x).1 rfl).symm
theorem HW {m:List En} (h:Sr m) (e:En) (k:Bs):dL (jG m e) k=if k=aG e then some e else dL m k:=by
 refine QY fun x=>?_
 rw[DA (AI h e),sH];by_cases q:k=aG e
 ·rw[if_pos q]
  constructor
  ·rintro ⟨h1 | ⟨h1,h2⟩,h3⟩
   ·rw[h1]
   ·exact absurd (h3.trans q) h2
  ·intro h1
   cases h1;exact⟨.inl rfl,q.symm⟩
 ·rw[if_neg q,DA h]
  constructor
  ·rintro ⟨h1 | ⟨h1,h2⟩,h3⟩
   ·rw[h1] at h3;exact absurd h3.symm q
   ·exact⟨h1,h3⟩
  ·rintro ⟨h1,h2⟩
   exact⟨.inr ⟨h1,fun z=>q (h2.symm.trans z)⟩,h2⟩
theorem QR {m:List En} (h:Sr m) (e:En):(jG m e).length=if (dL m (aG e)).isSome=true then m.length else m.length+1:=by
 unfold jG;cases hg:dL m (aG e) with
 | none =>
  have:=congrArg List.length (qT h hg)
  rw[length_append] at this;simp only[length_append,length_cons,Option.isSome_none,Bool.false_eq_true,if_false];omega
 | some x =>
  have:=congrArg List.length (mQ h hg)
  rw[length_append,length_cons] at this;simp only[length_append,length_cons,Option.isSome_some,if_true];omega
def mxE:Option En->Option En->Option En
 | none,y=>y
 | some x,none=>some x
 | some x,some y=>some (if gM x y < 0 then y else x)
def uni:List En->List En->List En
 | [],b=>b
 | x :: a,[]=>x :: a
 | x :: a,y :: b=>if ltB (aG x) (aG y)=true then x :: uni a (y :: b) else if ltB (aG y) (aG x)=true then y :: uni (x :: a) b else (if gM x y < 0 then y else x) :: uni a b
termination_by a b=>a.length+b.length
theorem pG (a:List En):uni a []=a:=by cases a<;>simp [uni]
theorem sC (b:List En):uni [] b=b:=by simp [uni]
theorem nX (x y:En) (a b:List En):uni (x :: a) (y :: b)=if ltB (aG x) (aG y)=true then x :: uni a (y :: b) else if ltB (aG y) (aG x)=true then y :: uni (x :: a) b else (if gM x y < 0 then y else x) :: uni a b:=by
 conv=>lhs;unfold uni
theorem kH:∀ (n:Nat) (a b:List En),a.length+b.length<=n->∀ e∈uni a b,e∈a\/e∈b
 | _,[],b,_,e,h=>by rw[sC] at h;exact .inr h
 | _,x :: a,[],_,e,h=>by rw[pG] at h;exact .inl h
 | 0,x :: a,y :: b,hn,e,h=>by simp at hn
 | n+1,x :: a,y :: b,hn,e,h=>by
  simp only[length_cons] at hn;rw[nX] at h
  split at h
  ·rcases mem_cons.1 h with q | q
   ·exact .inl (by rw[q];exact mem_cons_self ..)
   ·rcases kH n a (y :: b) (by simp;omega) e q with r | r
    ·exact .inl (mem_cons_of_mem _ r)
    ·exact .inr r
  ·split at h
   ·rcases mem_cons.1 h with q | q
    ·exact .inr (by rw[q];exact mem_cons_self ..)
    ·rcases kH n (x :: a) b (by simp;omega) e q with r | r
     ·exact .inl r
     ·exact .inr (mem_cons_of_mem _ r)
   ·rcases mem_cons.1 h with q | q
    ·split at q
     ·exact .inr (by rw[q];exact mem_cons_self ..)
     ·exact .inl (by rw[q];exact mem_cons_self ..)
    ·rcases kH n a b (by omega) e q with r | r
     ·exact .inl (mem_cons_of_mem _ r)
     ·exact .inr (mem_cons_of_mem _ r)
theorem AA:∀ (n:Nat) (a b:List En),a.length+b.length<=n->Sr a->Sr b->Sr (uni a b)
 | _,[],b,_,_,hb=>by rw[sC];exact hb
 | _,x :: a,[],_,ha,_=>by rw[pG];exact ha
 | 0,x :: a,y :: b,hn,_,_=>by simp at hn
 | n+1,x :: a,y :: b,hn,ha,hb=>by
  simp only[length_cons] at hn;obtain⟨a1,a2⟩:=pairwise_cons.1 ha;obtain⟨b1,b2⟩:=pairwise_cons.1 hb;rw[nX];split
  ·rename_i hl
   refine pairwise_cons.2 ⟨fun z hz=>?_,AA n a (y :: b) (by simp;omega) a2 hb⟩;rcases kH _ a (y :: b) (Nat.le_refl _) z hz with r | r
   ·exact a1 z r
   ·rcases mem_cons.1 r with rfl | r
    ·exact hl
    ·exact j5 _ _ _ hl (b1 z r)
  ·split
   ·rename_i _ hl
    refine pairwise_cons.2 ⟨fun z hz=>?_,AA n (x :: a) b (by simp;omega) ha b2⟩;rcases kH _ (x :: a) b (Nat.le_refl _) z hz with r | r
    ·rcases mem_cons.1 r with rfl | r
     ·exact hl
     ·exact j5 _ _ _ hl (a1 z r)
    ·exact b1 z r
   ·rename_i h1 h2
    have e:aG x=aG y:=by
     by_cases q:aG x=aG y
     ·exact q
     ·exact absurd (jH _ _ (by simpa using h1) q) h2
    refine pairwise_cons.2 ⟨fun z hz=>?_,AA n a b (by omega) a2 b2⟩;have ek:aG (if gM x y < 0 then y else x)=aG x:=by split<;>simp [e]
    rw[ek];rcases kH _ a b (Nat.le_refl _) z hz with r | r
    ·exact a1 z r
    ·rw[e];exact b1 z r
theorem iG:∀ (n:Nat) (a b:List En),a.length+b.length<=n->Sr a->Sr b->∀ k,dL (uni a b) k=mxE (dL a k) (dL b k)
 | _,[],b,_,_,hb,k=>by rw[sC];rfl
 | _,x :: a,[],_,ha,_,k=>by
  rw[pG]
  cases dL (x :: a) k<;>rfl
 | 0,x :: a,y :: b,hn,_,_,k=>by simp at hn
 | n+1,x :: a,y :: b,hn,ha,hb,k=>by
  simp only[length_cons] at hn;obtain⟨a1,a2⟩:=pairwise_cons.1 ha;obtain⟨b1,b2⟩:=pairwise_cons.1 hb;rw[nX];split
  ·rename_i hl
   rw[eS,iG n a (y :: b) (by simp;omega) a2 hb k,eS x a];by_cases q:aG x=k
   ·rw[if_pos q,if_pos q,HY hb (by rw[<- q];exact hl)];rfl
   ·rw[if_neg q,if_neg q]
  ·split
   ·rename_i _ hl
    rw[eS,iG n (x :: a) b (by simp;omega) ha b2 k,eS y b];by_cases q:aG y=k
    ·rw[if_pos q,if_pos q,HY ha (by rw[<- q];exact hl)];rfl
    ·rw[if_neg q,if_neg q]
   ·rename_i h1 h2
    have e:aG x=aG y:=by
     by_cases q:aG x=aG y
     ·exact q
     ·exact absurd (jH _ _ (by simpa using h1) q) h2
    rw[eS,iG n a b (by omega) a2 b2 k,eS x a,eS y b];have ek:aG (if gM x y < 0 then y else x)=aG x:=by split<;>simp [e]
    rw[ek,<- e];by_cases q:aG x=k
    ·rw[if_pos q,if_pos q,if_pos q];rfl
    ·rw[if_neg q,if_neg q,if_neg q]
theorem gT {a b:List En} (ha:Mem a) (hb:Mem b):Mem (uni a b):=
 ⟨fun e he=>(kH _ a b (Nat.le_refl _) e he).elim (ha.1 e) (hb.1 e),AA _ a b (Nat.le_refl _) ha.2 hb.2⟩
theorem kI:∀ (n:Nat) (a b:List En),a.length+b.length<=n->(uni a b).length<=a.length+b.length
 | _,[],b,_=>by rw[sC];simp
 | _,x :: a,[],_=>by rw[pG];simp
 | 0,x :: a,y :: b,hn=>by simp at hn
 | n+1,x :: a,y :: b,hn=>by
  simp only[length_cons] at hn;rw[nX];split
  ·have:=kI n a (y :: b) (by simp;omega)
   simp only[length_cons] at this ⊢;omega
  ·split
   ·have:=kI n (x :: a) b (by simp;omega)
    simp only[length_cons] at this ⊢;omega
   ·have:=kI n a b (by omega)
    simp only[length_cons] at this ⊢;omega
theorem xG {m:List En} (h:Mem m) {k:Bs} {e:En} (hg:dL m k=some e):VE e:=h.1 e (fG hg).1
theorem Q0 {x y:En} (hx:VE x) (hy:VE y):(if gM x y < 0 then y else x)=if gM y x < 0 then x else y:=by
 have ha:=pY.anti x y;by_cases z:gM x y=0
 ·have e:=(YK hx hy).1 z
  subst e
  split<;>rfl
 ·by_cases l:gM x y < 0
  ·rw[if_pos l,if_neg (by omega)]
  ·rw[if_neg l,if_pos (by omega)]
theorem KK {a b:List En} (ha:Mem a) (hb:Mem b):uni a b=uni b a:=by
 refine vK (gT ha hb).2 (gT hb ha).2 fun k=>?_
 rw[iG _ a b (Nat.le_refl _) ha.2 hb.2,iG _ b a (Nat.le_refl _) hb.2 ha.2];cases h1:dL a k with
 | none=>cases h2:dL b k<;>rfl
 | some x =>
  cases h2:dL b k with
  | none=>rfl
  | some y =>
   show some _=some _;rw[Q0 (xG ha h1) (xG hb h2)]
theorem MJ {x y z:En} (hx:VE x) (hy:VE y) (hz:VE z):(if gM (if gM x y < 0 then y else x) z < 0 then z else (if gM x y < 0 then y else x))=if gM x (if gM y z < 0 then z else y) < 0 then (if gM y z < 0 then z else y) else x:=by
 by_cases l1:gM x y < 0
 ·rw[if_pos l1]
  by_cases l2:gM y z < 0
  ·rw[if_pos l2]
   have:=pY.lt x y z (by omega) (by omega) (.inl l1)
   rw[if_pos this]
  ·rw[if_neg l2,if_pos l1]
 ·rw[if_neg l1]
  by_cases l2:gM y z < 0
  ·rw[if_pos l2]
  ·rw[if_neg l2,if_neg l1]
   have a1:=pY.anti x y;have a2:=pY.anti y z;have a3:=pY.anti x z
   have:=pY.le z y x (by omega) (by omega)
   rw[if_neg (by omega)]
theorem IZ {a b c:List En} (ha:Mem a) (hb:Mem b) (hc:Mem c):uni (uni a b) c=uni a (uni b c):=by
 have hab:=gT ha hb;have hbc:=gT hb hc;refine vK (gT hab hc).2 (gT ha hbc).2 fun k=>?_
 rw[iG _ _ c (Nat.le_refl _) hab.2 hc.2,iG _ a _ (Nat.le_refl _) ha.2 hbc.2,iG _ a b (Nat.le_refl _) ha.2 hb.2,iG _ b c (Nat.le_refl _) hb.2 hc.2];cases h1:dL a k with
 | none=>cases h2:dL b k<;>cases h3:dL c k<;>rfl
 | some x =>
  cases h2:dL b k with
  | none=>cases h3:dL c k<;>rfl
  | some y =>
   cases h3:dL c k with
   | none=>rfl
   | some z =>
    show some _=some _;rw[MJ (xG ha h1) (xG hb h2) (xG hc h3)]
theorem KI {a:List En} (ha:Mem a):uni a a=a:=by
 refine vK (gT ha ha).2 ha.2 fun k=>?_
 rw[iG _ a a (Nat.le_refl _) ha.2 ha.2];cases h1:dL a k with
 | none=>rfl
 | some x =>
  show some _=some _
  split<;>rfl
end Go.Nt
namespace Go.Nt
theorem FN (x:It):∀ f:List It,f.any (dJ x)=(tg f).any (dJ x)
 | []=>rfl
 | y :: f=>by
  have ih:=FN x f;unfold tg at ih ⊢;rw[any_cons,ih,filter_cons];cases h:bD y with
  | true=>simp only[if_true,any_cons]
  | false =>
   have:dJ x y=false:=by unfold dJ;rw[h];rfl
   rw[this,Bool.false_or];simp only[Bool.false_eq_true,if_false]
theorem U8 {f g:List It} {x:It} (hx:x.1≠1):wfB f x=wfB g x:=by
 unfold wfB;rw[if_neg hx,if_neg hx]
theorem YM {f g:List It} {x:It} (hx:x.1≠1) (h:tg f=tg g):chk f x=chk g x:=by
 rw[pZ,pZ,U8 (g:=g) hx];unfold sO;rw[FN x f,FN x g,h]
theorem L2 {f g:List It} {x:It} (hx:x.1≠1) (hf:VL f) (ht:tg f=tg g) (hc:chk g x=0):pn f x=f++[x]/\VL (pn f x)/\tg (pn f x)=tg (g++[x]):=by
 have e:pn f x=f++[x]:=by unfold pn;rw[if_neg hx]
 refine⟨e,?_,?_⟩
 ·rw[e]
  exact (cJ f x).2 ⟨hf,by rw[YM hx ht];exact hc⟩
 ·rw[e,fP,fP,ht]
theorem mkVE {f t:List It} {p n a j:Bs} {c o:Int} (hf:vld f=0) (ht:vld t=0) (hne:f≠[]) (pp:kG p=0) (pn:kG n=0) (na:iD a=true) (nj:iD j=true) (c0:0<=c) (c1:c<=1073741824) (o1:1<=o) (o3:o<=3):VE ⟨hZ f t,iH f t,p,n,a,j,c,o⟩:=by
 have hl:=kP hf ht;obtain⟨e1,v1⟩:=jA hl hf;obtain⟨e2,v2⟩:=i9 hl ht;obtain⟨q1,q2⟩:=S2 hf ht;exact⟨v1,v2,by show hZ f t≠[];rw[e1];simpa using hne,q1,q2,pp,pn,na,nj,c0,c1,o1,o3⟩
end Go.Nt
namespace Go.Nt
def lns:Bs->List Bs × Bs
 | []=>([],[])
 | c :: s=>if c=10 then ([] :: (lns s).1,(lns s).2) else match (lns s).1 with
  | []=>([],c :: (lns s).2)
  | l :: ls=>((c :: l) :: ls,(lns s).2)
theorem G6 (s:Bs):lns (10 :: s)=([] :: (lns s).1,(lns s).2):=by simp [lns]
theorem MT {c:UInt8} (h:c≠10) (s:Bs):lns (c :: s)=match (lns s).1 with
  | []=>([],c :: (lns s).2)
  | l :: ls=>((c :: l) :: ls,(lns s).2):=by simp [lns,h]
theorem w7:∀ {s:Bs},(10:UInt8) ∉ s->lns s=([],s)
 | [],_=>rfl
 | c :: s,h=>by
  have h1:c≠10:=fun e=>h (e ▸ mem_cons_self)
  rw[MT h1,w7 (fun q=>h (mem_cons_of_mem _ q))]
theorem wZ:∀ {t:Bs} (w:Bs),(10:UInt8) ∉ t->lns (t++10 :: w)=(t :: (lns w).1,(lns w).2)
 | [],w,_=>G6 w
 | c :: t,w,h=>by
  have h1:c≠10:=fun e=>h (e ▸ mem_cons_self)
  rw[cons_append,MT h1,wZ w (fun q=>h (mem_cons_of_mem _ q))]
theorem G7 {s t w:Bs} (h:cut 10 s=some (t,w)):lns s=(t :: (lns w).1,(lns w).2):=by
 obtain⟨e,q⟩:=cN.1 h;rw[e,wZ w q]
theorem zG {s:Bs} (h:cut 10 s=none):lns s=([],s):=w7 (oW.1 h)
def jn (ls:List Bs):Bs:=ls.flatMap (·++[10])
theorem kU (l:Bs) (ls:List Bs):jn (l :: ls)=l++10 :: jn ls:=by simp [jn]
theorem A5:jn []=[]:=rfl
theorem xD (a b:List Bs):jn (a++b)=jn a++jn b:=by simp [jn]
theorem sK:∀ (s:Bs),jn (lns s).1++(lns s).2=s
 | []=>rfl
 | c :: s=>by
  have ih:=sK s;by_cases h:c=10
  ·rw[h,G6,kU,nil_append,cons_append,ih]
  ·rw[MT h]
   cases e:(lns s).1 with
   | nil=>rw[e,A5,nil_append] at ih;show jn []++c :: (lns s).2=_;rw[A5,nil_append,ih]
   | cons l ls =>
    rw[e,kU] at ih;show jn ((c :: l) :: ls)++(lns s).2=_;rw[kU,cons_append,cons_append,ih]
theorem A1:∀ {ls:List Bs} {r:Bs},(∀ l∈ls,(10:UInt8) ∉ l)->(10:UInt8) ∉ r->lns (jn ls++r)=(ls,r)
 | [],r,_,h=>w7 h
 | l :: ls,r,h,hr=>by
  rw[kU,append_assoc,cons_append,wZ _ (h l mem_cons_self),A1 (fun x hx=>h x (mem_cons_of_mem _ hx)) hr]
def dcN (n:Nat):Bs:=if n < 10 then [dig n] else dcN (n / 10)++[dig (n % 10)]
theorem fJ {n:Nat} (h:n < 10):dcN n=[dig n]:=by rw[dcN,if_pos h]
theorem aX {n:Nat} (h:¬ n < 10):dcN n=dcN (n / 10)++[dig (n % 10)]:=by rw[dcN,if_neg h]
theorem NR {n:Nat} (h:n < 10):dE (dig n)=true/\(dig n).toNat - 48=n/\(n≠0->dig n≠48):=by
 have:∀ k:Fin 10,dE (dig k.1)=true/\(dig k.1).toNat - 48=k.1/\(k.1≠0->dig k.1≠48):=by decide
 exact this ⟨n,h⟩
theorem wU:∀ (a b:Bs) (n:Nat),cV (a++b) n=cV b (cV a n)
 | [],b,n=>rfl
 | c :: a,b,n=>wU a b _
def eZ (s:Bs) (most:Nat):Option Nat:=
 if 1<=s.length/\s.length<=10/\¬ (1 < s.length/\s.head?=some 48)/\s.all dE=true/\cV s 0<=most then some (cV s 0) else none
theorem xQ:∀ (k n:Nat),n < 10 ^ (k+1)->(dcN n).all dE=true/\cV (dcN n) 0=n/\1<=(dcN n).length/\(dcN n).length<=k+1/\(n≠0->(dcN n).head?≠some 48)
 | 0,n,h=>by
  have h':n < 10:=by simpa using h
  obtain⟨a,b,c⟩:=NR h';rw[fJ h'];exact⟨by simp [a],by simpa [cV] using b,by simp,by simp,fun q=>by simpa using c q⟩
 | k+1,n,h=>by
  by_cases q:n < 10
  ·obtain⟨a,b,c⟩:=NR q
   rw[fJ q];exact⟨by simp [a],by simpa [cV] using b,by simp,by simp,fun q=>by simpa using c q⟩
  ·have h2:n / 10 < 10 ^ (k+1):=by
    rw[Nat.pow_succ] at h;omega
   obtain⟨a,b,c,d,e⟩:=xQ k (n / 10) h2;obtain⟨a',b',c'⟩:=NR (n:=n % 10) (Nat.mod_lt _ (by decide));rw[aX q];refine⟨by rw[all_append,a];simp [a'],?_,by simp,by simp;omega,fun _=>?_⟩
   ·rw[wU,b]
    show 10*(n / 10)+((dig (n % 10)).toNat - 48)=n;rw[b'];omega
   ·have:=e (by omega)
    rw[head?_append];cases hh:(dcN (n / 10)).head? with
    | none =>
     have:dcN (n / 10)=[]:=head?_eq_none_iff.1 hh
     rw[this] at c;simp at c
    | some x=>rw[hh] at this;simpa using this
theorem GY {n most:Nat} (h:n<=most) (hm:most < 10000000000):eZ (dcN n) most=some n:=by
 obtain⟨a,b,c,d,e⟩:=xQ 9 n (by simpa using (by omega:n < 10000000000));unfold eZ;rw[b,if_pos];refine⟨c,d,fun q=>?_,a,h⟩;by_cases z:n=0
 ·rw[z,fJ (by decide)] at q;simp at q
 ·exact e z q.2
theorem xP:∀ (k:Nat) (s:Bs),s.length=k+1->s.all dE=true->(1 < s.length->s.head?≠some 48)->dcN (cV s 0)=s/\(1 < s.length->10<=cV s 0)
 | 0,s,hl,hd,_=>by
  obtain⟨c,rfl⟩:∃ c,s=[c]:=by
   match s,hl with
   | [c],_=>exact⟨c,rfl⟩
  have:=lH (c:=c) (by simpa using hd)
  refine⟨?_,fun q=>by simp at q⟩;show dcN (10*0+(c.toNat - 48))=[c]
  rw[Nat.mul_zero,Nat.zero_add,fJ this.2.1,this.1]
 | k+1,s,hl,hd,hz=>by
  obtain⟨a,c,rfl⟩:∃ a c,s=a++[c]:=⟨s.dropLast,s.getLast (by intro e;rw[e] at hl;simp at hl),(dropLast_concat_getLast _).symm⟩
  have la:a.length=k+1:=by simpa using hl
  rw[all_append,Bool.and_eq_true] at hd;have hc:=lH (c:=c) (by simpa using hd.2);have hh:a.head?≠some 48:=by
   have:=hz (by rw[hl];omega)
   rw[head?_append] at this
   cases e:a.head? with
   | none=>simp
   | some x=>rw[e] at this;simpa using this
  obtain⟨i1,i2⟩:=xP k a la hd.1 (fun _=>hh);have hv:cV (a++[c]) 0=10*cV a 0+(c.toNat - 48):=by rw[wU];rfl
  have h1:1<=cV a 0:=by
   by_cases q:1 < a.length
   ·have:=i2 q;omega
   ·obtain⟨x,rfl⟩:∃ x,a=[x]:=by
     match a,(by omega:a.length=1) with
     | [x],_=>exact⟨x,rfl⟩
    have h2:=(lH (c:=x) (by simpa using hd.1)).2.2 (fun e=>hh (by rw[e];rfl));show 1<=10*0+(x.toNat - 48)
    omega
  rw[hv];refine⟨?_,fun _=>by omega⟩;rw[aX (by omega),show (10*cV a 0+(c.toNat - 48)) / 10=cV a 0 by omega,show (10*cV a 0+(c.toNat - 48)) % 10=c.toNat - 48 by omega,i1,hc.1]
theorem H8 {s:Bs} {most n:Nat} (h:eZ s most=some n):s=dcN n/\n<=most:=by
 unfold eZ at h
 split at h
 case isFalse=>cases h
 rename_i q;obtain⟨a,b,c,d,e⟩:=q;cases h
 have:=(xP (s.length - 1) s (by omega) d (fun q1 q2=>c ⟨q1,q2⟩)).1
 exact⟨this.symm,e⟩
theorem NX {n:Nat} (h:n < 10000000000) (x:UInt8) (hx:dE x=false):x ∉ dcN n:=fun q=>by
 have:=all_eq_true.1 (xQ 9 n (by simpa using h)).1 x q
 rw[hx] at this;cases this
end Go.Nt
namespace Go.Nt
def fnm:List Bs:=[[115,111,117,114,99,101],[116,97,114,103,101,116],[112,114,101,118,105,111,117,115],[110,101,120,116],[97,117,116,104,111,114],[112,114,111,106,101,99,116],[99,114,101,97,116,101,100],[111,114,105,103,105,110]]
def orn:List Bs:=[[104,117,109,97,110],[97,108,105,103,110,101,100],[109,97,99,104,105,110,101]]
def hdB:Bs:=[98,105,116,101,120,116,45,109,101,109,111,114,121,32]
def idx:List Bs->Bs->Option Nat
 | [],_=>none
 | x :: l,a=>if x=a then some 0 else (idx l a).map (·+1)
theorem tZ:∀ {l:List Bs} {a:Bs} {k:Nat},idx l a=some k->l[k]?=some a
 | [],a,k,h=>by cases h
 | x :: l,a,k,h=>by
  unfold idx at h;by_cases q:x=a
  ·rw[if_pos q] at h;cases h;simp [q]
  ·rw[if_neg q] at h
   obtain⟨j,h1,rfl⟩:=Option.map_eq_some_iff.1 h;simpa using tZ h1
theorem RW:∀ k,k < 8->idx fnm (fnm.getD k [])=some k:=by decide
theorem vP:∀ k,k < 3->idx orn (orn.getD k [])=some k:=by decide
theorem NF:∀ k,k < 8->(32:UInt8) ∉ fnm.getD k []/\(10:UInt8) ∉ fnm.getD k []:=by decide
theorem ME:∀ k,k < 3->orn.getD k []≠[]/\(10:UInt8) ∉ orn.getD k []:=by decide
def fld (s:Bs):Option (Nat × Bs):=(cut 32 s).bind fun p=>(idx fnm p.1).map fun k=>(k,p.2)
def lnK (k:Nat) (v:Bs):Bs:=fnm.getD k []++32 :: v
theorem NL {k:Nat} (h:k < 8) (v:Bs):fld (lnK k v)=some (k,v):=by
 unfold fld lnK;rw[gU (NF k h).1];simp only[Option.bind_some,RW k h,Option.map_some]
theorem oP {s:Bs} {k:Nat} {v:Bs} (h:fld s=some (k,v)):k < 8/\s=lnK k v:=by
 unfold fld at h;obtain⟨⟨a,w⟩,h1,h2⟩:=Option.bind_eq_some_iff.1 h;obtain⟨j,h3,h4⟩:=Option.map_eq_some_iff.1 h2;cases h4;have h5:=tZ h3;have h6:=(List.getElem?_eq_some_iff.1 h5).1;refine⟨h6,?_⟩;unfold lnK;rw[getD_eq_getElem?_getD,h5];exact (cN.1 h1).1
structure Rd where
 m:List En
 e:En
 k:Nat
def zE:En:=⟨[],[],[],[],[],[],0,0⟩
def cG (k:Nat) (v:Bs) (e:En):Int × En:=
 if k=0 then ((aM v).2.2,{ e with S:=(aM v).1 })
 else if k=1 then ((aM v).2.2,{ e with T:=(aM v).1 })
 else if k=2 then ((aM v).2.2,{ e with p:=v })
 else if k=3 then ((aM v).2.2,{ e with n:=v })
 else if k=4 then (0,{ e with a:=v })
 else if k=5 then (0,{ e with j:=v })
 else if k=6 then (match eZ v 1073741824 with
  | some n=>if n=0 then (2,e) else (0,{ e with c:=(n:Int) })
  | none=>(2,e))
 else match idx orn v with
  | some i=>(0,{ e with o:=(i:Int)+1 })
  | none=>(2,e)
def iL (m:List En) (e:En):Int:=if vE e≠0 then vE e else match m.getLast? with
 | none=>0
 | some x=>if aG x=aG e then 5 else if ltB (aG e) (aG x)=true then 11 else 0
def may (r:Rd) (k:Nat) (v:Bs):Bool:=(if r.k < 2 then decide (k=r.k) else decide (r.k<=k)) && !(decide (v=[]) && decide (2<=k))
def cQ (r:Rd) (s:Bs):Int × Rd:=match fld s with
 | none=>(2,r)
 | some (k,v)=>if may r k v=true then
   (if (cG k v r.e).1≠0 then ((cG k v r.e).1,r) else if k=7 then (iL r.m (cG k v r.e).2,⟨r.m++[(cG k v r.e).2],zE,0⟩) else (0,⟨r.m,(cG k v r.e).2,k+1⟩))
  else (2,r)
def cK:List Bs->Rd->Nat->Int × Nat × Rd
 | [],r,n=>(0,n,r)
 | t :: ls,r,n=>if (cQ r t).1≠0 then ((cQ r t).1,n+1,r) else cK ls (cQ r t).2 (n+1)
def after (b s:Bs):Option Bs:=if b.isPrefixOf s=true then some (s.drop b.length) else none
theorem zR (b s:Bs):after b (b++s)=some s:=by
 unfold after;rw[if_pos (by rw[isPrefixOf_iff_prefix];exact prefix_append _ _),drop_left]
theorem yC {b s v:Bs} (h:after b s=some v):s=b++v:=by
 unfold after at h
 split at h
 ·rename_i q
  obtain⟨w,rfl⟩:=isPrefixOf_iff_prefix.1 q;rw[drop_left] at h;cases h;rfl
 ·cases h
def hdN (h:Bs):Option Nat:=(after hdB h).bind fun v=>eZ v 1024
def pM (s:Bs):List En × Nat × Int:=
 if 1048576 < s.length then ([],0,3) else match (lns s).1 with
 | []=>([],1,2)
 | h :: ls=>match hdN h with
  | none=>([],1,2)
  | some n =>
   if (cK ls ⟨[],zE,0⟩ 1).1≠0 then ([],(cK ls ⟨[],zE,0⟩ 1).2.1,(cK ls ⟨[],zE,0⟩ 1).1)
   else if (lns s).2≠[]\/(cK ls ⟨[],zE,0⟩ 1).2.2.k≠0 then ([],(cK ls ⟨[],zE,0⟩ 1).2.1+1,2)
   else if (cK ls ⟨[],zE,0⟩ 1).2.2.m.length≠n then ([],1,2) else ((cK ls ⟨[],zE,0⟩ 1).2.2.m,0,0)
def vlE (e:En) (k:Nat):Bs:=
 if k=0 then fmE e.S else if k=1 then fmE e.T else if k=2 then e.p else if k=3 then e.n else if k=4 then e.a else if k=5 then e.j
 else if k=6 then (if e.c=0 then [] else dcN e.c.toNat) else orn.getD (e.o - 1).toNat []
def lnE (k:Nat) (v:Bs):List Bs:=if 2<=k/\v=[] then [] else [lnK k v]
def g9 (e:En):Nat->List Bs
 | 0=>[]
 | k+1=>g9 e k++lnE k (vlE e k)
def i6 (e:En):List Bs:=g9 e 8
def hdT (n:Nat):Bs:=hdB++dcN n
def txM (m:List En):Bs:=jn (hdT m.length :: m.flatMap i6)
def sW (p:List En):List En->Int
 | []=>0
 | e :: r=>if iL p e≠0 then iL p e else sW (p++[e]) r
def qH (m:List En):Int:=if 1024 < m.length then 3 else sW [] m
def fmM (m:List En):Bs × Int:=if qH m≠0 then ([],qH m) else if 1048576 < (txM m).length then ([],3) else (txM m,0)
theorem xX {m:List En} {e:En} (hm:Mem m):iL m e=0↔Mem (m++[e]):=by
 have key:iL m e=0↔VE e/\∀ x,m.getLast?=some x->ltB (aG x) (aG e)=true:=by
  unfold iL;by_cases hv:vE e=0
  ·rw[if_neg (by simp [hv])]
   have hV:=(lA e).1 hv;cases hl:m.getLast? with
   | none=>exact⟨fun _=>⟨hV,fun x hx=>by cases hx⟩,fun _=>rfl⟩
   | some x =>
    show (if aG x=aG e then 5 else if ltB (aG e) (aG x)=true then 11 else 0)=(0:Int)↔_;by_cases h1:aG x=aG e
    ·rw[if_pos h1]
     refine⟨fun h=>(by cases h),fun h=>?_⟩
     have:=h.2 x rfl
     rw[h1,iW] at this;cases this
    ·rw[if_neg h1]
     by_cases h2:ltB (aG e) (aG x)=true
     ·rw[if_pos h2]
      refine⟨fun h=>(by cases h),fun h=>?_⟩;rw[fU (h.2 x rfl)] at h2;cases h2
     ·rw[if_neg h2]
      refine⟨fun _=>⟨hV,fun y hy=>?_⟩,fun _=>rfl⟩;cases hy;exact jH _ _ (by simpa using h2) (fun q=>h1 q.symm)
  ·rw[if_pos hv]
   exact⟨fun h=>absurd h hv,fun h=>absurd ((lA e).2 h.1) hv⟩
 rw[key];constructor
 ·rintro ⟨h1,h2⟩
  refine⟨fun x hx=>?_,pairwise_append.2 ⟨hm.2,pairwise_singleton _ _,fun a ha b hb=>?_⟩⟩
  ·rcases mem_append.1 hx with q | q
   ·exact hm.1 x q
   ·rw[mem_singleton.1 q];exact h1
  ·rw[mem_singleton.1 hb]
   obtain⟨g,y,rfl⟩:∃ g y,m=g++[y]:=by
    rcases eq_nil_or_concat m with q | ⟨g,y,q⟩
    ·rw[q] at ha;cases ha
    ·exact⟨g,y,by rw[q,concat_eq_append]⟩
   have h3:=h2 y (by simp);rcases mem_append.1 ha with q | q
   ·exact j5 _ _ _ ((pairwise_append.1 hm.2).2.2 a q y (by simp)) h3
   ·rw[mem_singleton.1 q];exact h3
 ·intro h
  refine⟨h.1 e (by simp),fun x hx=>?_⟩;exact (pairwise_append.1 h.2).2.2 x (mem_of_getLast? hx) e (by simp)
theorem vJ {a b:List En} (h:Mem (a++b)):Mem a:=⟨fun e he=>h.1 e (mem_append_left _ he),(pairwise_append.1 h.2).1⟩
theorem N2:∀ {m p:List En},Mem p->(sW p m=0↔Mem (p++m))
 | [],p,hp=>by rw[append_nil];exact⟨fun _=>hp,fun _=>rfl⟩
 | e :: m,p,hp=>by
  unfold sW;by_cases h:iL p e=0
  ·rw[if_neg (by simp [h]),N2 ((xX hp).1 h),append_assoc];rfl
  ·rw[if_pos h]
   refine⟨fun q=>absurd q h,fun q=>absurd ((xX hp).2 ?_) h⟩;rw[show p++e :: m=(p++[e])++m by simp] at q;exact vJ q
theorem BM (m:List En):qH m=0↔m.length<=1024/\Mem m:=by
 unfold qH;by_cases h:1024 < m.length
 ·rw[if_pos h];exact⟨fun q=>(by cases q),fun q=>absurd q.1 (by omega)⟩
 ·rw[if_neg h,N2 mV];exact⟨fun q=>⟨by omega,q⟩,fun q=>q.2⟩
end Go.Nt
namespace Go.Nt
theorem F3 (f:List It):(10:UInt8) ∉ fmE f:=by
 unfold fmE;split
 ·rename_i h;exact vC ((cX f).1 h).1
 ·simp
theorem KP {s:Bs} (h:iD s=true):(10:UInt8) ∉ s:=by
 unfold iD at h;rcases (by simpa using h:s=[]\/cW s=true) with q | q
 ·rw[q];simp
 ·intro hm
  have:=(iF q).2.2 10 hm
  exact absurd this (by decide)
theorem O8 {e:En} (h:VE e) {k:Nat} (hk:k < 8):(10:UInt8) ∉ vlE e k:=by
 have h7:=(ME (e.o - 1).toNat (by have:=h.o1;have:=h.o3;omega)).2;have h6:(10:UInt8) ∉ (if e.c=0 then [] else dcN e.c.toNat):=by
  split
  ·simp
  ·exact NX (by have:=h.c1;have:=h.c0;omega) 10 (by decide)
 have h0:=F3 e.S;have h1:=F3 e.T;have h2:=pI h.pp;have h3:=pI h.pn;have h4:=KP h.na;have h5:=KP h.nj
 match k,hk with
 | 0,_=>exact h0
 | 1,_=>exact h1
 | 2,_=>exact h2
 | 3,_=>exact h3
 | 4,_=>exact h4
 | 5,_=>exact h5
 | 6,_=>exact h6
 | 7,_=>exact h7
theorem PA {k:Nat} (hk:k < 8) {v:Bs} (h:(10:UInt8) ∉ v):(10:UInt8) ∉ lnK k v:=by
 unfold lnK;intro q;rcases mem_append.1 q with q | q
 ·exact (NF k hk).2 q
 ·rcases mem_cons.1 q with q | q
  ·cases q
  ·exact h q
theorem B2 {e:En} (h:VE e):∀ k,k<=8->∀ l∈g9 e k,(10:UInt8) ∉ l
 | 0,_,l,hl=>by cases hl
 | k+1,hk,l,hl=>by
  rcases mem_append.1 hl with q | q
  ·exact B2 h k (by omega) l q
  ·unfold lnE at q
   split at q
   ·cases q
   ·rw[mem_singleton.1 q];exact PA (by omega) (O8 h (by omega))
theorem PB {n:Nat} (h:n<=1024):(10:UInt8) ∉ hdT n:=by
 unfold hdT;intro q;rcases mem_append.1 q with q | q
 ·exact absurd q (by decide)
 ·exact NX (by omega) 10 (by decide) q
theorem RZ {n:Nat} (h:n<=1024):hdN (hdT n)=some n:=by
 unfold hdN hdT;rw[zR];exact GY h (by decide)
theorem NC {h:Bs} {n:Nat} (e:hdN h=some n):h=hdT n/\n<=1024:=by
 unfold hdN at e;obtain⟨v,h1,h2⟩:=Option.bind_eq_some_iff.1 e;obtain⟨h3,h4⟩:=H8 h2;rw[yC h1,h3];exact⟨rfl,h4⟩
def prt (e:En) (k:Nat):En:=⟨if 0 < k then e.S else [],if 1 < k then e.T else [],if 2 < k then e.p else [],if 3 < k then e.n else [],if 4 < k then e.a else [],if 5 < k then e.j else [],if 6 < k then e.c else 0,if 7 < k then e.o else 0⟩
theorem T7 (e:En):prt e 8=e:=rfl
theorem B6 {e:En} (h:VE e) {k:Nat} (hk:k < 8) (hne:¬ (2<=k/\vlE e k=[])):cG k (vlE e k) (prt e k)=(0,prt e (k+1)):=by
 have fS:aM (fmE e.S)=(e.S,0,0):=by unfold fmE;rw[if_pos h.vS];exact pP h.vS
 have fT:aM (fmE e.T)=(e.T,0,0):=by unfold fmE;rw[if_pos h.vT];exact pP h.vT
 match k,hk with
 | 0,_=>show ((aM (fmE e.S)).2.2,({ prt e 0 with S:=(aM (fmE e.S)).1 }:En))=_;rw[fS];rfl
 | 1,_=>show ((aM (fmE e.T)).2.2,({ prt e 1 with T:=(aM (fmE e.T)).1 }:En))=_;rw[fT];rfl
 | 2,_=>show ((aM e.p).2.2,_)=_;rw[show (aM e.p).2.2=0 from h.pp];rfl
 | 3,_=>show ((aM e.n).2.2,_)=_;rw[show (aM e.n).2.2=0 from h.pn];rfl
 | 4,_=>rfl
 | 5,_=>rfl
 | 6,_ =>
  have hc:¬ e.c=0:=fun q=>hne ⟨by decide,by show (if e.c=0 then [] else _)=[];rw[if_pos q]⟩
  have c0:=h.c0;have c1:=h.c1;have hv:vlE e 6=dcN e.c.toNat:=by show (if e.c=0 then [] else _)=_;rw[if_neg hc]
  rw[hv];show (match eZ (dcN e.c.toNat) 1073741824 with | some n=>if n=0 then ((2:Int),prt e 6) else ((0:Int),{ prt e 6 with c:=(n:Int) }) | none=>((2:Int),prt e 6))=_;rw[GY (by omega) (by decide)];show (if e.c.toNat=0 then _ else _)=_;rw[if_neg (by omega)];show (0,({ prt e 6 with c:=((e.c.toNat:Nat):Int) }:En))=(0,prt e 7)
  rw[show ((e.c.toNat:Nat):Int)=e.c by omega];rfl
 | 7,_ =>
  have o1:=h.o1;have o3:=h.o3;show (match idx orn (orn.getD (e.o - 1).toNat []) with | some i=>((0:Int),{ prt e 7 with o:=(i:Int)+1 }) | none=>((2:Int),prt e 7))=_;rw[vP _ (by omega)];show (0,({ prt e 7 with o:=(((e.o - 1).toNat:Nat):Int)+1 }:En))=(0,prt e 8)
  rw[show (((e.o - 1).toNat:Nat):Int)+1=e.o by omega];rfl
theorem LZ {e:En} {k:Nat} (h2:2<=k) (hk:k < 7) (hv:vlE e k=[]):prt e (k+1)=prt e k:=by
 match k,h2,hk with
 | 2,_,_=>have:e.p=[]:=hv;unfold prt;rw[this];rfl
 | 3,_,_=>have:e.n=[]:=hv;unfold prt;rw[this];rfl
 | 4,_,_=>have:e.a=[]:=hv;unfold prt;rw[this];rfl
 | 5,_,_=>have:e.j=[]:=hv;unfold prt;rw[this];rfl
 | 6,_,_ =>
  have hv:(if e.c=0 then [] else dcN e.c.toNat)=[]:=hv
  have:e.c=0:=by
   by_cases q:e.c=0
   ·exact q
   ·rw[if_neg q] at hv
    unfold dcN at hv
    split at hv
    ·cases hv
    ·simp at hv
  unfold prt;rw[this];rfl
theorem HD {r:Rd} {k:Nat} (hk:k < 8) {v:Bs} (hm:may r k v=true) {e':En} (hs:cG k v r.e=(0,e')):cQ r (lnK k v)=if k=7 then (iL r.m e',⟨r.m++[e'],zE,0⟩) else (0,⟨r.m,e',k+1⟩):=by
 unfold cQ;rw[NL hk];show (if may r k v=true then _ else _)=_;rw[if_pos hm,hs];rfl
theorem AO (t:Bs) (ls:List Bs) (r:Rd) (n:Nat):cK (t :: ls) r n=if (cQ r t).1≠0 then ((cQ r t).1,n+1,r) else cK ls (cQ r t).2 (n+1):=rfl
def At (r:Rd) (m:List En) (e:En) (k:Nat):Prop:=r.m=m/\r.e=prt e k/\r.k<=k/\(r.k=k\/2<=r.k)
theorem JB {e:En} (h:VE e) {m:List En} {k:Nat} (hk:k < 7) {r:Rd} (hr:At r m e k) (rest:List Bs) (n:Nat):∃ r' n',At r' m e (k+1)/\cK (lnE k (vlE e k)++rest) r n=cK rest r' n':=by
 obtain⟨a1,a2,a3,a4⟩:=hr;unfold lnE;by_cases hv:2<=k/\vlE e k=[]
 ·rw[if_pos hv]
  exact⟨r,n,⟨a1,by rw[a2,LZ hv.1 hk hv.2],by omega,by omega⟩,rfl⟩
 ·rw[if_neg hv]
  have hs:=B6 h (by omega:k < 8) hv;rw[<- a2] at hs;have hm:may r k (vlE e k)=true:=by
   unfold may
   have:(decide (vlE e k=[]) && decide (2<=k))=false:=by
    rw[Bool.and_eq_false_iff,decide_eq_false_iff_not,decide_eq_false_iff_not];by_cases q:vlE e k=[]
    ·exact .inr (fun q2=>hv ⟨q2,q⟩)
    ·exact .inl q
   rw[this];by_cases q:r.k < 2
   ·rw[if_pos q];simp;omega
   ·rw[if_neg q];simp;omega
  have hl:=HD (by omega) hm hs;rw[if_neg (by omega)] at hl;refine⟨⟨r.m,prt e (k+1),k+1⟩,n+1,⟨a1,rfl,Nat.le_refl _,.inl rfl⟩,?_⟩;show cK (lnK k (vlE e k) :: rest) r n=_;rw[AO,hl,if_neg (by simp)]
theorem wG {e:En} (h:VE e) {m:List En}:∀ (k:Nat),k<=7->∀ (rest:List Bs) (n:Nat),∃ r' n',At r' m e k/\cK (g9 e k++rest) ⟨m,zE,0⟩ n=cK rest r' n'
 | 0,_,rest,n=>⟨_,n,⟨rfl,rfl,Nat.le_refl _,.inl rfl⟩,rfl⟩
 | k+1,hk,rest,n=>by
  obtain⟨r1,n1,h1,h2⟩:=wG h k (by omega) (lnE k (vlE e k)++rest) n;obtain⟨r2,n2,h3,h4⟩:=JB h (by omega) h1 rest n1;refine⟨r2,n2,h3,?_⟩;rw[<- h4,<- h2];show cK ((g9 e k++lnE k (vlE e k))++rest) _ n=_;rw[append_assoc]
theorem JC {e:En} {m:List En} (h:Mem m) (he:iL m e=0) (rest:List Bs) (n:Nat):∃ n',cK (i6 e++rest) ⟨m,zE,0⟩ n=cK rest ⟨m++[e],zE,0⟩ n':=by
 have hV:=((xX h).1 he).1 e (by simp);have o1:=hV.o1;have o3:=hV.o3;obtain⟨r,n1,⟨a1,a2,a3,a4⟩,h2⟩:=wG (m:=m) hV 7 (by decide) (lnE 7 (vlE e 7)++rest) n;have hne:vlE e 7≠[]:=(ME (e.o - 1).toNat (by omega)).1;have hs:=B6 hV (by decide:7 < 8) (fun q=>hne q.2);rw[<- a2,T7] at hs;have hm:may r 7 (vlE e 7)=true:=by
  unfold may;rw[show decide (vlE e 7=[])=false from decide_eq_false hne,Bool.false_and];by_cases q:r.k < 2
  ·rw[if_pos q];simp;omega
  ·rw[if_neg q];simp;omega
 have hl:=HD (by decide) hm hs;rw[if_pos rfl,a1,he] at hl;refine⟨n1+1,?_⟩
 have:i6 e++rest=g9 e 7++(lnE 7 (vlE e 7)++rest):=by
  show (g9 e 7++lnE 7 (vlE e 7))++rest=_;rw[append_assoc]
 rw[this,h2];unfold lnE;rw[if_neg (fun q=>hne q.2)];show cK (lnK 7 (vlE e 7) :: rest) r n1=_;rw[AO,hl,if_neg (by simp)]
theorem GC:∀ (m2:List En) {m1:List En},Mem (m1++m2)->∀ (n:Nat),∃ n',cK (m2.flatMap i6) ⟨m1,zE,0⟩ n=(0,n',⟨m1++m2,zE,0⟩)
 | [],m1,h,n=>⟨n,by rw[append_nil];rfl⟩
 | e :: m2,m1,h,n=>by
  have h':Mem ((m1++[e])++m2):=by rw[append_assoc];exact h
  have h1:=vJ h';obtain⟨n1,e1⟩:=JC (vJ h1) ((xX (vJ h1)).2 h1) (m2.flatMap i6) n;obtain⟨n2,e2⟩:=GC m2 h' n1;refine⟨n2,?_⟩;rw[flatMap_cons,e1,e2,append_assoc];rfl
theorem O9 {m:List En} (h:Mem m) (hl:m.length<=1024):∀ l∈hdT m.length :: m.flatMap i6,(10:UInt8) ∉ l:=fun l hm=>by
 rcases mem_cons.1 hm with q | q
 ·rw[q];exact PB hl
 ·obtain⟨e,he,hx⟩:=mem_flatMap.1 q
  exact B2 (h.1 e he) 8 (by decide) l hx
theorem Q3 {m:List En} (h:Mem m) (hl:m.length<=1024):lns (txM m)=(hdT m.length :: m.flatMap i6,[]):=by
 have:=A1 (O9 h hl) (r:=[]) (by simp)
 rwa [append_nil] at this
theorem MB {m:List En} (h:Mem m) (hl:m.length<=1024) (ht:(txM m).length<=1048576):pM (txM m)=(m,0,0):=by
 obtain⟨n',e⟩:=GC m (m1:=[]) h 1;unfold pM;rw[if_neg (by omega),Q3 h hl];show (match hdN (hdT m.length) with | none=>_ | some n=>_)=_;rw[RZ hl];simp only[e,nil_append];rw[if_neg (by simp),if_neg (by simp),if_neg (by simp)]
end Go.Nt
namespace Go.Nt
theorem T6 {e:En} {k:Nat} (h:prt e k=e):(k<=0->e.S=[])/\(k<=1->e.T=[])/\(k<=2->e.p=[])/\(k<=3->e.n=[])/\(k<=4->e.a=[])/\(k<=5->e.j=[])/\(k<=6->e.c=0)/\(k<=7->e.o=0):=by
 have h0:(if 0 < k then e.S else [])=e.S:=congrArg En.S h;have h1:(if 1 < k then e.T else [])=e.T:=congrArg En.T h;have h2:(if 2 < k then e.p else [])=e.p:=congrArg En.p h;have h3:(if 3 < k then e.n else [])=e.n:=congrArg En.n h;have h4:(if 4 < k then e.a else [])=e.a:=congrArg En.a h;have h5:(if 5 < k then e.j else [])=e.j:=congrArg En.j h;have h6:(if 6 < k then e.c else 0)=e.c:=congrArg En.c h;have h7:(if 7 < k then e.o else 0)=e.o:=congrArg En.o h;refine⟨fun q=>?_,fun q=>?_,fun q=>?_,fun q=>?_,fun q=>?_,fun q=>?_,fun q=>?_,fun q=>?_⟩
 ·rw[if_neg (by omega)] at h0;exact h0.symm
 ·rw[if_neg (by omega)] at h1;exact h1.symm
 ·rw[if_neg (by omega)] at h2;exact h2.symm
 ·rw[if_neg (by omega)] at h3;exact h3.symm
 ·rw[if_neg (by omega)] at h4;exact h4.symm
 ·rw[if_neg (by omega)] at h5;exact h5.symm
 ·rw[if_neg (by omega)] at h6;exact h6.symm
 ·rw[if_neg (by omega)] at h7;exact h7.symm
theorem vl_z {e:En} {k j:Nat} (h:prt e k=e) (hj:k<=j) (h2:2<=j) (h7:j < 7):vlE e j=[]:=by
 obtain⟨z0,z1,z2,z3,z4,z5,z6,z7⟩:=T6 h
 match j,h2,h7 with
 | 2,_,_=>exact z2 hj
 | 3,_,_=>exact z3 hj
 | 4,_,_=>exact z4 hj
 | 5,_,_=>exact z5 hj
 | 6,_,_=>show (if e.c=0 then [] else _)=[];rw[if_pos (z6 hj)]
theorem CY {e:En} {k0:Nat} (h:prt e k0=e) (h2:2<=k0):∀ (d:Nat),k0+d<=7->g9 e (k0+d)=g9 e k0
 | 0,_=>rfl
 | d+1,hd=>by
  show g9 e (k0+d)++lnE (k0+d) (vlE e (k0+d))=_;rw[vl_z h (by omega) (by omega) (by omega),CY h h2 d (by omega),lnE,if_pos ⟨by omega,rfl⟩,append_nil]
theorem CZ {e e':En}:∀ (k:Nat),(∀ j,j < k->vlE e' j=vlE e j)->g9 e' k=g9 e k
 | 0,_=>rfl
 | k+1,h=>by
  show g9 e' k++lnE k (vlE e' k)=g9 e k++lnE k (vlE e k);rw[CZ k (fun j hj=>h j (by omega)),h k (by omega)]
theorem I7 {k:Nat} {v:Bs} {e e':En} (hk:k < 8) (h:cG k v e=(0,e')) {k0:Nat} (hp:prt e k0=e) (h0:k0<=k):vlE e' k=v/\(∀ j,j < k->vlE e' j=vlE e j)/\prt e' (k+1)=e':=by
 obtain⟨z0,z1,z2,z3,z4,z5,z6,z7⟩:=T6 hp
 match k,hk with
 | 0,_ =>
  have h1:((aM v).2.2,({ e with S:=(aM v).1 }:En))=(0,e'):=h;obtain⟨h2,rfl⟩:=Prod.mk.inj h1;obtain⟨c1,c2,_⟩:=eV (s:=v) (g:=(aM v).1) (b:=(aM v).2.1) (by rw[<- h2]);refine⟨?_,fun j hj=>absurd hj (by omega),?_⟩
  ·show fmE (aM v).1=v
   unfold fmE;rw[if_pos c1,c2]
  ·exact En.eq rfl (z1 (by omega)).symm (z2 (by omega)).symm (z3 (by omega)).symm (z4 (by omega)).symm (z5 (by omega)).symm (z6 (by omega)).symm (z7 (by omega)).symm
 | 1,_ =>
  have h1:((aM v).2.2,({ e with T:=(aM v).1 }:En))=(0,e'):=h;obtain⟨h2,rfl⟩:=Prod.mk.inj h1;obtain⟨c1,c2,_⟩:=eV (s:=v) (g:=(aM v).1) (b:=(aM v).2.1) (by rw[<- h2]);refine⟨?_,fun j hj=>?_,?_⟩
  ·show fmE (aM v).1=v
   unfold fmE;rw[if_pos c1,c2]
  ·match j,hj with
   | 0,_=>rfl
  ·exact En.eq rfl rfl (z2 (by omega)).symm (z3 (by omega)).symm (z4 (by omega)).symm (z5 (by omega)).symm (z6 (by omega)).symm (z7 (by omega)).symm
 | 2,_ =>
  have h1:((aM v).2.2,({ e with p:=v }:En))=(0,e'):=h;obtain⟨h2,rfl⟩:=Prod.mk.inj h1;refine⟨rfl,fun j hj=>?_,?_⟩
  ·match j,hj with
   | 0,_=>rfl
   | 1,_=>rfl
  ·exact En.eq rfl rfl rfl (z3 (by omega)).symm (z4 (by omega)).symm (z5 (by omega)).symm (z6 (by omega)).symm (z7 (by omega)).symm
 | 3,_ =>
  have h1:((aM v).2.2,({ e with n:=v }:En))=(0,e'):=h;obtain⟨h2,rfl⟩:=Prod.mk.inj h1;refine⟨rfl,fun j hj=>?_,?_⟩
  ·match j,hj with
   | 0,_=>rfl
   | 1,_=>rfl
   | 2,_=>rfl
  ·exact En.eq rfl rfl rfl rfl (z4 (by omega)).symm (z5 (by omega)).symm (z6 (by omega)).symm (z7 (by omega)).symm
 | 4,_ =>
  have h1:((0:Int),({ e with a:=v }:En))=(0,e'):=h;obtain⟨h2,rfl⟩:=Prod.mk.inj h1;refine⟨rfl,fun j hj=>?_,?_⟩
  ·match j,hj with
   | 0,_=>rfl
   | 1,_=>rfl
   | 2,_=>rfl
   | 3,_=>rfl
  ·exact En.eq rfl rfl rfl rfl rfl (z5 (by omega)).symm (z6 (by omega)).symm (z7 (by omega)).symm
 | 5,_ =>
  have h1:((0:Int),({ e with j:=v }:En))=(0,e'):=h;obtain⟨h2,rfl⟩:=Prod.mk.inj h1;refine⟨rfl,fun j hj=>?_,?_⟩
  ·match j,hj with
   | 0,_=>rfl
   | 1,_=>rfl
   | 2,_=>rfl
   | 3,_=>rfl
   | 4,_=>rfl
  ·exact En.eq rfl rfl rfl rfl rfl rfl (z6 (by omega)).symm (z7 (by omega)).symm
 | 6,_ =>
  have h1:(match eZ v 1073741824 with | some n=>if n=0 then (2,e) else (0,{ e with c:=(n:Int) }) | none=>(2,e))=((0:Int),e'):=h;cases hn:eZ v 1073741824 with
  | none=>rw[hn] at h1;cases h1
  | some n =>
   rw[hn] at h1;by_cases q:n=0
   ·simp only[if_pos q] at h1;cases h1
   ·simp only[if_neg q] at h1
    obtain⟨h2,rfl⟩:=Prod.mk.inj h1;have hd:=(H8 hn).1;refine⟨?_,fun j hj=>?_,?_⟩
    ·show (if (n:Int)=0 then [] else dcN ((n:Int)).toNat)=v
     rw[if_neg (by omega),hd];rfl
    ·match j,hj with
     | 0,_=>rfl
     | 1,_=>rfl
     | 2,_=>rfl
     | 3,_=>rfl
     | 4,_=>rfl
     | 5,_=>rfl
    ·exact En.eq rfl rfl rfl rfl rfl rfl rfl (z7 (by omega)).symm
 | 7,_ =>
  have h1:(match idx orn v with | some i=>(0,{ e with o:=(i:Int)+1 }) | none=>(2,e))=((0:Int),e'):=h;cases hn:idx orn v with
  | none=>rw[hn] at h1;cases h1
  | some n =>
   rw[hn] at h1;obtain⟨h2,rfl⟩:=Prod.mk.inj h1;refine⟨?_,fun j hj=>?_,?_⟩
   ·show orn.getD ((n:Int)+1 - 1).toNat []=v
    rw[show ((n:Int)+1 - 1).toNat=n by omega,getD_eq_getElem?_getD,tZ hn];rfl
   ·match j,hj with
    | 0,_=>rfl
    | 1,_=>rfl
    | 2,_=>rfl
    | 3,_=>rfl
    | 4,_=>rfl
    | 5,_=>rfl
    | 6,_=>rfl
   ·exact T7 _
def Inv (r:Rd):Prop:=prt r.e r.k=r.e/\r.k<=7
def pst (r:Rd):List Bs:=r.m.flatMap i6++g9 r.e r.k
theorem EW {r r':Rd} {s:Bs} (h:cQ r s=(0,r')) (hi:Inv r):Inv r'/\pst r'=pst r++[s]/\(Mem r.m->Mem r'.m):=by
 unfold cQ at h;cases hf:fld s with
 | none=>rw[hf] at h;cases h
 | some p =>
  obtain⟨k,v⟩:=p;rw[hf] at h;obtain⟨hk,hs⟩:=oP hf;simp only[] at h;by_cases hm:may r k v=true
  case neg=>rw[if_neg hm] at h;cases h
  rw[if_pos hm] at h;by_cases h0:(cG k v r.e).1≠0
  ·rw[if_pos h0] at h;exact absurd (congrArg Prod.fst h) h0
  rw[if_neg h0] at h;have hse:cG k v r.e=(0,(cG k v r.e).2):=Prod.ext (Decidable.not_not.1 h0) rfl;generalize (cG k v r.e).2=e' at h hse;unfold may at hm;rw[Bool.and_eq_true] at hm;obtain⟨m1,m2⟩:=hm;have hrk:r.k<=k/\(k=r.k\/2<=r.k):=by
   by_cases q:r.k < 2
   ·rw[if_pos q] at m1;simp at m1;omega
   ·rw[if_neg q] at m1;simp at m1;omega
  have hv:¬ (2<=k/\v=[]):=fun q=>by rw[q.2] at m2;simp at m2;omega
  obtain⟨e1,e2,e3⟩:=I7 hk hse hi.1 hrk.1;have hlin:g9 e' (k+1)=g9 r.e r.k++[s]:=by
   show g9 e' k++lnE k (vlE e' k)=_;rw[e1,lnE,if_neg hv,CZ k e2,hs];rcases hrk.2 with q | q
   ·rw[q]
   ·have:=CY hi.1 q (k - r.k) (by omega)
    rw[show r.k+(k - r.k)=k by omega] at this;rw[this]
  by_cases h7:k=7
  ·rw[if_pos h7] at h
   obtain⟨hb,rfl⟩:=Prod.mk.inj h;refine⟨⟨rfl,Nat.zero_le 7⟩,?_,fun hM=>(xX hM).1 hb⟩;show (r.m++[e']).flatMap i6++[]=r.m.flatMap i6++g9 r.e r.k++[s]
   rw[append_nil,flatMap_append,append_assoc,<- hlin,h7];simp [i6]
  ·rw[if_neg h7] at h
   obtain⟨_,rfl⟩:=Prod.mk.inj h;refine⟨⟨e3,by show k+1<=7;omega⟩,?_,fun hM=>hM⟩;show r.m.flatMap i6++g9 e' (k+1)=r.m.flatMap i6++g9 r.e r.k++[s]
   rw[hlin,append_assoc]
theorem yT:∀ (ls:List Bs) (r:Rd) (n:Nat) {n':Nat} {r':Rd},cK ls r n=(0,n',r')->Inv r->Inv r'/\pst r'=pst r++ls/\(Mem r.m->Mem r'.m)
 | [],r,n,n',r',h,hi=>by
  unfold cK at h;cases h;exact⟨hi,by rw[append_nil],fun h=>h⟩
 | t :: ls,r,n,n',r',h,hi=>by
  unfold cK at h;by_cases q:(cQ r t).1≠0
  ·rw[if_pos q] at h;exact absurd (congrArg Prod.fst h) q
  ·rw[if_neg q] at h
   obtain⟨i1,i2,i3⟩:=EW (Prod.ext (Decidable.not_not.1 q) rfl:cQ r t=(0,(cQ r t).2)) hi;obtain⟨j1,j2,j3⟩:=yT ls _ _ h i1;refine⟨j1,?_,fun hM=>j3 (i3 hM)⟩;rw[j2,i2,append_assoc];rfl
theorem QW {s:Bs} {m:List En} {k:Nat} (h:pM s=(m,k,0)):s=txM m/\Mem m/\m.length<=1024/\s.length<=1048576/\k=0:=by
 unfold pM at h;by_cases hs:1048576 < s.length
 ·rw[if_pos hs] at h;cases h
 rw[if_neg hs] at h;have hj:=sK s;cases hl:(lns s).1 with
 | nil=>rw[hl] at h;cases h
 | cons hd ls =>
  rw[hl] at h hj;simp only[] at h;cases hn:hdN hd with
  | none=>rw[hn] at h;cases h
  | some n =>
   rw[hn] at h;simp only[] at h;obtain⟨hh,hn2⟩:=NC hn;by_cases q1:(cK ls ⟨[],zE,0⟩ 1).1≠0
   ·rw[if_pos q1] at h
    exact absurd (congrArg (·.2.2) h) q1
   rw[if_neg q1] at h;by_cases q2:(lns s).2≠[]\/(cK ls ⟨[],zE,0⟩ 1).2.2.k≠0
   ·rw[if_pos q2] at h;cases h
   rw[if_neg q2] at h;by_cases q3:(cK ls ⟨[],zE,0⟩ 1).2.2.m.length≠n
   ·rw[if_pos q3] at h;cases h
   rw[if_neg q3] at h;obtain⟨hm,hk⟩:=Prod.mk.inj h;have hk0:k=0:=(congrArg Prod.fst hk).symm;have hr:cK ls ⟨[],zE,0⟩ 1=(0,(cK ls ⟨[],zE,0⟩ 1).2.1,(cK ls ⟨[],zE,0⟩ 1).2.2):=Prod.ext (Decidable.not_not.1 q1) rfl;obtain⟨_,i2,i3⟩:=yT ls _ _ hr ⟨rfl,by decide⟩;have q2:(lns s).2=[]/\(cK ls ⟨[],zE,0⟩ 1).2.2.k=0:=by
    by_cases a:(lns s).2=[]
    ·exact⟨a,Decidable.not_not.1 fun b=>q2 (.inr b)⟩
    ·exact absurd (.inl a) q2
   have q3:=Decidable.not_not.1 q3;unfold pst at i2;rw[q2.2,hm] at i2;rw[hm] at q3;have i2:m.flatMap i6=ls:=by simpa [g9] using i2
   rw[q2.1,append_nil] at hj;refine⟨?_,hm ▸ i3 mV,by omega,by omega,hk0⟩;rw[<- hj,hh,<- i2,<- q3];rfl
end Go.Nt
