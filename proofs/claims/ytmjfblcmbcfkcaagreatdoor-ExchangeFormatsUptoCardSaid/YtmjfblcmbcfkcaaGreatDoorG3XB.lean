/- Numbering the tags of a source and its target together, as plain data. Orders of byte strings, of numbers, and one behind the other. Entries of a memory as plain data: validity, keys, the order. Memories as plain data: sorted lists of entries, lookups, putting, deleting, uniting. A target of a source: the same tags in the same order, other texts. Entries that are made are valid. Lines and decimal numbers of a text, as plain data. No conditions. The text of a memory as plain data: how its lines are read, and what is written. No conditions. The text of a memory as plain data: what is written is read again, and only what is written is read. No conditions. The text of a memory as plain data: what can be read is what is written of the memory that is read. No conditions. The text of a memory as plain data: its length; errors of what is written. No conditions. -/
import Derived.Test.YtmjfblcmbcfkcaaGreatDoorG3XA
import GoSem.Op.String
open List
set_option linter.unusedSimpArgs false
set_option linter.unusedVariables false
set_option linter.unusedSectionVars false
set_option maxRecDepth 100000
set_option maxHeartbeats 16000000
namespace Go.Nt
def kY (l:List Int) (n:Int):List Int:=if n∈l then l else l++[n]
theorem MQ (l:List Int) (n i:Int) (h:i∈l):i∈kY l n:=by
 unfold kY;split
 ·exact h
 ·simp [h]
theorem IK (l:List Int) (n:Int):n∈kY l n:=by
 unfold kY;split
 ·assumption
 ·simp
theorem yE:∀ (a l:List Int) (i:Int),i∈l->i∈a.foldl kY l
 | [],l,i,h=>h
 | x :: a,l,i,h=>yE a _ i (MQ l x i h)
theorem v8:∀ (a l:List Int) (i:Int),i∈a->i∈a.foldl kY l
 | x :: a,l,i,h=>by
  rw[foldl_cons];rcases mem_cons.1 h with rfl | h
  ·exact yE a _ _ (IK l i)
  ·exact v8 a _ i h
theorem v9:∀ (t:List It) (acc l:List Int),(t.foldl fN acc).foldl kY l=t.foldl fN (acc.foldl kY l)
 | [],acc,l=>rfl
 | x :: t,acc,l=>by
  rw[foldl_cons,foldl_cons,v9 t (fN acc x) l]
  congr 1
  unfold fN;by_cases ht:bH x=true
  ·by_cases hm:x.2.2∈acc
   ·rw[if_neg (fun z=>z.2 hm),if_neg (fun z=>z.2 (v8 acc l _ hm))]
   ·rw[if_pos ⟨ht,hm⟩,foldl_append]
    have e:[x.2.2].foldl kY (acc.foldl kY l)=if x.2.2∈acc.foldl kY l then acc.foldl kY l else acc.foldl kY l++[x.2.2]:=rfl
    rw[e];by_cases q:x.2.2∈acc.foldl kY l
    ·rw[if_pos q,if_neg (fun z=>z.2 q)]
    ·rw[if_neg q,if_pos ⟨ht,q⟩]
  ·rw[if_neg (fun z=>ht z.1),if_neg (fun z=>ht z.1)]
def cnl (s t:List It):List Int:=b8 (s++t)
theorem L1 (s t:List It):(b8 t).foldl kY (b8 s)=cnl s t:=by
 unfold cnl b8;rw[v9,foldl_append];rfl
def OM (s t f:List It):List It:=jF (cnl s t) (upto (cnl s t).length) f
def gP (s t:List It):List It:=nrm (OM s t s)
def gX (s t:List It):List It:=nrm (OM s t t)
theorem vA (g:List It):∀ f:List It,(∀ x∈f,x∈g)->jF (b8 g) (upto (b8 g).length) f=f.map (phi g)
 | [],_=>rfl
 | x :: f,h=>by
  have ih:=vA g f (fun y hy=>h y (by simp [hy]));have e:qS (b8 g) (upto (b8 g).length) x=some (phi g x):=by
   unfold qS phi;by_cases ht:bH x=true
   ·rw[if_pos ht,if_pos ht,mZ (nD (h x (by simp)) ht)];rfl
   ·rw[if_neg ht,if_neg ht]
  show (x :: f).filterMap _=_;rw[filterMap_cons,e,map_cons,<- ih];rfl
theorem JV (s t:List It):OM s t s=s.map (phi (s++t)):=vA (s++t) s (fun x h=>by simp [h])
theorem JU (s t:List It):OM s t t=t.map (phi (s++t)):=vA (s++t) t (fun x h=>by simp [h])
theorem O5 (g f:List It):len (f.map (phi g))=len f:=by
 unfold len;rw[map_map]
 congr 1
 refine map_congr_left fun x _=>?_
 exact OX g x
theorem FG {g f:List It} (hn:(b8 g).length<=999) (hf:∀ x∈f,x∈g) (h:vld f=0):vld (f.map (phi g))=0:=by
 obtain⟨h1,h2,h3⟩:=(dG f).1 h;refine (dG _).2 ⟨?_,by simpa using h2,by rw[O5];exact h3⟩
 have:=A9 (f:=g) hn f [] (by simp) hf h1
 exact this
theorem iQ {s t:List It} (hl:(b8 (s++t)).length<=999) (h:vld s=0):gP s t=s.map (phi (s++t))/\vld (gP s t)=0:=by
 have hv:=FG hl (fun x hx=>by simp [hx]) h (f:=s);have e:gP s t=s.map (phi (s++t)):=by unfold gP;rw[JV,KL ((dG _).1 hv).1]
 exact⟨e,by rw[e];exact hv⟩
theorem iP {s t:List It} (hl:(b8 (s++t)).length<=999) (h:vld t=0):gX s t=t.map (phi (s++t))/\vld (gX s t)=0:=by
 have hv:=FG hl (fun x hx=>by simp [hx]) h (f:=t);have e:gX s t=t.map (phi (s++t)):=by unfold gX;rw[JU,KL ((dG _).1 hv).1]
 exact⟨e,by rw[e];exact hv⟩
theorem KW:∀ (n:Nat) (k:Nat),k < n->lkz (upto n) (upto n) ((k:Int)+1)=some ((k:Int)+1):=by
 have key:∀ (l:List Int) (i:Int),i∈l->lkz l l i=some i:=by
  intro l
  induction l with
  | nil=>intro i h;cases h
  | cons a l ih =>
   intro i h;simp only[lkz];by_cases e:a=i
   ·rw[if_pos e,e]
   ·rw[if_neg e]
    exact ih i ((mem_cons.1 h).resolve_left (fun q=>e q.symm))
 intro n k h;refine key _ _ ?_;unfold upto;exact List.mem_map.2 ⟨k,mem_range.2 h,rfl⟩
theorem BD (g:List It):b8 (g.map (phi g))=upto (b8 g).length:=by
 have hnd:∀ (f:List It) (l:List Int),l.Nodup->(f.foldl fN l).Nodup:=by
  intro f
  induction f with
  | nil=>intro l h;exact h
  | cons x f ih =>
   intro l h;refine ih _ ?_;unfold fN;split
   ·rename_i q
    rw[nodup_append];exact⟨h,by simp,fun a ha b hb=>by simp only[mem_singleton] at hb;rw[hb];exact fun e=>q.2 (e ▸ ha)⟩
   ·exact h
 have hN:(b8 g).Nodup:=hnd g [] nodup_nil
 have hsig:∀ (j:Nat) (i:Int),(b8 g)[j]?=some i->sig g i=(j:Int)+1:=by
  intro j i hj;obtain⟨j',h1,h2⟩:=vR _ _ _ _ (mZ (mem_of_getElem? hj));have hjl:j < (b8 g).length:=by
   by_cases q:j < (b8 g).length
   ·exact q
   ·rw[getElem?_eq_none (by omega)] at hj;cases hj
  have e:j=j':=(getElem?_inj hjl hN).1 (by rw[hj,h1]);rw[<- e] at h2;exact (uB h2).1
 have key:∀ (f h:List It),h++f=g->(f.map (phi g)).foldl fN (upto (b8 h).length)=upto (b8 g).length/\∃ r,b8 g=b8 h++r:=by
  intro f
  induction f with
  | nil =>
   intro h e;rw[append_nil] at e;subst e;exact⟨rfl,[],by simp⟩
  | cons x f ih =>
   intro h e;have e2:(h++[x])++f=g:=by rw[append_assoc];exact e
   obtain⟨i1,r,i2⟩:=ih (h++[x]) e2;have en:b8 (h++[x])=fN (b8 h) x:=by unfold b8;rw[foldl_append];rfl
   have hx:x∈g:=by rw[<- e];simp
   rw[map_cons,foldl_cons];have step:fN (upto (b8 h).length) (phi g x)=upto (b8 (h++[x])).length:=by
    rw[en];unfold fN;rw[uE];by_cases ht:bH x=true
    ·have ep:(phi g x).2.2=sig g x.2.2:=by unfold phi;rw[if_pos ht]
     rw[ep];by_cases hm:x.2.2∈b8 h
     ·obtain⟨j,hj⟩:=mem_iff_getElem?.1 hm
      have hjl:j < (b8 h).length:=by
       by_cases q:j < (b8 h).length
       ·exact q
       ·rw[getElem?_eq_none (by omega)] at hj;cases hj
      have hjg:(b8 g)[j]?=some x.2.2:=by
       rw[i2,en];unfold fN;rw[if_neg (fun z=>z.2 hm),getElem?_append_left hjl,hj]
      have es:=hsig j _ hjg;have hmem:sig g x.2.2∈upto (b8 h).length:=by
       rw[es];unfold upto;exact List.mem_map.2 ⟨j,mem_range.2 hjl,rfl⟩
      rw[if_neg (fun z=>z.2 hmem),if_neg (fun z=>z.2 hm)]
     ·have hjg:(b8 g)[(b8 h).length]?=some x.2.2:=by
       rw[i2,en];unfold fN;rw[if_pos ⟨ht,hm⟩,append_assoc,getElem?_append_right (Nat.le_refl _),Nat.sub_self];rfl
      have es:=hsig _ _ hjg;have hmem:sig g x.2.2 ∉ upto (b8 h).length:=by
       rw[es];intro q;unfold upto at q;obtain⟨a,ha,hb⟩:=List.mem_map.1 q
       have:=mem_range.1 ha
       omega
      rw[if_pos ⟨ht,hmem⟩,if_pos ⟨ht,hm⟩,es,length_append,length_singleton,CX]
    ·rw[if_neg (fun z=>ht z.1),if_neg (fun z=>ht z.1)]
   rw[step];refine⟨i1,?_⟩;rw[i2,en];unfold fN;split
   ·exact⟨x.2.2 :: r,by simp⟩
   ·exact⟨r,rfl⟩
 have:=(key g [] rfl).1
 exact this
theorem OW {f:List It} {x:It} (h:bH x=true):phi f x=(x.1,x.2.1,sig f x.2.2):=by unfold phi;rw[if_pos h]
theorem E5 (g:List It):∀ x∈g,phi (g.map (phi g)) (phi g x)=phi g x:=by
 intro x hx;by_cases ht:bH x=true
 ·have ep:phi g x=(x.1,x.2.1,sig g x.2.2):=by unfold phi;rw[if_pos ht]
  have hb:=JK (nD hx ht);have htp:bH (phi g x)=true:=by rw[uE];exact ht
  have e:phi (g.map (phi g)) (phi g x)=((phi g x).1,(phi g x).2.1,sig (g.map (phi g)) (phi g x).2.2):=OW htp;rw[e,ep];simp only[]
  have:sig (g.map (phi g)) (sig g x.2.2)=sig g x.2.2:=by
   unfold sig;rw[BD,fE];have hk:=KW (b8 g).length (sig g x.2.2 - 1).toNat (by omega);have ec:(((sig g x.2.2 - 1).toNat:Nat):Int)+1=sig g x.2.2:=by omega
   rw[ec] at hk;unfold sig at hk;rw[hk];rfl
  rw[this]
 ·have ep:phi g x=x:=by unfold phi;rw[if_neg ht]
  rw[ep];unfold phi;rw[if_neg ht]
theorem DH (g:List It):(b8 g).Nodup:=by
 have hnd:∀ (f:List It) (l:List Int),l.Nodup->(f.foldl fN l).Nodup:=by
  intro f
  induction f with
  | nil=>intro l h;exact h
  | cons x f ih =>
   intro l h;refine ih _ ?_;unfold fN;split
   ·rename_i q
    rw[nodup_append];exact⟨h,by simp,fun a ha b hb=>by simp only[mem_singleton] at hb;rw[hb];exact fun e=>q.2 (e ▸ ha)⟩
   ·exact h
 exact hnd g [] nodup_nil
theorem HY {g:List It} {i:Int} (h:i∈b8 g):∃ x∈g,bH x=true/\x.2.2=i:=by
 have key:∀ (f:List It) (l:List Int),i∈f.foldl fN l->i∈l\/∃ x∈f,bH x=true/\x.2.2=i:=by
  intro f
  induction f with
  | nil=>intro l h;exact .inl h
  | cons x f ih =>
   intro l h;rcases ih _ h with q | ⟨y,h1,h2⟩
   ·unfold fN at q
    split at q
    ·rename_i z
     rcases mem_append.1 q with q | q
     ·exact .inl q
     ·exact .inr ⟨x,mem_cons_self ..,z.1,(mem_singleton.1 q).symm⟩
    ·exact .inl q
   ·exact .inr ⟨y,mem_cons_of_mem _ h1,h2⟩
 rcases key g [] h with q | q
 ·cases q
 ·exact q
theorem RN {f:List It} (h:VL f):∀ x∈f,x.1≠1->wfX x:=by
 have key:∀ (n:Nat) (f:List It),f.length=n->VL f->∀ x∈f,x.1≠1->wfX x:=by
  intro n
  induction n with
  | zero=>intro f hf _ x hx;rw[eq_nil_of_length_eq_zero hf] at hx;cases hx
  | succ n ih =>
   intro f hf hv x hx;rcases fG f with rfl | ⟨g,y,rfl⟩
   ·simp at hf
   ·obtain⟨a,b⟩:=(cH g y).1 hv
    rcases mem_append.1 hx with q | q
    ·exact ih g (by simp at hf;exact hf) a x q
    ·rw[mem_singleton.1 q]
     exact AB b
 exact key _ f rfl h
theorem Y2 {x:It} (h:wfX x) (ht:bH x=true):1<=x.2.2/\x.2.2<=999:=by
 unfold bH at ht;rcases h with ⟨h1,_⟩ | ⟨h1,_⟩ | ⟨_,_,h⟩ | ⟨_,_,h⟩
 ·rw[h1] at ht;simp at ht
 ·rw[h1] at ht;simp at ht
 ·exact h
 ·exact h
theorem jZ {s t:List It} (hs:vld s=0) (ht:vld t=0):(b8 (s++t)).length<=999:=by
 have hsub:b8 (s++t) ⊆ upto 999:=by
  intro i hi;obtain⟨x,hx,h1,h2⟩:=HY hi;have hw:wfX x:=by
   have hk:x.1≠1:=fun q=>by unfold bH at h1;rw[q] at h1;simp at h1
   rcases mem_append.1 hx with q | q
   ·exact RN ((dG s).1 hs).1 x q hk
   ·exact RN ((dG t).1 ht).1 x q hk
  have:=Y2 hw h1
  unfold upto;exact List.mem_map.2 ⟨(i - 1).toNat,mem_range.2 (by omega),by omega⟩
 have:=(DH (s++t)).length_le_of_subset hsub
 rw[fE] at this;exact this
theorem QW {s t:List It} (hs:vld s=0) (ht:vld t=0):gP (gP s t) (gX s t)=gP s t/\gX (gP s t) (gX s t)=gX s t:=by
 have hn:=jZ hs ht;obtain⟨e1,v1⟩:=iQ hn hs;obtain⟨e2,v2⟩:=iP hn ht;have hl:(b8 (gP s t++gX s t)).length<=999:=by rw[e1,e2,<- map_append,BD,fE];exact hn
 obtain⟨e3,_⟩:=iQ (t:=gX s t) hl v1;obtain⟨e4,_⟩:=iP (s:=gP s t) hl v2;have eg:gP s t++gX s t=(s++t).map (phi (s++t)):=by rw[e1,e2,map_append]
 rw[e3,e4,eg,e1,e2,map_map,map_map];constructor
 ·refine map_congr_left fun x hx=>?_
  exact E5 (s++t) x (by simp [hx])
 ·refine map_congr_left fun x hx=>?_
  exact E5 (s++t) x (by simp [hx])
end Go.Nt
namespace Go.Nt
abbrev ltB (a b:Bs):Bool:=Op.bytesLess a b
theorem FH (a:Bs):ltB a []=false:=by cases a<;>rfl
theorem zM (a b:UInt8) (x y:Bs):ltB (a :: x) (b :: y)=(decide (a < b) || (a == b && ltB x y)):=rfl
theorem lI:∀ a:Bs,ltB a a=false
 | []=>rfl
 | a :: x=>by
  rw[zM,lI x,Bool.and_false,Bool.or_false,decide_eq_false_iff_not];exact UInt8.lt_irrefl a
theorem oM:∀ a b:Bs,ltB a b=false->a≠b->ltB b a=true
 | [],[],_,h=>absurd rfl h
 | [],b :: y,h,_=>by cases h
 | a :: x,[],_,_=>rfl
 | a :: x,b :: y,h,hne=>by
  rw[zM,Bool.or_eq_false_iff,decide_eq_false_iff_not] at h;rw[zM,Bool.or_eq_true,decide_eq_true_iff];by_cases e:a=b
  ·subst e
   refine .inr ?_
   have h2:=h.2;simp only[beq_self_eq_true,Bool.true_and] at h2 ⊢;exact oM x y h2 (fun q=>hne (by rw[q]))
  ·refine .inl ?_
   have:=UInt8.not_lt.1 h.1
   exact UInt8.lt_of_le_of_ne this (fun q=>e q.symm)
theorem pX:∀ a b c:Bs,ltB a b=true->ltB b c=true->ltB a c=true
 | _,[],c,h,_=>by rw[FH] at h;cases h
 | _,_ :: _,[],_,h=>by rw[FH] at h;cases h
 | [],b :: y,c :: z,_,_=>rfl
 | a :: x,b :: y,c :: z,h1,h2=>by
  rw[zM,Bool.or_eq_true,decide_eq_true_iff,Bool.and_eq_true,beq_iff_eq] at h1 h2 ⊢;rcases h1 with h1 | ⟨rfl,h1⟩
  ·rcases h2 with h2 | ⟨rfl,h2⟩
   ·exact .inl (UInt8.lt_trans h1 h2)
   ·exact .inl h1
  ·rcases h2 with h2 | ⟨rfl,h2⟩
   ·exact .inl h2
   ·exact .inr ⟨rfl,pX x y z h1 h2⟩
theorem gV {a b:Bs} (h:ltB a b=true):ltB b a=false:=by
 cases q:ltB b a with
 | false=>rfl
 | true=>have:=pX a b a h q;rw[lI] at this;cases this
theorem DJ {a b:Bs} (h:ltB a b=true):a≠b:=fun e=>by rw[e,lI] at h;cases h
structure TO {α:Type} (f:α->α->Int):Prop where
 anti:∀ a b,f b a = - f a b
 le:∀ a b c,f a b<=0->f b c<=0->f a c<=0
 lt:∀ a b c,f a b<=0->f b c<=0->(f a b < 0\/f b c < 0)->f a c < 0
theorem TO.z {α:Type} {f:α->α->Int} (h:TO f) {a b c:α} (h1:f a b=0) (h2:f b c=0):f a c=0:=by
 have:=h.le a b c (by omega) (by omega)
 have:=h.le c b a (by have:=h.anti b c;omega) (by have:=h.anti a b;omega)
 have:=h.anti a c
 omega
end Go.Nt
namespace Go.Nt
theorem M5 (c:UInt8):(10:UInt8) ∉ wrt c:=by
 have:=eE (fun c=>!((wrt c).contains 10)) (by decide +kernel) c
 simpa using this
theorem NA {f:List It} {x:It} (h:chk f x=0):(10:UInt8) ∉ elt x:=by
 obtain⟨k,s,i⟩:=x;by_cases hk:k=1
 ·subst hk
  show (10:UInt8) ∉ s.flatMap wrt;rw[mem_flatMap]
  rintro ⟨c,_,hc⟩
  exact M5 c hc
 ·have hw:=AB h hk
  have hd:∀ n:Nat,n<=999->(10:UInt8) ∉ Nt.dec n:=fun n hn q=>absurd (rP hn _ q) (by decide)
  have hnm:∀ t:Bs,cR t=true->(10:UInt8) ∉ t:=fun t ht q=>absurd ((gW ht).2.2 _ q) (by decide)
  have hic:∀ t:Bs,isC t=true->(10:UInt8) ∉ t:=fun t ht q=>absurd ((zR ht).1 _ q) (by decide)
  rcases hw with ⟨h1,_⟩ | ⟨h1,h2,h3⟩ | ⟨h1,h2,h3,h4⟩ | ⟨h1,h2,h3,h4⟩
  ·exact absurd h1 hk
  ·simp only[] at h1 h2 h3
   subst h1;simp [elt,hnm s h2]
  ·simp only[] at h1 h2 h3 h4
   have hdi:=hd i.toNat (by omega);rcases h1 with rfl | rfl
   ·simp [elt,hic s h2,hdi]
   ·simp [elt,hic s h2,hdi]
  ·simp only[] at h1 h2 h3 h4
   have hdi:=hd i.toNat (by omega);subst h1;simp [elt,hnm s h2,hdi]
theorem EJ {f:List It} (h:VL f):(10:UInt8) ∉ fmt f:=by
 have key:∀ (n:Nat) (f:List It),f.length=n->VL f->(10:UInt8) ∉ fmt f:=by
  intro n
  induction n with
  | zero=>intro f hf _;rw[eq_nil_of_length_eq_zero hf];simp [fmt]
  | succ n ih =>
   intro f hf hv;rcases fG f with rfl | ⟨g,y,rfl⟩
   ·simp at hf
   ·obtain⟨a,b⟩:=(cH g y).1 hv
    rw[oT,oR,mem_append]
    rintro (q | q)
    ·exact ih g (by simp at hf;exact hf) a q
    ·exact NA b q
 exact key _ f rfl h
theorem xI {s:Bs} (h:(aK s).2.2=0):(10:UInt8) ∉ s:=by
 obtain⟨g,b,e,hp⟩:∃ g b e,aK s=(g,b,e):=⟨(aK s).1,(aK s).2.1,(aK s).2.2,rfl⟩
 rw[hp] at h;simp only[] at h;subst h;obtain⟨h1,h2,_⟩:=eN hp;rw[<- h2];exact EJ ((dG g).1 h1).1
structure En where
 S:List It
 T:List It
 p:Bs
 n:Bs
 a:Bs
 j:Bs
 c:Int
 o:Int
theorem En.eq {x y:En} (h1:x.S=y.S) (h2:x.T=y.T) (h3:x.p=y.p) (h4:x.n=y.n) (h5:x.a=y.a) (h6:x.j=y.j) (h7:x.c=y.c) (h8:x.o=y.o):x=y:=by
 cases x;cases y;simp only[] at *;subst h1;subst h2;subst h3;subst h4;subst h5;subst h6;subst h7;subst h8;rfl
def jR (s:Bs):Int:=(aK s).2.2
def gU (s:Bs):Bool:=decide (s=[]) || cR s
def vE (e:En):Int:=
 if vld e.S≠0 then vld e.S else if vld e.T≠0 then vld e.T else
 if e.S=[]\/gP e.S e.T≠e.S\/gX e.S e.T≠e.T then 1 else
 if jR e.p≠0 then jR e.p else if jR e.n≠0 then jR e.n else
 if ¬ (gU e.a=true/\gU e.j=true) then 4 else
 if e.c < 0\/1073741824 < e.c\/e.o < 1\/3 < e.o then 1 else 0
structure VE (e:En):Prop where
 vS:vld e.S=0
 vT:vld e.T=0
 ne:e.S≠[]
 cS:gP e.S e.T=e.S
 cT:gX e.S e.T=e.T
 pp:jR e.p=0
 pn:jR e.n=0
 na:gU e.a=true
 nj:gU e.j=true
 c0:0<=e.c
 c1:e.c<=1073741824
 o1:1<=e.o
 o3:e.o<=3
theorem lB (e:En):vE e=0↔VE e:=by
 unfold vE;constructor
 ·intro h
  split at h
  ·rename_i q;exact absurd h q
  rename_i h1
  split at h
  ·rename_i q;exact absurd h q
  rename_i h2
  split at h
  ·cases h
  rename_i h3
  split at h
  ·rename_i q;exact absurd h q
  rename_i h4
  split at h
  ·rename_i q;exact absurd h q
  rename_i h5
  split at h
  ·cases h
  rename_i h6
  split at h
  ·cases h
  rename_i h7;have h6:=Decidable.not_not.1 h6;refine⟨Decidable.not_not.1 h1,Decidable.not_not.1 h2,fun q=>h3 (.inl q),?_,?_,Decidable.not_not.1 h4,Decidable.not_not.1 h5,h6.1,h6.2,by omega,by omega,by omega,by omega⟩
  ·by_cases q:gP e.S e.T=e.S
   ·exact q
   ·exact absurd (.inr (.inl q)) h3
  ·by_cases q:gX e.S e.T=e.T
   ·exact q
   ·exact absurd (.inr (.inr q)) h3
 ·rintro ⟨vS,vT,ne,cS,cT,pp,pn,na,nj,c0,c1,o1,o3⟩
  rw[if_neg (by simp [vS]),if_neg (by simp [vT]),if_neg (by simp [ne,cS,cT]),if_neg (by simp [pp]),if_neg (by simp [pn]),if_neg (by simp [na,nj]),if_neg (by omega)]
def fmE (f:List It):Bs:=if vld f=0 then fmt f else []
def gB (e:En):Bs:=fmE e.S++10 :: (e.p++10 :: e.n)
def aL (e:En):Bs:=if vE e=0 then gB e else []
end Go.Nt
namespace Go.Nt
def Sr (m:List En):Prop:=m.Pairwise fun x y=>ltB (aL x) (aL y)=true
def Mem (m:List En):Prop:=(∀ e∈m,VE e)/\Sr m
theorem rE:Mem []:=⟨fun e h=>(by cases h),List.Pairwise.nil⟩
def kS (m:List En) (k:Bs):Option En:=m.find? fun e=>aL e == k
theorem sR (x:En) (m:List En) (k:Bs):kS (x :: m) k=if aL x=k then some x else kS m k:=by
 unfold kS;rw[find?_cons];by_cases h:aL x=k
 ·have:(aL x == k)=true:=by simpa using h
  rw[this,if_pos h]
 ·have:(aL x == k)=false:=by simpa using h
  rw[this,if_neg h]
theorem oQ {m:List En} {k:Bs} {e:En} (h:kS m k=some e):e∈m/\aL e=k:=by
 unfold kS at h;exact⟨mem_of_find?_eq_some h,by simpa using find?_some h⟩
theorem LG {m:List En} (h:Sr m) {e:En} (he:e∈m):kS m (aL e)=some e:=by
 induction m with
 | nil=>cases he
 | cons x m ih =>
  rw[sR];rcases mem_cons.1 he with rfl | he
  ·rw[if_pos rfl]
  ·have:=(pairwise_cons.1 h).1 e he
   rw[if_neg (DJ this)];exact ih (pairwise_cons.1 h).2 he
def bel (k:Bs) (m:List En):List En:=m.filter fun e=>ltB (aL e) k
def abv (k:Bs) (m:List En):List En:=m.filter fun e=>ltB k (aL e)
theorem pQ {m:List En} (h:Sr m) {k:Bs} (hn:kS m k=none):m=bel k m++abv k m:=by
 induction m with
 | nil=>rfl
 | cons x m ih =>
  obtain⟨h1,h2⟩:=pairwise_cons.1 h;rw[sR] at hn;by_cases e:aL x=k
  ·rw[if_pos e] at hn;cases hn
  rw[if_neg e] at hn;unfold bel abv;rw[filter_cons,filter_cons];cases hl:ltB (aL x) k with
  | true =>
   rw[gV hl];simp only[if_true,Bool.false_eq_true,if_false,cons_append]
   congr 1
   exact ih h2 hn
  | false =>
   have hg:=oM _ _ hl e;rw[hg];simp only[if_true,Bool.false_eq_true,if_false];have e1:m.filter (fun e=>ltB (aL e) k)=[]:=by
    rw[filter_eq_nil_iff];intro z hz;rw[gV (pX _ _ _ hg (h1 z hz))];simp
   have e2:m.filter (fun e=>ltB k (aL e))=m:=by
    rw[filter_eq_self];intro z hz;exact pX _ _ _ hg (h1 z hz)
   rw[e1,e2,nil_append]
theorem lE {m:List En} (h:Sr m) {k:Bs} {x:En} (hs:kS m k=some x):m=bel k m++x :: abv k m:=by
 induction m with
 | nil=>cases hs
 | cons y m ih =>
  obtain⟨h1,h2⟩:=pairwise_cons.1 h;rw[sR] at hs;unfold bel abv;rw[filter_cons,filter_cons];by_cases e:aL y=k
  ·rw[if_pos e] at hs
   cases hs;subst e;rw[lI];simp only[Bool.false_eq_true,if_false];have e1:m.filter (fun e=>ltB (aL e) (aL x))=[]:=by
    rw[filter_eq_nil_iff];intro z hz;rw[gV (h1 z hz)];simp
   have e2:m.filter (fun e=>ltB (aL x) (aL e))=m:=by
    rw[filter_eq_self];exact h1
   rw[e1,e2,nil_append]
  ·rw[if_neg e] at hs
   obtain⟨q1,q2⟩:=oQ hs;have hl:ltB (aL y) k=true:=by rw[<- q2];exact h1 x q1
   rw[hl,gV hl];simp only[if_true,Bool.false_eq_true,if_false,cons_append]
   congr 1
   exact ih h2 hs
def mM (m:List En) (e:En):List En:=bel (aL e) m++e :: abv (aL e) m
theorem TQ {m:List En} (h:Sr m) (k:Bs):Sr (bel k m):=h.filter _
theorem TR {m:List En} (h:Sr m) (k:Bs):Sr (abv k m):=h.filter _
theorem zK {k:Bs} {m:List En} {e:En}:e∈bel k m↔e∈m/\ltB (aL e) k=true:=by unfold bel;rw[mem_filter]
theorem rF {k:Bs} {m:List En} {e:En}:e∈abv k m↔e∈m/\ltB k (aL e)=true:=by unfold abv;rw[mem_filter]
theorem TP {m:List En} (h:Sr m) (e:En):Sr (mM m e):=by
 unfold mM Sr;rw[pairwise_append];refine⟨TQ h _,pairwise_cons.2 ⟨fun z hz=>(rF.1 hz).2,TR h _⟩,fun a ha b hb=>?_⟩;have h1:=(zK.1 ha).2;rcases mem_cons.1 hb with rfl | hb
 ·exact h1
 ·exact pX _ _ _ h1 (rF.1 hb).2
theorem zJ {m:List En} {e z:En}:z∈mM m e↔z=e\/(z∈m/\aL z≠aL e):=by
 unfold mM;rw[mem_append,mem_cons,zK,rF];constructor
 ·rintro (⟨h1,h2⟩ | h | ⟨h1,h2⟩)
  ·exact .inr ⟨h1,DJ h2⟩
  ·exact .inl h
  ·exact .inr ⟨h1,(DJ h2).symm⟩
 ·rintro (h | ⟨h1,h2⟩)
  ·exact .inr (.inl h)
  ·cases hl:ltB (aL z) (aL e) with
   | true=>exact .inl ⟨h1,rfl⟩
   | false=>exact .inr (.inr ⟨h1,oM _ _ hl h2⟩)
theorem KR {m:List En} (h:Mem m) {e:En} (he:VE e):Mem (mM m e):=
 ⟨fun z hz=>(zJ.1 hz).elim (fun q=>by rw[q];exact he) (fun q=>h.1 z q.1),TP h.2 e⟩
theorem OR {m:List En} (h:Sr m) (e:En):(mM m e).length=if (kS m (aL e)).isSome=true then m.length else m.length+1:=by
 unfold mM;cases hg:kS m (aL e) with
 | none =>
  have:=congrArg List.length (pQ h hg)
  rw[length_append] at this;simp only[length_append,length_cons,Option.isSome_none,Bool.false_eq_true,if_false];omega
 | some x =>
  have:=congrArg List.length (lE h hg)
  rw[length_append,length_cons] at this;simp only[length_append,length_cons,Option.isSome_some,if_true];omega
end Go.Nt
namespace Go.Nt
theorem D6 (x:It):∀ f:List It,f.any (dF x)=(tg f).any (dF x)
 | []=>rfl
 | y :: f=>by
  have ih:=D6 x f;unfold tg at ih ⊢;rw[any_cons,ih,filter_cons];cases h:bH y with
  | true=>simp only[if_true,any_cons]
  | false =>
   have:dF x y=false:=by unfold dF;rw[h];rfl
   rw[this,Bool.false_or];simp only[Bool.false_eq_true,if_false]
theorem S5 {f g:List It} {x:It} (hx:x.1≠1):wfB f x=wfB g x:=by
 unfold wfB;rw[if_neg hx,if_neg hx]
theorem WN {f g:List It} {x:It} (hx:x.1≠1) (h:tg f=tg g):chk f x=chk g x:=by
 rw[oW,oW,S5 (g:=g) hx];unfold rK;rw[D6 x f,D6 x g,h]
theorem KB {f g:List It} {x:It} (hx:x.1≠1) (hf:VL f) (ht:tg f=tg g) (hc:chk g x=0):pn f x=f++[x]/\VL (pn f x)/\tg (pn f x)=tg (g++[x]):=by
 have e:pn f x=f++[x]:=by unfold pn;rw[if_neg hx]
 refine⟨e,?_,?_⟩
 ·rw[e]
  exact (cH f x).2 ⟨hf,by rw[WN hx ht];exact hc⟩
 ·rw[e,fF,fF,ht]
theorem mkVE {f t:List It} {p n a j:Bs} {c o:Int} (hf:vld f=0) (ht:vld t=0) (hne:f≠[]) (pp:jR p=0) (pn:jR n=0) (na:gU a=true) (nj:gU j=true) (c0:0<=c) (c1:c<=1073741824) (o1:1<=o) (o3:o<=3):VE ⟨gP f t,gX f t,p,n,a,j,c,o⟩:=by
 have hl:=jZ hf ht;obtain⟨e1,v1⟩:=iQ hl hf;obtain⟨e2,v2⟩:=iP hl ht;obtain⟨q1,q2⟩:=QW hf ht;exact⟨v1,v2,by show gP f t≠[];rw[e1];simpa using hne,q1,q2,pp,pn,na,nj,c0,c1,o1,o3⟩
end Go.Nt
namespace Go.Nt
def lns:Bs->List Bs × Bs
 | []=>([],[])
 | c :: s=>if c=10 then ([] :: (lns s).1,(lns s).2) else match (lns s).1 with
  | []=>([],c :: (lns s).2)
  | l :: ls=>((c :: l) :: ls,(lns s).2)
theorem FJ (s:Bs):lns (10 :: s)=([] :: (lns s).1,(lns s).2):=by simp [lns]
theorem KV {c:UInt8} (h:c≠10) (s:Bs):lns (c :: s)=match (lns s).1 with
  | []=>([],c :: (lns s).2)
  | l :: ls=>((c :: l) :: ls,(lns s).2):=by simp [lns,h]
theorem vP:∀ {s:Bs},(10:UInt8) ∉ s->lns s=([],s)
 | [],_=>rfl
 | c :: s,h=>by
  have h1:c≠10:=fun e=>h (e ▸ mem_cons_self)
  rw[KV h1,vP (fun q=>h (mem_cons_of_mem _ q))]
theorem vO:∀ {t:Bs} (w:Bs),(10:UInt8) ∉ t->lns (t++10 :: w)=(t :: (lns w).1,(lns w).2)
 | [],w,_=>FJ w
 | c :: t,w,h=>by
  have h1:c≠10:=fun e=>h (e ▸ mem_cons_self)
  rw[cons_append,KV h1,vO w (fun q=>h (mem_cons_of_mem _ q))]
theorem FK {s t w:Bs} (h:cut 10 s=some (t,w)):lns s=(t :: (lns w).1,(lns w).2):=by
 obtain⟨e,q⟩:=cM.1 h;rw[e,vO w q]
theorem yA {s:Bs} (h:cut 10 s=none):lns s=([],s):=vP (nP.1 h)
def jn (ls:List Bs):Bs:=ls.flatMap (·++[10])
theorem j7 (l:Bs) (ls:List Bs):jn (l :: ls)=l++10 :: jn ls:=by simp [jn]
theorem zQ:jn []=[]:=rfl
theorem vV (a b:List Bs):jn (a++b)=jn a++jn b:=by simp [jn]
theorem rH:∀ (s:Bs),jn (lns s).1++(lns s).2=s
 | []=>rfl
 | c :: s=>by
  have ih:=rH s;by_cases h:c=10
  ·rw[h,FJ,j7,nil_append,cons_append,ih]
  ·rw[KV h]
   cases e:(lns s).1 with
   | nil=>rw[e,zQ,nil_append] at ih;show jn []++c :: (lns s).2=_;rw[zQ,nil_append,ih]
   | cons l ls =>
    rw[e,j7] at ih;show jn ((c :: l) :: ls)++(lns s).2=_;rw[j7,cons_append,cons_append,ih]
theorem zN:∀ {ls:List Bs} {r:Bs},(∀ l∈ls,(10:UInt8) ∉ l)->(10:UInt8) ∉ r->lns (jn ls++r)=(ls,r)
 | [],r,_,h=>vP h
 | l :: ls,r,h,hr=>by
  rw[j7,append_assoc,cons_append,vO _ (h l mem_cons_self),zN (fun x hx=>h x (mem_cons_of_mem _ hx)) hr]
def dcN (n:Nat):Bs:=if n < 10 then [dig n] else dcN (n / 10)++[dig (n % 10)]
theorem eZ {n:Nat} (h:n < 10):dcN n=[dig n]:=by rw[dcN,if_pos h]
theorem aX {n:Nat} (h:¬ n < 10):dcN n=dcN (n / 10)++[dig (n % 10)]:=by rw[dcN,if_neg h]
theorem LV {n:Nat} (h:n < 10):dA (dig n)=true/\(dig n).toNat - 48=n/\(n≠0->dig n≠48):=by
 have:∀ k:Fin 10,dA (dig k.1)=true/\(dig k.1).toNat - 48=k.1/\(k.1≠0->dig k.1≠48):=by decide
 exact this ⟨n,h⟩
theorem vK:∀ (a b:Bs) (n:Nat),cP (a++b) n=cP b (cP a n)
 | [],b,n=>rfl
 | c :: a,b,n=>vK a b _
def eQ (s:Bs) (most:Nat):Option Nat:=
 if 1<=s.length/\s.length<=10/\¬ (1 < s.length/\s.head?=some 48)/\s.all dA=true/\cP s 0<=most then some (cP s 0) else none
theorem wG:∀ (k n:Nat),n < 10 ^ (k+1)->(dcN n).all dA=true/\cP (dcN n) 0=n/\1<=(dcN n).length/\(dcN n).length<=k+1/\(n≠0->(dcN n).head?≠some 48)
 | 0,n,h=>by
  have h':n < 10:=by simpa using h
  obtain⟨a,b,c⟩:=LV h';rw[eZ h'];exact⟨by simp [a],by simpa [cP] using b,by simp,by simp,fun q=>by simpa using c q⟩
 | k+1,n,h=>by
  by_cases q:n < 10
  ·obtain⟨a,b,c⟩:=LV q
   rw[eZ q];exact⟨by simp [a],by simpa [cP] using b,by simp,by simp,fun q=>by simpa using c q⟩
  ·have h2:n / 10 < 10 ^ (k+1):=by
    rw[Nat.pow_succ] at h;omega
   obtain⟨a,b,c,d,e⟩:=wG k (n / 10) h2;obtain⟨a',b',c'⟩:=LV (n:=n % 10) (Nat.mod_lt _ (by decide));rw[aX q];refine⟨by rw[all_append,a];simp [a'],?_,by simp,by simp;omega,fun _=>?_⟩
   ·rw[vK,b]
    show 10*(n / 10)+((dig (n % 10)).toNat - 48)=n;rw[b'];omega
   ·have:=e (by omega)
    rw[head?_append];cases hh:(dcN (n / 10)).head? with
    | none =>
     have:dcN (n / 10)=[]:=head?_eq_none_iff.1 hh
     rw[this] at c;simp at c
    | some x=>rw[hh] at this;simpa using this
theorem FC {n most:Nat} (h:n<=most) (hm:most < 10000000000):eQ (dcN n) most=some n:=by
 obtain⟨a,b,c,d,e⟩:=wG 9 n (by simpa using (by omega:n < 10000000000));unfold eQ;rw[b,if_pos];refine⟨c,d,fun q=>?_,a,h⟩;by_cases z:n=0
 ·rw[z,eZ (by decide)] at q;simp at q
 ·exact e z q.2
theorem wF:∀ (k:Nat) (s:Bs),s.length=k+1->s.all dA=true->(1 < s.length->s.head?≠some 48)->dcN (cP s 0)=s/\(1 < s.length->10<=cP s 0)
 | 0,s,hl,hd,_=>by
  obtain⟨c,rfl⟩:∃ c,s=[c]:=by
   match s,hl with
   | [c],_=>exact⟨c,rfl⟩
  have:=kH (c:=c) (by simpa using hd)
  refine⟨?_,fun q=>by simp at q⟩;show dcN (10*0+(c.toNat - 48))=[c]
  rw[Nat.mul_zero,Nat.zero_add,eZ this.2.1,this.1]
 | k+1,s,hl,hd,hz=>by
  obtain⟨a,c,rfl⟩:∃ a c,s=a++[c]:=⟨s.dropLast,s.getLast (by intro e;rw[e] at hl;simp at hl),(dropLast_concat_getLast _).symm⟩
  have la:a.length=k+1:=by simpa using hl
  rw[all_append,Bool.and_eq_true] at hd;have hc:=kH (c:=c) (by simpa using hd.2);have hh:a.head?≠some 48:=by
   have:=hz (by rw[hl];omega)
   rw[head?_append] at this
   cases e:a.head? with
   | none=>simp
   | some x=>rw[e] at this;simpa using this
  obtain⟨i1,i2⟩:=wF k a la hd.1 (fun _=>hh);have hv:cP (a++[c]) 0=10*cP a 0+(c.toNat - 48):=by rw[vK];rfl
  have h1:1<=cP a 0:=by
   by_cases q:1 < a.length
   ·have:=i2 q;omega
   ·obtain⟨x,rfl⟩:∃ x,a=[x]:=by
     match a,(by omega:a.length=1) with
     | [x],_=>exact⟨x,rfl⟩
    have h2:=(kH (c:=x) (by simpa using hd.1)).2.2 (fun e=>hh (by rw[e];rfl));show 1<=10*0+(x.toNat - 48)
    omega
  rw[hv];refine⟨?_,fun _=>by omega⟩;rw[aX (by omega),show (10*cP a 0+(c.toNat - 48)) / 10=cP a 0 by omega,show (10*cP a 0+(c.toNat - 48)) % 10=c.toNat - 48 by omega,i1,hc.1]
theorem GB {s:Bs} {most n:Nat} (h:eQ s most=some n):s=dcN n/\n<=most:=by
 unfold eQ at h
 split at h
 case isFalse=>cases h
 rename_i q;obtain⟨a,b,c,d,e⟩:=q;cases h
 have:=(wF (s.length - 1) s (by omega) d (fun q1 q2=>c ⟨q1,q2⟩)).1
 exact⟨this.symm,e⟩
theorem LZ {n:Nat} (h:n < 10000000000) (x:UInt8) (hx:dA x=false):x ∉ dcN n:=fun q=>by
 have:=all_eq_true.1 (wG 9 n (by simpa using h)).1 x q
 rw[hx] at this;cases this
end Go.Nt
namespace Go.Nt
def fnm:List Bs:=[[115,111,117,114,99,101],[116,97,114,103,101,116],[112,114,101,118,105,111,117,115],[110,101,120,116],[97,117,116,104,111,114],[112,114,111,106,101,99,116],[99,114,101,97,116,101,100],[111,114,105,103,105,110]]
def orn:List Bs:=[[104,117,109,97,110],[97,108,105,103,110,101,100],[109,97,99,104,105,110,101]]
def hdB:Bs:=[98,105,116,101,120,116,45,109,101,109,111,114,121,32]
def idx:List Bs->Bs->Option Nat
 | [],_=>none
 | x :: l,a=>if x=a then some 0 else (idx l a).map (·+1)
theorem sQ:∀ {l:List Bs} {a:Bs} {k:Nat},idx l a=some k->l[k]?=some a
 | [],a,k,h=>by cases h
 | x :: l,a,k,h=>by
  unfold idx at h;by_cases q:x=a
  ·rw[if_pos q] at h;cases h;simp [q]
  ·rw[if_neg q] at h
   obtain⟨j,h1,rfl⟩:=Option.map_eq_some_iff.1 h;simpa using sQ h1
theorem PW:∀ k,k < 8->idx fnm (fnm.getD k [])=some k:=by decide
theorem uM:∀ k,k < 3->idx orn (orn.getD k [])=some k:=by decide
theorem LI:∀ k,k < 8->(32:UInt8) ∉ fnm.getD k []/\(10:UInt8) ∉ fnm.getD k []:=by decide
theorem KJ:∀ k,k < 3->orn.getD k []≠[]/\(10:UInt8) ∉ orn.getD k []:=by decide
def fld (s:Bs):Option (Nat × Bs):=(cut 32 s).bind fun p=>(idx fnm p.1).map fun k=>(k,p.2)
def lnK (k:Nat) (v:Bs):Bs:=fnm.getD k []++32 :: v
theorem LQ {k:Nat} (h:k < 8) (v:Bs):fld (lnK k v)=some (k,v):=by
 unfold fld lnK;rw[j9 (LI k h).1];simp only[Option.bind_some,PW k h,Option.map_some]
theorem nJ {s:Bs} {k:Nat} {v:Bs} (h:fld s=some (k,v)):k < 8/\s=lnK k v:=by
 unfold fld at h;obtain⟨⟨a,w⟩,h1,h2⟩:=Option.bind_eq_some_iff.1 h;obtain⟨j,h3,h4⟩:=Option.map_eq_some_iff.1 h2;cases h4;have h5:=sQ h3;have h6:=(List.getElem?_eq_some_iff.1 h5).1;refine⟨h6,?_⟩;unfold lnK;rw[getD_eq_getElem?_getD,h5];exact (cM.1 h1).1
structure Rd where
 m:List En
 e:En
 k:Nat
def zE:En:=⟨[],[],[],[],[],[],0,0⟩
def cE (k:Nat) (v:Bs) (e:En):Int × En:=
 if k=0 then ((aK v).2.2,{ e with S:=(aK v).1 })
 else if k=1 then ((aK v).2.2,{ e with T:=(aK v).1 })
 else if k=2 then ((aK v).2.2,{ e with p:=v })
 else if k=3 then ((aK v).2.2,{ e with n:=v })
 else if k=4 then (0,{ e with a:=v })
 else if k=5 then (0,{ e with j:=v })
 else if k=6 then (match eQ v 1073741824 with
  | some n=>if n=0 then (2,e) else (0,{ e with c:=(n:Int) })
  | none=>(2,e))
 else match idx orn v with
  | some i=>(0,{ e with o:=(i:Int)+1 })
  | none=>(2,e)
def g9 (m:List En) (e:En):Int:=if vE e≠0 then vE e else match m.getLast? with
 | none=>0
 | some x=>if aL x=aL e then 5 else if ltB (aL e) (aL x)=true then 11 else 0
def may (r:Rd) (k:Nat) (v:Bs):Bool:=(if r.k < 2 then decide (k=r.k) else decide (r.k<=k)) && !(decide (v=[]) && decide (2<=k))
def cN (r:Rd) (s:Bs):Int × Rd:=match fld s with
 | none=>(2,r)
 | some (k,v)=>if may r k v=true then
   (if (cE k v r.e).1≠0 then ((cE k v r.e).1,r) else if k=7 then (g9 r.m (cE k v r.e).2,⟨r.m++[(cE k v r.e).2],zE,0⟩) else (0,⟨r.m,(cE k v r.e).2,k+1⟩))
  else (2,r)
def cI:List Bs->Rd->Nat->Int × Nat × Rd
 | [],r,n=>(0,n,r)
 | t :: ls,r,n=>if (cN r t).1≠0 then ((cN r t).1,n+1,r) else cI ls (cN r t).2 (n+1)
def after (b s:Bs):Option Bs:=if b.isPrefixOf s=true then some (s.drop b.length) else none
theorem yM (b s:Bs):after b (b++s)=some s:=by
 unfold after;rw[if_pos (by rw[isPrefixOf_iff_prefix];exact prefix_append _ _),drop_left]
theorem wU {b s v:Bs} (h:after b s=some v):s=b++v:=by
 unfold after at h
 split at h
 ·rename_i q
  obtain⟨w,rfl⟩:=isPrefixOf_iff_prefix.1 q;rw[drop_left] at h;cases h;rfl
 ·cases h
def hdN (h:Bs):Option Nat:=(after hdB h).bind fun v=>eQ v 1024
def pM (s:Bs):List En × Nat × Int:=
 if 1048576 < s.length then ([],0,3) else match (lns s).1 with
 | []=>([],1,2)
 | h :: ls=>match hdN h with
  | none=>([],1,2)
  | some n =>
   if (cI ls ⟨[],zE,0⟩ 1).1≠0 then ([],(cI ls ⟨[],zE,0⟩ 1).2.1,(cI ls ⟨[],zE,0⟩ 1).1)
   else if (lns s).2≠[]\/(cI ls ⟨[],zE,0⟩ 1).2.2.k≠0 then ([],(cI ls ⟨[],zE,0⟩ 1).2.1+1,2)
   else if (cI ls ⟨[],zE,0⟩ 1).2.2.m.length≠n then ([],1,2) else ((cI ls ⟨[],zE,0⟩ 1).2.2.m,0,0)
def vlE (e:En) (k:Nat):Bs:=
 if k=0 then fmE e.S else if k=1 then fmE e.T else if k=2 then e.p else if k=3 then e.n else if k=4 then e.a else if k=5 then e.j
 else if k=6 then (if e.c=0 then [] else dcN e.c.toNat) else orn.getD (e.o - 1).toNat []
def lnE (k:Nat) (v:Bs):List Bs:=if 2<=k/\v=[] then [] else [lnK k v]
def gJ (e:En):Nat->List Bs
 | 0=>[]
 | k+1=>gJ e k++lnE k (vlE e k)
def iM (e:En):List Bs:=gJ e 8
def hdT (n:Nat):Bs:=hdB++dcN n
def txM (m:List En):Bs:=jn (hdT m.length :: m.flatMap iM)
def rU (p:List En):List En->Int
 | []=>0
 | e :: r=>if g9 p e≠0 then g9 p e else rU (p++[e]) r
def pC (m:List En):Int:=if 1024 < m.length then 3 else rU [] m
def fmM (m:List En):Bs × Int:=if pC m≠0 then ([],pC m) else if 1048576 < (txM m).length then ([],3) else (txM m,0)
theorem wP {m:List En} {e:En} (hm:Mem m):g9 m e=0↔Mem (m++[e]):=by
 have key:g9 m e=0↔VE e/\∀ x,m.getLast?=some x->ltB (aL x) (aL e)=true:=by
  unfold g9;by_cases hv:vE e=0
  ·rw[if_neg (by simp [hv])]
   have hV:=(lB e).1 hv;cases hl:m.getLast? with
   | none=>exact⟨fun _=>⟨hV,fun x hx=>by cases hx⟩,fun _=>rfl⟩
   | some x =>
    show (if aL x=aL e then 5 else if ltB (aL e) (aL x)=true then 11 else 0)=(0:Int)↔_;by_cases h1:aL x=aL e
    ·rw[if_pos h1]
     refine⟨fun h=>(by cases h),fun h=>?_⟩
     have:=h.2 x rfl
     rw[h1,lI] at this;cases this
    ·rw[if_neg h1]
     by_cases h2:ltB (aL e) (aL x)=true
     ·rw[if_pos h2]
      refine⟨fun h=>(by cases h),fun h=>?_⟩;rw[gV (h.2 x rfl)] at h2;cases h2
     ·rw[if_neg h2]
      refine⟨fun _=>⟨hV,fun y hy=>?_⟩,fun _=>rfl⟩;cases hy;exact oM _ _ (by simpa using h2) (fun q=>h1 q.symm)
  ·rw[if_pos hv]
   exact⟨fun h=>absurd h hv,fun h=>absurd ((lB e).2 h.1) hv⟩
 rw[key];constructor
 ·rintro ⟨h1,h2⟩
  refine⟨fun x hx=>?_,pairwise_append.2 ⟨hm.2,pairwise_singleton _ _,fun a ha b hb=>?_⟩⟩
  ·rcases mem_append.1 hx with q | q
   ·exact hm.1 x q
   ·rw[mem_singleton.1 q];exact h1
  ·rw[mem_singleton.1 hb]
   obtain⟨g,y,rfl⟩:∃ g y,m=g++[y]:=by
    rcases eq_nil_or_concat m with q | ⟨g,y,q⟩
    ·rw[q] at ha;cases ha
    ·exact⟨g,y,by rw[q,concat_eq_append]⟩
   have h3:=h2 y (by simp);rcases mem_append.1 ha with q | q
   ·exact pX _ _ _ ((pairwise_append.1 hm.2).2.2 a q y (by simp)) h3
   ·rw[mem_singleton.1 q];exact h3
 ·intro h
  refine⟨h.1 e (by simp),fun x hx=>?_⟩;exact (pairwise_append.1 h.2).2.2 x (mem_of_getLast? hx) e (by simp)
theorem uH {a b:List En} (h:Mem (a++b)):Mem a:=⟨fun e he=>h.1 e (mem_append_left _ he),(pairwise_append.1 h.2).1⟩
theorem L3:∀ {m p:List En},Mem p->(rU p m=0↔Mem (p++m))
 | [],p,hp=>by rw[append_nil];exact⟨fun _=>hp,fun _=>rfl⟩
 | e :: m,p,hp=>by
  unfold rU;by_cases h:g9 p e=0
  ·rw[if_neg (by simp [h]),L3 ((wP hp).1 h),append_assoc];rfl
  ·rw[if_pos h]
   refine⟨fun q=>absurd q h,fun q=>absurd ((wP hp).2 ?_) h⟩;rw[show p++e :: m=(p++[e])++m by simp] at q;exact uH q
theorem wJ (m:List En):pC m=0↔m.length<=1024/\Mem m:=by
 unfold pC;by_cases h:1024 < m.length
 ·rw[if_pos h];exact⟨fun q=>(by cases q),fun q=>absurd q.1 (by omega)⟩
 ·rw[if_neg h,L3 rE];exact⟨fun q=>⟨by omega,q⟩,fun q=>q.2⟩
end Go.Nt
namespace Go.Nt
theorem EK (f:List It):(10:UInt8) ∉ fmE f:=by
 unfold fmE;split
 ·rename_i h;exact EJ ((dG f).1 h).1
 ·simp
theorem IY {s:Bs} (h:gU s=true):(10:UInt8) ∉ s:=by
 unfold gU at h;rcases (by simpa using h:s=[]\/cR s=true) with q | q
 ·rw[q];simp
 ·intro hm
  have:=(gW q).2.2 10 hm
  exact absurd this (by decide)
theorem M6 {e:En} (h:VE e) {k:Nat} (hk:k < 8):(10:UInt8) ∉ vlE e k:=by
 have h7:=(KJ (e.o - 1).toNat (by have:=h.o1;have:=h.o3;omega)).2;have h6:(10:UInt8) ∉ (if e.c=0 then [] else dcN e.c.toNat):=by
  split
  ·simp
  ·exact LZ (by have:=h.c1;have:=h.c0;omega) 10 (by decide)
 have h0:=EK e.S;have h1:=EK e.T;have h2:=xI h.pp;have h3:=xI h.pn;have h4:=IY h.na;have h5:=IY h.nj
 match k,hk with
 | 0,_=>exact h0
 | 1,_=>exact h1
 | 2,_=>exact h2
 | 3,_=>exact h3
 | 4,_=>exact h4
 | 5,_=>exact h5
 | 6,_=>exact h6
 | 7,_=>exact h7
theorem M8 {k:Nat} (hk:k < 8) {v:Bs} (h:(10:UInt8) ∉ v):(10:UInt8) ∉ lnK k v:=by
 unfold lnK;intro q;rcases mem_append.1 q with q | q
 ·exact (LI k hk).2 q
 ·rcases mem_cons.1 q with q | q
  ·cases q
  ·exact h q
theorem AP {e:En} (h:VE e):∀ k,k<=8->∀ l∈gJ e k,(10:UInt8) ∉ l
 | 0,_,l,hl=>by cases hl
 | k+1,hk,l,hl=>by
  rcases mem_append.1 hl with q | q
  ·exact AP h k (by omega) l q
  ·unfold lnE at q
   split at q
   ·cases q
   ·rw[mem_singleton.1 q];exact M8 (by omega) (M6 h (by omega))
theorem M9 {n:Nat} (h:n<=1024):(10:UInt8) ∉ hdT n:=by
 unfold hdT;intro q;rcases mem_append.1 q with q | q
 ·exact absurd q (by decide)
 ·exact LZ (by omega) 10 (by decide) q
theorem PZ {n:Nat} (h:n<=1024):hdN (hdT n)=some n:=by
 unfold hdN hdT;rw[yM];exact FC h (by decide)
theorem LE {h:Bs} {n:Nat} (e:hdN h=some n):h=hdT n/\n<=1024:=by
 unfold hdN at e;obtain⟨v,h1,h2⟩:=Option.bind_eq_some_iff.1 e;obtain⟨h3,h4⟩:=GB h2;rw[wU h1,h3];exact⟨rfl,h4⟩
def prt (e:En) (k:Nat):En:=⟨if 0 < k then e.S else [],if 1 < k then e.T else [],if 2 < k then e.p else [],if 3 < k then e.n else [],if 4 < k then e.a else [],if 5 < k then e.j else [],if 6 < k then e.c else 0,if 7 < k then e.o else 0⟩
theorem R4 (e:En):prt e 8=e:=rfl
theorem AW {e:En} (h:VE e) {k:Nat} (hk:k < 8) (hne:¬ (2<=k/\vlE e k=[])):cE k (vlE e k) (prt e k)=(0,prt e (k+1)):=by
 have fS:aK (fmE e.S)=(e.S,0,0):=by unfold fmE;rw[if_pos h.vS];exact xS h.vS
 have fT:aK (fmE e.T)=(e.T,0,0):=by unfold fmE;rw[if_pos h.vT];exact xS h.vT
 match k,hk with
 | 0,_=>show ((aK (fmE e.S)).2.2,({ prt e 0 with S:=(aK (fmE e.S)).1 }:En))=_;rw[fS];rfl
 | 1,_=>show ((aK (fmE e.T)).2.2,({ prt e 1 with T:=(aK (fmE e.T)).1 }:En))=_;rw[fT];rfl
 | 2,_=>show ((aK e.p).2.2,_)=_;rw[show (aK e.p).2.2=0 from h.pp];rfl
 | 3,_=>show ((aK e.n).2.2,_)=_;rw[show (aK e.n).2.2=0 from h.pn];rfl
 | 4,_=>rfl
 | 5,_=>rfl
 | 6,_ =>
  have hc:¬ e.c=0:=fun q=>hne ⟨by decide,by show (if e.c=0 then [] else _)=[];rw[if_pos q]⟩
  have c0:=h.c0;have c1:=h.c1;have hv:vlE e 6=dcN e.c.toNat:=by show (if e.c=0 then [] else _)=_;rw[if_neg hc]
  rw[hv];show (match eQ (dcN e.c.toNat) 1073741824 with | some n=>if n=0 then ((2:Int),prt e 6) else ((0:Int),{ prt e 6 with c:=(n:Int) }) | none=>((2:Int),prt e 6))=_;rw[FC (by omega) (by decide)];show (if e.c.toNat=0 then _ else _)=_;rw[if_neg (by omega)];show (0,({ prt e 6 with c:=((e.c.toNat:Nat):Int) }:En))=(0,prt e 7)
  rw[show ((e.c.toNat:Nat):Int)=e.c by omega];rfl
 | 7,_ =>
  have o1:=h.o1;have o3:=h.o3;show (match idx orn (orn.getD (e.o - 1).toNat []) with | some i=>((0:Int),{ prt e 7 with o:=(i:Int)+1 }) | none=>((2:Int),prt e 7))=_;rw[uM _ (by omega)];show (0,({ prt e 7 with o:=(((e.o - 1).toNat:Nat):Int)+1 }:En))=(0,prt e 8)
  rw[show (((e.o - 1).toNat:Nat):Int)+1=e.o by omega];rfl
theorem J8 {e:En} {k:Nat} (h2:2<=k) (hk:k < 7) (hv:vlE e k=[]):prt e (k+1)=prt e k:=by
 match k,h2,hk with
 | 2,_,_=>have:e.p=[]:=hv;unfold prt;rw[this];rfl
 | 3,_,_=>have:e.n=[]:=hv;unfold prt;rw[this];rfl
 | 4,_,_=>have:e.a=[]:=hv;unfold prt;rw[this];rfl
 | 5,_,_=>have:e.j=[]:=hv;unfold prt;rw[this];rfl
 | 6,_,_ =>
  have hv:(if e.c=0 then [] else dcN e.c.toNat)=[]:=hv
  have:e.c=0:=by
   by_cases q:e.c=0
   ·exact q
   ·rw[if_neg q] at hv
    unfold dcN at hv
    split at hv
    ·cases hv
    ·simp at hv
  unfold prt;rw[this];rfl
theorem FO {r:Rd} {k:Nat} (hk:k < 8) {v:Bs} (hm:may r k v=true) {e':En} (hs:cE k v r.e=(0,e')):cN r (lnK k v)=if k=7 then (g9 r.m e',⟨r.m++[e'],zE,0⟩) else (0,⟨r.m,e',k+1⟩):=by
 unfold cN;rw[LQ hk];show (if may r k v=true then _ else _)=_;rw[if_pos hm,hs];rfl
theorem zC (t:Bs) (ls:List Bs) (r:Rd) (n:Nat):cI (t :: ls) r n=if (cN r t).1≠0 then ((cN r t).1,n+1,r) else cI ls (cN r t).2 (n+1):=rfl
def At (r:Rd) (m:List En) (e:En) (k:Nat):Prop:=r.m=m/\r.e=prt e k/\r.k<=k/\(r.k=k\/2<=r.k)
theorem HJ {e:En} (h:VE e) {m:List En} {k:Nat} (hk:k < 7) {r:Rd} (hr:At r m e k) (rest:List Bs) (n:Nat):∃ r' n',At r' m e (k+1)/\cI (lnE k (vlE e k)++rest) r n=cI rest r' n':=by
 obtain⟨a1,a2,a3,a4⟩:=hr;unfold lnE;by_cases hv:2<=k/\vlE e k=[]
 ·rw[if_pos hv]
  exact⟨r,n,⟨a1,by rw[a2,J8 hv.1 hk hv.2],by omega,by omega⟩,rfl⟩
 ·rw[if_neg hv]
  have hs:=AW h (by omega:k < 8) hv;rw[<- a2] at hs;have hm:may r k (vlE e k)=true:=by
   unfold may
   have:(decide (vlE e k=[]) && decide (2<=k))=false:=by
    rw[Bool.and_eq_false_iff,decide_eq_false_iff_not,decide_eq_false_iff_not];by_cases q:vlE e k=[]
    ·exact .inr (fun q2=>hv ⟨q2,q⟩)
    ·exact .inl q
   rw[this];by_cases q:r.k < 2
   ·rw[if_pos q];simp;omega
   ·rw[if_neg q];simp;omega
  have hl:=FO (by omega) hm hs;rw[if_neg (by omega)] at hl;refine⟨⟨r.m,prt e (k+1),k+1⟩,n+1,⟨a1,rfl,Nat.le_refl _,.inl rfl⟩,?_⟩;show cI (lnK k (vlE e k) :: rest) r n=_;rw[zC,hl,if_neg (by simp)]
theorem u5 {e:En} (h:VE e) {m:List En}:∀ (k:Nat),k<=7->∀ (rest:List Bs) (n:Nat),∃ r' n',At r' m e k/\cI (gJ e k++rest) ⟨m,zE,0⟩ n=cI rest r' n'
 | 0,_,rest,n=>⟨_,n,⟨rfl,rfl,Nat.le_refl _,.inl rfl⟩,rfl⟩
 | k+1,hk,rest,n=>by
  obtain⟨r1,n1,h1,h2⟩:=u5 h k (by omega) (lnE k (vlE e k)++rest) n;obtain⟨r2,n2,h3,h4⟩:=HJ h (by omega) h1 rest n1;refine⟨r2,n2,h3,?_⟩;rw[<- h4,<- h2];show cI ((gJ e k++lnE k (vlE e k))++rest) _ n=_;rw[append_assoc]
theorem HK {e:En} {m:List En} (h:Mem m) (he:g9 m e=0) (rest:List Bs) (n:Nat):∃ n',cI (iM e++rest) ⟨m,zE,0⟩ n=cI rest ⟨m++[e],zE,0⟩ n':=by
 have hV:=((wP h).1 he).1 e (by simp);have o1:=hV.o1;have o3:=hV.o3;obtain⟨r,n1,⟨a1,a2,a3,a4⟩,h2⟩:=u5 (m:=m) hV 7 (by decide) (lnE 7 (vlE e 7)++rest) n;have hne:vlE e 7≠[]:=(KJ (e.o - 1).toNat (by omega)).1;have hs:=AW hV (by decide:7 < 8) (fun q=>hne q.2);rw[<- a2,R4] at hs;have hm:may r 7 (vlE e 7)=true:=by
  unfold may;rw[show decide (vlE e 7=[])=false from decide_eq_false hne,Bool.false_and];by_cases q:r.k < 2
  ·rw[if_pos q];simp;omega
  ·rw[if_neg q];simp;omega
 have hl:=FO (by decide) hm hs;rw[if_pos rfl,a1,he] at hl;refine⟨n1+1,?_⟩
 have:iM e++rest=gJ e 7++(lnE 7 (vlE e 7)++rest):=by
  show (gJ e 7++lnE 7 (vlE e 7))++rest=_;rw[append_assoc]
 rw[this,h2];unfold lnE;rw[if_neg (fun q=>hne q.2)];show cI (lnK 7 (vlE e 7) :: rest) r n1=_;rw[zC,hl,if_neg (by simp)]
theorem ES:∀ (m2:List En) {m1:List En},Mem (m1++m2)->∀ (n:Nat),∃ n',cI (m2.flatMap iM) ⟨m1,zE,0⟩ n=(0,n',⟨m1++m2,zE,0⟩)
 | [],m1,h,n=>⟨n,by rw[append_nil];rfl⟩
 | e :: m2,m1,h,n=>by
  have h':Mem ((m1++[e])++m2):=by rw[append_assoc];exact h
  have h1:=uH h';obtain⟨n1,e1⟩:=HK (uH h1) ((wP (uH h1)).2 h1) (m2.flatMap iM) n;obtain⟨n2,e2⟩:=ES m2 h' n1;refine⟨n2,?_⟩;rw[flatMap_cons,e1,e2,append_assoc];rfl
theorem M7 {m:List En} (h:Mem m) (hl:m.length<=1024):∀ l∈hdT m.length :: m.flatMap iM,(10:UInt8) ∉ l:=fun l hm=>by
 rcases mem_cons.1 hm with q | q
 ·rw[q];exact M9 hl
 ·obtain⟨e,he,hx⟩:=mem_flatMap.1 q
  exact AP (h.1 e he) 8 (by decide) l hx
theorem O6 {m:List En} (h:Mem m) (hl:m.length<=1024):lns (txM m)=(hdT m.length :: m.flatMap iM,[]):=by
 have:=zN (M7 h hl) (r:=[]) (by simp)
 rwa [append_nil] at this
theorem UG {m:List En} (h:Mem m) (hl:m.length<=1024) (ht:(txM m).length<=1048576):pM (txM m)=(m,0,0):=by
 obtain⟨n',e⟩:=ES m (m1:=[]) h 1;unfold pM;rw[if_neg (by omega),O6 h hl];show (match hdN (hdT m.length) with | none=>_ | some n=>_)=_;rw[PZ hl];simp only[e,nil_append];rw[if_neg (by simp),if_neg (by simp),if_neg (by simp)]
end Go.Nt
namespace Go.Nt
theorem R1 {e:En} {k:Nat} (h:prt e k=e):(k<=0->e.S=[])/\(k<=1->e.T=[])/\(k<=2->e.p=[])/\(k<=3->e.n=[])/\(k<=4->e.a=[])/\(k<=5->e.j=[])/\(k<=6->e.c=0)/\(k<=7->e.o=0):=by
 have h0:(if 0 < k then e.S else [])=e.S:=congrArg En.S h;have h1:(if 1 < k then e.T else [])=e.T:=congrArg En.T h;have h2:(if 2 < k then e.p else [])=e.p:=congrArg En.p h;have h3:(if 3 < k then e.n else [])=e.n:=congrArg En.n h;have h4:(if 4 < k then e.a else [])=e.a:=congrArg En.a h;have h5:(if 5 < k then e.j else [])=e.j:=congrArg En.j h;have h6:(if 6 < k then e.c else 0)=e.c:=congrArg En.c h;have h7:(if 7 < k then e.o else 0)=e.o:=congrArg En.o h;refine⟨fun q=>?_,fun q=>?_,fun q=>?_,fun q=>?_,fun q=>?_,fun q=>?_,fun q=>?_,fun q=>?_⟩
 ·rw[if_neg (by omega)] at h0;exact h0.symm
 ·rw[if_neg (by omega)] at h1;exact h1.symm
 ·rw[if_neg (by omega)] at h2;exact h2.symm
 ·rw[if_neg (by omega)] at h3;exact h3.symm
 ·rw[if_neg (by omega)] at h4;exact h4.symm
 ·rw[if_neg (by omega)] at h5;exact h5.symm
 ·rw[if_neg (by omega)] at h6;exact h6.symm
 ·rw[if_neg (by omega)] at h7;exact h7.symm
theorem vl_z {e:En} {k j:Nat} (h:prt e k=e) (hj:k<=j) (h2:2<=j) (h7:j < 7):vlE e j=[]:=by
 obtain⟨z0,z1,z2,z3,z4,z5,z6,z7⟩:=R1 h
 match j,h2,h7 with
 | 2,_,_=>exact z2 hj
 | 3,_,_=>exact z3 hj
 | 4,_,_=>exact z4 hj
 | 5,_,_=>exact z5 hj
 | 6,_,_=>show (if e.c=0 then [] else _)=[];rw[if_pos (z6 hj)]
theorem BQ {e:En} {k0:Nat} (h:prt e k0=e) (h2:2<=k0):∀ (d:Nat),k0+d<=7->gJ e (k0+d)=gJ e k0
 | 0,_=>rfl
 | d+1,hd=>by
  show gJ e (k0+d)++lnE (k0+d) (vlE e (k0+d))=_;rw[vl_z h (by omega) (by omega) (by omega),BQ h h2 d (by omega),lnE,if_pos ⟨by omega,rfl⟩,append_nil]
theorem BR {e e':En}:∀ (k:Nat),(∀ j,j < k->vlE e' j=vlE e j)->gJ e' k=gJ e k
 | 0,_=>rfl
 | k+1,h=>by
  show gJ e' k++lnE k (vlE e' k)=gJ e k++lnE k (vlE e k);rw[BR k (fun j hj=>h j (by omega)),h k (by omega)]
theorem HE {k:Nat} {v:Bs} {e e':En} (hk:k < 8) (h:cE k v e=(0,e')) {k0:Nat} (hp:prt e k0=e) (h0:k0<=k):vlE e' k=v/\(∀ j,j < k->vlE e' j=vlE e j)/\prt e' (k+1)=e':=by
 obtain⟨z0,z1,z2,z3,z4,z5,z6,z7⟩:=R1 hp
 match k,hk with
 | 0,_ =>
  have h1:((aK v).2.2,({ e with S:=(aK v).1 }:En))=(0,e'):=h;obtain⟨h2,rfl⟩:=Prod.mk.inj h1;obtain⟨c1,c2,_⟩:=eN (s:=v) (g:=(aK v).1) (b:=(aK v).2.1) (by rw[<- h2]);refine⟨?_,fun j hj=>absurd hj (by omega),?_⟩
  ·show fmE (aK v).1=v
   unfold fmE;rw[if_pos c1,c2]
  ·exact En.eq rfl (z1 (by omega)).symm (z2 (by omega)).symm (z3 (by omega)).symm (z4 (by omega)).symm (z5 (by omega)).symm (z6 (by omega)).symm (z7 (by omega)).symm
 | 1,_ =>
  have h1:((aK v).2.2,({ e with T:=(aK v).1 }:En))=(0,e'):=h;obtain⟨h2,rfl⟩:=Prod.mk.inj h1;obtain⟨c1,c2,_⟩:=eN (s:=v) (g:=(aK v).1) (b:=(aK v).2.1) (by rw[<- h2]);refine⟨?_,fun j hj=>?_,?_⟩
  ·show fmE (aK v).1=v
   unfold fmE;rw[if_pos c1,c2]
  ·match j,hj with
   | 0,_=>rfl
  ·exact En.eq rfl rfl (z2 (by omega)).symm (z3 (by omega)).symm (z4 (by omega)).symm (z5 (by omega)).symm (z6 (by omega)).symm (z7 (by omega)).symm
 | 2,_ =>
  have h1:((aK v).2.2,({ e with p:=v }:En))=(0,e'):=h;obtain⟨h2,rfl⟩:=Prod.mk.inj h1;refine⟨rfl,fun j hj=>?_,?_⟩
  ·match j,hj with
   | 0,_=>rfl
   | 1,_=>rfl
  ·exact En.eq rfl rfl rfl (z3 (by omega)).symm (z4 (by omega)).symm (z5 (by omega)).symm (z6 (by omega)).symm (z7 (by omega)).symm
 | 3,_ =>
  have h1:((aK v).2.2,({ e with n:=v }:En))=(0,e'):=h;obtain⟨h2,rfl⟩:=Prod.mk.inj h1;refine⟨rfl,fun j hj=>?_,?_⟩
  ·match j,hj with
   | 0,_=>rfl
   | 1,_=>rfl
   | 2,_=>rfl
  ·exact En.eq rfl rfl rfl rfl (z4 (by omega)).symm (z5 (by omega)).symm (z6 (by omega)).symm (z7 (by omega)).symm
 | 4,_ =>
  have h1:((0:Int),({ e with a:=v }:En))=(0,e'):=h;obtain⟨h2,rfl⟩:=Prod.mk.inj h1;refine⟨rfl,fun j hj=>?_,?_⟩
  ·match j,hj with
   | 0,_=>rfl
   | 1,_=>rfl
   | 2,_=>rfl
   | 3,_=>rfl
  ·exact En.eq rfl rfl rfl rfl rfl (z5 (by omega)).symm (z6 (by omega)).symm (z7 (by omega)).symm
 | 5,_ =>
  have h1:((0:Int),({ e with j:=v }:En))=(0,e'):=h;obtain⟨h2,rfl⟩:=Prod.mk.inj h1;refine⟨rfl,fun j hj=>?_,?_⟩
  ·match j,hj with
   | 0,_=>rfl
   | 1,_=>rfl
   | 2,_=>rfl
   | 3,_=>rfl
   | 4,_=>rfl
  ·exact En.eq rfl rfl rfl rfl rfl rfl (z6 (by omega)).symm (z7 (by omega)).symm
 | 6,_ =>
  have h1:(match eQ v 1073741824 with | some n=>if n=0 then (2,e) else (0,{ e with c:=(n:Int) }) | none=>(2,e))=((0:Int),e'):=h;cases hn:eQ v 1073741824 with
  | none=>rw[hn] at h1;cases h1
  | some n =>
   rw[hn] at h1;by_cases q:n=0
   ·simp only[if_pos q] at h1;cases h1
   ·simp only[if_neg q] at h1
    obtain⟨h2,rfl⟩:=Prod.mk.inj h1;have hd:=(GB hn).1;refine⟨?_,fun j hj=>?_,?_⟩
    ·show (if (n:Int)=0 then [] else dcN ((n:Int)).toNat)=v
     rw[if_neg (by omega),hd];rfl
    ·match j,hj with
     | 0,_=>rfl
     | 1,_=>rfl
     | 2,_=>rfl
     | 3,_=>rfl
     | 4,_=>rfl
     | 5,_=>rfl
    ·exact En.eq rfl rfl rfl rfl rfl rfl rfl (z7 (by omega)).symm
 | 7,_ =>
  have h1:(match idx orn v with | some i=>(0,{ e with o:=(i:Int)+1 }) | none=>(2,e))=((0:Int),e'):=h;cases hn:idx orn v with
  | none=>rw[hn] at h1;cases h1
  | some n =>
   rw[hn] at h1;obtain⟨h2,rfl⟩:=Prod.mk.inj h1;refine⟨?_,fun j hj=>?_,?_⟩
   ·show orn.getD ((n:Int)+1 - 1).toNat []=v
    rw[show ((n:Int)+1 - 1).toNat=n by omega,getD_eq_getElem?_getD,sQ hn];rfl
   ·match j,hj with
    | 0,_=>rfl
    | 1,_=>rfl
    | 2,_=>rfl
    | 3,_=>rfl
    | 4,_=>rfl
    | 5,_=>rfl
    | 6,_=>rfl
   ·exact R4 _
def Inv (r:Rd):Prop:=prt r.e r.k=r.e/\r.k<=7
def pst (r:Rd):List Bs:=r.m.flatMap iM++gJ r.e r.k
theorem DL {r r':Rd} {s:Bs} (h:cN r s=(0,r')) (hi:Inv r):Inv r'/\pst r'=pst r++[s]/\(Mem r.m->Mem r'.m):=by
 unfold cN at h;cases hf:fld s with
 | none=>rw[hf] at h;cases h
 | some p =>
  obtain⟨k,v⟩:=p;rw[hf] at h;obtain⟨hk,hs⟩:=nJ hf;simp only[] at h;by_cases hm:may r k v=true
  case neg=>rw[if_neg hm] at h;cases h
  rw[if_pos hm] at h;by_cases h0:(cE k v r.e).1≠0
  ·rw[if_pos h0] at h;exact absurd (congrArg Prod.fst h) h0
  rw[if_neg h0] at h;have hse:cE k v r.e=(0,(cE k v r.e).2):=Prod.ext (Decidable.not_not.1 h0) rfl;generalize (cE k v r.e).2=e' at h hse;unfold may at hm;rw[Bool.and_eq_true] at hm;obtain⟨m1,m2⟩:=hm;have hrk:r.k<=k/\(k=r.k\/2<=r.k):=by
   by_cases q:r.k < 2
   ·rw[if_pos q] at m1;simp at m1;omega
   ·rw[if_neg q] at m1;simp at m1;omega
  have hv:¬ (2<=k/\v=[]):=fun q=>by rw[q.2] at m2;simp at m2;omega
  obtain⟨e1,e2,e3⟩:=HE hk hse hi.1 hrk.1;have hlin:gJ e' (k+1)=gJ r.e r.k++[s]:=by
   show gJ e' k++lnE k (vlE e' k)=_;rw[e1,lnE,if_neg hv,BR k e2,hs];rcases hrk.2 with q | q
   ·rw[q]
   ·have:=BQ hi.1 q (k - r.k) (by omega)
    rw[show r.k+(k - r.k)=k by omega] at this;rw[this]
  by_cases h7:k=7
  ·rw[if_pos h7] at h
   obtain⟨hb,rfl⟩:=Prod.mk.inj h;refine⟨⟨rfl,Nat.zero_le 7⟩,?_,fun hM=>(wP hM).1 hb⟩;show (r.m++[e']).flatMap iM++[]=r.m.flatMap iM++gJ r.e r.k++[s]
   rw[append_nil,flatMap_append,append_assoc,<- hlin,h7];simp [iM]
  ·rw[if_neg h7] at h
   obtain⟨_,rfl⟩:=Prod.mk.inj h;refine⟨⟨e3,by show k+1<=7;omega⟩,?_,fun hM=>hM⟩;show r.m.flatMap iM++gJ e' (k+1)=r.m.flatMap iM++gJ r.e r.k++[s]
   rw[hlin,append_assoc]
theorem xM:∀ (ls:List Bs) (r:Rd) (n:Nat) {n':Nat} {r':Rd},cI ls r n=(0,n',r')->Inv r->Inv r'/\pst r'=pst r++ls/\(Mem r.m->Mem r'.m)
 | [],r,n,n',r',h,hi=>by
  unfold cI at h;cases h;exact⟨hi,by rw[append_nil],fun h=>h⟩
 | t :: ls,r,n,n',r',h,hi=>by
  unfold cI at h;by_cases q:(cN r t).1≠0
  ·rw[if_pos q] at h;exact absurd (congrArg Prod.fst h) q
  ·rw[if_neg q] at h
   obtain⟨i1,i2,i3⟩:=DL (Prod.ext (Decidable.not_not.1 q) rfl:cN r t=(0,(cN r t).2)) hi;obtain⟨j1,j2,j3⟩:=xM ls _ _ h i1;refine⟨j1,?_,fun hM=>j3 (i3 hM)⟩;rw[j2,i2,append_assoc];rfl
theorem OZ {s:Bs} {m:List En} {k:Nat} (h:pM s=(m,k,0)):s=txM m/\Mem m/\m.length<=1024/\s.length<=1048576/\k=0:=by
 unfold pM at h;by_cases hs:1048576 < s.length
 ·rw[if_pos hs] at h;cases h
 rw[if_neg hs] at h;have hj:=rH s;cases hl:(lns s).1 with
 | nil=>rw[hl] at h;cases h
 | cons hd ls =>
  rw[hl] at h hj;simp only[] at h;cases hn:hdN hd with
  | none=>rw[hn] at h;cases h
  | some n =>
   rw[hn] at h;simp only[] at h;obtain⟨hh,hn2⟩:=LE hn;by_cases q1:(cI ls ⟨[],zE,0⟩ 1).1≠0
   ·rw[if_pos q1] at h
    exact absurd (congrArg (·.2.2) h) q1
   rw[if_neg q1] at h;by_cases q2:(lns s).2≠[]\/(cI ls ⟨[],zE,0⟩ 1).2.2.k≠0
   ·rw[if_pos q2] at h;cases h
   rw[if_neg q2] at h;by_cases q3:(cI ls ⟨[],zE,0⟩ 1).2.2.m.length≠n
   ·rw[if_pos q3] at h;cases h
   rw[if_neg q3] at h;obtain⟨hm,hk⟩:=Prod.mk.inj h;have hk0:k=0:=(congrArg Prod.fst hk).symm;have hr:cI ls ⟨[],zE,0⟩ 1=(0,(cI ls ⟨[],zE,0⟩ 1).2.1,(cI ls ⟨[],zE,0⟩ 1).2.2):=Prod.ext (Decidable.not_not.1 q1) rfl;obtain⟨_,i2,i3⟩:=xM ls _ _ hr ⟨rfl,by decide⟩;have q2:(lns s).2=[]/\(cI ls ⟨[],zE,0⟩ 1).2.2.k=0:=by
    by_cases a:(lns s).2=[]
    ·exact⟨a,Decidable.not_not.1 fun b=>q2 (.inr b)⟩
    ·exact absurd (.inl a) q2
   have q3:=Decidable.not_not.1 q3;unfold pst at i2;rw[q2.2,hm] at i2;rw[hm] at q3;have i2:m.flatMap iM=ls:=by simpa [gJ] using i2
   rw[q2.1,append_nil] at hj;refine⟨?_,hm ▸ i3 rE,by omega,by omega,hk0⟩;rw[<- hj,hh,<- i2,<- q3];rfl
end Go.Nt
namespace Go.Nt
def szE (e:En):Nat:=(fmE e.S).length+(fmE e.T).length+e.p.length+e.n.length+e.a.length+e.j.length
theorem iW (k:Nat) (v:Bs):(jn (lnE k v)).length<=(fnm.getD k []).length+v.length+2:=by
 unfold lnE;split
 ·simp [jn]
 ·simp [jn,lnK];omega
theorem EG {e:En} (h:VE e):(vlE e 6).length<=10:=by
 show (if e.c=0 then [] else dcN e.c.toNat).length<=10;split
 ·simp
 ·have c0:=h.c0
  have c1:=h.c1;exact (wG 9 e.c.toNat (by omega)).2.2.2.1
theorem E8:∀ k,(orn.getD k []).length<=7
 | 0=>by decide
 | 1=>by decide
 | 2=>by decide
 | k+3=>by simp [orn]
theorem KZ {e:En} (h:VE e):(jn (iM e)).length<=szE e+100:=by
 have h6:=EG h;have h7:(vlE e 7).length<=7:=E8 _;have a0:=iW 0 (vlE e 0);have a1:=iW 1 (vlE e 1);have a2:=iW 2 (vlE e 2);have a3:=iW 3 (vlE e 3);have a4:=iW 4 (vlE e 4);have a5:=iW 5 (vlE e 5);have a6:=iW 6 (vlE e 6);have a7:=iW 7 (vlE e 7);have b0:(vlE e 0).length=(fmE e.S).length:=rfl;have b1:(vlE e 1).length=(fmE e.T).length:=rfl;have b2:(vlE e 2).length=e.p.length:=rfl;have b3:(vlE e 3).length=e.n.length:=rfl;have b4:(vlE e 4).length=e.a.length:=rfl;have b5:(vlE e 5).length=e.j.length:=rfl;have c0:(fnm.getD 0 []).length=6:=rfl;have c1:(fnm.getD 1 []).length=6:=rfl;have c2:(fnm.getD 2 []).length=8:=rfl;have c3:(fnm.getD 3 []).length=4:=rfl;have c4:(fnm.getD 4 []).length=6:=rfl;have c5:(fnm.getD 5 []).length=7:=rfl;have c6:(fnm.getD 6 []).length=7:=rfl;have c7:(fnm.getD 7 []).length=6:=rfl;have e1:iM e=((((((([]++lnE 0 (vlE e 0))++lnE 1 (vlE e 1))++lnE 2 (vlE e 2))++lnE 3 (vlE e 3))++lnE 4 (vlE e 4))++lnE 5 (vlE e 5))++lnE 6 (vlE e 6))++lnE 7 (vlE e 7):=rfl;rw[e1];simp only[vV,length_append,zQ,length_nil];unfold szE;omega
theorem PR (m:List En):jn (m.flatMap iM)=m.flatMap fun e=>jn (iM e):=by
 induction m with
 | nil=>rfl
 | cons e m ih=>rw[flatMap_cons,vV,ih,flatMap_cons]
theorem wB {B:Nat}:∀ {m:List En},(∀ e∈m,VE e/\szE e<=B)->(m.flatMap fun e=>jn (iM e)).length<=m.length*(B+100)
 | [],_=>by simp
 | e :: m,h=>by
  have h1:=wB (m:=m) (fun x hx=>h x (mem_cons_of_mem _ hx));obtain⟨h2,h3⟩:=h e mem_cons_self;have h4:=KZ h2;rw[flatMap_cons,length_append,length_cons,Nat.add_mul];omega
theorem F1 {n:Nat} (h:n<=1024):(hdT n).length<=24:=by
 have:=(wG 9 n (by omega)).2.2.2.1
 unfold hdT;rw[length_append];have e:hdB.length=14:=rfl;omega
theorem CY (m:List En):txM m=hdT m.length++10 :: m.flatMap fun e=>jn (iM e):=by
 unfold txM;rw[j7,PR]
theorem M1 {m:List En} {B:Nat} (hl:m.length<=1024) (h:∀ e∈m,VE e/\szE e<=B):(txM m).length<=25+m.length*(B+100):=by
 have h1:=F1 hl;have h2:=wB h;rw[CY,length_append,length_cons];omega
theorem nE {s:Bs} (h:gU s=true):s.length<=24:=by
 unfold gU at h;rcases (by simpa using h:s=[]\/cR s=true) with q | q
 ·rw[q];simp
 ·exact (gW q).2.1
theorem LO {m:List En} (h:Mem m) (hl:m.length<=1024) (ht:(txM m).length<=1048576):fmM m=(txM m,0):=by
 unfold fmM;rw[if_neg (fun q=>q ((wJ m).2 ⟨hl,h⟩)),if_neg (by omega)]
end Go.Nt
