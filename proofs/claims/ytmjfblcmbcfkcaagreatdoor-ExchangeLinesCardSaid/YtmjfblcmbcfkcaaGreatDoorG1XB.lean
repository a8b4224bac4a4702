/- Numbering the tags of a source and its target together, as plain data. Orders of byte strings, of numbers, and one behind the other. Entries of a memory as plain data: validity, keys, the order. Memories as plain data: sorted lists of entries, lookups, putting, deleting, uniting. A target of a source: the same tags in the same order, other texts. Entries that are made are valid. Lines and decimal numbers of a text, as plain data. No conditions. The text of a memory as plain data: how its lines are read, and what is written. No conditions. The text of a memory as plain data: what is written is read again, and only what is written is read. No conditions. The text of a memory as plain data: what can be read is what is written of the memory that is read. No conditions. The text of a memory as plain data: its length; errors of what is written. No conditions. -/
import Derived.Test.YtmjfblcmbcfkcaaGreatDoorG1XA
import GoSem.Op.String
open List
set_option linter.unusedSimpArgs false
set_option linter.unusedVariables false
set_option linter.unusedSectionVars false
set_option maxRecDepth 100000
set_option maxHeartbeats 16000000
namespace Go.Nt
def add1 (l:List Int) (n:Int):List Int:=if n∈l then l else l++[n]
theorem add1_mem (l:List Int) (n i:Int) (h:i∈l):i∈add1 l n:=by
 unfold add1;split
 ·exact h
 ·simp [h]
theorem add1_self (l:List Int) (n:Int):n∈add1 l n:=by
 unfold add1;split
 ·assumption
 ·simp
theorem fold1_mem:∀ (a l:List Int) (i:Int),i∈l->i∈a.foldl add1 l
 | [],l,i,h=>h
 | x :: a,l,i,h=>fold1_mem a _ i (add1_mem l x i h)
theorem fold1_self:∀ (a l:List Int) (i:Int),i∈a->i∈a.foldl add1 l
 | x :: a,l,i,h=>by
  rw[foldl_cons];rcases mem_cons.1 h with rfl | h
  ·exact fold1_mem a _ _ (add1_self l i)
  ·exact fold1_self a _ i h
theorem fold1_nums:∀ (t:List It) (acc l:List Int),(t.foldl addN acc).foldl add1 l=t.foldl addN (acc.foldl add1 l)
 | [],acc,l=>rfl
 | x :: t,acc,l=>by
  rw[foldl_cons,foldl_cons,fold1_nums t (addN acc x) l]
  congr 1
  unfold addN;by_cases ht:isTag x=true
  ·by_cases hm:x.2.2∈acc
   ·rw[if_neg (fun z=>z.2 hm),if_neg (fun z=>z.2 (fold1_self acc l _ hm))]
   ·rw[if_pos ⟨ht,hm⟩,foldl_append]
    have e:[x.2.2].foldl add1 (acc.foldl add1 l)=if x.2.2∈acc.foldl add1 l then acc.foldl add1 l else acc.foldl add1 l++[x.2.2]:=rfl
    rw[e];by_cases q:x.2.2∈acc.foldl add1 l
    ·rw[if_pos q,if_neg (fun z=>z.2 q)]
    ·rw[if_neg q,if_pos ⟨ht,q⟩]
  ·rw[if_neg (fun z=>ht z.1),if_neg (fun z=>ht z.1)]
def cnl (s t:List It):List Int:=nums (s++t)
theorem cnl_prog (s t:List It):(nums t).foldl add1 (nums s)=cnl s t:=by
 unfold cnl nums;rw[fold1_nums,foldl_append];rfl
def ren1 (s t f:List It):List It:=renF (cnl s t) (upto (cnl s t).length) f
def canS (s t:List It):List It:=nrm (ren1 s t s)
def canT (s t:List It):List It:=nrm (ren1 s t t)
theorem renF_map (g:List It):∀ f:List It,(∀ x∈f,x∈g)->renF (nums g) (upto (nums g).length) f=f.map (phi g)
 | [],_=>rfl
 | x :: f,h=>by
  have ih:=renF_map g f (fun y hy=>h y (by simp [hy]));have e:renX (nums g) (upto (nums g).length) x=some (phi g x):=by
   unfold renX phi;by_cases ht:isTag x=true
   ·rw[if_pos ht,if_pos ht,sig_some (nums_tag (h x (by simp)) ht)];rfl
   ·rw[if_neg ht,if_neg ht]
  show (x :: f).filterMap _=_;rw[filterMap_cons,e,map_cons,<- ih];rfl
theorem ren1_s (s t:List It):ren1 s t s=s.map (phi (s++t)):=renF_map (s++t) s (fun x h=>by simp [h])
theorem ren1_t (s t:List It):ren1 s t t=t.map (phi (s++t)):=renF_map (s++t) t (fun x h=>by simp [h])
theorem map_len (g f:List It):len (f.map (phi g))=len f:=by
 unfold len;rw[map_map]
 congr 1
 refine map_congr_left fun x _=>?_
 exact phi_wid g x
theorem map_vld {g f:List It} (hn:(nums g).length<=999) (hf:∀ x∈f,x∈g) (h:vld f=0):vld (f.map (phi g))=0:=by
 obtain⟨h1,h2,h3⟩:=(vld_iff f).1 h;refine (vld_iff _).2 ⟨?_,by simpa using h2,by rw[map_len];exact h3⟩
 have:=phi_chks (f:=g) hn f [] (by simp) hf h1
 exact this
theorem canS_vld {s t:List It} (hl:(nums (s++t)).length<=999) (h:vld s=0):canS s t=s.map (phi (s++t))/\vld (canS s t)=0:=by
 have hv:=map_vld hl (fun x hx=>by simp [hx]) h (f:=s);have e:canS s t=s.map (phi (s++t)):=by unfold canS;rw[ren1_s,nrm_VL ((vld_iff _).1 hv).1]
 exact⟨e,by rw[e];exact hv⟩
theorem canT_vld {s t:List It} (hl:(nums (s++t)).length<=999) (h:vld t=0):canT s t=t.map (phi (s++t))/\vld (canT s t)=0:=by
 have hv:=map_vld hl (fun x hx=>by simp [hx]) h (f:=t);have e:canT s t=t.map (phi (s++t)):=by unfold canT;rw[ren1_t,nrm_VL ((vld_iff _).1 hv).1]
 exact⟨e,by rw[e];exact hv⟩
theorem lkz_upto:∀ (n:Nat) (k:Nat),k < n->lkz (upto n) (upto n) ((k:Int)+1)=some ((k:Int)+1):=by
 have key:∀ (l:List Int) (i:Int),i∈l->lkz l l i=some i:=by
  intro l
  induction l with
  | nil=>intro i h;cases h
  | cons a l ih =>
   intro i h;simp only[lkz];by_cases e:a=i
   ·rw[if_pos e,e]
   ·rw[if_neg e]
    exact ih i ((mem_cons.1 h).resolve_left (fun q=>e q.symm))
 intro n k h;refine key _ _ ?_;unfold upto;exact List.mem_map.2 ⟨k,mem_range.2 h,rfl⟩
theorem nums_phi (g:List It):nums (g.map (phi g))=upto (nums g).length:=by
 have hnd:∀ (f:List It) (l:List Int),l.Nodup->(f.foldl addN l).Nodup:=by
  intro f
  induction f with
  | nil=>intro l h;exact h
  | cons x f ih =>
   intro l h;refine ih _ ?_;unfold addN;split
   ·rename_i q
    rw[nodup_append];exact⟨h,by simp,fun a ha b hb=>by simp only[mem_singleton] at hb;rw[hb];exact fun e=>q.2 (e ▸ ha)⟩
   ·exact h
 have hN:(nums g).Nodup:=hnd g [] nodup_nil
 have hsig:∀ (j:Nat) (i:Int),(nums g)[j]?=some i->sig g i=(j:Int)+1:=by
  intro j i hj;obtain⟨j',h1,h2⟩:=lkz_at _ _ _ _ (sig_some (mem_of_getElem? hj));have hjl:j < (nums g).length:=by
   by_cases q:j < (nums g).length
   ·exact q
   ·rw[getElem?_eq_none (by omega)] at hj;cases hj
  have e:j=j':=(getElem?_inj hjl hN).1 (by rw[hj,h1]);rw[<- e] at h2;exact (upto_at h2).1
 have key:∀ (f h:List It),h++f=g->(f.map (phi g)).foldl addN (upto (nums h).length)=upto (nums g).length/\∃ r,nums g=nums h++r:=by
  intro f
  induction f with
  | nil =>
   intro h e;rw[append_nil] at e;subst e;exact⟨rfl,[],by simp⟩
  | cons x f ih =>
   intro h e;have e2:(h++[x])++f=g:=by rw[append_assoc];exact e
   obtain⟨i1,r,i2⟩:=ih (h++[x]) e2;have en:nums (h++[x])=addN (nums h) x:=by unfold nums;rw[foldl_append];rfl
   have hx:x∈g:=by rw[<- e];simp
   rw[map_cons,foldl_cons];have step:addN (upto (nums h).length) (phi g x)=upto (nums (h++[x])).length:=by
    rw[en];unfold addN;rw[phi_tag];by_cases ht:isTag x=true
    ·have ep:(phi g x).2.2=sig g x.2.2:=by unfold phi;rw[if_pos ht]
     rw[ep];by_cases hm:x.2.2∈nums h
     ·obtain⟨j,hj⟩:=mem_iff_getElem?.1 hm
      have hjl:j < (nums h).length:=by
       by_cases q:j < (nums h).length
       ·exact q
       ·rw[getElem?_eq_none (by omega)] at hj;cases hj
      have hjg:(nums g)[j]?=some x.2.2:=by
       rw[i2,en];unfold addN;rw[if_neg (fun z=>z.2 hm),getElem?_append_left hjl,hj]
      have es:=hsig j _ hjg;have hmem:sig g x.2.2∈upto (nums h).length:=by
       rw[es];unfold upto;exact List.mem_map.2 ⟨j,mem_range.2 hjl,rfl⟩
      rw[if_neg (fun z=>z.2 hmem),if_neg (fun z=>z.2 hm)]
     ·have hjg:(nums g)[(nums h).length]?=some x.2.2:=by
       rw[i2,en];unfold addN;rw[if_pos ⟨ht,hm⟩,append_assoc,getElem?_append_right (Nat.le_refl _),Nat.sub_self];rfl
      have es:=hsig _ _ hjg;have hmem:sig g x.2.2 ∉ upto (nums h).length:=by
       rw[es];intro q;unfold upto at q;obtain⟨a,ha,hb⟩:=List.mem_map.1 q
       have:=mem_range.1 ha
       omega
      rw[if_pos ⟨ht,hmem⟩,if_pos ⟨ht,hm⟩,es,length_append,length_singleton,upto_s]
    ·rw[if_neg (fun z=>ht z.1),if_neg (fun z=>ht z.1)]
   rw[step];refine⟨i1,?_⟩;rw[i2,en];unfold addN;split
   ·exact⟨x.2.2 :: r,by simp⟩
   ·exact⟨r,rfl⟩
 have:=(key g [] rfl).1
 exact this
theorem phi_yes {f:List It} {x:It} (h:isTag x=true):phi f x=(x.1,x.2.1,sig f x.2.2):=by unfold phi;rw[if_pos h]
theorem phi_phi (g:List It):∀ x∈g,phi (g.map (phi g)) (phi g x)=phi g x:=by
 intro x hx;by_cases ht:isTag x=true
 ·have ep:phi g x=(x.1,x.2.1,sig g x.2.2):=by unfold phi;rw[if_pos ht]
  have hb:=sig_bd (nums_tag hx ht);have htp:isTag (phi g x)=true:=by rw[phi_tag];exact ht
  have e:phi (g.map (phi g)) (phi g x)=((phi g x).1,(phi g x).2.1,sig (g.map (phi g)) (phi g x).2.2):=phi_yes htp;rw[e,ep];simp only[]
  have:sig (g.map (phi g)) (sig g x.2.2)=sig g x.2.2:=by
   unfold sig;rw[nums_phi,upto_len];have hk:=lkz_upto (nums g).length (sig g x.2.2 - 1).toNat (by omega);have ec:(((sig g x.2.2 - 1).toNat:Nat):Int)+1=sig g x.2.2:=by omega
   rw[ec] at hk;unfold sig at hk;rw[hk];rfl
  rw[this]
 ·have ep:phi g x=x:=by unfold phi;rw[if_neg ht]
  rw[ep];unfold phi;rw[if_neg ht]
theorem nums_nodup (g:List It):(nums g).Nodup:=by
 have hnd:∀ (f:List It) (l:List Int),l.Nodup->(f.foldl addN l).Nodup:=by
  intro f
  induction f with
  | nil=>intro l h;exact h
  | cons x f ih =>
   intro l h;refine ih _ ?_;unfold addN;split
   ·rename_i q
    rw[nodup_append];exact⟨h,by simp,fun a ha b hb=>by simp only[mem_singleton] at hb;rw[hb];exact fun e=>q.2 (e ▸ ha)⟩
   ·exact h
 exact hnd g [] nodup_nil
theorem nums_from {g:List It} {i:Int} (h:i∈nums g):∃ x∈g,isTag x=true/\x.2.2=i:=by
 have key:∀ (f:List It) (l:List Int),i∈f.foldl addN l->i∈l\/∃ x∈f,isTag x=true/\x.2.2=i:=by
  intro f
  induction f with
  | nil=>intro l h;exact .inl h
  | cons x f ih =>
   intro l h;rcases ih _ h with q | ⟨y,h1,h2⟩
   ·unfold addN at q
    split at q
    ·rename_i z
     rcases mem_append.1 q with q | q
     ·exact .inl q
     ·exact .inr ⟨x,mem_cons_self ..,z.1,(mem_singleton.1 q).symm⟩
    ·exact .inl q
   ·exact .inr ⟨y,mem_cons_of_mem _ h1,h2⟩
 rcases key g [] h with q | q
 ·cases q
 ·exact q
theorem vl_wf {f:List It} (h:VL f):∀ x∈f,x.1≠1->wfX x:=by
 have key:∀ (n:Nat) (f:List It),f.length=n->VL f->∀ x∈f,x.1≠1->wfX x:=by
  intro n
  induction n with
  | zero=>intro f hf _ x hx;rw[eq_nil_of_length_eq_zero hf] at hx;cases hx
  | succ n ih =>
   intro f hf hv x hx;rcases snoc_cases f with rfl | ⟨g,y,rfl⟩
   ·simp at hf
   ·obtain⟨a,b⟩:=(chks_snoc g y).1 hv
    rcases mem_append.1 hx with q | q
    ·exact ih g (by simp at hf;exact hf) a x q
    ·rw[mem_singleton.1 q]
     exact chk_wf b
 exact key _ f rfl h
theorem wf_id {x:It} (h:wfX x) (ht:isTag x=true):1<=x.2.2/\x.2.2<=999:=by
 unfold isTag at ht;rcases h with ⟨h1,_⟩ | ⟨h1,_⟩ | ⟨_,_,h⟩ | ⟨_,_,h⟩
 ·rw[h1] at ht;simp at ht
 ·rw[h1] at ht;simp at ht
 ·exact h
 ·exact h
theorem nums_le {s t:List It} (hs:vld s=0) (ht:vld t=0):(nums (s++t)).length<=999:=by
 have hsub:nums (s++t) ⊆ upto 999:=by
  intro i hi;obtain⟨x,hx,h1,h2⟩:=nums_from hi;have hw:wfX x:=by
   have hk:x.1≠1:=fun q=>by unfold isTag at h1;rw[q] at h1;simp at h1
   rcases mem_append.1 hx with q | q
   ·exact vl_wf ((vld_iff s).1 hs).1 x q hk
   ·exact vl_wf ((vld_iff t).1 ht).1 x q hk
  have:=wf_id hw h1
  unfold upto;exact List.mem_map.2 ⟨(i - 1).toNat,mem_range.2 (by omega),by omega⟩
 have:=(nums_nodup (s++t)).length_le_of_subset hsub
 rw[upto_len] at this;exact this
theorem can_can {s t:List It} (hs:vld s=0) (ht:vld t=0):canS (canS s t) (canT s t)=canS s t/\canT (canS s t) (canT s t)=canT s t:=by
 have hn:=nums_le hs ht;obtain⟨e1,v1⟩:=canS_vld hn hs;obtain⟨e2,v2⟩:=canT_vld hn ht;have hl:(nums (canS s t++canT s t)).length<=999:=by rw[e1,e2,<- map_append,nums_phi,upto_len];exact hn
 obtain⟨e3,_⟩:=canS_vld (t:=canT s t) hl v1;obtain⟨e4,_⟩:=canT_vld (s:=canS s t) hl v2;have eg:canS s t++canT s t=(s++t).map (phi (s++t)):=by rw[e1,e2,map_append]
 rw[e3,e4,eg,e1,e2,map_map,map_map];constructor
 ·refine map_congr_left fun x hx=>?_
  exact phi_phi (s++t) x (by simp [hx])
 ·refine map_congr_left fun x hx=>?_
  exact phi_phi (s++t) x (by simp [hx])
end Go.Nt
namespace Go.Nt
abbrev ltB (a b:Bs):Bool:=Op.bytesLess a b
theorem ltB_nil (a:Bs):ltB a []=false:=by cases a<;>rfl
theorem ltB_cc (a b:UInt8) (x y:Bs):ltB (a :: x) (b :: y)=(decide (a < b) || (a == b && ltB x y)):=rfl
theorem ltB_irr:∀ a:Bs,ltB a a=false
 | []=>rfl
 | a :: x=>by
  rw[ltB_cc,ltB_irr x,Bool.and_false,Bool.or_false,decide_eq_false_iff_not];exact UInt8.lt_irrefl a
theorem ltB_tri:∀ a b:Bs,ltB a b=false->a≠b->ltB b a=true
 | [],[],_,h=>absurd rfl h
 | [],b :: y,h,_=>by cases h
 | a :: x,[],_,_=>rfl
 | a :: x,b :: y,h,hne=>by
  rw[ltB_cc,Bool.or_eq_false_iff,decide_eq_false_iff_not] at h;rw[ltB_cc,Bool.or_eq_true,decide_eq_true_iff];by_cases e:a=b
  ·subst e
   refine .inr ?_
   have h2:=h.2;simp only[beq_self_eq_true,Bool.true_and] at h2 ⊢;exact ltB_tri x y h2 (fun q=>hne (by rw[q]))
  ·refine .inl ?_
   have:=UInt8.not_lt.1 h.1
   exact UInt8.lt_of_le_of_ne this (fun q=>e q.symm)
theorem ltB_tr:∀ a b c:Bs,ltB a b=true->ltB b c=true->ltB a c=true
 | _,[],c,h,_=>by rw[ltB_nil] at h;cases h
 | _,_ :: _,[],_,h=>by rw[ltB_nil] at h;cases h
 | [],b :: y,c :: z,_,_=>rfl
 | a :: x,b :: y,c :: z,h1,h2=>by
  rw[ltB_cc,Bool.or_eq_true,decide_eq_true_iff,Bool.and_eq_true,beq_iff_eq] at h1 h2 ⊢;rcases h1 with h1 | ⟨rfl,h1⟩
  ·rcases h2 with h2 | ⟨rfl,h2⟩
   ·exact .inl (UInt8.lt_trans h1 h2)
   ·exact .inl h1
  ·rcases h2 with h2 | ⟨rfl,h2⟩
   ·exact .inl h2
   ·exact .inr ⟨rfl,ltB_tr x y z h1 h2⟩
theorem ltB_asym {a b:Bs} (h:ltB a b=true):ltB b a=false:=by
 cases q:ltB b a with
 | false=>rfl
 | true=>have:=ltB_tr a b a h q;rw[ltB_irr] at this;cases this
theorem ltB_ne {a b:Bs} (h:ltB a b=true):a≠b:=fun e=>by rw[e,ltB_irr] at h;cases h
structure TO {α:Type} (f:α->α->Int):Prop where
 anti:∀ a b,f b a = - f a b
 le:∀ a b c,f a b<=0->f b c<=0->f a c<=0
 lt:∀ a b c,f a b<=0->f b c<=0->(f a b < 0\/f b c < 0)->f a c < 0
theorem TO.z {α:Type} {f:α->α->Int} (h:TO f) {a b c:α} (h1:f a b=0) (h2:f b c=0):f a c=0:=by
 have:=h.le a b c (by omega) (by omega)
 have:=h.le c b a (by have:=h.anti b c;omega) (by have:=h.anti a b;omega)
 have:=h.anti a c
 omega
end Go.Nt
namespace Go.Nt
theorem ten_wrt (c:UInt8):(10:UInt8) ∉ wrt c:=by
 have:=byte_all (fun c=>!((wrt c).contains 10)) (by decide +kernel) c
 simpa using this
theorem ten_elt {f:List It} {x:It} (h:chk f x=0):(10:UInt8) ∉ elt x:=by
 obtain⟨k,s,i⟩:=x;by_cases hk:k=1
 ·subst hk
  show (10:UInt8) ∉ s.flatMap wrt;rw[mem_flatMap]
  rintro ⟨c,_,hc⟩
  exact ten_wrt c hc
 ·have hw:=chk_wf h hk
  have hd:∀ n:Nat,n<=999->(10:UInt8) ∉ Nt.dec n:=fun n hn q=>absurd (dec_digs hn _ q) (by decide)
  have hnm:∀ t:Bs,isNm t=true->(10:UInt8) ∉ t:=fun t ht q=>absurd ((isNm_mem ht).2.2 _ q) (by decide)
  have hic:∀ t:Bs,isC t=true->(10:UInt8) ∉ t:=fun t ht q=>absurd ((isC_mem ht).1 _ q) (by decide)
  rcases hw with ⟨h1,_⟩ | ⟨h1,h2,h3⟩ | ⟨h1,h2,h3,h4⟩ | ⟨h1,h2,h3,h4⟩
  ·exact absurd h1 hk
  ·simp only[] at h1 h2 h3
   subst h1;simp [elt,hnm s h2]
  ·simp only[] at h1 h2 h3 h4
   have hdi:=hd i.toNat (by omega);rcases h1 with rfl | rfl
   ·simp [elt,hic s h2,hdi]
   ·simp [elt,hic s h2,hdi]
  ·simp only[] at h1 h2 h3 h4
   have hdi:=hd i.toNat (by omega);subst h1;simp [elt,hnm s h2,hdi]
theorem ten_fmt {f:List It} (h:VL f):(10:UInt8) ∉ fmt f:=by
 have key:∀ (n:Nat) (f:List It),f.length=n->VL f->(10:UInt8) ∉ fmt f:=by
  intro n
  induction n with
  | zero=>intro f hf _;rw[eq_nil_of_length_eq_zero hf];simp [fmt]
  | succ n ih =>
   intro f hf hv;rcases snoc_cases f with rfl | ⟨g,y,rfl⟩
   ·simp at hf
   ·obtain⟨a,b⟩:=(chks_snoc g y).1 hv
    rw[fmt_app,fmt_one,mem_append]
    rintro (q | q)
    ·exact ih g (by simp at hf;exact hf) a q
    ·exact ten_elt b q
 exact key _ f rfl h
theorem ten_parse {s:Bs} (h:(parse s).2.2=0):(10:UInt8) ∉ s:=by
 obtain⟨g,b,e,hp⟩:∃ g b e,parse s=(g,b,e):=⟨(parse s).1,(parse s).2.1,(parse s).2.2,rfl⟩
 rw[hp] at h;simp only[] at h;subst h;obtain⟨h1,h2,_⟩:=parse_canon hp;rw[<- h2];exact ten_fmt ((vld_iff g).1 h1).1
structure En where
 S:List It
 T:List It
 p:Bs
 n:Bs
 a:Bs
 j:Bs
 c:Int
 o:Int
theorem En.eq {x y:En} (h1:x.S=y.S) (h2:x.T=y.T) (h3:x.p=y.p) (h4:x.n=y.n) (h5:x.a=y.a) (h6:x.j=y.j) (h7:x.c=y.c) (h8:x.o=y.o):x=y:=by
 cases x;cases y;simp only[] at *;subst h1;subst h2;subst h3;subst h4;subst h5;subst h6;subst h7;subst h8;rfl
def perr (s:Bs):Int:=(parse s).2.2
def nmOk (s:Bs):Bool:=decide (s=[]) || isNm s
def vE (e:En):Int:=
 if vld e.S≠0 then vld e.S else if vld e.T≠0 then vld e.T else
 if e.S=[]\/canS e.S e.T≠e.S\/canT e.S e.T≠e.T then 1 else
 if perr e.p≠0 then perr e.p else if perr e.n≠0 then perr e.n else
 if ¬ (nmOk e.a=true/\nmOk e.j=true) then 4 else
 if e.c < 0\/1073741824 < e.c\/e.o < 1\/3 < e.o then 1 else 0
structure VE (e:En):Prop where
 vS:vld e.S=0
 vT:vld e.T=0
 ne:e.S≠[]
 cS:canS e.S e.T=e.S
 cT:canT e.S e.T=e.T
 pp:perr e.p=0
 pn:perr e.n=0
 na:nmOk e.a=true
 nj:nmOk e.j=true
 c0:0<=e.c
 c1:e.c<=1073741824
 o1:1<=e.o
 o3:e.o<=3
theorem vE_iff (e:En):vE e=0↔VE e:=by
 unfold vE;constructor
 ·intro h
  split at h
  ·rename_i q;exact absurd h q
  rename_i h1
  split at h
  ·rename_i q;exact absurd h q
  rename_i h2
  split at h
  ·cases h
  rename_i h3
  split at h
  ·rename_i q;exact absurd h q
  rename_i h4
  split at h
  ·rename_i q;exact absurd h q
  rename_i h5
  split at h
  ·cases h
  rename_i h6
  split at h
  ·cases h
  rename_i h7;have h6:=Decidable.not_not.1 h6;refine⟨Decidable.not_not.1 h1,Decidable.not_not.1 h2,fun q=>h3 (.inl q),?_,?_,Decidable.not_not.1 h4,Decidable.not_not.1 h5,h6.1,h6.2,by omega,by omega,by omega,by omega⟩
  ·by_cases q:canS e.S e.T=e.S
   ·exact q
   ·exact absurd (.inr (.inl q)) h3
  ·by_cases q:canT e.S e.T=e.T
   ·exact q
   ·exact absurd (.inr (.inr q)) h3
 ·rintro ⟨vS,vT,ne,cS,cT,pp,pn,na,nj,c0,c1,o1,o3⟩
  rw[if_neg (by simp [vS]),if_neg (by simp [vT]),if_neg (by simp [ne,cS,cT]),if_neg (by simp [pp]),if_neg (by simp [pn]),if_neg (by simp [na,nj]),if_neg (by omega)]
def fmE (f:List It):Bs:=if vld f=0 then fmt f else []
def joinE (e:En):Bs:=fmE e.S++10 :: (e.p++10 :: e.n)
def keyE (e:En):Bs:=if vE e=0 then joinE e else []
end Go.Nt
namespace Go.Nt
def Sr (m:List En):Prop:=m.Pairwise fun x y=>ltB (keyE x) (keyE y)=true
def Mem (m:List En):Prop:=(∀ e∈m,VE e)/\Sr m
theorem mem_nil:Mem []:=⟨fun e h=>(by cases h),List.Pairwise.nil⟩
def getM (m:List En) (k:Bs):Option En:=m.find? fun e=>keyE e == k
theorem getM_cons (x:En) (m:List En) (k:Bs):getM (x :: m) k=if keyE x=k then some x else getM m k:=by
 unfold getM;rw[find?_cons];by_cases h:keyE x=k
 ·have:(keyE x == k)=true:=by simpa using h
  rw[this,if_pos h]
 ·have:(keyE x == k)=false:=by simpa using h
  rw[this,if_neg h]
theorem getM_some {m:List En} {k:Bs} {e:En} (h:getM m k=some e):e∈m/\keyE e=k:=by
 unfold getM at h;exact⟨mem_of_find?_eq_some h,by simpa using find?_some h⟩
theorem getM_mem {m:List En} (h:Sr m) {e:En} (he:e∈m):getM m (keyE e)=some e:=by
 induction m with
 | nil=>cases he
 | cons x m ih =>
  rw[getM_cons];rcases mem_cons.1 he with rfl | he
  ·rw[if_pos rfl]
  ·have:=(pairwise_cons.1 h).1 e he
   rw[if_neg (ltB_ne this)];exact ih (pairwise_cons.1 h).2 he
def bel (k:Bs) (m:List En):List En:=m.filter fun e=>ltB (keyE e) k
def abv (k:Bs) (m:List En):List En:=m.filter fun e=>ltB k (keyE e)
theorem split_none {m:List En} (h:Sr m) {k:Bs} (hn:getM m k=none):m=bel k m++abv k m:=by
 induction m with
 | nil=>rfl
 | cons x m ih =>
  obtain⟨h1,h2⟩:=pairwise_cons.1 h;rw[getM_cons] at hn;by_cases e:keyE x=k
  ·rw[if_pos e] at hn;cases hn
  rw[if_neg e] at hn;unfold bel abv;rw[filter_cons,filter_cons];cases hl:ltB (keyE x) k with
  | true =>
   rw[ltB_asym hl];simp only[if_true,Bool.false_eq_true,if_false,cons_append]
   congr 1
   exact ih h2 hn
  | false =>
   have hg:=ltB_tri _ _ hl e;rw[hg];simp only[if_true,Bool.false_eq_true,if_false];have e1:m.filter (fun e=>ltB (keyE e) k)=[]:=by
    rw[filter_eq_nil_iff];intro z hz;rw[ltB_asym (ltB_tr _ _ _ hg (h1 z hz))];simp
   have e2:m.filter (fun e=>ltB k (keyE e))=m:=by
    rw[filter_eq_self];intro z hz;exact ltB_tr _ _ _ hg (h1 z hz)
   rw[e1,e2,nil_append]
theorem split_some {m:List En} (h:Sr m) {k:Bs} {x:En} (hs:getM m k=some x):m=bel k m++x :: abv k m:=by
 induction m with
 | nil=>cases hs
 | cons y m ih =>
  obtain⟨h1,h2⟩:=pairwise_cons.1 h;rw[getM_cons] at hs;unfold bel abv;rw[filter_cons,filter_cons];by_cases e:keyE y=k
  ·rw[if_pos e] at hs
   cases hs;subst e;rw[ltB_irr];simp only[Bool.false_eq_true,if_false];have e1:m.filter (fun e=>ltB (keyE e) (keyE x))=[]:=by
    rw[filter_eq_nil_iff];intro z hz;rw[ltB_asym (h1 z hz)];simp
   have e2:m.filter (fun e=>ltB (keyE x) (keyE e))=m:=by
    rw[filter_eq_self];exact h1
   rw[e1,e2,nil_append]
  ·rw[if_neg e] at hs
   obtain⟨q1,q2⟩:=getM_some hs;have hl:ltB (keyE y) k=true:=by rw[<- q2];exact h1 x q1
   rw[hl,ltB_asym hl];simp only[if_true,Bool.false_eq_true,if_false,cons_append]
   congr 1
   exact ih h2 hs
def putM (m:List En) (e:En):List En:=bel (keyE e) m++e :: abv (keyE e) m
theorem sr_bel {m:List En} (h:Sr m) (k:Bs):Sr (bel k m):=h.filter _
theorem sr_abv {m:List En} (h:Sr m) (k:Bs):Sr (abv k m):=h.filter _
theorem mem_bel {k:Bs} {m:List En} {e:En}:e∈bel k m↔e∈m/\ltB (keyE e) k=true:=by unfold bel;rw[mem_filter]
theorem mem_abv {k:Bs} {m:List En} {e:En}:e∈abv k m↔e∈m/\ltB k (keyE e)=true:=by unfold abv;rw[mem_filter]
theorem sr_put {m:List En} (h:Sr m) (e:En):Sr (putM m e):=by
 unfold putM Sr;rw[pairwise_append];refine⟨sr_bel h _,pairwise_cons.2 ⟨fun z hz=>(mem_abv.1 hz).2,sr_abv h _⟩,fun a ha b hb=>?_⟩;have h1:=(mem_bel.1 ha).2;rcases mem_cons.1 hb with rfl | hb
 ·exact h1
 ·exact ltB_tr _ _ _ h1 (mem_abv.1 hb).2
theorem mem_put {m:List En} {e z:En}:z∈putM m e↔z=e\/(z∈m/\keyE z≠keyE e):=by
 unfold putM;rw[mem_append,mem_cons,mem_bel,mem_abv];constructor
 ·rintro (⟨h1,h2⟩ | h | ⟨h1,h2⟩)
  ·exact .inr ⟨h1,ltB_ne h2⟩
  ·exact .inl h
  ·exact .inr ⟨h1,(ltB_ne h2).symm⟩
 ·rintro (h | ⟨h1,h2⟩)
  ·exact .inr (.inl h)
  ·cases hl:ltB (keyE z) (keyE e) with
   | true=>exact .inl ⟨h1,rfl⟩
   | false=>exact .inr (.inr ⟨h1,ltB_tri _ _ hl h2⟩)
theorem mem_putM {m:List En} (h:Mem m) {e:En} (he:VE e):Mem (putM m e):=
 ⟨fun z hz=>(mem_put.1 hz).elim (fun q=>by rw[q];exact he) (fun q=>h.1 z q.1),sr_put h.2 e⟩
theorem put_len {m:List En} (h:Sr m) (e:En):(putM m e).length=if (getM m (keyE e)).isSome=true then m.length else m.length+1:=by
 unfold putM;cases hg:getM m (keyE e) with
 | none =>
  have:=congrArg List.length (split_none h hg)
  rw[length_append] at this;simp only[length_append,length_cons,Option.isSome_none,Bool.false_eq_true,if_false];omega
 | some x =>
  have:=congrArg List.length (split_some h hg)
  rw[length_append,length_cons] at this;simp only[length_append,length_cons,Option.isSome_some,if_true];omega
end Go.Nt
namespace Go.Nt
theorem any_tg (x:It):∀ f:List It,f.any (clash x)=(tg f).any (clash x)
 | []=>rfl
 | y :: f=>by
  have ih:=any_tg x f;unfold tg at ih ⊢;rw[any_cons,ih,filter_cons];cases h:isTag y with
  | true=>simp only[if_true,any_cons]
  | false =>
   have:clash x y=false:=by unfold clash;rw[h];rfl
   rw[this,Bool.false_or];simp only[Bool.false_eq_true,if_false]
theorem wfB_tg {f g:List It} {x:It} (hx:x.1≠1):wfB f x=wfB g x:=by
 unfold wfB;rw[if_neg hx,if_neg hx]
theorem chk_tg {f g:List It} {x:It} (hx:x.1≠1) (h:tg f=tg g):chk f x=chk g x:=by
 rw[chk_wfB,chk_wfB,wfB_tg (g:=g) hx];unfold fitsB;rw[any_tg x f,any_tg x g,h]
theorem pn_tag {f g:List It} {x:It} (hx:x.1≠1) (hf:VL f) (ht:tg f=tg g) (hc:chk g x=0):pn f x=f++[x]/\VL (pn f x)/\tg (pn f x)=tg (g++[x]):=by
 have e:pn f x=f++[x]:=by unfold pn;rw[if_neg hx]
 refine⟨e,?_,?_⟩
 ·rw[e]
  exact (chks_snoc f x).2 ⟨hf,by rw[chk_tg hx ht];exact hc⟩
 ·rw[e,tg_app,tg_app,ht]
theorem mkVE {f t:List It} {p n a j:Bs} {c o:Int} (hf:vld f=0) (ht:vld t=0) (hne:f≠[]) (pp:perr p=0) (pn:perr n=0) (na:nmOk a=true) (nj:nmOk j=true) (c0:0<=c) (c1:c<=1073741824) (o1:1<=o) (o3:o<=3):VE ⟨canS f t,canT f t,p,n,a,j,c,o⟩:=by
 have hl:=nums_le hf ht;obtain⟨e1,v1⟩:=canS_vld hl hf;obtain⟨e2,v2⟩:=canT_vld hl ht;obtain⟨q1,q2⟩:=can_can hf ht;exact⟨v1,v2,by show canS f t≠[];rw[e1];simpa using hne,q1,q2,pp,pn,na,nj,c0,c1,o1,o3⟩
end Go.Nt
namespace Go.Nt
def lns:Bs->List Bs × Bs
 | []=>([],[])
 | c :: s=>if c=10 then ([] :: (lns s).1,(lns s).2) else match (lns s).1 with
  | []=>([],c :: (lns s).2)
  | l :: ls=>((c :: l) :: ls,(lns s).2)
theorem lns_ten (s:Bs):lns (10 :: s)=([] :: (lns s).1,(lns s).2):=by simp [lns]
theorem lns_c {c:UInt8} (h:c≠10) (s:Bs):lns (c :: s)=match (lns s).1 with
  | []=>([],c :: (lns s).2)
  | l :: ls=>((c :: l) :: ls,(lns s).2):=by simp [lns,h]
theorem lns_none:∀ {s:Bs},(10:UInt8) ∉ s->lns s=([],s)
 | [],_=>rfl
 | c :: s,h=>by
  have h1:c≠10:=fun e=>h (e ▸ mem_cons_self)
  rw[lns_c h1,lns_none (fun q=>h (mem_cons_of_mem _ q))]
theorem lns_some:∀ {t:Bs} (w:Bs),(10:UInt8) ∉ t->lns (t++10 :: w)=(t :: (lns w).1,(lns w).2)
 | [],w,_=>lns_ten w
 | c :: t,w,h=>by
  have h1:c≠10:=fun e=>h (e ▸ mem_cons_self)
  rw[cons_append,lns_c h1,lns_some w (fun q=>h (mem_cons_of_mem _ q))]
theorem lns_cut {s t w:Bs} (h:cut 10 s=some (t,w)):lns s=(t :: (lns w).1,(lns w).2):=by
 obtain⟨e,q⟩:=cut_spec.1 h;rw[e,lns_some w q]
theorem lns_uncut {s:Bs} (h:cut 10 s=none):lns s=([],s):=lns_none (cut_none.1 h)
def jn (ls:List Bs):Bs:=ls.flatMap (·++[10])
theorem jn_cons (l:Bs) (ls:List Bs):jn (l :: ls)=l++10 :: jn ls:=by simp [jn]
theorem jn_nil:jn []=[]:=rfl
theorem jn_app (a b:List Bs):jn (a++b)=jn a++jn b:=by simp [jn]
theorem lns_join:∀ (s:Bs),jn (lns s).1++(lns s).2=s
 | []=>rfl
 | c :: s=>by
  have ih:=lns_join s;by_cases h:c=10
  ·rw[h,lns_ten,jn_cons,nil_append,cons_append,ih]
  ·rw[lns_c h]
   cases e:(lns s).1 with
   | nil=>rw[e,jn_nil,nil_append] at ih;show jn []++c :: (lns s).2=_;rw[jn_nil,nil_append,ih]
   | cons l ls =>
    rw[e,jn_cons] at ih;show jn ((c :: l) :: ls)++(lns s).2=_;rw[jn_cons,cons_append,cons_append,ih]
theorem lns_app:∀ {ls:List Bs} {r:Bs},(∀ l∈ls,(10:UInt8) ∉ l)->(10:UInt8) ∉ r->lns (jn ls++r)=(ls,r)
 | [],r,_,h=>lns_none h
 | l :: ls,r,h,hr=>by
  rw[jn_cons,append_assoc,cons_append,lns_some _ (h l mem_cons_self),lns_app (fun x hx=>h x (mem_cons_of_mem _ hx)) hr]
def dcN (n:Nat):Bs:=if n < 10 then [dig n] else dcN (n / 10)++[dig (n % 10)]
theorem dcN_lt {n:Nat} (h:n < 10):dcN n=[dig n]:=by rw[dcN,if_pos h]
theorem dcN_ge {n:Nat} (h:¬ n < 10):dcN n=dcN (n / 10)++[dig (n % 10)]:=by rw[dcN,if_neg h]
theorem dig_v {n:Nat} (h:n < 10):digB (dig n)=true/\(dig n).toNat - 48=n/\(n≠0->dig n≠48):=by
 have:∀ k:Fin 10,digB (dig k.1)=true/\(dig k.1).toNat - 48=k.1/\(k.1≠0->dig k.1≠48):=by decide
 exact this ⟨n,h⟩
theorem numV_app:∀ (a b:Bs) (n:Nat),numV (a++b) n=numV b (numV a n)
 | [],b,n=>rfl
 | c :: a,b,n=>numV_app a b _
def numX (s:Bs) (most:Nat):Option Nat:=
 if 1<=s.length/\s.length<=10/\¬ (1 < s.length/\s.head?=some 48)/\s.all digB=true/\numV s 0<=most then some (numV s 0) else none
theorem dcN_p:∀ (k n:Nat),n < 10 ^ (k+1)->(dcN n).all digB=true/\numV (dcN n) 0=n/\1<=(dcN n).length/\(dcN n).length<=k+1/\(n≠0->(dcN n).head?≠some 48)
 | 0,n,h=>by
  have h':n < 10:=by simpa using h
  obtain⟨a,b,c⟩:=dig_v h';rw[dcN_lt h'];exact⟨by simp [a],by simpa [numV] using b,by simp,by simp,fun q=>by simpa using c q⟩
 | k+1,n,h=>by
  by_cases q:n < 10
  ·obtain⟨a,b,c⟩:=dig_v q
   rw[dcN_lt q];exact⟨by simp [a],by simpa [numV] using b,by simp,by simp,fun q=>by simpa using c q⟩
  ·have h2:n / 10 < 10 ^ (k+1):=by
    rw[Nat.pow_succ] at h;omega
   obtain⟨a,b,c,d,e⟩:=dcN_p k (n / 10) h2;obtain⟨a',b',c'⟩:=dig_v (n:=n % 10) (Nat.mod_lt _ (by decide));rw[dcN_ge q];refine⟨by rw[all_append,a];simp [a'],?_,by simp,by simp;omega,fun _=>?_⟩
   ·rw[numV_app,b]
    show 10*(n / 10)+((dig (n % 10)).toNat - 48)=n;rw[b'];omega
   ·have:=e (by omega)
    rw[head?_append];cases hh:(dcN (n / 10)).head? with
    | none =>
     have:dcN (n / 10)=[]:=head?_eq_none_iff.1 hh
     rw[this] at c;simp at c
    | some x=>rw[hh] at this;simpa using this
theorem numX_dc {n most:Nat} (h:n<=most) (hm:most < 10000000000):numX (dcN n) most=some n:=by
 obtain⟨a,b,c,d,e⟩:=dcN_p 9 n (by simpa using (by omega:n < 10000000000));unfold numX;rw[b,if_pos];refine⟨c,d,fun q=>?_,a,h⟩;by_cases z:n=0
 ·rw[z,dcN_lt (by decide)] at q;simp at q
 ·exact e z q.2
theorem dc_of_digs:∀ (k:Nat) (s:Bs),s.length=k+1->s.all digB=true->(1 < s.length->s.head?≠some 48)->dcN (numV s 0)=s/\(1 < s.length->10<=numV s 0)
 | 0,s,hl,hd,_=>by
  obtain⟨c,rfl⟩:∃ c,s=[c]:=by
   match s,hl with
   | [c],_=>exact⟨c,rfl⟩
  have:=dig_of (c:=c) (by simpa using hd)
  refine⟨?_,fun q=>by simp at q⟩;show dcN (10*0+(c.toNat - 48))=[c]
  rw[Nat.mul_zero,Nat.zero_add,dcN_lt this.2.1,this.1]
 | k+1,s,hl,hd,hz=>by
  obtain⟨a,c,rfl⟩:∃ a c,s=a++[c]:=⟨s.dropLast,s.getLast (by intro e;rw[e] at hl;simp at hl),(dropLast_concat_getLast _).symm⟩
  have la:a.length=k+1:=by simpa using hl
  rw[all_append,Bool.and_eq_true] at hd;have hc:=dig_of (c:=c) (by simpa using hd.2);have hh:a.head?≠some 48:=by
   have:=hz (by rw[hl];omega)
   rw[head?_append] at this
   cases e:a.head? with
   | none=>simp
   | some x=>rw[e] at this;simpa using this
  obtain⟨i1,i2⟩:=dc_of_digs k a la hd.1 (fun _=>hh);have hv:numV (a++[c]) 0=10*numV a 0+(c.toNat - 48):=by rw[numV_app];rfl
  have h1:1<=numV a 0:=by
   by_cases q:1 < a.length
   ·have:=i2 q;omega
   ·obtain⟨x,rfl⟩:∃ x,a=[x]:=by
     match a,(by omega:a.length=1) with
     | [x],_=>exact⟨x,rfl⟩
    have h2:=(dig_of (c:=x) (by simpa using hd.1)).2.2 (fun e=>hh (by rw[e];rfl));show 1<=10*0+(x.toNat - 48)
    omega
  rw[hv];refine⟨?_,fun _=>by omega⟩;rw[dcN_ge (by omega),show (10*numV a 0+(c.toNat - 48)) / 10=numV a 0 by omega,show (10*numV a 0+(c.toNat - 48)) % 10=c.toNat - 48 by omega,i1,hc.1]
theorem dc_numX {s:Bs} {most n:Nat} (h:numX s most=some n):s=dcN n/\n<=most:=by
 unfold numX at h
 split at h
 case isFalse=>cases h
 rename_i q;obtain⟨a,b,c,d,e⟩:=q;cases h
 have:=(dc_of_digs (s.length - 1) s (by omega) d (fun q1 q2=>c ⟨q1,q2⟩)).1
 exact⟨this.symm,e⟩
theorem dcN_no {n:Nat} (h:n < 10000000000) (x:UInt8) (hx:digB x=false):x ∉ dcN n:=fun q=>by
 have:=all_eq_true.1 (dcN_p 9 n (by simpa using h)).1 x q
 rw[hx] at this;cases this
end Go.Nt
namespace Go.Nt
def fnm:List Bs:=[[115,111,117,114,99,101],[116,97,114,103,101,116],[112,114,101,118,105,111,117,115],[110,101,120,116],[97,117,116,104,111,114],[112,114,111,106,101,99,116],[99,114,101,97,116,101,100],[111,114,105,103,105,110]]
def orn:List Bs:=[[104,117,109,97,110],[97,108,105,103,110,101,100],[109,97,99,104,105,110,101]]
def hdB:Bs:=[98,105,116,101,120,116,45,109,101,109,111,114,121,32]
def idx:List Bs->Bs->Option Nat
 | [],_=>none
 | x :: l,a=>if x=a then some 0 else (idx l a).map (·+1)
theorem idx_at:∀ {l:List Bs} {a:Bs} {k:Nat},idx l a=some k->l[k]?=some a
 | [],a,k,h=>by cases h
 | x :: l,a,k,h=>by
  unfold idx at h;by_cases q:x=a
  ·rw[if_pos q] at h;cases h;simp [q]
  ·rw[if_neg q] at h
   obtain⟨j,h1,rfl⟩:=Option.map_eq_some_iff.1 h;simpa using idx_at h1
theorem idx_fnm:∀ k,k < 8->idx fnm (fnm.getD k [])=some k:=by decide
theorem idx_orn:∀ k,k < 3->idx orn (orn.getD k [])=some k:=by decide
theorem fnm_no:∀ k,k < 8->(32:UInt8) ∉ fnm.getD k []/\(10:UInt8) ∉ fnm.getD k []:=by decide
theorem orn_no:∀ k,k < 3->orn.getD k []≠[]/\(10:UInt8) ∉ orn.getD k []:=by decide
def fld (s:Bs):Option (Nat × Bs):=(cut 32 s).bind fun p=>(idx fnm p.1).map fun k=>(k,p.2)
def lnK (k:Nat) (v:Bs):Bs:=fnm.getD k []++32 :: v
theorem fld_ln {k:Nat} (h:k < 8) (v:Bs):fld (lnK k v)=some (k,v):=by
 unfold fld lnK;rw[cut_app (fnm_no k h).1];simp only[Option.bind_some,idx_fnm k h,Option.map_some]
theorem fld_some {s:Bs} {k:Nat} {v:Bs} (h:fld s=some (k,v)):k < 8/\s=lnK k v:=by
 unfold fld at h;obtain⟨⟨a,w⟩,h1,h2⟩:=Option.bind_eq_some_iff.1 h;obtain⟨j,h3,h4⟩:=Option.map_eq_some_iff.1 h2;cases h4;have h5:=idx_at h3;have h6:=(List.getElem?_eq_some_iff.1 h5).1;refine⟨h6,?_⟩;unfold lnK;rw[getD_eq_getElem?_getD,h5];exact (cut_spec.1 h1).1
structure Rd where
 m:List En
 e:En
 k:Nat
def zE:En:=⟨[],[],[],[],[],[],0,0⟩
def setE (k:Nat) (v:Bs) (e:En):Int × En:=
 if k=0 then ((parse v).2.2,{ e with S:=(parse v).1 })
 else if k=1 then ((parse v).2.2,{ e with T:=(parse v).1 })
 else if k=2 then ((parse v).2.2,{ e with p:=v })
 else if k=3 then ((parse v).2.2,{ e with n:=v })
 else if k=4 then (0,{ e with a:=v })
 else if k=5 then (0,{ e with j:=v })
 else if k=6 then (match numX v 1073741824 with
  | some n=>if n=0 then (2,e) else (0,{ e with c:=(n:Int) })
  | none=>(2,e))
 else match idx orn v with
  | some i=>(0,{ e with o:=(i:Int)+1 })
  | none=>(2,e)
def behE (m:List En) (e:En):Int:=if vE e≠0 then vE e else match m.getLast? with
 | none=>0
 | some x=>if keyE x=keyE e then 5 else if ltB (keyE e) (keyE x)=true then 11 else 0
def may (r:Rd) (k:Nat) (v:Bs):Bool:=(if r.k < 2 then decide (k=r.k) else decide (r.k<=k)) && !(decide (v=[]) && decide (2<=k))
def lineR (r:Rd) (s:Bs):Int × Rd:=match fld s with
 | none=>(2,r)
 | some (k,v)=>if may r k v=true then
   (if (setE k v r.e).1≠0 then ((setE k v r.e).1,r) else if k=7 then (behE r.m (setE k v r.e).2,⟨r.m++[(setE k v r.e).2],zE,0⟩) else (0,⟨r.m,(setE k v r.e).2,k+1⟩))
  else (2,r)
def runL:List Bs->Rd->Nat->Int × Nat × Rd
 | [],r,n=>(0,n,r)
 | t :: ls,r,n=>if (lineR r t).1≠0 then ((lineR r t).1,n+1,r) else runL ls (lineR r t).2 (n+1)
def after (b s:Bs):Option Bs:=if b.isPrefixOf s=true then some (s.drop b.length) else none
theorem after_app (b s:Bs):after b (b++s)=some s:=by
 unfold after;rw[if_pos (by rw[isPrefixOf_iff_prefix];exact prefix_append _ _),drop_left]
theorem after_some {b s v:Bs} (h:after b s=some v):s=b++v:=by
 unfold after at h
 split at h
 ·rename_i q
  obtain⟨w,rfl⟩:=isPrefixOf_iff_prefix.1 q;rw[drop_left] at h;cases h;rfl
 ·cases h
def hdN (h:Bs):Option Nat:=(after hdB h).bind fun v=>numX v 1024
def pM (s:Bs):List En × Nat × Int:=
 if 1048576 < s.length then ([],0,3) else match (lns s).1 with
 | []=>([],1,2)
 | h :: ls=>match hdN h with
  | none=>([],1,2)
  | some n =>
   if (runL ls ⟨[],zE,0⟩ 1).1≠0 then ([],(runL ls ⟨[],zE,0⟩ 1).2.1,(runL ls ⟨[],zE,0⟩ 1).1)
   else if (lns s).2≠[]\/(runL ls ⟨[],zE,0⟩ 1).2.2.k≠0 then ([],(runL ls ⟨[],zE,0⟩ 1).2.1+1,2)
   else if (runL ls ⟨[],zE,0⟩ 1).2.2.m.length≠n then ([],1,2) else ((runL ls ⟨[],zE,0⟩ 1).2.2.m,0,0)
def vlE (e:En) (k:Nat):Bs:=
 if k=0 then fmE e.S else if k=1 then fmE e.T else if k=2 then e.p else if k=3 then e.n else if k=4 then e.a else if k=5 then e.j
 else if k=6 then (if e.c=0 then [] else dcN e.c.toNat) else orn.getD (e.o - 1).toNat []
def lnE (k:Nat) (v:Bs):List Bs:=if 2<=k/\v=[] then [] else [lnK k v]
def linK (e:En):Nat->List Bs
 | 0=>[]
 | k+1=>linK e k++lnE k (vlE e k)
def linE (e:En):List Bs:=linK e 8
def hdT (n:Nat):Bs:=hdB++dcN n
def txM (m:List En):Bs:=jn (hdT m.length :: m.flatMap linE)
def chkG (p:List En):List En->Int
 | []=>0
 | e :: r=>if behE p e≠0 then behE p e else chkG (p++[e]) r
def chkM (m:List En):Int:=if 1024 < m.length then 3 else chkG [] m
def fmM (m:List En):Bs × Int:=if chkM m≠0 then ([],chkM m) else if 1048576 < (txM m).length then ([],3) else (txM m,0)
theorem behE_0 {m:List En} {e:En} (hm:Mem m):behE m e=0↔Mem (m++[e]):=by
 have key:behE m e=0↔VE e/\∀ x,m.getLast?=some x->ltB (keyE x) (keyE e)=true:=by
  unfold behE;by_cases hv:vE e=0
  ·rw[if_neg (by simp [hv])]
   have hV:=(vE_iff e).1 hv;cases hl:m.getLast? with
   | none=>exact⟨fun _=>⟨hV,fun x hx=>by cases hx⟩,fun _=>rfl⟩
   | some x =>
    show (if keyE x=keyE e then 5 else if ltB (keyE e) (keyE x)=true then 11 else 0)=(0:Int)↔_;by_cases h1:keyE x=keyE e
    ·rw[if_pos h1]
     refine⟨fun h=>(by cases h),fun h=>?_⟩
     have:=h.2 x rfl
     rw[h1,ltB_irr] at this;cases this
    ·rw[if_neg h1]
     by_cases h2:ltB (keyE e) (keyE x)=true
     ·rw[if_pos h2]
      refine⟨fun h=>(by cases h),fun h=>?_⟩;rw[ltB_asym (h.2 x rfl)] at h2;cases h2
     ·rw[if_neg h2]
      refine⟨fun _=>⟨hV,fun y hy=>?_⟩,fun _=>rfl⟩;cases hy;exact ltB_tri _ _ (by simpa using h2) (fun q=>h1 q.symm)
  ·rw[if_pos hv]
   exact⟨fun h=>absurd h hv,fun h=>absurd ((vE_iff e).2 h.1) hv⟩
 rw[key];constructor
 ·rintro ⟨h1,h2⟩
  refine⟨fun x hx=>?_,pairwise_append.2 ⟨hm.2,pairwise_singleton _ _,fun a ha b hb=>?_⟩⟩
  ·rcases mem_append.1 hx with q | q
   ·exact hm.1 x q
   ·rw[mem_singleton.1 q];exact h1
  ·rw[mem_singleton.1 hb]
   obtain⟨g,y,rfl⟩:∃ g y,m=g++[y]:=by
    rcases eq_nil_or_concat m with q | ⟨g,y,q⟩
    ·rw[q] at ha;cases ha
    ·exact⟨g,y,by rw[q,concat_eq_append]⟩
   have h3:=h2 y (by simp);rcases mem_append.1 ha with q | q
   ·exact ltB_tr _ _ _ ((pairwise_append.1 hm.2).2.2 a q y (by simp)) h3
   ·rw[mem_singleton.1 q];exact h3
 ·intro h
  refine⟨h.1 e (by simp),fun x hx=>?_⟩;exact (pairwise_append.1 h.2).2.2 x (mem_of_getLast? hx) e (by simp)
theorem mem_pre {a b:List En} (h:Mem (a++b)):Mem a:=⟨fun e he=>h.1 e (mem_append_left _ he),(pairwise_append.1 h.2).1⟩
theorem chkG_0:∀ {m p:List En},Mem p->(chkG p m=0↔Mem (p++m))
 | [],p,hp=>by rw[append_nil];exact⟨fun _=>hp,fun _=>rfl⟩
 | e :: m,p,hp=>by
  unfold chkG;by_cases h:behE p e=0
  ·rw[if_neg (by simp [h]),chkG_0 ((behE_0 hp).1 h),append_assoc];rfl
  ·rw[if_pos h]
   refine⟨fun q=>absurd q h,fun q=>absurd ((behE_0 hp).2 ?_) h⟩;rw[show p++e :: m=(p++[e])++m by simp] at q;exact mem_pre q
theorem chkM_0 (m:List En):chkM m=0↔m.length<=1024/\Mem m:=by
 unfold chkM;by_cases h:1024 < m.length
 ·rw[if_pos h];exact⟨fun q=>(by cases q),fun q=>absurd q.1 (by omega)⟩
 ·rw[if_neg h,chkG_0 mem_nil];exact⟨fun q=>⟨by omega,q⟩,fun q=>q.2⟩
end Go.Nt
namespace Go.Nt
theorem ten_fmE (f:List It):(10:UInt8) ∉ fmE f:=by
 unfold fmE;split
 ·rename_i h;exact ten_fmt ((vld_iff f).1 h).1
 ·simp
theorem ten_nm {s:Bs} (h:nmOk s=true):(10:UInt8) ∉ s:=by
 unfold nmOk at h;rcases (by simpa using h:s=[]\/isNm s=true) with q | q
 ·rw[q];simp
 ·intro hm
  have:=(isNm_mem q).2.2 10 hm
  exact absurd this (by decide)
theorem ten_vlE {e:En} (h:VE e) {k:Nat} (hk:k < 8):(10:UInt8) ∉ vlE e k:=by
 have h7:=(orn_no (e.o - 1).toNat (by have:=h.o1;have:=h.o3;omega)).2;have h6:(10:UInt8) ∉ (if e.c=0 then [] else dcN e.c.toNat):=by
  split
  ·simp
  ·exact dcN_no (by have:=h.c1;have:=h.c0;omega) 10 (by decide)
 have h0:=ten_fmE e.S;have h1:=ten_fmE e.T;have h2:=ten_parse h.pp;have h3:=ten_parse h.pn;have h4:=ten_nm h.na;have h5:=ten_nm h.nj
 match k,hk with
 | 0,_=>exact h0
 | 1,_=>exact h1
 | 2,_=>exact h2
 | 3,_=>exact h3
 | 4,_=>exact h4
 | 5,_=>exact h5
 | 6,_=>exact h6
 | 7,_=>exact h7
theorem ten_lnK {k:Nat} (hk:k < 8) {v:Bs} (h:(10:UInt8) ∉ v):(10:UInt8) ∉ lnK k v:=by
 unfold lnK;intro q;rcases mem_append.1 q with q | q
 ·exact (fnm_no k hk).2 q
 ·rcases mem_cons.1 q with q | q
  ·cases q
  ·exact h q
theorem ten_linK {e:En} (h:VE e):∀ k,k<=8->∀ l∈linK e k,(10:UInt8) ∉ l
 | 0,_,l,hl=>by cases hl
 | k+1,hk,l,hl=>by
  rcases mem_append.1 hl with q | q
  ·exact ten_linK h k (by omega) l q
  ·unfold lnE at q
   split at q
   ·cases q
   ·rw[mem_singleton.1 q];exact ten_lnK (by omega) (ten_vlE h (by omega))
theorem ten_hdT {n:Nat} (h:n<=1024):(10:UInt8) ∉ hdT n:=by
 unfold hdT;intro q;rcases mem_append.1 q with q | q
 ·exact absurd q (by decide)
 ·exact dcN_no (by omega) 10 (by decide) q
theorem hdN_hdT {n:Nat} (h:n<=1024):hdN (hdT n)=some n:=by
 unfold hdN hdT;rw[after_app];exact numX_dc h (by decide)
theorem hdN_some {h:Bs} {n:Nat} (e:hdN h=some n):h=hdT n/\n<=1024:=by
 unfold hdN at e;obtain⟨v,h1,h2⟩:=Option.bind_eq_some_iff.1 e;obtain⟨h3,h4⟩:=dc_numX h2;rw[after_some h1,h3];exact⟨rfl,h4⟩
def prt (e:En) (k:Nat):En:=⟨if 0 < k then e.S else [],if 1 < k then e.T else [],if 2 < k then e.p else [],if 3 < k then e.n else [],if 4 < k then e.a else [],if 5 < k then e.j else [],if 6 < k then e.c else 0,if 7 < k then e.o else 0⟩
theorem prt_8 (e:En):prt e 8=e:=rfl
theorem setE_prt {e:En} (h:VE e) {k:Nat} (hk:k < 8) (hne:¬ (2<=k/\vlE e k=[])):setE k (vlE e k) (prt e k)=(0,prt e (k+1)):=by
 have fS:parse (fmE e.S)=(e.S,0,0):=by unfold fmE;rw[if_pos h.vS];exact parse_fmt h.vS
 have fT:parse (fmE e.T)=(e.T,0,0):=by unfold fmE;rw[if_pos h.vT];exact parse_fmt h.vT
 match k,hk with
 | 0,_=>show ((parse (fmE e.S)).2.2,({ prt e 0 with S:=(parse (fmE e.S)).1 }:En))=_;rw[fS];rfl
 | 1,_=>show ((parse (fmE e.T)).2.2,({ prt e 1 with T:=(parse (fmE e.T)).1 }:En))=_;rw[fT];rfl
 | 2,_=>show ((parse e.p).2.2,_)=_;rw[show (parse e.p).2.2=0 from h.pp];rfl
 | 3,_=>show ((parse e.n).2.2,_)=_;rw[show (parse e.n).2.2=0 from h.pn];rfl
 | 4,_=>rfl
 | 5,_=>rfl
 | 6,_ =>
  have hc:¬ e.c=0:=fun q=>hne ⟨by decide,by show (if e.c=0 then [] else _)=[];rw[if_pos q]⟩
  have c0:=h.c0;have c1:=h.c1;have hv:vlE e 6=dcN e.c.toNat:=by show (if e.c=0 then [] else _)=_;rw[if_neg hc]
  rw[hv];show (match numX (dcN e.c.toNat) 1073741824 with | some n=>if n=0 then ((2:Int),prt e 6) else ((0:Int),{ prt e 6 with c:=(n:Int) }) | none=>((2:Int),prt e 6))=_;rw[numX_dc (by omega) (by decide)];show (if e.c.toNat=0 then _ else _)=_;rw[if_neg (by omega)];show (0,({ prt e 6 with c:=((e.c.toNat:Nat):Int) }:En))=(0,prt e 7)
  rw[show ((e.c.toNat:Nat):Int)=e.c by omega];rfl
 | 7,_ =>
  have o1:=h.o1;have o3:=h.o3;show (match idx orn (orn.getD (e.o - 1).toNat []) with | some i=>((0:Int),{ prt e 7 with o:=(i:Int)+1 }) | none=>((2:Int),prt e 7))=_;rw[idx_orn _ (by omega)];show (0,({ prt e 7 with o:=(((e.o - 1).toNat:Nat):Int)+1 }:En))=(0,prt e 8)
  rw[show (((e.o - 1).toNat:Nat):Int)+1=e.o by omega];rfl
theorem prt_skip {e:En} {k:Nat} (h2:2<=k) (hk:k < 7) (hv:vlE e k=[]):prt e (k+1)=prt e k:=by
 match k,h2,hk with
 | 2,_,_=>have:e.p=[]:=hv;unfold prt;rw[this];rfl
 | 3,_,_=>have:e.n=[]:=hv;unfold prt;rw[this];rfl
 | 4,_,_=>have:e.a=[]:=hv;unfold prt;rw[this];rfl
 | 5,_,_=>have:e.j=[]:=hv;unfold prt;rw[this];rfl
 | 6,_,_ =>
  have hv:(if e.c=0 then [] else dcN e.c.toNat)=[]:=hv
  have:e.c=0:=by
   by_cases q:e.c=0
   ·exact q
   ·rw[if_neg q] at hv
    unfold dcN at hv
    split at hv
    ·cases hv
    ·simp at hv
  unfold prt;rw[this];rfl
theorem lineR_k {r:Rd} {k:Nat} (hk:k < 8) {v:Bs} (hm:may r k v=true) {e':En} (hs:setE k v r.e=(0,e')):lineR r (lnK k v)=if k=7 then (behE r.m e',⟨r.m++[e'],zE,0⟩) else (0,⟨r.m,e',k+1⟩):=by
 unfold lineR;rw[fld_ln hk];show (if may r k v=true then _ else _)=_;rw[if_pos hm,hs];rfl
theorem runL_c (t:Bs) (ls:List Bs) (r:Rd) (n:Nat):runL (t :: ls) r n=if (lineR r t).1≠0 then ((lineR r t).1,n+1,r) else runL ls (lineR r t).2 (n+1):=rfl
def At (r:Rd) (m:List En) (e:En) (k:Nat):Prop:=r.m=m/\r.e=prt e k/\r.k<=k/\(r.k=k\/2<=r.k)
theorem run_field {e:En} (h:VE e) {m:List En} {k:Nat} (hk:k < 7) {r:Rd} (hr:At r m e k) (rest:List Bs) (n:Nat):∃ r' n',At r' m e (k+1)/\runL (lnE k (vlE e k)++rest) r n=runL rest r' n':=by
 obtain⟨a1,a2,a3,a4⟩:=hr;unfold lnE;by_cases hv:2<=k/\vlE e k=[]
 ·rw[if_pos hv]
  exact⟨r,n,⟨a1,by rw[a2,prt_skip hv.1 hk hv.2],by omega,by omega⟩,rfl⟩
 ·rw[if_neg hv]
  have hs:=setE_prt h (by omega:k < 8) hv;rw[<- a2] at hs;have hm:may r k (vlE e k)=true:=by
   unfold may
   have:(decide (vlE e k=[]) && decide (2<=k))=false:=by
    rw[Bool.and_eq_false_iff,decide_eq_false_iff_not,decide_eq_false_iff_not];by_cases q:vlE e k=[]
    ·exact .inr (fun q2=>hv ⟨q2,q⟩)
    ·exact .inl q
   rw[this];by_cases q:r.k < 2
   ·rw[if_pos q];simp;omega
   ·rw[if_neg q];simp;omega
  have hl:=lineR_k (by omega) hm hs;rw[if_neg (by omega)] at hl;refine⟨⟨r.m,prt e (k+1),k+1⟩,n+1,⟨a1,rfl,Nat.le_refl _,.inl rfl⟩,?_⟩;show runL (lnK k (vlE e k) :: rest) r n=_;rw[runL_c,hl,if_neg (by simp)]
theorem run_fields {e:En} (h:VE e) {m:List En}:∀ (k:Nat),k<=7->∀ (rest:List Bs) (n:Nat),∃ r' n',At r' m e k/\runL (linK e k++rest) ⟨m,zE,0⟩ n=runL rest r' n'
 | 0,_,rest,n=>⟨_,n,⟨rfl,rfl,Nat.le_refl _,.inl rfl⟩,rfl⟩
 | k+1,hk,rest,n=>by
  obtain⟨r1,n1,h1,h2⟩:=run_fields h k (by omega) (lnE k (vlE e k)++rest) n;obtain⟨r2,n2,h3,h4⟩:=run_field h (by omega) h1 rest n1;refine⟨r2,n2,h3,?_⟩;rw[<- h4,<- h2];show runL ((linK e k++lnE k (vlE e k))++rest) _ n=_;rw[append_assoc]
theorem run_entry {e:En} {m:List En} (h:Mem m) (he:behE m e=0) (rest:List Bs) (n:Nat):∃ n',runL (linE e++rest) ⟨m,zE,0⟩ n=runL rest ⟨m++[e],zE,0⟩ n':=by
 have hV:=((behE_0 h).1 he).1 e (by simp);have o1:=hV.o1;have o3:=hV.o3;obtain⟨r,n1,⟨a1,a2,a3,a4⟩,h2⟩:=run_fields (m:=m) hV 7 (by decide) (lnE 7 (vlE e 7)++rest) n;have hne:vlE e 7≠[]:=(orn_no (e.o - 1).toNat (by omega)).1;have hs:=setE_prt hV (by decide:7 < 8) (fun q=>hne q.2);rw[<- a2,prt_8] at hs;have hm:may r 7 (vlE e 7)=true:=by
  unfold may;rw[show decide (vlE e 7=[])=false from decide_eq_false hne,Bool.false_and];by_cases q:r.k < 2
  ·rw[if_pos q];simp;omega
  ·rw[if_neg q];simp;omega
 have hl:=lineR_k (by decide) hm hs;rw[if_pos rfl,a1,he] at hl;refine⟨n1+1,?_⟩
 have:linE e++rest=linK e 7++(lnE 7 (vlE e 7)++rest):=by
  show (linK e 7++lnE 7 (vlE e 7))++rest=_;rw[append_assoc]
 rw[this,h2];unfold lnE;rw[if_neg (fun q=>hne q.2)];show runL (lnK 7 (vlE e 7) :: rest) r n1=_;rw[runL_c,hl,if_neg (by simp)]
theorem run_all:∀ (m2:List En) {m1:List En},Mem (m1++m2)->∀ (n:Nat),∃ n',runL (m2.flatMap linE) ⟨m1,zE,0⟩ n=(0,n',⟨m1++m2,zE,0⟩)
 | [],m1,h,n=>⟨n,by rw[append_nil];rfl⟩
 | e :: m2,m1,h,n=>by
  have h':Mem ((m1++[e])++m2):=by rw[append_assoc];exact h
  have h1:=mem_pre h';obtain⟨n1,e1⟩:=run_entry (mem_pre h1) ((behE_0 (mem_pre h1)).2 h1) (m2.flatMap linE) n;obtain⟨n2,e2⟩:=run_all m2 h' n1;refine⟨n2,?_⟩;rw[flatMap_cons,e1,e2,append_assoc];rfl
theorem ten_txM {m:List En} (h:Mem m) (hl:m.length<=1024):∀ l∈hdT m.length :: m.flatMap linE,(10:UInt8) ∉ l:=fun l hm=>by
 rcases mem_cons.1 hm with q | q
 ·rw[q];exact ten_hdT hl
 ·obtain⟨e,he,hx⟩:=mem_flatMap.1 q
  exact ten_linK (h.1 e he) 8 (by decide) l hx
theorem lns_txM {m:List En} (h:Mem m) (hl:m.length<=1024):lns (txM m)=(hdT m.length :: m.flatMap linE,[]):=by
 have:=lns_app (ten_txM h hl) (r:=[]) (by simp)
 rwa [append_nil] at this
theorem pM_txM {m:List En} (h:Mem m) (hl:m.length<=1024) (ht:(txM m).length<=1048576):pM (txM m)=(m,0,0):=by
 obtain⟨n',e⟩:=run_all m (m1:=[]) h 1;unfold pM;rw[if_neg (by omega),lns_txM h hl];show (match hdN (hdT m.length) with | none=>_ | some n=>_)=_;rw[hdN_hdT hl];simp only[e,nil_append];rw[if_neg (by simp),if_neg (by simp),if_neg (by simp)]
end Go.Nt
namespace Go.Nt
theorem prt_z {e:En} {k:Nat} (h:prt e k=e):(k<=0->e.S=[])/\(k<=1->e.T=[])/\(k<=2->e.p=[])/\(k<=3->e.n=[])/\(k<=4->e.a=[])/\(k<=5->e.j=[])/\(k<=6->e.c=0)/\(k<=7->e.o=0):=by
 have h0:(if 0 < k then e.S else [])=e.S:=congrArg En.S h;have h1:(if 1 < k then e.T else [])=e.T:=congrArg En.T h;have h2:(if 2 < k then e.p else [])=e.p:=congrArg En.p h;have h3:(if 3 < k then e.n else [])=e.n:=congrArg En.n h;have h4:(if 4 < k then e.a else [])=e.a:=congrArg En.a h;have h5:(if 5 < k then e.j else [])=e.j:=congrArg En.j h;have h6:(if 6 < k then e.c else 0)=e.c:=congrArg En.c h;have h7:(if 7 < k then e.o else 0)=e.o:=congrArg En.o h;refine⟨fun q=>?_,fun q=>?_,fun q=>?_,fun q=>?_,fun q=>?_,fun q=>?_,fun q=>?_,fun q=>?_⟩
 ·rw[if_neg (by omega)] at h0;exact h0.symm
 ·rw[if_neg (by omega)] at h1;exact h1.symm
 ·rw[if_neg (by omega)] at h2;exact h2.symm
 ·rw[if_neg (by omega)] at h3;exact h3.symm
 ·rw[if_neg (by omega)] at h4;exact h4.symm
 ·rw[if_neg (by omega)] at h5;exact h5.symm
 ·rw[if_neg (by omega)] at h6;exact h6.symm
 ·rw[if_neg (by omega)] at h7;exact h7.symm
theorem vl_z {e:En} {k j:Nat} (h:prt e k=e) (hj:k<=j) (h2:2<=j) (h7:j < 7):vlE e j=[]:=by
 obtain⟨z0,z1,z2,z3,z4,z5,z6,z7⟩:=prt_z h
 match j,h2,h7 with
 | 2,_,_=>exact z2 hj
 | 3,_,_=>exact z3 hj
 | 4,_,_=>exact z4 hj
 | 5,_,_=>exact z5 hj
 | 6,_,_=>show (if e.c=0 then [] else _)=[];rw[if_pos (z6 hj)]
theorem lin_skip {e:En} {k0:Nat} (h:prt e k0=e) (h2:2<=k0):∀ (d:Nat),k0+d<=7->linK e (k0+d)=linK e k0
 | 0,_=>rfl
 | d+1,hd=>by
  show linK e (k0+d)++lnE (k0+d) (vlE e (k0+d))=_;rw[vl_z h (by omega) (by omega) (by omega),lin_skip h h2 d (by omega),lnE,if_pos ⟨by omega,rfl⟩,append_nil]
theorem lin_cong {e e':En}:∀ (k:Nat),(∀ j,j < k->vlE e' j=vlE e j)->linK e' k=linK e k
 | 0,_=>rfl
 | k+1,h=>by
  show linK e' k++lnE k (vlE e' k)=linK e k++lnE k (vlE e k);rw[lin_cong k (fun j hj=>h j (by omega)),h k (by omega)]
theorem setE_some {k:Nat} {v:Bs} {e e':En} (hk:k < 8) (h:setE k v e=(0,e')) {k0:Nat} (hp:prt e k0=e) (h0:k0<=k):vlE e' k=v/\(∀ j,j < k->vlE e' j=vlE e j)/\prt e' (k+1)=e':=by
 obtain⟨z0,z1,z2,z3,z4,z5,z6,z7⟩:=prt_z hp
 match k,hk with
 | 0,_ =>
  have h1:((parse v).2.2,({ e with S:=(parse v).1 }:En))=(0,e'):=h;obtain⟨h2,rfl⟩:=Prod.mk.inj h1;obtain⟨c1,c2,_⟩:=parse_canon (s:=v) (g:=(parse v).1) (b:=(parse v).2.1) (by rw[<- h2]);refine⟨?_,fun j hj=>absurd hj (by omega),?_⟩
  ·show fmE (parse v).1=v
   unfold fmE;rw[if_pos c1,c2]
  ·exact En.eq rfl (z1 (by omega)).symm (z2 (by omega)).symm (z3 (by omega)).symm (z4 (by omega)).symm (z5 (by omega)).symm (z6 (by omega)).symm (z7 (by omega)).symm
 | 1,_ =>
  have h1:((parse v).2.2,({ e with T:=(parse v).1 }:En))=(0,e'):=h;obtain⟨h2,rfl⟩:=Prod.mk.inj h1;obtain⟨c1,c2,_⟩:=parse_canon (s:=v) (g:=(parse v).1) (b:=(parse v).2.1) (by rw[<- h2]);refine⟨?_,fun j hj=>?_,?_⟩
  ·show fmE (parse v).1=v
   unfold fmE;rw[if_pos c1,c2]
  ·match j,hj with
   | 0,_=>rfl
  ·exact En.eq rfl rfl (z2 (by omega)).symm (z3 (by omega)).symm (z4 (by omega)).symm (z5 (by omega)).symm (z6 (by omega)).symm (z7 (by omega)).symm
 | 2,_ =>
  have h1:((parse v).2.2,({ e with p:=v }:En))=(0,e'):=h;obtain⟨h2,rfl⟩:=Prod.mk.inj h1;refine⟨rfl,fun j hj=>?_,?_⟩
  ·match j,hj with
   | 0,_=>rfl
   | 1,_=>rfl
  ·exact En.eq rfl rfl rfl (z3 (by omega)).symm (z4 (by omega)).symm (z5 (by omega)).symm (z6 (by omega)).symm (z7 (by omega)).symm
 | 3,_ =>
  have h1:((parse v).2.2,({ e with n:=v }:En))=(0,e'):=h;obtain⟨h2,rfl⟩:=Prod.mk.inj h1;refine⟨rfl,fun j hj=>?_,?_⟩
  ·match j,hj with
   | 0,_=>rfl
   | 1,_=>rfl
   | 2,_=>rfl
  ·exact En.eq rfl rfl rfl rfl (z4 (by omega)).symm (z5 (by omega)).symm (z6 (by omega)).symm (z7 (by omega)).symm
 | 4,_ =>
  have h1:((0:Int),({ e with a:=v }:En))=(0,e'):=h;obtain⟨h2,rfl⟩:=Prod.mk.inj h1;refine⟨rfl,fun j hj=>?_,?_⟩
  ·match j,hj with
   | 0,_=>rfl
   | 1,_=>rfl
   | 2,_=>rfl
   | 3,_=>rfl
  ·exact En.eq rfl rfl rfl rfl rfl (z5 (by omega)).symm (z6 (by omega)).symm (z7 (by omega)).symm
 | 5,_ =>
  have h1:((0:Int),({ e with j:=v }:En))=(0,e'):=h;obtain⟨h2,rfl⟩:=Prod.mk.inj h1;refine⟨rfl,fun j hj=>?_,?_⟩
  ·match j,hj with
   | 0,_=>rfl
   | 1,_=>rfl
   | 2,_=>rfl
   | 3,_=>rfl
   | 4,_=>rfl
  ·exact En.eq rfl rfl rfl rfl rfl rfl (z6 (by omega)).symm (z7 (by omega)).symm
 | 6,_ =>
  have h1:(match numX v 1073741824 with | some n=>if n=0 then (2,e) else (0,{ e with c:=(n:Int) }) | none=>(2,e))=((0:Int),e'):=h;cases hn:numX v 1073741824 with
  | none=>rw[hn] at h1;cases h1
  | some n =>
   rw[hn] at h1;by_cases q:n=0
   ·simp only[if_pos q] at h1;cases h1
   ·simp only[if_neg q] at h1
    obtain⟨h2,rfl⟩:=Prod.mk.inj h1;have hd:=(dc_numX hn).1;refine⟨?_,fun j hj=>?_,?_⟩
    ·show (if (n:Int)=0 then [] else dcN ((n:Int)).toNat)=v
     rw[if_neg (by omega),hd];rfl
    ·match j,hj with
     | 0,_=>rfl
     | 1,_=>rfl
     | 2,_=>rfl
     | 3,_=>rfl
     | 4,_=>rfl
     | 5,_=>rfl
    ·exact En.eq rfl rfl rfl rfl rfl rfl rfl (z7 (by omega)).symm
 | 7,_ =>
  have h1:(match idx orn v with | some i=>(0,{ e with o:=(i:Int)+1 }) | none=>(2,e))=((0:Int),e'):=h;cases hn:idx orn v with
  | none=>rw[hn] at h1;cases h1
  | some n =>
   rw[hn] at h1;obtain⟨h2,rfl⟩:=Prod.mk.inj h1;refine⟨?_,fun j hj=>?_,?_⟩
   ·show orn.getD ((n:Int)+1 - 1).toNat []=v
    rw[show ((n:Int)+1 - 1).toNat=n by omega,getD_eq_getElem?_getD,idx_at hn];rfl
   ·match j,hj with
    | 0,_=>rfl
    | 1,_=>rfl
    | 2,_=>rfl
    | 3,_=>rfl
    | 4,_=>rfl
    | 5,_=>rfl
    | 6,_=>rfl
   ·exact prt_8 _
def Inv (r:Rd):Prop:=prt r.e r.k=r.e/\r.k<=7
def pst (r:Rd):List Bs:=r.m.flatMap linE++linK r.e r.k
theorem lineR_some {r r':Rd} {s:Bs} (h:lineR r s=(0,r')) (hi:Inv r):Inv r'/\pst r'=pst r++[s]/\(Mem r.m->Mem r'.m):=by
 unfold lineR at h;cases hf:fld s with
 | none=>rw[hf] at h;cases h
 | some p =>
  obtain⟨k,v⟩:=p;rw[hf] at h;obtain⟨hk,hs⟩:=fld_some hf;simp only[] at h;by_cases hm:may r k v=true
  case neg=>rw[if_neg hm] at h;cases h
  rw[if_pos hm] at h;by_cases h0:(setE k v r.e).1≠0
  ·rw[if_pos h0] at h;exact absurd (congrArg Prod.fst h) h0
  rw[if_neg h0] at h;have hse:setE k v r.e=(0,(setE k v r.e).2):=Prod.ext (Decidable.not_not.1 h0) rfl;generalize (setE k v r.e).2=e' at h hse;unfold may at hm;rw[Bool.and_eq_true] at hm;obtain⟨m1,m2⟩:=hm;have hrk:r.k<=k/\(k=r.k\/2<=r.k):=by
   by_cases q:r.k < 2
   ·rw[if_pos q] at m1;simp at m1;omega
   ·rw[if_neg q] at m1;simp at m1;omega
  have hv:¬ (2<=k/\v=[]):=fun q=>by rw[q.2] at m2;simp at m2;omega
  obtain⟨e1,e2,e3⟩:=setE_some hk hse hi.1 hrk.1;have hlin:linK e' (k+1)=linK r.e r.k++[s]:=by
   show linK e' k++lnE k (vlE e' k)=_;rw[e1,lnE,if_neg hv,lin_cong k e2,hs];rcases hrk.2 with q | q
   ·rw[q]
   ·have:=lin_skip hi.1 q (k - r.k) (by omega)
    rw[show r.k+(k - r.k)=k by omega] at this;rw[this]
  by_cases h7:k=7
  ·rw[if_pos h7] at h
   obtain⟨hb,rfl⟩:=Prod.mk.inj h;refine⟨⟨rfl,Nat.zero_le 7⟩,?_,fun hM=>(behE_0 hM).1 hb⟩;show (r.m++[e']).flatMap linE++[]=r.m.flatMap linE++linK r.e r.k++[s]
   rw[append_nil,flatMap_append,append_assoc,<- hlin,h7];simp [linE]
  ·rw[if_neg h7] at h
   obtain⟨_,rfl⟩:=Prod.mk.inj h;refine⟨⟨e3,by show k+1<=7;omega⟩,?_,fun hM=>hM⟩;show r.m.flatMap linE++linK e' (k+1)=r.m.flatMap linE++linK r.e r.k++[s]
   rw[hlin,append_assoc]
theorem runL_some:∀ (ls:List Bs) (r:Rd) (n:Nat) {n':Nat} {r':Rd},runL ls r n=(0,n',r')->Inv r->Inv r'/\pst r'=pst r++ls/\(Mem r.m->Mem r'.m)
 | [],r,n,n',r',h,hi=>by
  unfold runL at h;cases h;exact⟨hi,by rw[append_nil],fun h=>h⟩
 | t :: ls,r,n,n',r',h,hi=>by
  unfold runL at h;by_cases q:(lineR r t).1≠0
  ·rw[if_pos q] at h;exact absurd (congrArg Prod.fst h) q
  ·rw[if_neg q] at h
   obtain⟨i1,i2,i3⟩:=lineR_some (Prod.ext (Decidable.not_not.1 q) rfl:lineR r t=(0,(lineR r t).2)) hi;obtain⟨j1,j2,j3⟩:=runL_some ls _ _ h i1;refine⟨j1,?_,fun hM=>j3 (i3 hM)⟩;rw[j2,i2,append_assoc];rfl
theorem pM_some {s:Bs} {m:List En} {k:Nat} (h:pM s=(m,k,0)):s=txM m/\Mem m/\m.length<=1024/\s.length<=1048576/\k=0:=by
 unfold pM at h;by_cases hs:1048576 < s.length
 ·rw[if_pos hs] at h;cases h
 rw[if_neg hs] at h;have hj:=lns_join s;cases hl:(lns s).1 with
 | nil=>rw[hl] at h;cases h
 | cons hd ls =>
  rw[hl] at h hj;simp only[] at h;cases hn:hdN hd with
  | none=>rw[hn] at h;cases h
  | some n =>
   rw[hn] at h;simp only[] at h;obtain⟨hh,hn2⟩:=hdN_some hn;by_cases q1:(runL ls ⟨[],zE,0⟩ 1).1≠0
   ·rw[if_pos q1] at h
    exact absurd (congrArg (·.2.2) h) q1
   rw[if_neg q1] at h;by_cases q2:(lns s).2≠[]\/(runL ls ⟨[],zE,0⟩ 1).2.2.k≠0
   ·rw[if_pos q2] at h;cases h
   rw[if_neg q2] at h;by_cases q3:(runL ls ⟨[],zE,0⟩ 1).2.2.m.length≠n
   ·rw[if_pos q3] at h;cases h
   rw[if_neg q3] at h;obtain⟨hm,hk⟩:=Prod.mk.inj h;have hk0:k=0:=(congrArg Prod.fst hk).symm;have hr:runL ls ⟨[],zE,0⟩ 1=(0,(runL ls ⟨[],zE,0⟩ 1).2.1,(runL ls ⟨[],zE,0⟩ 1).2.2):=Prod.ext (Decidable.not_not.1 q1) rfl;obtain⟨_,i2,i3⟩:=runL_some ls _ _ hr ⟨rfl,by decide⟩;have q2:(lns s).2=[]/\(runL ls ⟨[],zE,0⟩ 1).2.2.k=0:=by
    by_cases a:(lns s).2=[]
    ·exact⟨a,Decidable.not_not.1 fun b=>q2 (.inr b)⟩
    ·exact absurd (.inl a) q2
   have q3:=Decidable.not_not.1 q3;unfold pst at i2;rw[q2.2,hm] at i2;rw[hm] at q3;have i2:m.flatMap linE=ls:=by simpa [linK] using i2
   rw[q2.1,append_nil] at hj;refine⟨?_,hm ▸ i3 mem_nil,by omega,by omega,hk0⟩;rw[<- hj,hh,<- i2,<- q3];rfl
end Go.Nt
namespace Go.Nt
def szE (e:En):Nat:=(fmE e.S).length+(fmE e.T).length+e.p.length+e.n.length+e.a.length+e.j.length
theorem lnE_len (k:Nat) (v:Bs):(jn (lnE k v)).length<=(fnm.getD k []).length+v.length+2:=by
 unfold lnE;split
 ·simp [jn]
 ·simp [jn,lnK];omega
theorem vl6_len {e:En} (h:VE e):(vlE e 6).length<=10:=by
 show (if e.c=0 then [] else dcN e.c.toNat).length<=10;split
 ·simp
 ·have c0:=h.c0
  have c1:=h.c1;exact (dcN_p 9 e.c.toNat (by omega)).2.2.2.1
theorem orn_len:∀ k,(orn.getD k []).length<=7
 | 0=>by decide
 | 1=>by decide
 | 2=>by decide
 | k+3=>by simp [orn]
theorem linE_len {e:En} (h:VE e):(jn (linE e)).length<=szE e+100:=by
 have h6:=vl6_len h;have h7:(vlE e 7).length<=7:=orn_len _;have a0:=lnE_len 0 (vlE e 0);have a1:=lnE_len 1 (vlE e 1);have a2:=lnE_len 2 (vlE e 2);have a3:=lnE_len 3 (vlE e 3);have a4:=lnE_len 4 (vlE e 4);have a5:=lnE_len 5 (vlE e 5);have a6:=lnE_len 6 (vlE e 6);have a7:=lnE_len 7 (vlE e 7);have b0:(vlE e 0).length=(fmE e.S).length:=rfl;have b1:(vlE e 1).length=(fmE e.T).length:=rfl;have b2:(vlE e 2).length=e.p.length:=rfl;have b3:(vlE e 3).length=e.n.length:=rfl;have b4:(vlE e 4).length=e.a.length:=rfl;have b5:(vlE e 5).length=e.j.length:=rfl;have c0:(fnm.getD 0 []).length=6:=rfl;have c1:(fnm.getD 1 []).length=6:=rfl;have c2:(fnm.getD 2 []).length=8:=rfl;have c3:(fnm.getD 3 []).length=4:=rfl;have c4:(fnm.getD 4 []).length=6:=rfl;have c5:(fnm.getD 5 []).length=7:=rfl;have c6:(fnm.getD 6 []).length=7:=rfl;have c7:(fnm.getD 7 []).length=6:=rfl;have e1:linE e=((((((([]++lnE 0 (vlE e 0))++lnE 1 (vlE e 1))++lnE 2 (vlE e 2))++lnE 3 (vlE e 3))++lnE 4 (vlE e 4))++lnE 5 (vlE e 5))++lnE 6 (vlE e 6))++lnE 7 (vlE e 7):=rfl;rw[e1];simp only[jn_app,length_append,jn_nil,length_nil];unfold szE;omega
theorem jn_flat (m:List En):jn (m.flatMap linE)=m.flatMap fun e=>jn (linE e):=by
 induction m with
 | nil=>rfl
 | cons e m ih=>rw[flatMap_cons,jn_app,ih,flatMap_cons]
theorem flat_len {B:Nat}:∀ {m:List En},(∀ e∈m,VE e/\szE e<=B)->(m.flatMap fun e=>jn (linE e)).length<=m.length*(B+100)
 | [],_=>by simp
 | e :: m,h=>by
  have h1:=flat_len (m:=m) (fun x hx=>h x (mem_cons_of_mem _ hx));obtain⟨h2,h3⟩:=h e mem_cons_self;have h4:=linE_len h2;rw[flatMap_cons,length_append,length_cons,Nat.add_mul];omega
theorem hdT_len {n:Nat} (h:n<=1024):(hdT n).length<=24:=by
 have:=(dcN_p 9 n (by omega)).2.2.2.1
 unfold hdT;rw[length_append];have e:hdB.length=14:=rfl;omega
theorem txM_eq (m:List En):txM m=hdT m.length++10 :: m.flatMap fun e=>jn (linE e):=by
 unfold txM;rw[jn_cons,jn_flat]
theorem txM_len {m:List En} {B:Nat} (hl:m.length<=1024) (h:∀ e∈m,VE e/\szE e<=B):(txM m).length<=25+m.length*(B+100):=by
 have h1:=hdT_len hl;have h2:=flat_len h;rw[txM_eq,length_append,length_cons];omega
theorem nm_len {s:Bs} (h:nmOk s=true):s.length<=24:=by
 unfold nmOk at h;rcases (by simpa using h:s=[]\/isNm s=true) with q | q
 ·rw[q];simp
 ·exact (isNm_mem q).2.1
theorem fmM_ok {m:List En} (h:Mem m) (hl:m.length<=1024) (ht:(txM m).length<=1048576):fmM m=(txM m,0):=by
 unfold fmM;rw[if_neg (fun q=>q ((chkM_0 m).2 ⟨hl,h⟩)),if_neg (by omega)]
def txN (m:List En) (n:Nat):Bs:=jn (hdT n :: m.flatMap linE)
theorem pM_txN {m:List En} (h:Mem m) {n:Nat} (hn:n<=1024) (hl:m.length<=1024) (ht:(txN m n).length<=1048576):pM (txN m n)=if n=m.length then (m,0,0) else ([],1,2):=by
 obtain⟨n',e⟩:=run_all m (m1:=[]) h 1
 have hq:=lns_app (ls:=hdT n :: m.flatMap linE) (r:=[]) (fun l hm=>by
  rcases mem_cons.1 hm with q | q
  ·rw[q];exact ten_hdT hn
  ·exact ten_txM h hl l (mem_cons_of_mem _ q)) (by simp)
 rw[append_nil] at hq;unfold pM;rw[if_neg (by omega),show lns (txN m n)=_ from hq];show (match hdN (hdT n) with | none=>_ | some n=>_)=_;rw[hdN_hdT hn];simp only[e,nil_append];by_cases q:n=m.length
 ·rw[if_pos q,if_neg (by simp),if_neg (by simp),if_neg (by omega)]
 ·rw[if_neg q,if_neg (by simp),if_neg (by simp),if_pos (by omega)]
end Go.Nt
