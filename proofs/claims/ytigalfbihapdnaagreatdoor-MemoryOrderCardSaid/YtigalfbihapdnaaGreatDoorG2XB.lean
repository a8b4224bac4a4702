/- Numbering the tags of a source and its target together, as plain data. Orders of byte strings, of numbers, and one behind the other. Entries of a memory as plain data: validity, keys, the order. Memories as plain data: sorted lists of entries, lookups, putting, deleting, uniting. A target of a source: the same tags in the same order, other texts. Entries that are made are valid. -/
import Derived.Test.YtigalfbihapdnaaGreatDoorG2XA
import GoSem.Op.String
set_option linter.unusedSimpArgs false
set_option linter.unusedVariables false
set_option linter.unusedSectionVars false
set_option maxRecDepth 100000
set_option maxHeartbeats 16000000
namespace Go.Nt
def add1 (l:List Int) (n:Int):List Int:=if n∈l then l else l++[n]
theorem add1_mem (l:List Int) (n i:Int) (h:i∈l):i∈add1 l n:=by
 unfold add1;split
 ·exact h
 ·simp [h]
theorem add1_self (l:List Int) (n:Int):n∈add1 l n:=by
 unfold add1;split
 ·assumption
 ·simp
theorem fold1_mem:∀ (a l:List Int) (i:Int),i∈l→i∈a.foldl add1 l
 | [],l,i,h=>h
 | x :: a,l,i,h=>fold1_mem a _ i (add1_mem l x i h)
theorem fold1_self:∀ (a l:List Int) (i:Int),i∈a→i∈a.foldl add1 l
 | x :: a,l,i,h=>by
  rw[List.foldl_cons]
  rcases List.mem_cons.1 h with rfl | h
  ·exact fold1_mem a _ _ (add1_self l i)
  ·exact fold1_self a _ i h
theorem fold1_nums:∀ (t:List It) (acc l:List Int),(t.foldl addN acc).foldl add1 l=t.foldl addN (acc.foldl add1 l)
 | [],acc,l=>rfl
 | x :: t,acc,l=>by
  rw[List.foldl_cons,List.foldl_cons,fold1_nums t (addN acc x) l]
  congr 1
  unfold addN
  by_cases ht:isTag x=true
  ·by_cases hm:x.2.2∈acc
   ·rw[if_neg (fun z=>z.2 hm),if_neg (fun z=>z.2 (fold1_self acc l _ hm))]
   ·rw[if_pos ⟨ht,hm⟩,List.foldl_append]
    have e:[x.2.2].foldl add1 (acc.foldl add1 l)=if x.2.2∈acc.foldl add1 l then acc.foldl add1 l else acc.foldl add1 l++[x.2.2]:=rfl
    rw[e]
    by_cases q:x.2.2∈acc.foldl add1 l
    ·rw[if_pos q,if_neg (fun z=>z.2 q)]
    ·rw[if_neg q,if_pos ⟨ht,q⟩]
  ·rw[if_neg (fun z=>ht z.1),if_neg (fun z=>ht z.1)]
def cnl (s t:List It):List Int:=nums (s++t)
theorem cnl_prog (s t:List It):(nums t).foldl add1 (nums s)=cnl s t:=by
 unfold cnl nums
 rw[fold1_nums,List.foldl_append]
 rfl
def ren1 (s t f:List It):List It:=renF (cnl s t) (upto (cnl s t).length) f
def canS (s t:List It):List It:=nrm (ren1 s t s)
def canT (s t:List It):List It:=nrm (ren1 s t t)
theorem renF_map (g:List It):∀ f:List It,(∀ x∈f,x∈g)→renF (nums g) (upto (nums g).length) f=f.map (phi g)
 | [],_=>rfl
 | x :: f,h=>by
  have ih:=renF_map g f (fun y hy=>h y (by simp [hy]))
  have e:renX (nums g) (upto (nums g).length) x=some (phi g x):=by
   unfold renX phi
   by_cases ht:isTag x=true
   ·rw[if_pos ht,if_pos ht,sig_some (nums_tag (h x (by simp)) ht)];rfl
   ·rw[if_neg ht,if_neg ht]
  show (x :: f).filterMap _=_
  rw[List.filterMap_cons,e,List.map_cons,← ih]
  rfl
theorem ren1_s (s t:List It):ren1 s t s=s.map (phi (s++t)):=renF_map (s++t) s (fun x h=>by simp [h])
theorem ren1_t (s t:List It):ren1 s t t=t.map (phi (s++t)):=renF_map (s++t) t (fun x h=>by simp [h])
theorem map_len (g f:List It):len (f.map (phi g))=len f:=by
 unfold len
 rw[List.map_map]
 congr 1
 refine List.map_congr_left fun x _=>?_
 exact phi_wid g x
theorem map_vld {g f:List It} (hn:(nums g).length≤999) (hf:∀ x∈f,x∈g) (h:vld f=0):vld (f.map (phi g))=0:=by
 obtain⟨h1,h2,h3⟩:=(vld_iff f).1 h
 refine (vld_iff _).2 ⟨?_,by simpa using h2,by rw[map_len];exact h3⟩
 have:=phi_chks (f:=g) hn f [] (by simp) hf h1
 exact this
theorem canS_vld {s t:List It} (hl:(nums (s++t)).length≤999) (h:vld s=0):canS s t=s.map (phi (s++t))∧vld (canS s t)=0:=by
 have hv:=map_vld hl (fun x hx=>by simp [hx]) h (f:=s)
 have e:canS s t=s.map (phi (s++t)):=by unfold canS;rw[ren1_s,nrm_VL ((vld_iff _).1 hv).1]
 exact⟨e,by rw[e];exact hv⟩
theorem canT_vld {s t:List It} (hl:(nums (s++t)).length≤999) (h:vld t=0):canT s t=t.map (phi (s++t))∧vld (canT s t)=0:=by
 have hv:=map_vld hl (fun x hx=>by simp [hx]) h (f:=t)
 have e:canT s t=t.map (phi (s++t)):=by unfold canT;rw[ren1_t,nrm_VL ((vld_iff _).1 hv).1]
 exact⟨e,by rw[e];exact hv⟩
theorem lkz_upto:∀ (n:Nat) (k:Nat),k < n→lkz (upto n) (upto n) ((k:Int)+1)=some ((k:Int)+1):=by
 have key:∀ (l:List Int) (i:Int),i∈l→lkz l l i=some i:=by
  intro l
  induction l with
  | nil=>intro i h;cases h
  | cons a l ih =>
   intro i h
   simp only[lkz]
   by_cases e:a=i
   ·rw[if_pos e,e]
   ·rw[if_neg e]
    exact ih i ((List.mem_cons.1 h).resolve_left (fun q=>e q.symm))
 intro n k h
 refine key _ _ ?_
 unfold upto
 exact List.mem_map.2 ⟨k,List.mem_range.2 h,rfl⟩
theorem nums_phi (g:List It):nums (g.map (phi g))=upto (nums g).length:=by
 have hnd:∀ (f:List It) (l:List Int),l.Nodup→(f.foldl addN l).Nodup:=by
  intro f
  induction f with
  | nil=>intro l h;exact h
  | cons x f ih =>
   intro l h
   refine ih _ ?_
   unfold addN
   split
   ·rename_i q
    rw[List.nodup_append]
    exact⟨h,by simp,fun a ha b hb=>by simp only[List.mem_singleton] at hb;rw[hb];exact fun e=>q.2 (e ▸ ha)⟩
   ·exact h
 have hN:(nums g).Nodup:=hnd g [] List.nodup_nil
 have hsig:∀ (j:Nat) (i:Int),(nums g)[j]?=some i→sig g i=(j:Int)+1:=by
  intro j i hj
  obtain⟨j',h1,h2⟩:=lkz_at _ _ _ _ (sig_some (List.mem_of_getElem? hj))
  have hjl:j < (nums g).length:=by
   by_cases q:j < (nums g).length
   ·exact q
   ·rw[List.getElem?_eq_none (by omega)] at hj;cases hj
  have e:j=j':=(List.getElem?_inj hjl hN).1 (by rw[hj,h1])
  rw[← e] at h2
  exact (upto_at h2).1
 have key:∀ (f h:List It),h++f=g→(f.map (phi g)).foldl addN (upto (nums h).length)=upto (nums g).length∧∃ r,nums g=nums h++r:=by
  intro f
  induction f with
  | nil =>
   intro h e
   rw[List.append_nil] at e
   subst e
   exact⟨rfl,[],by simp⟩
  | cons x f ih =>
   intro h e
   have e2:(h++[x])++f=g:=by rw[List.append_assoc];exact e
   obtain⟨i1,r,i2⟩:=ih (h++[x]) e2
   have en:nums (h++[x])=addN (nums h) x:=by unfold nums;rw[List.foldl_append];rfl
   have hx:x∈g:=by rw[← e];simp
   rw[List.map_cons,List.foldl_cons]
   have step:addN (upto (nums h).length) (phi g x)=upto (nums (h++[x])).length:=by
    rw[en]
    unfold addN
    rw[phi_tag]
    by_cases ht:isTag x=true
    ·have ep:(phi g x).2.2=sig g x.2.2:=by unfold phi;rw[if_pos ht]
     rw[ep]
     by_cases hm:x.2.2∈nums h
     ·obtain⟨j,hj⟩:=List.mem_iff_getElem?.1 hm
      have hjl:j < (nums h).length:=by
       by_cases q:j < (nums h).length
       ·exact q
       ·rw[List.getElem?_eq_none (by omega)] at hj;cases hj
      have hjg:(nums g)[j]?=some x.2.2:=by
       rw[i2,en]
       unfold addN
       rw[if_neg (fun z=>z.2 hm),List.getElem?_append_left hjl,hj]
      have es:=hsig j _ hjg
      have hmem:sig g x.2.2∈upto (nums h).length:=by
       rw[es];unfold upto
       exact List.mem_map.2 ⟨j,List.mem_range.2 hjl,rfl⟩
      rw[if_neg (fun z=>z.2 hmem),if_neg (fun z=>z.2 hm)]
     ·have hjg:(nums g)[(nums h).length]?=some x.2.2:=by
       rw[i2,en]
       unfold addN
       rw[if_pos ⟨ht,hm⟩,List.append_assoc,List.getElem?_append_right (Nat.le_refl _),Nat.sub_self];rfl
      have es:=hsig _ _ hjg
      have hmem:sig g x.2.2 ∉ upto (nums h).length:=by
       rw[es]
       intro q
       unfold upto at q
       obtain⟨a,ha,hb⟩:=List.mem_map.1 q
       have:=List.mem_range.1 ha
       omega
      rw[if_pos ⟨ht,hmem⟩,if_pos ⟨ht,hm⟩,es,List.length_append,List.length_singleton,upto_s]
    ·rw[if_neg (fun z=>ht z.1),if_neg (fun z=>ht z.1)]
   rw[step]
   refine⟨i1,?_⟩
   rw[i2,en]
   unfold addN
   split
   ·exact⟨x.2.2 :: r,by simp⟩
   ·exact⟨r,rfl⟩
 have:=(key g [] rfl).1
 exact this
theorem phi_yes {f:List It} {x:It} (h:isTag x=true):phi f x=(x.1,x.2.1,sig f x.2.2):=by unfold phi;rw[if_pos h]
theorem phi_phi (g:List It):∀ x∈g,phi (g.map (phi g)) (phi g x)=phi g x:=by
 intro x hx
 by_cases ht:isTag x=true
 ·have ep:phi g x=(x.1,x.2.1,sig g x.2.2):=by unfold phi;rw[if_pos ht]
  have hb:=sig_bd (nums_tag hx ht)
  have htp:isTag (phi g x)=true:=by rw[phi_tag];exact ht
  have e:phi (g.map (phi g)) (phi g x)=((phi g x).1,(phi g x).2.1,sig (g.map (phi g)) (phi g x).2.2):=phi_yes htp
  rw[e,ep]
  simp only[]
  have:sig (g.map (phi g)) (sig g x.2.2)=sig g x.2.2:=by
   unfold sig
   rw[nums_phi,upto_len]
   have hk:=lkz_upto (nums g).length (sig g x.2.2 - 1).toNat (by omega)
   have ec:(((sig g x.2.2 - 1).toNat:Nat):Int)+1=sig g x.2.2:=by omega
   rw[ec] at hk
   unfold sig at hk
   rw[hk];rfl
  rw[this]
 ·have ep:phi g x=x:=by unfold phi;rw[if_neg ht]
  rw[ep]
  unfold phi
  rw[if_neg ht]
theorem nums_nodup (g:List It):(nums g).Nodup:=by
 have hnd:∀ (f:List It) (l:List Int),l.Nodup→(f.foldl addN l).Nodup:=by
  intro f
  induction f with
  | nil=>intro l h;exact h
  | cons x f ih =>
   intro l h
   refine ih _ ?_
   unfold addN
   split
   ·rename_i q
    rw[List.nodup_append]
    exact⟨h,by simp,fun a ha b hb=>by simp only[List.mem_singleton] at hb;rw[hb];exact fun e=>q.2 (e ▸ ha)⟩
   ·exact h
 exact hnd g [] List.nodup_nil
theorem nums_from {g:List It} {i:Int} (h:i∈nums g):∃ x∈g,isTag x=true∧x.2.2=i:=by
 have key:∀ (f:List It) (l:List Int),i∈f.foldl addN l→i∈l∨∃ x∈f,isTag x=true∧x.2.2=i:=by
  intro f
  induction f with
  | nil=>intro l h;exact .inl h
  | cons x f ih =>
   intro l h
   rcases ih _ h with q | ⟨y,h1,h2⟩
   ·unfold addN at q
    split at q
    ·rename_i z
     rcases List.mem_append.1 q with q | q
     ·exact .inl q
     ·exact .inr ⟨x,List.mem_cons_self ..,z.1,(List.mem_singleton.1 q).symm⟩
    ·exact .inl q
   ·exact .inr ⟨y,List.mem_cons_of_mem _ h1,h2⟩
 rcases key g [] h with q | q
 ·cases q
 ·exact q
theorem vl_wf {f:List It} (h:VL f):∀ x∈f,x.1≠1→wfX x:=by
 have key:∀ (n:Nat) (f:List It),f.length=n→VL f→∀ x∈f,x.1≠1→wfX x:=by
  intro n
  induction n with
  | zero=>intro f hf _ x hx;rw[List.eq_nil_of_length_eq_zero hf] at hx;cases hx
  | succ n ih =>
   intro f hf hv x hx
   rcases snoc_cases f with rfl | ⟨g,y,rfl⟩
   ·simp at hf
   ·obtain⟨a,b⟩:=(chks_snoc g y).1 hv
    rcases List.mem_append.1 hx with q | q
    ·exact ih g (by simp at hf;exact hf) a x q
    ·rw[List.mem_singleton.1 q]
     exact chk_wf b
 exact key _ f rfl h
theorem wf_id {x:It} (h:wfX x) (ht:isTag x=true):1≤x.2.2∧x.2.2≤999:=by
 unfold isTag at ht
 rcases h with ⟨h1,_⟩ | ⟨h1,_⟩ | ⟨_,_,h⟩ | ⟨_,_,h⟩
 ·rw[h1] at ht;simp at ht
 ·rw[h1] at ht;simp at ht
 ·exact h
 ·exact h
theorem nums_le {s t:List It} (hs:vld s=0) (ht:vld t=0):(nums (s++t)).length≤999:=by
 have hsub:nums (s++t) ⊆ upto 999:=by
  intro i hi
  obtain⟨x,hx,h1,h2⟩:=nums_from hi
  have hw:wfX x:=by
   have hk:x.1≠1:=fun q=>by unfold isTag at h1;rw[q] at h1;simp at h1
   rcases List.mem_append.1 hx with q | q
   ·exact vl_wf ((vld_iff s).1 hs).1 x q hk
   ·exact vl_wf ((vld_iff t).1 ht).1 x q hk
  have:=wf_id hw h1
  unfold upto
  exact List.mem_map.2 ⟨(i - 1).toNat,List.mem_range.2 (by omega),by omega⟩
 have:=(nums_nodup (s++t)).length_le_of_subset hsub
 rw[upto_len] at this
 exact this
theorem can_can {s t:List It} (hs:vld s=0) (ht:vld t=0):canS (canS s t) (canT s t)=canS s t∧canT (canS s t) (canT s t)=canT s t:=by
 have hn:=nums_le hs ht
 obtain⟨e1,v1⟩:=canS_vld hn hs
 obtain⟨e2,v2⟩:=canT_vld hn ht
 have hl:(nums (canS s t++canT s t)).length≤999:=by rw[e1,e2,← List.map_append,nums_phi,upto_len];exact hn
 obtain⟨e3,_⟩:=canS_vld (t:=canT s t) hl v1
 obtain⟨e4,_⟩:=canT_vld (s:=canS s t) hl v2
 have eg:canS s t++canT s t=(s++t).map (phi (s++t)):=by rw[e1,e2,List.map_append]
 rw[e3,e4,eg,e1,e2,List.map_map,List.map_map]
 constructor
 ·refine List.map_congr_left fun x hx=>?_
  exact phi_phi (s++t) x (by simp [hx])
 ·refine List.map_congr_left fun x hx=>?_
  exact phi_phi (s++t) x (by simp [hx])
end Go.Nt
namespace Go.Nt
abbrev ltB (a b:Bs):Bool:=Op.bytesLess a b
theorem ltB_nil (a:Bs):ltB a []=false:=by cases a<;>rfl
theorem ltB_cc (a b:UInt8) (x y:Bs):ltB (a :: x) (b :: y)=(decide (a < b) || (a == b && ltB x y)):=rfl
theorem ltB_irr:∀ a:Bs,ltB a a=false
 | []=>rfl
 | a :: x=>by
  rw[ltB_cc,ltB_irr x,Bool.and_false,Bool.or_false,decide_eq_false_iff_not]
  exact UInt8.lt_irrefl a
theorem ltB_tri:∀ a b:Bs,ltB a b=false→a≠b→ltB b a=true
 | [],[],_,h=>absurd rfl h
 | [],b :: y,h,_=>by cases h
 | a :: x,[],_,_=>rfl
 | a :: x,b :: y,h,hne=>by
  rw[ltB_cc,Bool.or_eq_false_iff,decide_eq_false_iff_not] at h
  rw[ltB_cc,Bool.or_eq_true,decide_eq_true_iff]
  by_cases e:a=b
  ·subst e
   refine .inr ?_
   have h2:=h.2
   simp only[beq_self_eq_true,Bool.true_and] at h2 ⊢
   exact ltB_tri x y h2 (fun q=>hne (by rw[q]))
  ·refine .inl ?_
   have:=UInt8.not_lt.1 h.1
   exact UInt8.lt_of_le_of_ne this (fun q=>e q.symm)
theorem ltB_tr:∀ a b c:Bs,ltB a b=true→ltB b c=true→ltB a c=true
 | _,[],c,h,_=>by rw[ltB_nil] at h;cases h
 | _,_ :: _,[],_,h=>by rw[ltB_nil] at h;cases h
 | [],b :: y,c :: z,_,_=>rfl
 | a :: x,b :: y,c :: z,h1,h2=>by
  rw[ltB_cc,Bool.or_eq_true,decide_eq_true_iff,Bool.and_eq_true,beq_iff_eq] at h1 h2 ⊢
  rcases h1 with h1 | ⟨rfl,h1⟩
  ·rcases h2 with h2 | ⟨rfl,h2⟩
   ·exact .inl (UInt8.lt_trans h1 h2)
   ·exact .inl h1
  ·rcases h2 with h2 | ⟨rfl,h2⟩
   ·exact .inl h2
   ·exact .inr ⟨rfl,ltB_tr x y z h1 h2⟩
theorem ltB_asym {a b:Bs} (h:ltB a b=true):ltB b a=false:=by
 cases q:ltB b a with
 | false=>rfl
 | true=>have:=ltB_tr a b a h q;rw[ltB_irr] at this;cases this
theorem ltB_ne {a b:Bs} (h:ltB a b=true):a≠b:=fun e=>by rw[e,ltB_irr] at h;cases h
def cmpB (a b:Bs):Int:=if ltB a b=true then -1 else if ltB b a=true then 1 else 0
def cmpI (a b:Int):Int:=if a < b then -1 else if b < a then 1 else 0
structure TO {α:Type} (f:α→α→Int):Prop where
 anti:∀ a b,f b a = - f a b
 le:∀ a b c,f a b≤0→f b c≤0→f a c≤0
 lt:∀ a b c,f a b≤0→f b c≤0→(f a b < 0∨f b c < 0)→f a c < 0
theorem cmpI_to:TO cmpI:=by
 refine⟨fun a b=>?_,fun a b c=>?_,fun a b c=>?_⟩<;>unfold cmpI
 ·repeat' split
  all_goals omega
 ·repeat' split
  all_goals omega
 ·repeat' split
  all_goals omega
theorem cmpB_lt {a b:Bs}:cmpB a b < 0↔ltB a b=true:=by
 unfold cmpB
 constructor
 ·intro h
  split at h
  ·assumption
  ·split at h<;>omega
 ·intro h;rw[if_pos h];omega
theorem cmpB_z {a b:Bs}:cmpB a b=0↔a=b:=by
 unfold cmpB
 constructor
 ·intro h
  split at h
  ·omega
  ·rename_i h1
   split at h
   ·omega
   ·rename_i h2
    by_cases e:a=b
    ·exact e
    ·exact absurd (ltB_tri a b (by simpa using h1) e) h2
 ·intro h;subst h;rw[ltB_irr];rfl
theorem cmpB_anti (a b:Bs):cmpB b a = - cmpB a b:=by
 unfold cmpB
 cases h1:ltB a b with
 | true=>rw[ltB_asym h1];rfl
 | false=>cases h2:ltB b a<;>rfl
theorem cmpB_to:TO cmpB:=by
 have tr:∀ a b c,cmpB a b≤0→cmpB b c≤0→(cmpB a b < 0∨cmpB b c < 0)→cmpB a c < 0:=by
  intro a b c h1 h2 h3
  by_cases e1:a=b
  ·subst e1
   rcases h3 with q | q
   ·have:=(cmpB_z (a:=a) (b:=a)).2 rfl;omega
   ·exact q
  ·have n1:cmpB a b < 0:=by have:cmpB a b≠0:=fun q=>e1 (cmpB_z.1 q);omega
   by_cases e2:b=c
   ·subst e2;exact n1
   ·have n2:cmpB b c < 0:=by have:cmpB b c≠0:=fun q=>e2 (cmpB_z.1 q);omega
    exact cmpB_lt.2 (ltB_tr a b c (cmpB_lt.1 n1) (cmpB_lt.1 n2))
 refine⟨fun a b=>cmpB_anti a b,fun a b c h1 h2=>?_,tr⟩
 by_cases q:cmpB a b < 0∨cmpB b c < 0
 ·have:=tr a b c h1 h2 q;omega
 ·have z1:cmpB a b=0:=by omega
  have z2:cmpB b c=0:=by omega
  have:=(cmpB_z (a:=a) (b:=c)).2 ((cmpB_z.1 z1).trans (cmpB_z.1 z2))
  omega
def lex {α:Type} (f g:α→α→Int) (a b:α):Int:=if f a b≠0 then f a b else g a b
theorem TO.z {α:Type} {f:α→α→Int} (h:TO f) {a b c:α} (h1:f a b=0) (h2:f b c=0):f a c=0:=by
 have:=h.le a b c (by omega) (by omega)
 have:=h.le c b a (by have:=h.anti b c;omega) (by have:=h.anti a b;omega)
 have:=h.anti a c
 omega
theorem TO.lex {α:Type} {f g:α→α→Int} (hf:TO f) (hg:TO g):TO (lex f g):=by
 have anti:∀ a b,Nt.lex f g b a = - Nt.lex f g a b:=by
  intro a b
  unfold Nt.lex
  have h1:=hf.anti a b
  have h2:=hg.anti a b
  split<;>split<;>omega
 have lt:∀ a b c,Nt.lex f g a b≤0→Nt.lex f g b c≤0→(Nt.lex f g a b < 0∨Nt.lex f g b c < 0)→Nt.lex f g a c < 0:=by
  intro a b c h1 h2 h3
  unfold Nt.lex at h1 h2 h3 ⊢
  by_cases e1:f a b=0<;>by_cases e2:f b c=0
  ·have e3:=hf.z e1 e2
   rw[if_neg (by simp [e1])] at h1 h3
   rw[if_neg (by simp [e2])] at h2 h3
   rw[if_neg (by simp [e3])]
   exact hg.lt a b c h1 h2 h3
  ·rw[if_pos e2] at h2 h3
   have:=hf.lt a b c (by omega) h2 (.inr (by omega))
   rw[if_pos (by omega)];exact this
  ·rw[if_pos e1] at h1 h3
   have:=hf.lt a b c h1 (by omega) (.inl (by omega))
   rw[if_pos (by omega)];exact this
  ·rw[if_pos e1] at h1 h3
   rw[if_pos e2] at h2 h3
   have:=hf.lt a b c h1 h2 (.inl (by omega))
   rw[if_pos (by omega)];exact this
 refine⟨anti,fun a b c h1 h2=>?_,lt⟩
 by_cases q:Nt.lex f g a b < 0∨Nt.lex f g b c < 0
 ·have:=lt a b c h1 h2 q;omega
 ·have z1:Nt.lex f g a b=0:=by omega
  have z2:Nt.lex f g b c=0:=by omega
  unfold Nt.lex at z1 z2 ⊢
  by_cases e1:f a b=0
  ·by_cases e2:f b c=0
   ·have e3:=hf.z e1 e2
    rw[if_neg (by simp [e1])] at z1
    rw[if_neg (by simp [e2])] at z2
    rw[if_neg (by simp [e3]),hg.z z1 z2]
    exact Int.le_refl _
   ·rw[if_pos e2] at z2;exact absurd z2 e2
  ·rw[if_pos e1] at z1;exact absurd z1 e1
theorem TO.on {α β:Type} {f:α→α→Int} (h:TO f) (k:β→α):TO (fun x y=>f (k x) (k y)):=
 ⟨fun a b=>h.anti _ _,fun a b c=>h.le _ _ _,fun a b c=>h.lt _ _ _⟩
theorem TO.flip {α:Type} {f:α→α→Int} (h:TO f):TO (fun x y=>f y x):=
 ⟨fun a b=>h.anti _ _,fun a b c h1 h2=>h.le c b a h2 h1,fun a b c h1 h2 h3=>h.lt c b a h2 h1 (h3.elim .inr .inl)⟩
end Go.Nt
namespace Go.Nt
theorem ten_wrt (c:UInt8):(10:UInt8) ∉ wrt c:=by
 have:=byte_all (fun c=>!((wrt c).contains 10)) (by decide +kernel) c
 simpa using this
theorem ten_elt {f:List It} {x:It} (h:chk f x=0):(10:UInt8) ∉ elt x:=by
 obtain⟨k,s,i⟩:=x
 by_cases hk:k=1
 ·subst hk
  show (10:UInt8) ∉ s.flatMap wrt
  rw[List.mem_flatMap]
  rintro ⟨c,_,hc⟩
  exact ten_wrt c hc
 ·have hw:=chk_wf h hk
  have hd:∀ n:Nat,n≤999→(10:UInt8) ∉ Nt.dec n:=fun n hn q=>absurd (dec_digs hn _ q) (by decide)
  have hnm:∀ t:Bs,isNm t=true→(10:UInt8) ∉ t:=fun t ht q=>absurd ((isNm_mem ht).2.2 _ q) (by decide)
  have hic:∀ t:Bs,isC t=true→(10:UInt8) ∉ t:=fun t ht q=>absurd ((isC_mem ht).1 _ q) (by decide)
  rcases hw with ⟨h1,_⟩ | ⟨h1,h2,h3⟩ | ⟨h1,h2,h3,h4⟩ | ⟨h1,h2,h3,h4⟩
  ·exact absurd h1 hk
  ·simp only[] at h1 h2 h3
   subst h1
   simp [elt,hnm s h2]
  ·simp only[] at h1 h2 h3 h4
   have hdi:=hd i.toNat (by omega)
   rcases h1 with rfl | rfl
   ·simp [elt,hic s h2,hdi]
   ·simp [elt,hic s h2,hdi]
  ·simp only[] at h1 h2 h3 h4
   have hdi:=hd i.toNat (by omega)
   subst h1
   simp [elt,hnm s h2,hdi]
theorem ten_fmt {f:List It} (h:VL f):(10:UInt8) ∉ fmt f:=by
 have key:∀ (n:Nat) (f:List It),f.length=n→VL f→(10:UInt8) ∉ fmt f:=by
  intro n
  induction n with
  | zero=>intro f hf _;rw[List.eq_nil_of_length_eq_zero hf];simp [fmt]
  | succ n ih =>
   intro f hf hv
   rcases snoc_cases f with rfl | ⟨g,y,rfl⟩
   ·simp at hf
   ·obtain⟨a,b⟩:=(chks_snoc g y).1 hv
    rw[fmt_app,fmt_one,List.mem_append]
    rintro (q | q)
    ·exact ih g (by simp at hf;exact hf) a q
    ·exact ten_elt b q
 exact key _ f rfl h
theorem ten_parse {s:Bs} (h:(parse s).2.2=0):(10:UInt8) ∉ s:=by
 obtain⟨g,b,e,hp⟩:∃ g b e,parse s=(g,b,e):=⟨(parse s).1,(parse s).2.1,(parse s).2.2,rfl⟩
 rw[hp] at h
 simp only[] at h
 subst h
 obtain⟨h1,h2,_⟩:=parse_canon hp
 rw[← h2]
 exact ten_fmt ((vld_iff g).1 h1).1
structure En where
 S:List It
 T:List It
 p:Bs
 n:Bs
 a:Bs
 j:Bs
 c:Int
 o:Int
theorem En.eq {x y:En} (h1:x.S=y.S) (h2:x.T=y.T) (h3:x.p=y.p) (h4:x.n=y.n) (h5:x.a=y.a) (h6:x.j=y.j) (h7:x.c=y.c) (h8:x.o=y.o):x=y:=by
 cases x;cases y;simp only[] at *;subst h1;subst h2;subst h3;subst h4;subst h5;subst h6;subst h7;subst h8;rfl
def perr (s:Bs):Int:=(parse s).2.2
def nmOk (s:Bs):Bool:=decide (s=[]) || isNm s
def vE (e:En):Int:=
 if vld e.S≠0 then vld e.S else if vld e.T≠0 then vld e.T else
 if e.S=[]∨canS e.S e.T≠e.S∨canT e.S e.T≠e.T then 1 else
 if perr e.p≠0 then perr e.p else if perr e.n≠0 then perr e.n else
 if ¬ (nmOk e.a=true∧nmOk e.j=true) then 4 else
 if e.c < 0∨1073741824 < e.c∨e.o < 1∨3 < e.o then 1 else 0
structure VE (e:En):Prop where
 vS:vld e.S=0
 vT:vld e.T=0
 ne:e.S≠[]
 cS:canS e.S e.T=e.S
 cT:canT e.S e.T=e.T
 pp:perr e.p=0
 pn:perr e.n=0
 na:nmOk e.a=true
 nj:nmOk e.j=true
 c0:0≤e.c
 c1:e.c≤1073741824
 o1:1≤e.o
 o3:e.o≤3
theorem vE_iff (e:En):vE e=0↔VE e:=by
 unfold vE
 constructor
 ·intro h
  split at h
  ·rename_i q;exact absurd h q
  rename_i h1
  split at h
  ·rename_i q;exact absurd h q
  rename_i h2
  split at h
  ·cases h
  rename_i h3
  split at h
  ·rename_i q;exact absurd h q
  rename_i h4
  split at h
  ·rename_i q;exact absurd h q
  rename_i h5
  split at h
  ·cases h
  rename_i h6
  split at h
  ·cases h
  rename_i h7
  have h6:=Decidable.not_not.1 h6
  refine⟨Decidable.not_not.1 h1,Decidable.not_not.1 h2,fun q=>h3 (.inl q),?_,?_,Decidable.not_not.1 h4,Decidable.not_not.1 h5,h6.1,h6.2,by omega,by omega,by omega,by omega⟩
  ·by_cases q:canS e.S e.T=e.S
   ·exact q
   ·exact absurd (.inr (.inl q)) h3
  ·by_cases q:canT e.S e.T=e.T
   ·exact q
   ·exact absurd (.inr (.inr q)) h3
 ·rintro ⟨vS,vT,ne,cS,cT,pp,pn,na,nj,c0,c1,o1,o3⟩
  rw[if_neg (by simp [vS]),if_neg (by simp [vT]),if_neg (by simp [ne,cS,cT]),if_neg (by simp [pp]),if_neg (by simp [pn]),if_neg (by simp [na,nj]),if_neg (by omega)]
def fmE (f:List It):Bs:=if vld f=0 then fmt f else []
def joinE (e:En):Bs:=fmE e.S++10 :: (e.p++10 :: e.n)
def keyE (e:En):Bs:=if vE e=0 then joinE e else []
theorem keyE_ok {e:En} (h:VE e):keyE e=fmt e.S++10 :: (e.p++10 :: e.n):=by
 unfold keyE joinE fmE
 rw[if_pos ((vE_iff e).2 h),if_pos h.vS]
theorem keyE_eq {x y:En} (hx:VE x) (hy:VE y):keyE x=keyE y↔x.S=y.S∧x.p=y.p∧x.n=y.n:=by
 rw[keyE_ok hx,keyE_ok hy]
 constructor
 ·intro h
  have t1:=ten_fmt ((vld_iff _).1 hx.vS).1
  have t2:=ten_fmt ((vld_iff _).1 hy.vS).1
  have c1:=cut_app t1 (x.p++10 :: x.n)
  rw[h,cut_app t2] at c1
  simp only[Option.some.injEq,Prod.mk.injEq] at c1
  obtain⟨e1,e2⟩:=c1
  have c2:=cut_app (ten_parse hx.pp) x.n
  rw[← e2,cut_app (ten_parse hy.pp)] at c2
  simp only[Option.some.injEq,Prod.mk.injEq] at c2
  exact⟨(fmt_inj hy.vS hx.vS e1).symm,c2.1.symm,c2.2.symm⟩
 ·rintro ⟨h1,h2,h3⟩
  rw[h1,h2,h3]
def cmpE:En→En→Int:=lex (fun x y=>cmpB (keyE x) (keyE y)) (lex (fun x y=>cmpI x.c y.c) (lex (fun x y=>cmpI y.o x.o) (lex (fun x y=>cmpB x.a y.a) (lex (fun x y=>cmpB x.j y.j) (fun x y=>cmpB (fmE x.T) (fmE y.T))))))
theorem cmpE_to:TO cmpE:=by
 unfold cmpE
 exact (cmpB_to.on keyE).lex ((cmpI_to.on En.c).lex ((cmpI_to.flip.on En.o).lex ((cmpB_to.on En.a).lex ((cmpB_to.on En.j).lex (cmpB_to.on (fun e:En=>fmE e.T))))))
theorem lex_z {α:Type} {f g:α→α→Int} {a b:α}:lex f g a b=0↔f a b=0∧g a b=0:=by
 unfold lex
 split
 ·rename_i h;exact⟨fun q=>absurd q h,fun q=>q.1⟩
 ·rename_i h
  have h:=Decidable.not_not.1 h
  exact⟨fun q=>⟨h,q⟩,fun q=>q.2⟩
theorem cmpI_z {a b:Int}:cmpI a b=0↔a=b:=by
 unfold cmpI
 constructor
 ·intro h
  split at h
  ·omega
  ·split at h<;>omega
 ·intro h;subst h;rw[if_neg (by omega),if_neg (by omega)]
theorem cmpE_z {x y:En} (hx:VE x) (hy:VE y):cmpE x y=0↔x=y:=by
 unfold cmpE
 rw[lex_z,lex_z,lex_z,lex_z,lex_z,cmpB_z,cmpI_z,cmpI_z,cmpB_z,cmpB_z,cmpB_z,keyE_eq hx hy]
 constructor
 ·rintro ⟨⟨h1,h2,h3⟩,h4,h5,h6,h7,h8⟩
  unfold fmE at h8
  rw[if_pos hx.vT,if_pos hy.vT] at h8
  exact En.eq h1 (fmt_inj hx.vT hy.vT h8) h2 h3 h6 h7 h4 h5.symm
 ·rintro rfl
  exact⟨⟨rfl,rfl,rfl⟩,rfl,rfl,rfl,rfl,rfl⟩
end Go.Nt
namespace Go.Nt
def Sr (m:List En):Prop:=m.Pairwise fun x y=>ltB (keyE x) (keyE y)=true
def Mem (m:List En):Prop:=(∀ e∈m,VE e)∧Sr m
theorem mem_nil:Mem []:=⟨fun e h=>(by cases h),List.Pairwise.nil⟩
def getM (m:List En) (k:Bs):Option En:=m.find? fun e=>keyE e == k
theorem getM_cons (x:En) (m:List En) (k:Bs):getM (x :: m) k=if keyE x=k then some x else getM m k:=by
 unfold getM
 rw[List.find?_cons]
 by_cases h:keyE x=k
 ·have:(keyE x == k)=true:=by simpa using h
  rw[this,if_pos h]
 ·have:(keyE x == k)=false:=by simpa using h
  rw[this,if_neg h]
theorem getM_some {m:List En} {k:Bs} {e:En} (h:getM m k=some e):e∈m∧keyE e=k:=by
 unfold getM at h
 exact⟨List.mem_of_find?_eq_some h,by simpa using List.find?_some h⟩
theorem getM_mem {m:List En} (h:Sr m) {e:En} (he:e∈m):getM m (keyE e)=some e:=by
 induction m with
 | nil=>cases he
 | cons x m ih =>
  rw[getM_cons]
  rcases List.mem_cons.1 he with rfl | he
  ·rw[if_pos rfl]
  ·have:=(List.pairwise_cons.1 h).1 e he
   rw[if_neg (ltB_ne this)]
   exact ih (List.pairwise_cons.1 h).2 he
theorem sr_ext:∀ {a b:List En},Sr a→Sr b→(∀ e,e∈a↔e∈b)→a=b
 | [],[],_,_,_=>rfl
 | [],y :: b,_,_,h=>absurd ((h y).2 (List.mem_cons_self ..)) (by simp)
 | x :: a,[],_,_,h=>absurd ((h x).1 (List.mem_cons_self ..)) (by simp)
 | x :: a,y :: b,ha,hb,h=>by
  obtain⟨a1,a2⟩:=List.pairwise_cons.1 ha
  obtain⟨b1,b2⟩:=List.pairwise_cons.1 hb
  have e:x=y:=by
   rcases List.mem_cons.1 ((h x).1 (List.mem_cons_self ..)) with q | q
   ·exact q
   ·rcases List.mem_cons.1 ((h y).2 (List.mem_cons_self ..)) with r | r
    ·exact r.symm
    ·have h1:=b1 x q
     have h2:=a1 y r
     rw[ltB_asym h1] at h2;cases h2
  subst e
  congr 1
  refine sr_ext a2 b2 fun z=>?_
  constructor
  ·intro q
   rcases List.mem_cons.1 ((h z).1 (List.mem_cons_of_mem _ q)) with r | r
   ·subst r;have:=a1 z q;rw[ltB_irr] at this;cases this
   ·exact r
  ·intro q
   rcases List.mem_cons.1 ((h z).2 (List.mem_cons_of_mem _ q)) with r | r
   ·subst r;have:=b1 z q;rw[ltB_irr] at this;cases this
   ·exact r
theorem mem_ext {a b:List En} (ha:Sr a) (hb:Sr b) (h:∀ k,getM a k=getM b k):a=b:=by
 refine sr_ext ha hb fun e=>?_
 constructor
 ·intro q
  have:=getM_mem ha q
  rw[h] at this
  exact (getM_some this).1
 ·intro q
  have:=getM_mem hb q
  rw[← h] at this
  exact (getM_some this).1
def bel (k:Bs) (m:List En):List En:=m.filter fun e=>ltB (keyE e) k
def abv (k:Bs) (m:List En):List En:=m.filter fun e=>ltB k (keyE e)
theorem split_none {m:List En} (h:Sr m) {k:Bs} (hn:getM m k=none):m=bel k m++abv k m:=by
 induction m with
 | nil=>rfl
 | cons x m ih =>
  obtain⟨h1,h2⟩:=List.pairwise_cons.1 h
  rw[getM_cons] at hn
  by_cases e:keyE x=k
  ·rw[if_pos e] at hn;cases hn
  rw[if_neg e] at hn
  unfold bel abv
  rw[List.filter_cons,List.filter_cons]
  cases hl:ltB (keyE x) k with
  | true =>
   rw[ltB_asym hl]
   simp only[if_true,Bool.false_eq_true,if_false,List.cons_append]
   congr 1
   exact ih h2 hn
  | false =>
   have hg:=ltB_tri _ _ hl e
   rw[hg]
   simp only[if_true,Bool.false_eq_true,if_false]
   have e1:m.filter (fun e=>ltB (keyE e) k)=[]:=by
    rw[List.filter_eq_nil_iff]
    intro z hz
    rw[ltB_asym (ltB_tr _ _ _ hg (h1 z hz))];simp
   have e2:m.filter (fun e=>ltB k (keyE e))=m:=by
    rw[List.filter_eq_self]
    intro z hz
    exact ltB_tr _ _ _ hg (h1 z hz)
   rw[e1,e2,List.nil_append]
theorem split_some {m:List En} (h:Sr m) {k:Bs} {x:En} (hs:getM m k=some x):m=bel k m++x :: abv k m:=by
 induction m with
 | nil=>cases hs
 | cons y m ih =>
  obtain⟨h1,h2⟩:=List.pairwise_cons.1 h
  rw[getM_cons] at hs
  unfold bel abv
  rw[List.filter_cons,List.filter_cons]
  by_cases e:keyE y=k
  ·rw[if_pos e] at hs
   cases hs
   subst e
   rw[ltB_irr]
   simp only[Bool.false_eq_true,if_false]
   have e1:m.filter (fun e=>ltB (keyE e) (keyE x))=[]:=by
    rw[List.filter_eq_nil_iff]
    intro z hz
    rw[ltB_asym (h1 z hz)];simp
   have e2:m.filter (fun e=>ltB (keyE x) (keyE e))=m:=by
    rw[List.filter_eq_self]
    exact h1
   rw[e1,e2,List.nil_append]
  ·rw[if_neg e] at hs
   obtain⟨q1,q2⟩:=getM_some hs
   have hl:ltB (keyE y) k=true:=by rw[← q2];exact h1 x q1
   rw[hl,ltB_asym hl]
   simp only[if_true,Bool.false_eq_true,if_false,List.cons_append]
   congr 1
   exact ih h2 hs
def putM (m:List En) (e:En):List En:=bel (keyE e) m++e :: abv (keyE e) m
def delM (m:List En) (k:Bs):List En:=bel k m++abv k m
theorem sr_bel {m:List En} (h:Sr m) (k:Bs):Sr (bel k m):=h.filter _
theorem sr_abv {m:List En} (h:Sr m) (k:Bs):Sr (abv k m):=h.filter _
theorem mem_bel {k:Bs} {m:List En} {e:En}:e∈bel k m↔e∈m∧ltB (keyE e) k=true:=by unfold bel;rw[List.mem_filter]
theorem mem_abv {k:Bs} {m:List En} {e:En}:e∈abv k m↔e∈m∧ltB k (keyE e)=true:=by unfold abv;rw[List.mem_filter]
theorem sr_put {m:List En} (h:Sr m) (e:En):Sr (putM m e):=by
 unfold putM Sr
 rw[List.pairwise_append]
 refine⟨sr_bel h _,List.pairwise_cons.2 ⟨fun z hz=>(mem_abv.1 hz).2,sr_abv h _⟩,fun a ha b hb=>?_⟩
 have h1:=(mem_bel.1 ha).2
 rcases List.mem_cons.1 hb with rfl | hb
 ·exact h1
 ·exact ltB_tr _ _ _ h1 (mem_abv.1 hb).2
theorem sr_del {m:List En} (h:Sr m) (k:Bs):Sr (delM m k):=by
 unfold delM Sr
 rw[List.pairwise_append]
 exact⟨sr_bel h _,sr_abv h _,fun a ha b hb=>ltB_tr _ _ _ (mem_bel.1 ha).2 (mem_abv.1 hb).2⟩
theorem mem_put {m:List En} {e z:En}:z∈putM m e↔z=e∨(z∈m∧keyE z≠keyE e):=by
 unfold putM
 rw[List.mem_append,List.mem_cons,mem_bel,mem_abv]
 constructor
 ·rintro (⟨h1,h2⟩ | h | ⟨h1,h2⟩)
  ·exact .inr ⟨h1,ltB_ne h2⟩
  ·exact .inl h
  ·exact .inr ⟨h1,(ltB_ne h2).symm⟩
 ·rintro (h | ⟨h1,h2⟩)
  ·exact .inr (.inl h)
  ·cases hl:ltB (keyE z) (keyE e) with
   | true=>exact .inl ⟨h1,rfl⟩
   | false=>exact .inr (.inr ⟨h1,ltB_tri _ _ hl h2⟩)
theorem mem_del {m:List En} {k:Bs} {z:En}:z∈delM m k↔z∈m∧keyE z≠k:=by
 unfold delM
 rw[List.mem_append,mem_bel,mem_abv]
 constructor
 ·rintro (⟨h1,h2⟩ | ⟨h1,h2⟩)
  ·exact⟨h1,ltB_ne h2⟩
  ·exact⟨h1,(ltB_ne h2).symm⟩
 ·rintro ⟨h1,h2⟩
  cases hl:ltB (keyE z) k with
  | true=>exact .inl ⟨h1,rfl⟩
  | false=>exact .inr ⟨h1,ltB_tri _ _ hl h2⟩
theorem mem_putM {m:List En} (h:Mem m) {e:En} (he:VE e):Mem (putM m e):=
 ⟨fun z hz=>(mem_put.1 hz).elim (fun q=>by rw[q];exact he) (fun q=>h.1 z q.1),sr_put h.2 e⟩
theorem mem_delM {m:List En} (h:Mem m) (k:Bs):Mem (delM m k):=⟨fun z hz=>h.1 z (mem_del.1 hz).1,sr_del h.2 k⟩
theorem getM_iff {m:List En} (h:Sr m) {k:Bs} {e:En}:getM m k=some e↔e∈m∧keyE e=k:=
 ⟨getM_some,fun ⟨h1,h2⟩=>by rw[← h2];exact getM_mem h h1⟩
theorem opt_ext {α:Type} {a b:Option α} (h:∀ x,a=some x↔b=some x):a=b:=by
 cases a with
 | none=>cases b with
  | none=>rfl
  | some y=>exact absurd ((h y).2 rfl) (by simp)
 | some x=>exact ((h x).1 rfl).symm
theorem get_put {m:List En} (h:Sr m) (e:En) (k:Bs):getM (putM m e) k=if k=keyE e then some e else getM m k:=by
 refine opt_ext fun x=>?_
 rw[getM_iff (sr_put h e),mem_put]
 by_cases q:k=keyE e
 ·rw[if_pos q]
  constructor
  ·rintro ⟨h1 | ⟨h1,h2⟩,h3⟩
   ·rw[h1]
   ·exact absurd (h3.trans q) h2
  ·intro h1
   cases h1
   exact⟨.inl rfl,q.symm⟩
 ·rw[if_neg q,getM_iff h]
  constructor
  ·rintro ⟨h1 | ⟨h1,h2⟩,h3⟩
   ·rw[h1] at h3;exact absurd h3.symm q
   ·exact⟨h1,h3⟩
  ·rintro ⟨h1,h2⟩
   exact⟨.inr ⟨h1,fun z=>q (h2.symm.trans z)⟩,h2⟩
theorem get_del {m:List En} (h:Sr m) (k k':Bs):getM (delM m k) k'=if k'=k then none else getM m k':=by
 refine opt_ext fun x=>?_
 rw[getM_iff (sr_del h k),mem_del]
 by_cases q:k'=k
 ·rw[if_pos q]
  exact⟨fun ⟨h1,h2⟩=>absurd (h2.trans q) h1.2,fun h=>by cases h⟩
 ·rw[if_neg q,getM_iff h]
  exact⟨fun ⟨h1,h2⟩=>⟨h1.1,h2⟩,fun ⟨h1,h2⟩=>⟨⟨h1,fun z=>q (h2.symm.trans z)⟩,h2⟩⟩
theorem put_len {m:List En} (h:Sr m) (e:En):(putM m e).length=if (getM m (keyE e)).isSome=true then m.length else m.length+1:=by
 unfold putM
 cases hg:getM m (keyE e) with
 | none =>
  have:=congrArg List.length (split_none h hg)
  rw[List.length_append] at this
  simp only[List.length_append,List.length_cons,Option.isSome_none,Bool.false_eq_true,if_false]
  omega
 | some x =>
  have:=congrArg List.length (split_some h hg)
  rw[List.length_append,List.length_cons] at this
  simp only[List.length_append,List.length_cons,Option.isSome_some,if_true]
  omega
theorem put_comm {m:List En} (h:Sr m) {e f:En} (hne:keyE e≠keyE f):putM (putM m e) f=putM (putM m f) e:=by
 refine mem_ext (sr_put (sr_put h e) f) (sr_put (sr_put h f) e) fun k=>?_
 rw[get_put (sr_put h e),get_put h,get_put (sr_put h f),get_put h]
 by_cases q1:k=keyE f
 ·rw[if_pos q1]
  by_cases q2:k=keyE e
  ·exact absurd (q2.symm.trans q1) hne
  ·rw[if_neg q2,if_pos q1]
 ·rw[if_neg q1]
  by_cases q2:k=keyE e
  ·rw[if_pos q2,if_pos q2]
  ·rw[if_neg q2,if_neg q2,if_neg q1]
theorem del_put {m:List En} (h:Sr m) (e:En):delM (putM m e) (keyE e)=delM m (keyE e):=by
 refine mem_ext (sr_del (sr_put h e) _) (sr_del h _) fun k=>?_
 rw[get_del (sr_put h e),get_del h,get_put h]
 by_cases q:k=keyE e
 ·rw[if_pos q,if_pos q]
 ·rw[if_neg q,if_neg q,if_neg q]
theorem del_none {m:List En} (h:Sr m) {k:Bs} (hn:getM m k=none):delM m k=m:=(split_none h hn).symm
end Go.Nt
namespace Go.Nt
theorem any_tg (x:It):∀ f:List It,f.any (clash x)=(tg f).any (clash x)
 | []=>rfl
 | y :: f=>by
  have ih:=any_tg x f
  unfold tg at ih ⊢
  rw[List.any_cons,ih,List.filter_cons]
  cases h:isTag y with
  | true=>simp only[if_true,List.any_cons]
  | false =>
   have:clash x y=false:=by unfold clash;rw[h];rfl
   rw[this,Bool.false_or]
   simp only[Bool.false_eq_true,if_false]
theorem wfB_tg {f g:List It} {x:It} (hx:x.1≠1):wfB f x=wfB g x:=by
 unfold wfB
 rw[if_neg hx,if_neg hx]
theorem chk_tg {f g:List It} {x:It} (hx:x.1≠1) (h:tg f=tg g):chk f x=chk g x:=by
 rw[chk_wfB,chk_wfB,wfB_tg (g:=g) hx]
 unfold fitsB
 rw[any_tg x f,any_tg x g,h]
theorem pn_tag {f g:List It} {x:It} (hx:x.1≠1) (hf:VL f) (ht:tg f=tg g) (hc:chk g x=0):pn f x=f++[x]∧VL (pn f x)∧tg (pn f x)=tg (g++[x]):=by
 have e:pn f x=f++[x]:=by unfold pn;rw[if_neg hx]
 refine⟨e,?_,?_⟩
 ·rw[e]
  exact (chks_snoc f x).2 ⟨hf,by rw[chk_tg hx ht];exact hc⟩
 ·rw[e,tg_app,tg_app,ht]
theorem mkVE {f t:List It} {p n a j:Bs} {c o:Int} (hf:vld f=0) (ht:vld t=0) (hne:f≠[]) (pp:perr p=0) (pn:perr n=0) (na:nmOk a=true) (nj:nmOk j=true) (c0:0≤c) (c1:c≤1073741824) (o1:1≤o) (o3:o≤3):VE ⟨canS f t,canT f t,p,n,a,j,c,o⟩:=by
 have hl:=nums_le hf ht
 obtain⟨e1,v1⟩:=canS_vld hl hf
 obtain⟨e2,v2⟩:=canT_vld hl ht
 obtain⟨q1,q2⟩:=can_can hf ht
 exact⟨v1,v2,by show canS f t≠[];rw[e1];simpa using hne,q1,q2,pp,pn,na,nj,c0,c1,o1,o3⟩
end Go.Nt
