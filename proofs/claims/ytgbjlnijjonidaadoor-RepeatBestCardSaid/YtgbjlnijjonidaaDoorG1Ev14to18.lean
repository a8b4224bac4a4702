/- A part of the frame (Ev14 Ev15 Ev16 Ev17 Ev18). No conditions. -/
import Derived.Test.YtgbjlnijjonidaaDoorG1Ev12to13
import Derived.LoopN
open List
set_option linter.unusedSimpArgs false
set_option linter.unusedVariables false
set_option linter.unusedSectionVars false
set_option maxRecDepth 100000
set_option maxHeartbeats 16000000
namespace Go.Av
variable [Gtab]
open Go.RowKit
def sel (D:Nat->Bool):Nat->List AOper->List AOper
 | _,[]=>[]
 | k,o :: os=>if D k then o :: sel D (k+1) os else sel D (k+1) os
section
variable {G:aK}
theorem i5 (D:Nat->Bool) (o:AOper):∀ (l:List AOper) (k:Nat),sel D k (l++[o])=sel D k l++(if D (k+l.length) then [o] else [])
 | [],k=>by simp [sel]
 | p :: l,k=>by
  simp only[cons_append,sel,length_cons];have e:k+(l.length+1)=k+1+l.length:=by omega
  rw[i5 D o l (k+1)];simp only[e];by_cases h:D k=true<;>simp [h]
theorem zB {D:Nat->Bool} {p:AOper}:∀ {l:List AOper} {k:Nat},p∈sel D k l->∃ j,l[j]?=some p/\D (k+j)=true
 | [],_,h=>by simp [sel] at h
 | o :: l,k,h=>by
  simp only[sel] at h;have hrec:p∈sel D (k+1) l->∃ j,(o :: l)[j]?=some p/\D (k+j)=true:=fun h=>by
   obtain⟨j,h1,h2⟩:=zB h;exact⟨j+1,by simpa using h1,by rwa [show k+(j+1)=k+1+j from by omega]⟩
  split at h
  ·rename_i hk
   rcases mem_cons.1 h with rfl | h
   ·exact⟨0,rfl,hk⟩
   ·exact hrec h
  ·exact hrec h
theorem eC (l m:List AOper):∀ σ,cC G (l++m) σ=(cC G l σ).bind (cC G m):=by
 induction l with
 | nil=>intro σ;rfl
 | cons o l ih =>
  intro σ;simp only[cons_append,cC]
  cases bJ G o σ with
  | none=>rfl
  | some σ1=>exact ih σ1
theorem i6 (o:AOper) (σ:AS):cC G [o] σ=bJ G o σ:=by
 simp only[cC]
 cases bJ G o σ<;>rfl
theorem vW {o:AOper}:∀ {l:List AOper},(∀ p∈l,nU p o=true)->∀ σ,(cC G l σ).bind (bJ G o)=(bJ G o σ).bind (cC G l)
 | [],_,σ=>by
  show bJ G o σ=_
  cases bJ G o σ<;>rfl
 | p :: l,h,σ=>by
  simp only[cC];have h1:((bJ G p σ).bind (cC G l)).bind (bJ G o)=((bJ G p σ).bind (bJ G o)).bind (cC G l):=by
   cases bJ G p σ with
   | none=>rfl
   | some τ=>exact vW (fun q hq=>h q (by simp [hq])) τ
  rw[h1,rJ (h p (by simp)) σ]
  cases bJ G o σ with
  | none=>rfl
  | some τ=>rfl
theorem rK (D:Nat->Bool) (l:List AOper) (h:∀ (j i:Nat) (oj oi:AOper),j < i->l[j]?=some oj->l[i]?=some oi->D j=false->D i=true->nU oj oi=true) :
  ∀ n,n<=l.length->∀ σ,cC G (l.take n) σ=(cC G (sel D 0 (l.take n)) σ).bind (cC G (sel (fun i=>!D i) 0 (l.take n)))
 | 0,_,σ=>by simp [sel,cC]
 | n+1,hn,σ=>by
  have hlt:n < l.length:=by omega
  have htake:l.take (n+1)=l.take n++[l[n]]:=take_succ_eq_append_getElem hlt;rw[htake,eC,rK D l h n (by omega),i5,i5];have hl:0+(l.take n).length=n:=by simp;omega
  rw[hl];by_cases hd:D n=true
  ·have hcomm:∀ p∈sel (fun i=>!D i) 0 (l.take n),nU p l[n]=true:=by
    intro p hp;obtain⟨j,h1,h2⟩:=zB hp;rw[getElem?_take] at h1
    split at h1
    ·rename_i hj
     refine h j n p l[n] hj h1 (getElem?_eq_getElem hlt) ?_ hd;simpa using h2
    ·cases h1
   simp only[hd,if_true,Bool.not_true,Bool.false_eq_true,if_false,append_nil];rw[eC];cases hr:cC G (sel D 0 (l.take n)) σ with
   | none=>rfl
   | some τ =>
    have:=vW (G:=G) hcomm τ
    show (cC G _ τ).bind (cC G [l[n]])=(cC G [l[n]] τ).bind _;rw[i6,<- this]
    cases cC G (sel (fun i=>!D i) 0 (l.take n)) τ with
    | none=>rfl
    | some υ=>exact i6 _ _
  ·have hd':D n=false:=by simpa using hd
   simp only[hd',Bool.false_eq_true,if_false,append_nil,Bool.not_false,if_true];cases hr:cC G (sel D 0 (l.take n)) σ with
   | none=>rfl
   | some τ =>
    show (cC G _ τ).bind (cC G [l[n]])=cC G _ τ;rw[eC]
theorem AD (D:Nat->Bool) (l:List AOper) (i:Nat) (hi:D i=false) (oi:AOper) (hoi:l[i]?=some oi)
  (h:∀ (j:Nat) (oj:AOper),i < j->l[j]?=some oj->D j=true->nU oi oj=true) :
  ∀ n,i < n->n<=l.length->∀ σ,cC G (sel (fun k=>D k || k == i) 0 (l.take n)) σ=(cC G (sel D 0 (l.take n)) σ).bind (bJ G oi)
 | 0,h0,_,_=>by omega
 | n+1,h0,hn,σ=>by
  have hlt:n < l.length:=by omega
  have htake:l.take (n+1)=l.take n++[l[n]]:=take_succ_eq_append_getElem hlt;rw[htake,i5,i5];have hl:0+(l.take n).length=n:=by simp;omega
  rw[hl];by_cases he:n=i
  ·subst he
   have hoi':l[n]=oi:=by
    rw[getElem?_eq_getElem hlt] at hoi
    injection hoi
   have hsame:∀ (m:List AOper) (k:Nat),k+m.length<=n->sel (fun k=>D k || k == n) k m=sel D k m:=by
    intro m
    induction m with
    | nil=>intro k _;rfl
    | cons o m ih =>
     intro k hk;simp only[sel];have hne:(k == n)=false:=by simp at hk ⊢;omega
     simp only[hne,Bool.or_false];rw[ih (k+1) (by simp at hk;omega)]
   rw[hsame _ 0 (by simp;omega)];simp only[hi,BEq.rfl,Bool.or_true,if_true,Bool.false_eq_true,if_false,append_nil];rw[eC,hoi']
   cases cC G (sel D 0 (l.take n)) σ with
   | none=>rfl
   | some τ=>exact i6 _ _
  ·have hne:(n == i)=false:=by simpa using he
   have hrec:=AD D l i hi oi hoi h n (by omega) (by omega) σ;by_cases hd:D n=true
   ·simp only[hd,Bool.true_or,if_true]
    rw[eC,eC,hrec];have hc:=h n l[n] (by omega) (getElem?_eq_getElem hlt) hd
    cases cC G (sel D 0 (l.take n)) σ with
    | none=>rfl
    | some τ =>
     show (bJ G oi τ).bind (cC G [l[n]])=(cC G [l[n]] τ).bind (bJ G oi);rw[i6];rw[<- rJ hc τ]
     cases bJ G oi τ with
     | none=>rfl
     | some υ=>exact i6 _ _
   ·have hd':D n=false:=by simpa using hd
    simp only[hd',hne,Bool.or_self,Bool.false_eq_true,if_false,append_nil];exact hrec
end
def eX (o:Oper):List Nat:=(o.after.toList.filter (Region.binds .any)).map (·.on)
def EC (acc:List Nat) (d:List Nat):Nat:=d.foldl (fun m e=>m ||| (2 ^ e) ||| acc.getD e 0) 0
def v8 (acc:List Nat):List (List Nat)->List Nat
 | []=>acc
 | d :: ds=>v8 (acc++[EC acc d]) ds
theorem u4 {acc:List Nat}:∀ {d:List Nat} {m j:Nat},(d.foldl (fun m e=>m ||| (2 ^ e) ||| acc.getD e 0) m).testBit j=true->m.testBit j=true\/∃ e∈d,j=e\/(acc.getD e 0).testBit j=true
 | [],m,j,h=>.inl h
 | e :: d,m,j,h=>by
  simp only[foldl_cons] at h;rcases u4 h with h | ⟨e',h1,h2⟩
  ·rw[Nat.testBit_or,Nat.testBit_or,Bool.or_eq_true,Bool.or_eq_true] at h
   rcases h with (h | h) | h
   ·exact .inl h
   ·rw[Nat.testBit_two_pow] at h
    exact .inr ⟨e,by simp,.inl (by simpa using (of_decide_eq_true h).symm)⟩
   ·exact .inr ⟨e,by simp,.inr h⟩
  ·exact .inr ⟨e',by simp [h1],h2⟩
theorem qZ {D:Nat->Bool}:∀ {ds:List (List Nat)} {acc:List Nat} (all:Nat->List Nat),(∀ i,(hi:i < ds.length)->all (acc.length+i)=ds[i]) ->
  (∀ i,D i=true->∀ e∈all i,D e=true)->(∀ i j,D i=true->(acc.getD i 0).testBit j=true->D j=true) ->
  ∀ i j,D i=true->((v8 acc ds).getD i 0).testBit j=true->D j=true
 | [],acc,all,_,_,hacc=>hacc
 | d :: ds,acc,all,hall,hcl,hacc=>by
  intro i j hi hj;simp only[v8] at hj;refine qZ (ds:=ds) (acc:=acc++[EC acc d]) all ?_ hcl ?_ i j hi hj
  ·intro k hk
   have:=hall (k+1) (by simp;omega)
   simp only[length_append,length_singleton];rw[show acc.length+1+k=acc.length+(k+1) from by omega];simpa using this
  ·intro i j hi hj
   by_cases hlt:i < acc.length
   ·rw[getD_eq_getElem?_getD,getElem?_append_left hlt,<- getD_eq_getElem?_getD] at hj
    exact hacc i j hi hj
   ·by_cases he:i=acc.length
    ·subst he
     rw[getD_eq_getElem?_getD,getElem?_append_right (Nat.le_refl _)] at hj;simp at hj;have hd:all acc.length=d:=by
      have:=hall 0 (by simp)
      simpa only [Nat.add_zero,getElem_cons_zero] using this
     rcases u4 hj with h | ⟨e,h1,h2⟩
     ·simp at h
     ·have hDe:=hcl _ hi e (by rw[hd];exact h1)
      rcases h2 with rfl | h2
      ·exact hDe
      ·exact hacc e j hDe h2
    ·rw[getD_eq_getElem?_getD,getElem?_eq_none (by simp;omega)] at hj
     simp at hj
def tA (ms:List Nat) (aos:List AOper):Bool:=
 aos.zipIdx.all fun x=>(aos.take x.2).zipIdx.all fun y=>(ms.getD x.2 0).testBit y.2 || nU y.1 x.1
def nH (ops:Array Oper) (aos:List AOper):Bool:=
 let ds:=ops.toList.map eX
 ds.zipIdx.all (fun x=>x.1.all (· < x.2)) && tA (v8 [] ds) aos && aos.length == ops.size
theorem lL {ms:List Nat} {aos:List AOper} (h:tA ms aos=true) {j i:Nat} {oj oi:AOper} (hji:j < i) (hj:aos[j]?=some oj) (hi:aos[i]?=some oi):(ms.getD i 0).testBit j=true\/nU oj oi=true:=by
 unfold tA at h;rw[all_eq_true] at h;have h1:=h (oi,i) (by rw[mk_mem_zipIdx_iff_getElem?];exact hi);simp only at h1;rw[all_eq_true] at h1;have h2:=h1 (oj,j) (by rw[mk_mem_zipIdx_iff_getElem?,getElem?_take_of_lt hji];exact hj);simpa using h2
section
variable {P:Program} {E:Env} {σ σ':AS} {a:Act} {w:World} {Q:Exit->Act->World->Prop} {ops:Array Oper} {G:aK}
theorem uX:∀ {os:List Oper} {aos:List AOper},n8 P E.nt ops os aos=true->∀ {i:Nat} {o:Oper} {ao:AOper},os[i]?=some o->aos[i]?=some ao->okO P E.nt ops o ao=true
 | o :: os,ao :: aos,h,0,_,_,h1,h2=>by
  simp at h1 h2;subst h1;subst h2;simp only[n8,Bool.and_eq_true] at h;exact h.1
 | o :: os,ao :: aos,h,i+1,_,_,h1,h2=>by
  simp only[n8,Bool.and_eq_true] at h;exact uX h.2 (i:=i) (by simpa using h1) (by simpa using h2)
 | [],_,_,_,_,_,h1,_=>by simp at h1
 | _ :: _,[],h,_,_,_,_,_=>by simp [n8] at h
def unl (n:Nat) (D:Nat->Bool):Nat:=((List.range n).filter fun i=>!D i).length
theorem LO {n i:Nat} {D:Nat->Bool} (hi:i < n) (hD:D i=false):unl n (fun k=>D k || k == i) < unl n D:=by
 unfold unl;have h1:(List.range n).filter (fun k=>!(D k || k == i))=((List.range n).filter fun k=>!D k).filter (fun k=>!(k == i)):=by
  rw[filter_filter]
  congr 1
  funext k
  cases D k<;>simp
 rw[h1];refine length_filter_lt_length_iff_exists.2 ⟨i,?_,by simp⟩;simp [hi,hD]
theorem xL (hG:gV P G) {aos:List AOper} (hok:n8 P E.nt ops ops.toList aos=true) (hdr:nH ops aos=true) (hrun:cC G aos σ=some σ') (hQ:∀ a w,aR E σ' a w->Q .normal a w) :
  ∀ (fuel:Nat) (listed:Array Bool) (a:Act) (w:World),listed.size=ops.size->unl ops.size (fun i=>listed.getD i false)<=fuel ->
   (∀ i,listed.getD i false=true->∀ e∈eX (ops.getD i default),listed.getD e false=true) ->
   (∀ τ,cC G (sel (fun i=>listed.getD i false) 0 aos) σ=some τ->aR E τ a w)->wpAny P .any ops Q fuel listed a w:=by
 unfold nH at hdr;simp only[Bool.and_eq_true] at hdr;obtain⟨⟨hlt,hpairs⟩,hlen⟩:=hdr;have hlen:aos.length=ops.size:=by simpa using hlen
 have hdlt:∀ i,i < ops.size->∀ e∈eX (ops.getD i default),e < i:=by
  intro i hi e he;rw[all_eq_true] at hlt;have h1:=hlt (eX (ops.getD i default),i) (by rw[mk_mem_zipIdx_iff_getElem?];simp [hi,Array.getD_eq_getD_getElem?]);rw[all_eq_true] at h1;simpa using h1 e he
 have hanc:∀ D:Nat->Bool,(∀ i,D i=true->∀ e∈eX (ops.getD i default),D e=true)->∀ i j,D i=true->((v8 [] (ops.toList.map eX)).getD i 0).testBit j=true->D j=true:=by
  intro D hD;refine qZ (acc:=[]) (fun i=>eX (ops.getD i default)) (fun i hi=>?_) hD (fun i j _ h=>by simp at h);simp at hi;simp [hi,Array.getD_eq_getD_getElem?]
 have hsplit:∀ D:Nat->Bool,(∀ i,D i=true->∀ e∈eX (ops.getD i default),D e=true)->cC G aos σ=(cC G (sel D 0 aos) σ).bind (cC G (sel (fun i=>!D i) 0 aos)):=by
  intro D hD
  have:=rK (G:=G) D aos (fun j i oj oi hji hj hi hDj hDi=>by
   rcases lL hpairs hji hj hi with h | h
   ·have:=hanc D hD i j hDi h
    rw[hDj] at this;cases this
   ·exact h) aos.length (Nat.le_refl _) σ
  simpa using this
 have hselall:∀ (D:Nat->Bool) (l:List AOper) (k:Nat),(∀ i,i < k+l.length->D i=true)->sel D k l=l:=by
  intro D l
  induction l with
  | nil=>intro k _;rfl
  | cons o l ih =>
   intro k h;simp only[sel];rw[if_pos (h k (by simp)),ih (k+1) (fun i hi=>h i (by simp at hi ⊢;omega))]
 intro fuel
 induction fuel with
 | zero =>
  intro listed a w hsz hun hcl hpost;have hall:∀ i,i < ops.size->listed.getD i false=true:=by
   intro i hi;have h0:unl ops.size (fun i=>listed.getD i false)=0:=by omega
   unfold unl at h0
   have:=eq_nil_of_length_eq_zero h0
   rw[filter_eq_nil_iff] at this;simpa using this i (by simp [hi])
  refine⟨?_,hQ _ _ (hpost _ ?_)⟩
  ·unfold Region.ready
   rw[filter_eq_nil_iff];intro i hi;have hi':i < ops.size:=by simpa using hi
   have h1:=hall i hi';have h2:listed.getD i true=true:=by
    simp only[Array.getD_eq_getD_getElem?] at h1 ⊢;rw[Array.getElem?_eq_getElem (by omega)] at h1 ⊢;exact h1
   simp [h2]
  ·rw[hselall _ aos 0 (fun i hi=>hall i (by omega))];exact hrun
 | succ fuel ih =>
  intro listed a w hsz hun hcl hpost;have hgd:∀ i,i < ops.size->listed.getD i true=listed.getD i false:=by
   intro i hi;simp only[Array.getD_eq_getD_getElem?];rw[Array.getElem?_eq_getElem (by omega)];rfl
  have hτ:∃ τ,cC G (sel (fun i=>listed.getD i false) 0 aos) σ=some τ:=by
   have h1:=hsplit _ hcl;rw[hrun] at h1;obtain⟨τ,h2,_⟩:=Option.bind_eq_some_iff.1 h1.symm;exact⟨τ,h2⟩
  obtain⟨τ,hτ⟩:=hτ;have hpo:=hpost τ hτ;refine⟨fun hr=>?_,fun i hi=>?_⟩
  ·
   have hall:∀ i,i < ops.size->listed.getD i false=true:=by
    intro i
    induction i using Nat.strongRecOn with
    | _ i ihi =>
     intro hi;unfold Region.ready at hr;rw[filter_eq_nil_iff] at hr;have h1:=hr i (by simp [hi]);have h2:(((ops[i]?).map (·.after.all fun e=>!Region.binds .any e || listed.getD e.on false)).getD false)=true:=by
      rw[Array.getElem?_eq_getElem hi];simp only[Option.map_some,Option.getD_some,Array.all_eq_true_iff_forall_mem];intro e he;by_cases hb:Region.binds .any e=true
      ·have hmem:e.on∈eX (ops.getD i default):=by
        unfold eX;rw[mem_map];refine⟨e,?_,rfl⟩;rw[mem_filter];refine⟨?_,hb⟩;simpa [Array.getD_eq_getD_getElem?,hi] using he
       have hlt':=hdlt i hi _ hmem;rw[ihi _ hlt' (by omega)];simp
      ·simp only[Bool.not_eq_true] at hb
       simp [hb]
     rw[h2,hgd i hi] at h1;simpa using h1
   refine hQ _ _ (hpost _ ?_);rw[hselall _ aos 0 (fun i hi=>hall i (by omega))];exact hrun
  ·unfold Region.ready at hi
   rw[mem_filter] at hi;obtain⟨hi1,hi2⟩:=hi;have hin:i < ops.size:=by simpa using hi1
   rw[Bool.and_eq_true] at hi2;obtain⟨hi3,hi4⟩:=hi2;have hDi:listed.getD i false=false:=by rw[<- hgd i hin];simpa using hi3
   have hoi:ops[i]?=some ops[i]:=Array.getElem?_eq_getElem hin;have hai:aos[i]?=some (aos[i]'(by omega)):=getElem?_eq_getElem (by omega);have hdeps:∀ e∈eX (ops.getD i default),listed.getD e false=true:=by
    intro e he;unfold eX at he;rw[mem_map] at he;obtain⟨ed,he1,rfl⟩:=he;rw[mem_filter] at he1;rw[hoi] at hi4;simp only[Option.map_some,Option.getD_some,Array.all_eq_true_iff_forall_mem] at hi4
    have:=hi4 ed (by simpa [Array.getD_eq_getD_getElem?,hin] using he1.1)
    rw[he1.2] at this;simpa using this
   have hset:∀ k,(listed.setIfInBounds i true).getD k false=(listed.getD k false || k == i):=by
    intro k;simp only[Array.getD_eq_getD_getElem?,Array.getElem?_setIfInBounds];by_cases hk:i=k
    ·subst hk;simp [hsz,hin]
    ·have:(k == i)=false:=by simp;exact fun e=>hk e.symm
     simp [hk,this]
   have hfun:(fun k=>(listed.setIfInBounds i true).getD k false)=fun k=>listed.getD k false || k == i:=funext hset
   have hcl':∀ k,(listed.setIfInBounds i true).getD k false=true->∀ e∈eX (ops.getD k default),(listed.setIfInBounds i true).getD e false=true:=by
    intro k hk e he;rw[hset] at hk ⊢;rw[Bool.or_eq_true] at hk ⊢;rcases hk with hk | hk
    ·exact .inl (hcl k hk e he)
    ·have:k=i:=by simpa using hk
     subst this;exact .inl (hdeps e he)
   have hadd:=AD (G:=G) (fun k=>listed.getD k false) aos i hDi _ hai (fun j oj hij hj hDj=>by
    rcases lL hpairs hij hai hj with h | h
    ·have this:listed.getD i false=true:=hanc _ hcl j i hDj h
     rw[hDi] at this;cases this
    ·exact h) aos.length (by omega) (Nat.le_refl _) σ
   simp only[take_length] at hadd;rw[hτ] at hadd;have hτ':∃ τ',bJ G (aos[i]'(by omega)) τ=some τ':=by
    have h1:=hsplit _ hcl';rw[hrun,hfun,hadd] at h1;obtain⟨τ',h2,_⟩:=Option.bind_eq_some_iff.1 h1.symm;exact⟨τ',h2⟩
   obtain⟨τ',hτ'⟩:=hτ';have hok1:=uX hok (i:=i) (by rw[Array.getElem?_toList];exact hoi) hai;obtain⟨g,hsim⟩:=hpo;have hst:=o8 (Q:=Q) hG hsim hok1 hτ';have hnext:∀ a w,aR E τ' a w->wpAny P .any ops Q fuel (listed.setIfInBounds i true) a w:=by
    intro a w hp;refine ih _ a w (by simpa using hsz) ?_ hcl' ?_
    ·rw[hfun]
     have:=LO (D:=fun k=>listed.getD k false) hin hDi
     omega
    ·intro υ hυ
     rw[hfun,hadd] at hυ
     have:υ=τ':=by
      have h2:bJ G (aos[i]'(by omega)) τ=some υ:=hυ;rw[hτ'] at h2
      injection h2 with h2
      exact h2.symm
     rw[this];exact hp
   unfold wpOp;rw[hoi];simp only;split
   ·rename_i hw
    rw[if_pos hw] at hst;exact .inl (Oper.wp_mono hnext hst)
   ·rename_i hw
    rw[if_neg hw] at hst;exact hnext _ _ hst
end
end Go.Av
namespace Go.Av
variable [Gtab]
open Go.RowKit
def oT:List AOper->Bool
 | ⟨_,.mv,[],.none,none,none⟩ :: _=>true
 | _=>false
theorem wO {G:aK} {os:List AOper} {σ:AS} (h:oT os=true):cC G os σ=none:=by
 unfold oT at h
 split at h
 ·rfl
 ·cases h
def c8 (P:Program) (nt:Nat):Code->ACode->Bool
 | .skip,.skip=>true
 | .label _,.skip=>true
 | .region _ ops draw,.reg draw' _ aos _=>oT aos || draw == draw' && n8 P nt ops ops.toList aos && (!draw || nH ops aos)
 | .seq a b,.seq a' b'=>c8 P nt a a' && c8 P nt b b'
 | .cond c x y,.cond r x' y'=>okR c r && c8 P nt x x' && c8 P nt y y'
 | .block id a,.block id' a'=>id == id' && c8 P nt a a'
 | .loop a,.loop _ a'=>c8 P nt a a'
 | .exit id,.exit id'=>id == id'
 | .ret,.ret=>true
 | _,_=>false
def xp:AX->Exit
 | .norm=>.normal
 | .ex i=>.exit i
 | .ret=>.ret
section
variable {P:Program} {E:Env} {a:Act} {w:World} {G:aK}
theorem aR.scrub {σ:AS} (h:aR E σ a w) (al:List Nat):aR E (Av.scrub al σ) a w:=by
 obtain⟨g,h⟩:=h;exact⟨g,h.scrub_ al⟩
theorem aR.forget {σ:AS} (h:aR E σ a w) (kl:List Nat):aR E (Av.forget kl σ) a w:=by
 obtain⟨g,h⟩:=h;exact⟨g,h.forget_ kl⟩
theorem BI (hmix:P.follows .mixedOrders=true) (hG:gV P G) {id:Nat} {ops:Array Oper} {draw:Bool} {aos:List AOper} (hok:n8 P E.nt ops ops.toList aos=true) (hdr:(!draw || nH ops aos)=true)
  {σ σ':AS} (hp:aR E σ a w) (hr:cC G aos σ=some σ') {Q:Exit->Act->World->Prop} (hQ:∀ a w,aR E σ' a w->Q .normal a w):(Code.region id ops draw).wp P Q a w:=by
 cases draw with
 | false=>exact wp_region_list (kK hG hok hp hr hQ)
 | true =>
  have hd:nH ops aos=true:=by simpa using hdr
  obtain⟨g,hs⟩:=hp;have hfalse:∀ i,(Array.replicate ops.size false).getD i false=false:=by
   intro i;simp only[Array.getD_eq_getD_getElem?,Array.getElem?_replicate]
   split<;>rfl
  refine wp_region_any hmix (xL hG hok hd hr hQ ops.size _ _ _ (by simp) ?_ ?_ ?_)
  ·unfold unl
   exact Nat.le_trans (length_filter_le _ _) (by simp)
  ·intro i hi
   rw[hfalse] at hi;cases hi
  ·intro τ hτ
   have hnil:∀ (l:List AOper) (k:Nat),sel (fun i=>(Array.replicate ops.size false).getD i false) k l=[]:=by
    intro l
    induction l with
    | nil=>intro k;rfl
    | cons o l ih =>
     intro k;simp only[sel];rw[if_neg (by rw[hfalse];simp)];exact ih (k+1)
   rw[hnil] at hτ;simp only[cC,Option.some.injEq] at hτ;subst hτ;exact⟨_,hs.drawn _⟩
theorem eB (hmix:P.follows .mixedOrders=true) (hG:gV P G) (n:Nat):∀ (C:Code) (c:ACode) (σ σ':AS) (e:AX) (a:Act) (w:World) (Q:Exit->Act->World->Prop),c8 P E.nt C c=true->cY n G c σ=some (e,σ')->aR E σ a w ->
  (∀ a w,aR E σ' a w->Q (xp e) a w)->C.wp P Q a w
 | .skip,.skip,σ,σ',e,a,w,Q,_,hx,hp,hQ=>by
  simp only[cY,Option.some.injEq,Prod.mk.injEq] at hx;obtain⟨rfl,rfl⟩:=hx;exact wp_skip (hQ a w hp)
 | .label _,.skip,σ,σ',e,a,w,Q,_,hx,hp,hQ=>by
  simp only[cY,Option.some.injEq,Prod.mk.injEq] at hx;obtain⟨rfl,rfl⟩:=hx;exact wp_label (hQ a w hp)
 | .region id ops draw,.reg draw' al aos kill,σ,σ',e,a,w,Q,hok,hx,hp,hQ=>by
  simp only[c8,Bool.and_eq_true,Bool.or_eq_true] at hok;simp only[cY] at hx;obtain⟨σ1,h4,h5⟩:=Option.map_eq_some_iff.1 hx;have hns:¬ oT aos=true:=fun h=>by rw[wO h] at h4;cases h4
  obtain⟨⟨_,h2⟩,h3⟩:=hok.resolve_left hns;have h3:(!draw || nH ops aos)=true:=by simpa using h3
  simp only[Prod.mk.injEq] at h5;obtain⟨rfl,rfl⟩:=h5;exact BI hmix hG h2 h3 (hp.scrub al) h4 (fun a w h=>hQ a w (h.forget kill))
 | .seq x y,.seq x' y',σ,σ',e,a,w,Q,hok,hx,hp,hQ=>by
  simp only[c8,Bool.and_eq_true] at hok;simp only[cY] at hx;refine wp_seq ?_;cases h1:cY n G x' σ with
  | none=>rw[h1] at hx;cases hx
  | some r =>
   obtain⟨e1,σ1⟩:=r;rw[h1] at hx;refine eB hmix hG n x x' σ σ1 e1 a w _ hok.1 h1 hp fun a1 w1 hp1=>?_
   cases e1 with
   | norm=>exact eB hmix hG n y y' σ1 σ' e a1 w1 Q hok.2 hx hp1 hQ
   | ex i =>
    simp only[Option.some.injEq,Prod.mk.injEq] at hx;obtain⟨rfl,rfl⟩:=hx;exact hQ _ _ hp1
   | ret =>
    simp only[Option.some.injEq,Prod.mk.injEq] at hx;obtain⟨rfl,rfl⟩:=hx;exact hQ _ _ hp1
 | .cond c x y,.cond r x' y',σ,σ',e,a,w,Q,hok,hx,hp,hQ=>by
  simp only[c8,Bool.and_eq_true] at hok;obtain⟨⟨h1,h2⟩,h3⟩:=hok;simp only[cY] at hx;obtain⟨g,hs⟩:=hp
  split at hx
  ·rename_i t ht
   have hb:=hs.rdBool h1 ht;refine wp_cond hb ?_
   cases t with
   | true=>exact eB hmix hG n x x' σ σ' e a w Q h2 hx ⟨g,hs⟩ hQ
   | false=>exact eB hmix hG n y y' σ σ' e a w Q h3 hx ⟨g,hs⟩ hQ
  ·cases hx
 | .block id x,.block id' x',σ,σ',e,a,w,Q,hok,hx,hp,hQ=>by
  simp only[c8,Bool.and_eq_true] at hok;have hid:id=id':=by simpa using hok.1
  subst hid;simp only[cY] at hx;refine wp_block ?_;cases h1:cY n G x' σ with
  | none=>rw[h1] at hx;cases hx
  | some r =>
   obtain⟨e1,σ1⟩:=r;rw[h1] at hx;refine eB hmix hG n x x' σ σ1 e1 a w _ hok.2 h1 hp fun a1 w1 hp1=>?_
   cases e1 with
   | norm =>
    simp only[Option.some.injEq,Prod.mk.injEq] at hx;obtain⟨rfl,rfl⟩:=hx;exact hQ _ _ hp1
   | ex i =>
    show if i=id then Q .normal a1 w1 else Q (.exit i) a1 w1
    simp only at hx
    split at hx
    ·rename_i he
     rw[if_pos he];simp only[Option.some.injEq,Prod.mk.injEq] at hx;obtain⟨rfl,rfl⟩:=hx;exact hQ _ _ hp1
    ·rename_i he
     rw[if_neg he];simp only[Option.some.injEq,Prod.mk.injEq] at hx;obtain⟨rfl,rfl⟩:=hx;exact hQ _ _ hp1
   | ret =>
    simp only[Option.some.injEq,Prod.mk.injEq] at hx;obtain⟨rfl,rfl⟩:=hx;exact hQ _ _ hp1
 | .loop x,.loop kill x',σ,σ',e,a,w,Q,hok,hx,hp,hQ=>by
  simp only[c8] at hok;simp only[cY] at hx;refine wp_loop_rounds n ?_;have key:∀ m σ a w,dN (fun σ=>cY n G x' (forget kill σ)) m σ=some (e,σ')->aR E σ a w->Code.rounds P x Q m a w:=by
   intro m
   induction m with
   | zero=>intro σ a w h;simp [dN] at h
   | succ m ih =>
    intro σ a w h hp;rw[rounds_succ];simp only[dN] at h;cases h1:cY n G x' (forget kill σ) with
    | none=>rw[h1] at h;cases h
    | some r =>
     obtain⟨e1,σ1⟩:=r;rw[h1] at h;refine eB hmix hG n x x' (forget kill σ) σ1 e1 a w _ hok h1 (hp.forget kill) fun a1 w1 hp1=>?_
     cases e1 with
     | norm=>exact ih σ1 a1 w1 h hp1
     | ex i =>
      simp only[Option.some.injEq,Prod.mk.injEq] at h;obtain⟨rfl,rfl⟩:=h;exact hQ _ _ hp1
     | ret =>
      simp only[Option.some.injEq,Prod.mk.injEq] at h;obtain⟨rfl,rfl⟩:=h;exact hQ _ _ hp1
  exact key n σ a w hx hp
 | .exit id,.exit id',σ,σ',e,a,w,Q,hok,hx,hp,hQ=>by
  simp only[c8] at hok;have hid:id=id':=by simpa using hok
  subst hid;simp only[cY,Option.some.injEq,Prod.mk.injEq] at hx;obtain⟨rfl,rfl⟩:=hx;exact wp_exit (hQ a w hp)
 | .ret,.ret,σ,σ',e,a,w,Q,hok,hx,hp,hQ=>by
  simp only[cY,Option.some.injEq,Prod.mk.injEq] at hx;obtain⟨rfl,rfl⟩:=hx;exact wp_ret (hQ a w hp)
end
def eP (P:Program):List ResultVar->List ARes->Bool
 | [],[]=>true
 | .tmp t :: rs,.tmp t' :: as=>t == t' && eP P rs as
 | .tmp t :: rs,.tmpD t' :: as=>t == t' && eP P rs as
 | .cell s t :: rs,.cell s' agg n :: as=>s == s' && dH P t agg n && eP P rs as
 | _,_=>false
def pO (P:Program) (f:FuncId) (F:AFun):Bool:=
 match P.funcs[f]? with
 | some fn=>(match fn.body with | some C=>c8 P fn.ntmps C F.body | none=>false) && decide (F.nargs<=fn.ntmps) && eP P fn.results.toList F.res && !(fn.name == "runtime.NumGoroutine")
 | none=>false
end Go.Av
namespace Go.Av
variable [Gtab]
open Go.RowKit
theorem FR {c:Cx} {ow:Value->Nat->Nat->Prop} {args:List AV} {vs:Array Value} (h:aI (aL c ow) args vs.toList) (n:Nat) (t:Nat) :
  aL c ow ((args[t]?).getD .any) ((vs++Array.replicate n undef).getD t undef):=by
 cases hx:args[t]? with
 | none=>exact trivial
 | some x =>
  obtain⟨v,h1,h2⟩:=h.get hx;have hv:vs[t]?=some v:=by simpa using h1
  have hlt:=(Array.getElem?_eq_some_iff.1 hv).1
  have:(vs++Array.replicate n undef).getD t undef=v:=by
   rw[Array.getD_eq_getD_getElem?,Array.getElem?_append_left hlt,hv];rfl
  rw[this];exact h2
section
variable {P:Program} {E:Env} {a:Act} {w:World} {G:aK} {g:Gh} {σ:AS}
noncomputable def kdF (kd:Nat->BK) (β:Nat->Nat) (n:Nat) (b:Nat):BK:=
 open Classical in if ∃ i,i < n/\β i=b then kd b else match kd b with | .shr _=>.stab | .loc _=>.stab | x=>x
theorem zL {kd:Nat->BK} {β:Nat->Nat} {n i:Nat} (hi:i < n):kdF kd β n (β i)=kd (β i):=by
 unfold kdF;rw[if_pos ⟨i,hi,rfl⟩]
theorem EP {kd:Nat->BK} {β:Nat->Nat} {n b:Nat} (h:kd b=.stab):kdF kd β n b=.stab:=by
 unfold kdF;split<;>simp [h]
theorem oR {kd:Nat->BK} {β:Nat->Nat} {n b k:Nat} {t:Ow}:kdF kd β n b=.own t k↔kd b=.own t k:=by
 unfold kdF;split
 ·exact Iff.rfl
 ·cases h:kd b<;>simp
theorem EQ {kd:Nat->BK} {β:Nat->Nat} {n b i:Nat} (h:kd b=.shr i) (hb:∀ j,j < n->β j≠b):kdF kd β n b=.stab:=by
 unfold kdF;rw[if_neg (by rintro ⟨j,h1,h2⟩;exact hb j h1 h2),h]
theorem SS.out (hs:Sim E g σ a w) {n:Nat}:∀ b m,SS E g w b m->S1 E.S0 E.w0 w (kdF g.kd g.β n) b m:=by
 rintro b m (⟨_,h⟩ | ⟨h1,h2,h3⟩ | ⟨h1,t,k,h2,h3⟩)
 ·exact .inl h
 ·exact .inr (.inl ⟨h1,h2,EP h3⟩)
 ·exact .inr (.inr ⟨h1,t,k,oR.2 h2,h3⟩)
theorem tB (hs:Sim E g σ a w) {n:Nat} {k:Bool} (hk:k=true->n=σ.sh.length) {x:AV} {v:Value} (ho:jV k x=true) (r:aL (cx E g σ w) aN x v) :
  aJ (cx0 g.β g.bs (S1 E.S0 E.w0 w (kdF g.kd g.β n)) w n) x v:=by
 have hm:∀ b m,SS E g w b m->S1 E.S0 E.w0 w (kdF g.kd g.β n) b m/\w.cell? ⟨b,m,none⟩=w.cell? ⟨b,m,none⟩:=fun b m h=>⟨SS.out hs b m h,rfl⟩
 cases x with
 | int=>exact r
 | bool=>exact r
 | nilp=>exact r
 | str s =>
  have r':aC (SS E g w) w (.str s) v:=r;exact aC.mono hm _ _ r'
 | sl m z l =>
  cases m with
  | own=>exact r.2.elim
  | no =>
   have r':aC (SS E g w) w (.sl .no z l) v:=r;exact aC.mono hm _ _ r'
  | full =>
   have r':aC (SS E g w) w (.sl .full z l) v:=r;exact aC.mono hm _ _ r'
 | agg l =>
  obtain⟨cs,h1,h2⟩:=r;exact⟨cs,h1,h2.mono (aC.mono hm)⟩
 | ptr o off =>
  have hkt:k=true:=by simpa [jV] using ho
  have r':o < σ.sh.length/\v=_:=r;exact⟨by rw[show (cx0 g.β g.bs (S1 E.S0 E.w0 w (kdF g.kd g.β n)) w n).shn=n from rfl,hk hkt];exact r'.1,r'.2⟩
 | ss o off m z =>
  have hkt:k=true:=by simpa [jV] using ho
  have r':o < σ.sh.length/\_:=r;exact⟨by rw[show (cx0 g.β g.bs (S1 E.S0 E.w0 w (kdF g.kd g.β n)) w n).shn=n from rfl,hk hkt];exact r'.1,r'.2⟩
 | mp o =>
  have hkt:k=true:=by simpa [jV] using ho
  have r':o < σ.sh.length/\_:=r;exact⟨by rw[show (cx0 g.β g.bs (S1 E.S0 E.w0 w (kdF g.kd g.β n)) w n).shn=n from rfl,hk hkt];exact r'.1,r'.2⟩
 | _=>simp [jV,DV] at ho
theorem BZ (x:AV):aH (aH x)=aH x:=by
 cases x with
 | sl m z l=>cases m<;>rfl
 | _=>rfl
theorem BY (x:AV):aH (dR x)=dR x:=by cases x<;>rfl
theorem aJ.topT {c:Cx} {ow:Value->Nat->Nat->Prop} {x:AV} {v:Value} (hd:aH x=x) (h:aJ c x v):aL c ow x v:=by
 cases x with
 | sl m z l =>
  cases m with
  | own=>simp [aH] at hd
  | no=>exact h
  | full=>exact h
 | any=>simp [aJ,aC] at h
 | undef=>simp [aJ,aC] at h
 | loc=>simp [aJ,aC] at h
 | ip=>simp [aJ,aC] at h
 | fn=>simp [aJ,aC] at h
 | tup=>simp [aJ,aC] at h
 | mapv=>simp [aJ,aC] at h
 | aggR=>simp [aJ,aC] at h
 | _=>exact h
theorem nA {c:List AV}:eW c=true↔c=bB:=by
 unfold eW bB;split
 ·simp
 ·rename_i h
  constructor
  ·intro h;cases h
  ·intro e;exact absurd e h
theorem lG:∀ {xs ys:LL},dE xs ys=true->∀ {j:Nat} {x:List AV},xs[j]?=some x->ys[j]?=some bB->eW x=true
 | x :: xs,y :: ys,h,0,u,hu,hy=>by
  simp only[dE,Bool.and_eq_true,Bool.or_eq_true] at h;simp at hu hy;subst hu;subst hy;rcases h.1 with h | h
  ·exact h
  ·simp [eW,bB] at h
 | x :: xs,y :: ys,h,j+1,u,hu,hy=>by
  simp only[dE,Bool.and_eq_true] at h;exact lG h.2 (j:=j) (by simpa using hu) (by simpa using hy)
 | [],_,_,_,_,hu,_=>by simp at hu
 | _ :: _,[],h,_,_,_,_=>by simp [dE] at h
theorem JB (hs:Sim E g σ a w) {sh0:LL} {k:Bool} {n:Nat} (hn:n=if k then σ.sh.length else sh0.length) (hn0:E.n0=sh0.length) (hβ:∀ i,i < E.n0->E.β0 i < E.w0.heap.size)
  (hD:∀ (j:Nat) (x:List AV),sh0[j]?=some x->eW x=true->E.D0 j=true) {x y:AV} {v:Value} (hdx:aH x=x) (hy:gE k sh0 σ.sh x=some y) (ho:jV k y=true) (r:aL (cx E g σ w) aN x v) :
  aJ (cx0 g.β g.bs (S1 E.S0 E.w0 w (kdF g.kd g.β n)) w n) y v/\aH y=y:=by
 by_cases hss:∃ o off m z,x=.ss o off m z
 ·obtain⟨o,off,m,z,rfl⟩:=hss
  simp only[gE] at hy
  split at hy
  ·rename_i hk
   cases hy;exact⟨tB hs (fun _=>by rw[hn,if_pos hk]) ho r,rfl⟩
  ·rename_i hk
   split at hy
   ·rename_i hc
    obtain⟨hc1,hc2⟩:=hc;simp only[lA] at hy;obtain⟨cells,h1,h2⟩:=Option.bind_eq_some_iff.1 hy;obtain⟨l,h3,h4⟩:=Option.map_eq_some_iff.1 h2;subst h4;refine⟨?_,rfl⟩;obtain⟨e0,cp,rfl,e2,e3⟩:o < σ.sh.length/\∃ cp,v=.slice (some ⟨g.β o,off,none⟩) m cp/\m<=cp/\ssz off cp z (g.bs o):=r;show aC _ w (.sl .no z l) _;simp only[aC];by_cases hn0':m=0
    ·have hl:l.length=0:=by
      unfold cV at h3
      split at h3
      ·cases h3;subst hn0';simp [cK]
      ·cases h3
     have hl':=eq_nil_of_length_eq_zero hl;exact⟨_,cp,by rw[hl,hn0'],by omega,by simp,by simp,.inl hl'⟩
    ·have hd:cells≠bB/\bP cells=true:=by
      have hc:0 < z/\off+m*z<=cells.length/\((cells.drop off).take (m*z)).all (fun x=>a9 (aH x))=true:=by
       unfold cV at h3
       split at h3
       ·assumption
       ·cases h3
      obtain⟨hz,hlen,hall⟩:=hc;have hpos:0 < m*z:=Nat.mul_pos (by omega) hz;have key:∀ y,cells=[y]->a9 (aH y)=true:=by
       rintro y rfl
       have:off=0/\m*z=1:=by simp at hlen;omega
       obtain⟨rfl,h1⟩:=this;rw[h1] at hall;simpa using hall
      refine⟨fun e=>?_,?_⟩
      ·have:=key _ e;simp [aH,a9] at this
      ·unfold bP
       split
       ·have:=key _ rfl;simp [aH,a9] at this
       ·have:=key _ rfl;simp [aH,a9] at this
       ·rfl
     obtain⟨f1,hob,_⟩:=hs.shr o cells h1 hd.1;have hnew:E.w0.heap.size<=g.β o:=by
      rcases hs.shr1 o e0 (by omega) with h9 | ⟨j,h9,h10,h11,h12⟩
      ·exact h9
      ·exfalso
       have hjl:j < sh0.length:=by omega
       have:=lG hc2 (getElem?_eq_getElem hjl) h12
       have:=hD j _ (getElem?_eq_getElem hjl) this
       rw[h11] at this;cases this
     have hkd:kdF g.kd g.β n (g.β o)=.stab:=by
      refine EQ f1 (fun j hj e=>?_);have hkf:k=false:=by simpa using hk
      rw[hn,hkf] at hj;simp at hj;have h9:=(hs.shr0 j (by omega)).1;have h10:=hβ j (by omega);omega
     have hlt:=hs.shrlt o e0;obtain⟨_,r1,r2,r3,_⟩:=mV (S':=S1 E.S0 E.w0 w (kdF g.kd g.β n)) h3 (hob hd.2) (fun b' n h=>⟨SS.out hs b' n h,rfl⟩) (fun _=>.inr (.inl ⟨hnew,hlt,hkd⟩));exact⟨_,cp,by rw[r1],by rw[r1];exact e2,by simp,by simp,.inr ⟨_,_,rfl,r3⟩⟩
   ·cases hy
 ·have hxy:y=x:=by
   unfold gE at hy
   split at hy
   ·rename_i o off m z
    exact absurd ⟨o,off,m,z,rfl⟩ hss
   ·cases hy;rfl
  subst hxy;refine⟨?_,hdx⟩;by_cases hk:k=true
  ·exact tB hs (fun _=>by rw[hn,if_pos hk]) ho r
  ·exact tB hs (k:=k) (fun h=>absurd h hk) ho r
def kH (tmps:Array Value):ResultVar->Sem Value
 | .tmp t=>pure (tmps.getD t undef)
 | .cell s t=>do loadVar t (<- asAddr (tmps.getD s undef))
theorem zI {c:Cx} {t:TypeId} {agg:Bool} {n off b:Nat} (hsz:dH P t agg n=true) {cells:List AV} {v:AV} (ht:ldC agg off n cells=some v) {ow:Nat->Value->Nat->Nat->Prop} {m:Nat} (hb:jY c ow w b m cells) :
  ∃ val,(loadVar t ⟨b,off,none⟩).run P w=.ok val w/\aL c aN v val/\aH v=v:=by
 obtain⟨arr,ty,fz,h1,_,h2,h3⟩:=hb;obtain⟨h4,h5⟩:=zJ ht h3;have hcell:∀ j u,arr[off+j]?=some u->w.cell? ⟨b,off+j,none⟩=some u:=fun j u hu=>by
  simp [World.cell?,h1];simpa using hu
 rcases h5 with ⟨rfl,vs,h6,h7,h8⟩ | ⟨rfl,u,h6,h7⟩
 ·obtain⟨val,h9,h10⟩:=lU (P:=P) (off:=off) hsz h6 (fun j u hu=>hcell j u (h7 j u hu)) (fun h=>by cases h)
  rcases h10 with ⟨_,rfl⟩ | ⟨h10,_⟩
  ·exact⟨_,by simpa [Instr.loadAt,Instr.sureAddr] using h9,h8,h4⟩
  ·cases h10
 ·obtain⟨ha,_⟩:=fQ hsz
  have hc0:w.cell? ⟨b,off,none⟩=some u:=by simpa using hcell 0 u (by simpa using h6)
  exact⟨u,by simp [loadVar,ha,hc0],h7,h4⟩
theorem H5 (hs:Sim E g σ a w) {rv:ResultVar} {ar:ARes} {x:AV} (hok:eP P [rv] [ar]=true) (hr:s8 σ ar=some x) :
  ∃ v,(kH a.tmps rv).run P w=.ok v w/\aL (cx E g σ w) aN x v/\aH x=x:=by
 cases rv with
 | tmp t=>cases ar with
  | tmp t' =>
   simp only[eP,Bool.and_eq_true] at hok;have ht:t=t':=by simpa using hok.1
   subst ht;simp only[s8,Option.some.injEq] at hr;subst hr;exact⟨_,rfl,(hs.slots t).str,BY _⟩
  | tmpD t' =>
   simp only[eP,Bool.and_eq_true] at hok;have ht:t=t':=by simpa using hok.1
   subst ht;simp only[s8,Option.some.injEq] at hr;subst hr;exact⟨_,rfl,(hs.slots t).dem,BZ _⟩
  | cell=>simp [eP] at hok
 | cell s t=>cases ar with
  | tmp=>simp [eP] at hok
  | tmpD=>simp [eP] at hok
  | cell s' agg m =>
   simp only[eP,Bool.and_eq_true] at hok;obtain⟨⟨hss,hsz⟩,_⟩:=hok;have ht:s=s':=by simpa using hss
   subst ht;have hslot:=hs.slots s;simp only[s8] at hr
   split at hr
   ·rename_i ls off hfr
    obtain⟨cells,hc,htk⟩:=Option.bind_eq_some_iff.1 hr;rw[hfr] at hslot;obtain⟨hlive,hval⟩:=hslot;have hval2:(a.tmps[s]?).getD undef=.pointer (some ⟨g.lam ls,off,none⟩):=by rw[<- Array.getD_eq_getD_getElem?];exact hval
    obtain⟨val,h1,h2,h3⟩:=zI (P:=P) hsz htk (hs.loc ls cells hc).2.2;exact⟨val,by simp [kH,hval2,asAddr,h1],h2,h3⟩
   ·rename_i ls off hfr
    obtain⟨cells,hc,htk⟩:=Option.bind_eq_some_iff.1 hr
    split at htk
    ·rename_i hbk
     rw[hfr] at hslot;obtain⟨hlive,hval⟩:=hslot;have hval2:(a.tmps[s]?).getD undef=.pointer (some ⟨g.β ls,off,none⟩):=by rw[<- Array.getD_eq_getD_getElem?];exact hval
     obtain⟨val,h1,h2,h3⟩:=zI (P:=P) hsz htk ((hs.shr ls cells hc (cE hbk)).2.1 hbk);exact⟨val,by simp [kH,hval2,asAddr,h1],h2,h3⟩
    ·cases htk
   ·cases hr
theorem j6 (hs:Sim E g σ a w) {sh0:LL} {k:Bool} {n:Nat} (hn:n=if k then σ.sh.length else sh0.length) (hn0:E.n0=sh0.length) (hβ:∀ i,i < E.n0->E.β0 i < E.w0.heap.size)
  (hD:∀ (j:Nat) (x:List AV),sh0[j]?=some x->eW x=true->E.D0 j=true) :
  ∀ {rs:List ResultVar} {as:List ARes} {xs:List AV},eP P rs as=true->dZ k sh0 σ as=some xs->xs.all (jV k)=true ->
   ∃ vs:List Value,(rs.mapM (kH a.tmps)).run P w=.ok vs w/\aI (aJ (cx0 g.β g.bs (S1 E.S0 E.w0 w (kdF g.kd g.β n)) w n)) xs vs/\(∀ x∈xs,aH x=x)
 | [],[],xs,_,hr,_=>by
  simp only[dZ,Option.some.injEq] at hr;subst hr;exact⟨[],rfl,trivial,by simp⟩
 | rv :: rs,ar :: as,xs,hok,hr,hall=>by
  have hok1:eP P [rv] [ar]=true/\eP P rs as=true:=by
   cases rv<;>cases ar<;>simp only[eP,Bool.and_eq_true,Bool.false_eq_true] at hok ⊢
   ·exact⟨⟨hok.1,trivial⟩,hok.2⟩
   ·exact⟨⟨hok.1,trivial⟩,hok.2⟩
   ·exact⟨⟨hok.1,trivial⟩,hok.2⟩
  simp only[dZ] at hr
  split at hr
  ·rename_i y ys hy hys
   simp only[Option.some.injEq] at hr;subst hr;simp only[all_cons,Bool.and_eq_true] at hall;obtain⟨x,hx,hfz⟩:=Option.bind_eq_some_iff.1 hy;obtain⟨v,h0,h1,h2⟩:=H5 hs hok1.1 hx;obtain⟨us,h3,h4,h5⟩:=j6 hs hn hn0 hβ hD hok1.2 hys hall.2;obtain⟨h6,h7⟩:=JB hs hn hn0 hβ hD h2 hfz hall.1 h1;refine⟨v :: us,by simp only[mapM_cons,Sem.run_bind,h0,h3,Result.andThen_ok,Sem.run_pure],⟨h6,h4⟩,?_⟩;intro x hx;rcases mem_cons.1 hx with rfl | hx
   ·exact h7
   ·exact h5 x hx
  ·cases hr
 | [],_ :: _,_,hok,_,_=>by simp [eP] at hok
 | rv :: _,[],_,hok,_,_=>by cases rv<;>simp [eP] at hok
def KS:List Value->Value
 | [v]=>v
 | vs=>.tuple vs.toArray
theorem uN {fn:Func} {tmps:Array Value} {vs:List Value} (h:(fn.results.toList.mapM (kH tmps)).run P w=.ok vs w) :
  (results fn tmps).run P w=.ok (KS vs) w:=by
 have h1:(fn.results.mapM (kH tmps)).run P w=.ok vs.toArray w:=by
  rw[Array.mapM_eq_mapM_toList];simp [h]
 have h2:results fn tmps=(do let vs <- fn.results.mapM (kH tmps);pure (if h:vs.size=1 then vs[0] else .tuple vs)):=rfl;rw[h2];simp only[Sem.run_bind,h1,Result.andThen_ok,Sem.run_pure]
 match vs with
 | []=>rfl
 | [v]=>rfl
 | v :: u :: vs=>rfl
theorem pJ {c c':Cx} {ow ow':Value->Nat->Nat->Prop} {x:AV} {v:Value} {n:Nat} (hm:∀ b o,c.S b o->c'.S b o/\c'.w.cell? ⟨b,o,none⟩=c.w.cell? ⟨b,o,none⟩) (hβ:c'.β=c.β) (hbs:c'.bs=c.bs) (hn:c'.shn=n) (hlt:cR n x=true)
  (ho:∀ z l,x=.sl .own z l->ow v z l.length->ow' v z l.length) (r:aU c ow x v):aU c' ow' x v:=by
 cases x with
 | any=>trivial
 | sl m z l =>
  cases m with
  | own=>exact⟨aC.mono hm _ _ r.1,ho z l rfl r.2⟩
  | no =>
   have r':aC c.S c.w (.sl .no z l) v:=r;exact aC.mono hm _ _ r'
  | full =>
   have r':aC c.S c.w (.sl .full z l) v:=r;exact aC.mono hm _ _ r'
 | ptr o off =>
  have r':o < c.shn/\v=.pointer (some ⟨c.β o,off,none⟩):=r;have hl:o < n:=by simpa [cR] using hlt
  show o < c'.shn/\v=.pointer (some ⟨c'.β o,off,none⟩);rw[hn,hβ];exact⟨hl,r'.2⟩
 | ss o off m z =>
  have r':o < c.shn/\∃ cp,v=.slice (some ⟨c.β o,off,none⟩) m cp/\m<=cp/\ssz off cp z (c.bs o):=r;have hl:o < n:=by simpa [cR] using hlt
  show o < c'.shn/\∃ cp,v=.slice (some ⟨c'.β o,off,none⟩) m cp/\m<=cp/\ssz off cp z (c'.bs o);rw[hn,hβ,hbs];exact⟨hl,r'.2⟩
 | mp o =>
  have r':o < c.shn/\v=.map (some (c.β o)):=r;have hl:o < n:=by simpa [cR] using hlt
  show o < c'.shn/\v=.map (some (c'.β o));rw[hn,hβ];exact⟨hl,r'.2⟩
 | agg l =>
  obtain⟨cs,h1,h2⟩:∃ cs,v=.agg cs/\aI (aC c.S c.w) l cs.toList:=r;exact⟨cs,h1,h2.mono (aC.mono hm)⟩
 | str s =>
  have r':aC c.S c.w (.str s) v:=r;exact aC.mono hm _ _ r'
 | int=>exact r
 | bool=>exact r
 | nilp=>exact r
 | undef=>simp [aU,aJ,aC] at r
 | loc=>simp [aU,aJ,aC] at r
 | ip=>simp [aU,aJ,aC] at r
 | fn=>simp [aU,aJ,aC] at r
 | tup=>simp [aU,aJ,aC] at r
 | aggR=>simp [aU,aJ,aC] at r
 | mapv=>simp [aU,aJ,aC] at r
theorem mM {c c':Cx} {x:AV} {v:Value} (hm:∀ b o,c.S b o->c'.S b o/\c'.w.cell? ⟨b,o,none⟩=c.w.cell? ⟨b,o,none⟩) (h:aP x=true) (r:aJ c x v):aJ c' x v:=by
 cases x with
 | int=>exact r
 | bool=>exact r
 | nilp=>exact r
 | str s =>
  have r':aC c.S c.w (.str s) v:=r;exact aC.mono hm _ _ r'
 | agg l =>
  obtain⟨cs,h1,h2⟩:∃ cs,v=.agg cs/\aI (aC c.S c.w) l cs.toList:=r;exact⟨cs,h1,h2.mono (aC.mono hm)⟩
 | _=>simp [aP,aV] at h
theorem kS {c c':Cx} (hm:∀ b o,c.S b o->c'.S b o/\c'.w.cell? ⟨b,o,none⟩=c.w.cell? ⟨b,o,none⟩):∀ {l:LL} {es:List MapEntry},cO c l es->cO c' l es
 | [],[],_=>trivial
 | [k,v] :: l,e :: es,r=>by
  simp only[cO] at r ⊢;exact⟨r.1,r.2.1,mM hm r.1 r.2.2.1,mM hm r.2.1 r.2.2.2.1,kS hm r.2.2.2.2⟩
 | [],_ :: _,r=>by simp [cO] at r
 | [] :: _,_,r=>by simp [cO] at r
 | [_] :: _,_,r=>by simp [cO] at r
 | (_ :: _ :: _ :: _) :: _,_,r=>by simp [cO] at r
 | [_,_] :: _,[],r=>by simp [cO] at r
theorem BV (hmix:P.follows .mixedOrders=true) (hG:gV P G) {n:Nat} {f:FuncId} {F:AFun} (hok:pO P f F=true) {args:List AV} {sh sh':LL} {r:AV} (h:z9 n G F args sh=some (r,sh')) :
  v9 P f/\gM P f args sh r sh':=by
 unfold pO at hok
 split at hok
 case h_2=>cases hok
 rename_i fn hfn;simp only[Bool.and_eq_true,decide_eq_true_eq] at hok;obtain⟨⟨⟨hbody,hnt⟩,hres⟩,hname⟩:=hok
 split at hbody
 case h_2=>cases hbody
 rename_i C hC;refine⟨⟨fn,hfn,by rw[hC];rfl,by simpa using hname⟩,?_⟩;intro kd β bs S0 O0 w vs hent hargs;obtain⟨⟨e1,e2⟩,e3,e4,e5,e6⟩:=hent;unfold z9 at h
 split at h
 case isFalse=>cases h
 rename_i hlen;have hsz:vs.size=F.nargs:=by have:=hargs.length;simp at this;omega
 let E:Env:={ w0:=w,S0:=S0,β0:=β,bs0:=bs,O0:=O0,D0:=fun j=>match sh[j]? with | some c=>eW c | none=>false,n0:=sh.length,nt:=fn.ntmps }
 let g:Gh:={ β:=β,bs:=bs,lam:=fun _=>0,kd:=kd }
 have hSS:∀ b m,S0 b m->SS E g w b m:=fun b m hS=>.inl ⟨(e3 b m hS).1,hS⟩
 have hle0:Cx.le (cx0 β bs S0 w sh.length) (cx E g (lY args sh) w):=⟨fun b m hS=>⟨hSS b m hS,rfl⟩,Nat.le_refl _,fun _ _=>rfl,fun _ _=>rfl,fun s hs=>hs.elim⟩
 have hsim:Sim E g (lY args sh) { tmps:=vs++Array.replicate (fn.ntmps - vs.size) undef,defers:=[] } w:=by
  refine { size:=by show (vs++Array.replicate (fn.ntmps - vs.size) undef).size=fn.ntmps;simp;omega,defers:=rfl,slots:=?_,shr:=?_,shr0:=fun _ _=>⟨rfl,rfl⟩,shr1:=?_,dd:=?_,shrlt:=fun i hi=>(e2 i hi).1,shrk:=fun i hi=>(e2 i hi).2,loc:=fun s c hc=>by simp [lY] at hc,n0:=Nat.le_refl _,s0:=e3,o0:=e4,own0:=?_,os:=rfl,tape:=rfl,output:=rfl,hsize:=Nat.le_refl _,frame:=fun _ _ _ _=>rfl,sframe:=fun _ _ _=>rfl,gl:=e6 }
  ·intro t
   have h1:=FR hargs (fn.ntmps - vs.size) t;exact aL.mono hle0 _ _ (fun _ _ _ h=>h.elim) h1
  ·intro i cells hi hd
   obtain⟨f1,f2⟩:=e1 i cells hi hd;exact⟨f1,f2.mono hle0 rfl (fun _ _ _ _ _ h=>h)⟩
  ·intro i hi hn
   have hi':i < sh.length:=hi;have hn':sh.length<=i:=hn;omega
  ·intro i hi hd
   have hi':i < sh.length:=hi;have hd':(match sh[i]? with | some c=>eW c | none=>false)=true:=hd;show sh[i]?=some bB;rw[getElem?_eq_getElem hi'] at hd' ⊢;rw[nA.1 hd']
  ·intro b t k hk
   rcases Nat.lt_or_ge b w.heap.size with hb | hb
   ·exact .inr (e5 b t k hk hb)
   ·exact .inl hb
 unfold E5 at h
 split at h
 ·cases h
 ·rename_i e σ hx hex
  split at h
  case h_2=>cases h
  rename_i xs hxs;unfold uW at h
  split at h
  case isFalse=>cases h
  rename_i hall;obtain⟨hall,hkeep⟩:=hall;simp only[Option.some.injEq,Prod.mk.injEq] at h;obtain⟨hr,hsh'⟩:=h;refine calls_of_wp hfn hC (eB hmix hG n C F.body _ σ e _ w _ hbody hex ⟨g,hsim⟩ ?_)
  rintro a1 w1 ⟨g1,hs1⟩
  have hn0:sh.length<=σ.sh.length:=hs1.n0;have hlen':sh'.length=if F.keep then σ.sh.length else sh.length:=by
   rw[<- hsh'];split
   ·rfl
   ·simp;omega
  have hshl:sh'.length<=σ.sh.length/\sh.length<=sh'.length:=by
   rw[hlen'];split<;>omega
  have hshget:∀ (i:Nat),i < sh'.length->sh'[i]?=σ.sh[i]?:=by
   intro i hi;rw[<- hsh'] at hi ⊢;split
   ·rfl
   ·rename_i hk
    rw[if_neg hk] at hi;rw[getElem?_take_of_lt (by simp at hi;omega)]
  have hβ0:∀ i,i < E.n0->E.β0 i < E.w0.heap.size:=fun i hi=>(e2 i hi).1
  have hD:∀ (j:Nat) (x:List AV),sh[j]?=some x->eW x=true->E.D0 j=true:=by
   intro j x hj hx;show (match sh[j]? with | some c=>eW c | none=>false)=true;rw[hj];exact hx
  obtain⟨us,hu1,hu2,hu3⟩:=j6 hs1 (sh0:=sh) (k:=F.keep) (n:=sh'.length) hlen' rfl hβ0 hD hres hxs hall;have hrun:=uN (fn:=fn) hu1;have hm1:∀ b m,SS E g1 w1 b m->S1 S0 w w1 (kdF g1.kd g1.β sh'.length) b m:=SS.out hs1;have hfin:∃ v kd' β' bs',Ending.returned (KS us)=Ending.returned v/\After S0 O0 β bs w sh sh' r v kd' β' bs' w1:=by
   refine⟨_,kdF g1.kd g1.β sh'.length,g1.β,g1.bs,rfl,?_⟩
   refine { same:=fun i hi=>hs1.shr0 i hi,len:=hshl.2,shok:=⟨fun i cells hi hd=>?_,fun i hi=>?_⟩,rep:=?_,os:=hs1.os,tape:=hs1.tape,output:=hs1.output,size:=hs1.hsize,frame:=fun b hb hnb ho=>hs1.frame b hb hnb ho,sframe:=fun b o hS=>hs1.sframe b o hS,o0:=fun b k hk=>?_,own0:=fun b t k hk=>hs1.own0 b t k (oR.1 hk),new:=fun i h1 h2=>?_,deads:=fun i hi=>?_ }
   ·have hil:=(List.getElem?_eq_some_iff.1 hi).1
    have hi':σ.sh[i]?=some cells:=by rw[<- hshget i hil];exact hi
    obtain⟨f1,f2,f3⟩:=hs1.shr i cells hi' hd;refine⟨by rw[zL hil];exact f1,?_⟩;have how:∀ j z v m,dB g1.kd w1 (.cell i j) v z m->dB (kdF g1.kd g1.β sh'.length) w1 (.cell i j) v z m:=by
     rintro j z v m ⟨A,c,q1,q2⟩
     refine⟨A,c,q1,?_⟩;rcases q2 with q2 | ⟨b,ar,tt,q3,q4,q5,q6⟩
     ·exact .inl q2
     ·exact .inr ⟨b,ar,tt,q3,q4,q5,oR.2 q6⟩
    refine⟨fun hbk=>?_,?_⟩
    ·obtain⟨arr,ty,fz,q1,q2,q3,q4⟩:=f2 hbk
     refine⟨arr,ty,fz,q1,q2,q3,fun j x hx=>?_⟩;obtain⟨v,q5,q6⟩:=q4 j x hx;refine⟨v,q5,?_⟩;by_cases hk:F.keep=true
     ·have hln:sh'.length=σ.sh.length:=by rw[hlen',if_pos hk]
      have q7:=(nX (c:=cx E g1 σ w1)).2 q6;refine aU.mono (c:=(cx E g1 σ w1).noloc) (c':=cx0 g1.β g1.bs (S1 S0 w w1 (kdF g1.kd g1.β sh'.length)) w1 sh'.length) ⟨fun b m hS=>⟨hm1 b m hS,rfl⟩,by show σ.sh.length<=sh'.length;omega,fun _ _=>rfl,fun _ _=>rfl,fun s hs=>hs.elim⟩ _ _ (fun z l _=>how _ _ _ _) q7
     ·have hall2:((σ.sh.take sh.length).all fun c=>c.all (cR sh.length))=true:=by
       rcases hkeep with hk' | hk'
       ·exact absurd hk' hk
       ·exact hk'
      have hln:sh'.length=sh.length:=by rw[hlen',if_neg hk]
      refine pJ (c:=cx E g1 σ w1) (n:=sh.length) (fun b m hS=>⟨hm1 b m hS,rfl⟩) rfl rfl hln ?_ (fun z l _=>how _ _ _ _) q6;rw[all_eq_true] at hall2;have h8:=hall2 cells (mem_iff_getElem?.2 ⟨i,by rw[getElem?_take_of_lt (by omega)];exact hi'⟩);rw[all_eq_true] at h8;exact h8 x (mem_iff_getElem?.2 ⟨j,hx⟩)
    ·unfold kU at f3 ⊢
     split
     ·obtain⟨es,cl,q1,q2⟩:=f3
      exact⟨es,cl,q1,kS (c:=cx E g1 σ w1) (c':=cx0 g1.β g1.bs (S1 S0 w w1 (kdF g1.kd g1.β sh'.length)) w1 sh'.length) (fun b m hS=>⟨hm1 b m hS,rfl⟩) q2⟩
     ·trivial
   ·obtain⟨j,hj⟩:=hs1.shrk i (by omega)
    exact⟨hs1.shrlt i (by omega),j,by rw[zL hi];exact hj⟩
   ·rw[<- hr]
    match xs,us,hu2,hu3 with
    | [x],[v],hu2,hu3=>exact aJ.topT (hu3 x (by simp)) hu2.1
    | [],[],hu2,_=>exact⟨#[],rfl,trivial⟩
    | x :: y :: xs,v :: u :: us,hu2,_=>exact⟨(v :: u :: us).toArray,rfl,hu2⟩
    | [],_ :: _,hu2,_=>simp [aI] at hu2
    | _ :: _,[],hu2,_=>simp [aI] at hu2
    | [_],_ :: _ :: _,hu2,_=>simp [aI] at hu2
    | _ :: _ :: _,[_],hu2,_=>simp [aI] at hu2
   ·obtain⟨_,_,t,k',q1,q2⟩:=hs1.o0 b k hk
    exact⟨t,k',oR.2 q1,q2⟩
   ·rcases hs1.shr1 i (by omega) h1 with q | ⟨j,q1,q2,q3,q4⟩
    ·exact .inl q
    ·have hjl:j < sh.length:=q1
     refine .inr ⟨j,q1,q2,fun hjd=>?_,?_⟩
     ·have:=hD j _ hjd (nA.2 rfl)
      rw[q3] at this;cases this
     ·rw[hshget j (by omega)];exact q4
   ·have hil:=(List.getElem?_eq_some_iff.1 hi).1
    rw[hshget i (by omega)];exact hs1.dd i hil (hD i _ hi (nA.2 rfl))
  cases e with
  | norm=>exact⟨hs1.defers,_,hrun,hfin⟩
  | ret=>exact⟨hs1.defers,_,hrun,hfin⟩
  | ex i=>exact (hx i rfl).elim
 ·cases h
theorem qG (hmix:P.follows .mixedOrders=true) {B:aK} (hB:gV P B) {T:FuncId->Option AFun} (hT:∀ f F,T f=some F->pO P f F=true):∀ n,gV P (nD B T n)
 | 0=>hB
 | n+1=>by
  intro f args sh r sh' h;simp only[nD] at h
  split at h
  ·rename_i x hx
   simp only[Option.some.injEq] at h;subst h;exact hB f args sh r sh' hx
  ·split at h
   ·rename_i F hF
    exact .inl (BV hmix (qG hmix hB hT n) (hT f F hF) h)
   ·cases h
end
end Go.Av
namespace Go.Av
variable [Gtab]
open Classical in
noncomputable def lim {α:Type} (u:Nat->Option α):Option α:=if h:∃ x n,∀ m,n<=m->u m=some x then some h.choose else none
theorem cW {α:Type} {u:Nat->Option α} {x:α}:lim u=some x↔∃ n,∀ m,n<=m->u m=some x:=by
 unfold lim;constructor
 ·intro h
  split at h
  ·rename_i hex
   injection h with h
   rw[<- h];exact hex.choose_spec
  ·cases h
 ·rintro ⟨n,hn⟩
  have hex:∃ x n,∀ m,n<=m->u m=some x:=⟨x,n,hn⟩
  rw[dif_pos hex];obtain⟨n',hn'⟩:=hex.choose_spec;have h1:=hn' (max n n') (by omega);rw[hn (max n n') (by omega)] at h1;exact h1.symm
noncomputable def qE (f:AS->Option (AX × AS)) (σ:AS):Option (AX × AS):=lim fun n=>dN f n σ
theorem qD (f:AS->Option (AX × AS)) (σ:AS):qE f σ=match f σ with
  | some (.norm,σ')=>qE f σ'
  | r=>r:=by
 unfold qE;cases h:f σ with
 | none =>
  show lim _=none;cases hl:lim fun n=>dN f n σ with
  | none=>rfl
  | some x =>
   obtain⟨n,hn⟩:=cW.1 hl
   have:=hn (n+1) (by omega)
   simp only[dN,h] at this;cases this
 | some r =>
  obtain⟨e,σ'⟩:=r
  cases e with
  | norm =>
   show lim _=lim _;cases hl:lim fun n=>dN f n σ' with
   | some x =>
    obtain⟨n,hn⟩:=cW.1 hl;refine cW.2 ⟨n+1,fun m hm=>?_⟩;obtain⟨m',rfl⟩:∃ m',m=m'+1:=⟨m - 1,by omega⟩
    simp only[dN,h];exact hn m' (by omega)
   | none =>
    cases hl2:lim fun n=>dN f n σ with
    | none=>rfl
    | some x =>
     obtain⟨n,hn⟩:=cW.1 hl2
     have:lim (fun n=>dN f n σ')=some x:=cW.2 ⟨n,fun m hm=>by
      have:=hn (m+1) (by omega)
      simp only[dN,h] at this
      exact this⟩
     rw[hl] at this;cases this
  | ex i =>
   refine cW.2 ⟨1,fun m hm=>?_⟩;obtain⟨m',rfl⟩:∃ m',m=m'+1:=⟨m - 1,by omega⟩
   simp only[dN,h]
  | ret =>
   refine cW.2 ⟨1,fun m hm=>?_⟩;obtain⟨m',rfl⟩:∃ m',m=m'+1:=⟨m - 1,by omega⟩
   simp only[dN,h]
noncomputable def aD (G:aK):ACode->AS->Option (AX × AS)
 | .skip,σ=>some (.norm,σ)
 | .reg _ al ops kill,σ=>(cC G ops (scrub al σ)).map fun σ'=>(.norm,forget kill σ')
 | .seq a b,σ=>match aD G a σ with
  | some (.norm,σ')=>aD G b σ'
  | r=>r
 | .cond c a b,σ=>match ev σ.fr c with
  | .bool t=>if t then aD G a σ else aD G b σ
  | _=>none
 | .block id a,σ=>match aD G a σ with
  | some (.ex i,σ')=>if i=id then some (.norm,σ') else some (.ex i,σ')
  | r=>r
 | .loop kill a,σ=>qE (fun σ=>aD G a (forget kill σ)) σ
 | .exit id,σ=>some (.ex id,σ)
 | .ret,σ=>some (.ret,σ)
noncomputable def z8 (G:aK) (F:AFun) (args:List AV) (sh:LL):Option (AV × LL):=
 if args.length=F.nargs then E5 F sh (aD G F.body (lY args sh)) else none
section
variable {B:aK} {T:FuncId->Option AFun}
noncomputable def Gx (B:aK) (T:FuncId->Option AFun):aK:=fun f args sh=>lim fun n=>nD B T n f args sh
theorem ND {d:Nat} {ml:ML} {k:AK} {xs:List AV} {m:MV} {r:AV × MV} (h:kf (Gx B T) d ml k xs m=some r):∃ n,∀ i,n<=i->kf (nD B T i) d ml k xs m=some r:=by
 have hcall:∀ {f:FuncId} {ys:List AV},g9 (Gx B T) ml f ys m=some r->∃ n,∀ i,n<=i->g9 (nD B T i) ml f ys m=some r:=by
  intro f ys h;unfold g9 at h ⊢
  cases ml with
  | lo s=>cases h
  | sh =>
   simp only at h ⊢
   split at h
   ·rename_i hc
    obtain⟨y,h1,h2⟩:=Option.map_eq_some_iff.1 h;obtain⟨n,hn⟩:=cW.1 h1;refine⟨n,fun i hi=>?_⟩;rw[if_pos hc,hn i hi];exact congrArg some h2
   ·cases h
  | none =>
   simp only at h ⊢
   split at h
   ·rename_i hc
    obtain⟨y,h1,h2⟩:=Option.bind_eq_some_iff.1 h;obtain⟨n,hn⟩:=cW.1 h1;refine⟨n,fun i hi=>?_⟩;rw[if_pos hc,hn i hi];exact h2
   ·cases h
 have hcallR:∀ {f:FuncId} {ys:List AV},gB (Gx B T) ml f ys m=some r->∃ n,∀ i,n<=i->gB (nD B T i) ml f ys m=some r:=by
  intro f ys h;unfold gB at h ⊢
  cases ml with
  | lo s=>cases h
  | none=>cases h
  | sh =>
   simp only at h ⊢;obtain⟨zs,hz,h⟩:=Option.bind_eq_some_iff.1 h;rw[hz];simp only[Option.bind_some]
   split at h
   ·rename_i hc
    obtain⟨y,h1,h2⟩:=Option.bind_eq_some_iff.1 h;obtain⟨n,hn⟩:=cW.1 h1;refine⟨n,fun i hi=>?_⟩;rw[if_pos hc,hn i hi];exact h2
   ·cases h
 cases k
 case call f=>exact hcall h
 case callR f=>exact hcallR h
 case callv =>
  simp only[kf,tX] at h ⊢
  split at h
  ·exact hcall h
  ·cases h
 case callvR =>
  simp only[kf,cJ] at h ⊢
  split at h
  ·exact hcallR h
  ·cases h
 all_goals exact⟨0,fun i _=>h⟩
theorem CR {o:AOper} {σ σ':AS} (h:bJ (Gx B T) o σ=some σ'):∃ n,∀ i,n<=i->bJ (nD B T i) o σ=some σ':=by
 unfold bJ at h ⊢;cases hg:dD σ.fr o.guard with
 | none=>rw[hg] at h;cases h
 | some b =>
  rw[hg] at h
  cases b with
  | false=>exact⟨0,fun i _=>h⟩
  | true =>
   simp only at h ⊢;cases hk:kf (Gx B T) (o.dst.getD 0) o.ml o.k (o.args.map (ev σ.fr)) (rdm σ o.ml) with
   | none=>rw[hk] at h;cases h
   | some r =>
    rw[hk] at h;obtain⟨n,hn⟩:=ND hk;refine⟨n,fun i hi=>?_⟩;rw[hn i hi];exact h
theorem yP:∀ {os:List AOper} {σ σ':AS},cC (Gx B T) os σ=some σ'->∃ n,∀ i,n<=i->cC (nD B T i) os σ=some σ'
 | [],σ,σ',h=>⟨0,fun i _=>h⟩
 | o :: os,σ,σ',h=>by
  simp only[cC] at h ⊢;obtain⟨σ1,h1,h2⟩:=Option.bind_eq_some_iff.1 h;obtain⟨n1,hn1⟩:=CR h1;obtain⟨n2,hn2⟩:=yP h2;refine⟨max n1 n2,fun i hi=>?_⟩;rw[hn1 i (by omega)];exact hn2 i (by omega)
theorem gA:∀ (c:ACode) (σ:AS) (r:AX × AS),aD (Gx B T) c σ=some r->∃ n,∀ i,n<=i->cY i (nD B T i) c σ=some r
 | .skip,σ,r,h=>⟨0,fun i _=>h⟩
 | .exit _,σ,r,h=>⟨0,fun i _=>h⟩
 | .ret,σ,r,h=>⟨0,fun i _=>h⟩
 | .reg _ al ops kill,σ,r,h=>by
  simp only[aD,cY] at h ⊢;obtain⟨σ1,h1,h2⟩:=Option.map_eq_some_iff.1 h;obtain⟨n,hn⟩:=yP h1;refine⟨n,fun i hi=>?_⟩;rw[hn i hi];exact congrArg some h2
 | .cond c a b,σ,r,h=>by
  simp only[aD,cY] at h ⊢
  split at h
  ·rename_i t ht
   rw[ht]
   cases t with
   | true=>exact gA a σ r h
   | false=>exact gA b σ r h
  ·cases h
 | .seq a b,σ,r,h=>by
  simp only[aD,cY] at h ⊢;cases h1:aD (Gx B T) a σ with
  | none=>rw[h1] at h;cases h
  | some q =>
   obtain⟨n1,hn1⟩:=gA a σ q h1;rw[h1] at h;obtain⟨e,σ1⟩:=q
   cases e with
   | norm =>
    obtain⟨n2,hn2⟩:=gA b σ1 r h;refine⟨max n1 n2,fun i hi=>?_⟩;rw[hn1 i (by omega)];exact hn2 i (by omega)
   | ex j=>exact⟨n1,fun i hi=>by rw[hn1 i hi];exact h⟩
   | ret=>exact⟨n1,fun i hi=>by rw[hn1 i hi];exact h⟩
 | .block id a,σ,r,h=>by
  simp only[aD,cY] at h ⊢;cases h1:aD (Gx B T) a σ with
  | none=>rw[h1] at h;cases h
  | some q =>
   obtain⟨n1,hn1⟩:=gA a σ q h1;rw[h1] at h;exact⟨n1,fun i hi=>by rw[hn1 i hi];exact h⟩
 | .loop kill a,σ,r,h=>by
  simp only[aD,cY] at h ⊢;obtain⟨n,hn⟩:=cW.1 h;have key:∀ m σ r,dN (fun σ=>aD (Gx B T) a (forget kill σ)) m σ=some r->∃ n,∀ i,n<=i->dN (fun σ=>cY i (nD B T i) a (forget kill σ)) m σ=some r:=by
   intro m
   induction m with
   | zero=>intro σ r h;simp [dN] at h
   | succ m ih =>
    intro σ r h;simp only[dN] at h ⊢;cases h1:aD (Gx B T) a (forget kill σ) with
    | none=>rw[h1] at h;cases h
    | some q =>
     obtain⟨n1,hn1⟩:=gA a _ q h1;rw[h1] at h;obtain⟨e,σ1⟩:=q
     cases e with
     | norm =>
      obtain⟨n2,hn2⟩:=ih σ1 r h;refine⟨max n1 n2,fun i hi=>?_⟩;rw[hn1 i (by omega)];exact hn2 i (by omega)
     | ex j=>exact⟨n1,fun i hi=>by rw[hn1 i hi];exact h⟩
     | ret=>exact⟨n1,fun i hi=>by rw[hn1 i hi];exact h⟩
  have mono:∀ (f:AS->Option (AX × AS)) m σ r,dN f m σ=some r->∀ m',m<=m'->dN f m' σ=some r:=by
   intro f m
   induction m with
   | zero=>intro σ r h;simp [dN] at h
   | succ m ih =>
    intro σ r h m' hm;obtain⟨m',rfl⟩:∃ k,m'=k+1:=⟨m' - 1,by omega⟩
    simp only[dN] at h ⊢;cases h1:f σ with
    | none=>rw[h1] at h;cases h
    | some q =>
     rw[h1] at h;obtain⟨e,σ1⟩:=q
     cases e with
     | norm=>exact ih σ1 r h m' (by omega)
     | ex j=>exact h
     | ret=>exact h
  obtain⟨n2,hn2⟩:=key n σ r (hn n (Nat.le_refl _));exact⟨max n n2,fun i hi=>mono _ n σ r (hn2 i (by omega)) i (by omega)⟩
theorem T2 {f:FuncId} {F:AFun} {args:List AV} {sh:LL} {r:AV × LL} (hB:B f args sh=none) (hT:T f=some F) (h:z8 (Gx B T) F args sh=some r):Gx B T f args sh=some r:=by
 unfold z8 at h
 split at h
 ·rename_i hlen
  have hex:∃ q,aD (Gx B T) F.body (lY args sh)=some q:=by
   cases hq:aD (Gx B T) F.body (lY args sh) with
   | none=>rw[hq] at h;cases h
   | some q=>exact⟨q,rfl⟩
  obtain⟨q,hq⟩:=hex;obtain⟨n,hn⟩:=gA _ _ _ hq;refine cW.2 ⟨n+1,fun m hm=>?_⟩;obtain⟨m',rfl⟩:∃ k,m=k+1:=⟨m - 1,by omega⟩
  simp only[nD,hB,hT];unfold z9;rw[if_pos hlen,hn m' (by omega),<- hq];exact h
 ·cases h
theorem AZ {f:FuncId} {args:List AV} {sh:LL} {r:AV × LL} (hB:B f args sh=some r):Gx B T f args sh=some r:=
 cW.2 ⟨0,fun m _=>by
  cases m with
  | zero=>exact hB
  | succ m=>simp only[nD,hB]⟩
theorem KF {P:Program} (hmix:P.follows .mixedOrders=true) (hB:gV P B) (hT:∀ f F,T f=some F->pO P f F=true):gV P (Gx B T):=by
 intro f args sh r sh' h;obtain⟨n,hn⟩:=cW.1 h;exact qG hmix hB hT n f args sh r sh' (hn n (Nat.le_refl _))
end
end Go.Av
namespace Go.Av
def aE {α:Type} (d:α):List (Nat × α)->Nat->α
 | [],_=>d
 | (k,v) :: r,t=>if t=k then v else aE d r t
def dJ {α:Type}:List (Nat × α)->Nat->α->List (Nat × α)
 | [],k,v=>[(k,v)]
 | (k',v') :: r,k,v=>if k=k' then (k,v) :: r else if k < k' then (k,v) :: (k',v') :: r else (k',v') :: dJ r k v
theorem eV {α:Type} (d:α) (k:Nat) (v:α) (t:Nat):∀ l,aE d (dJ l k v) t=if t=k then v else aE d l t
 | []=>rfl
 | (k',v') :: r=>by
  simp only[dJ];split
  ·rename_i h
   subst h;simp only[aE]
   split<;>rfl
  ·rename_i h
   split
   ·simp only[aE]
   ·simp only[aE]
    rw[eV d k v t r];by_cases h1:t=k'
    ·subst h1
     rw[if_pos rfl,if_pos rfl,if_neg (fun e=>h e.symm)]
    ·rw[if_neg h1,if_neg h1]
theorem o6 {α:Type} (d:α) (l:List (Nat × α)) (k:Nat) (v:α):upd (aE d l) k v=aE d (dJ l k v):=by
 funext t
 rw[eV];rfl
def f8 (kill:List Nat):List (Nat × AV)->List (Nat × AV)
 | []=>[]
 | (k,v) :: r=>if k∈kill then f8 kill r else (k,aQ kill v) :: f8 kill r
def fF {α:Type} (kill:List Nat):List (Nat × α)->List (Nat × α)
 | []=>[]
 | (k,v) :: r=>if k∈kill then fF kill r else (k,v) :: fF kill r
def s5 (al:List Nat):List (Nat × AV)->List (Nat × AV)
 | []=>[]
 | (k,v) :: r=>(k,aQ al v) :: s5 al r
theorem eF (kill:List Nat) (t:Nat):∀ l,aE .any (f8 kill l) t=if t∈kill then .any else aQ kill (aE .any l t)
 | []=>by simp [f8,aE,aQ]
 | (k,v) :: r=>by
  simp only[f8];by_cases hk:k∈kill
  ·rw[if_pos hk,eF kill t r]
   by_cases ht:t∈kill
   ·simp [ht]
   ·have:t≠k:=by rintro rfl;exact ht hk
    simp [ht,aE,this]
  ·rw[if_neg hk]
   simp only[aE];rw[eF kill t r];by_cases h:t=k
   ·subst h;simp [hk]
   ·simp [h]
theorem u7 (al:List Nat) (t:Nat):∀ l,aE .any (s5 al l) t=aQ al (aE .any l t)
 | []=>by simp [s5,aE,aQ]
 | (k,v) :: r=>by
  simp only[s5,aE];split
  ·rfl
  ·exact u7 al t r
theorem jP {α:Type} (kill:List Nat) (t:Nat):∀ l:List (Nat × Option α),aE none (fF kill l) t=if t∈kill then none else aE none l t
 | []=>by simp [fF,aE]
 | (k,v) :: r=>by
  simp only[fF];by_cases hk:k∈kill
  ·rw[if_pos hk,jP kill t r]
   by_cases ht:t∈kill
   ·simp [ht]
   ·have:t≠k:=by rintro rfl;exact ht hk
    simp [ht,aE,this]
  ·rw[if_neg hk]
   simp only[aE];rw[jP kill t r];by_cases h:t=k
   ·subst h;simp [hk]
   ·simp [h]
def ST (l:List (Nat × AV)) (m:List (Nat × Option (List AV))) (sh:LL):AS:={ fr:=aE .any l,lo:=aE none m,sh:=sh }
variable {l:List (Nat × AV)} {m:List (Nat × Option (List AV))} {sh:LL}
theorem LK (t:Nat):(ST l m sh).fr t=aE .any l t:=rfl
theorem iM:(ST l m sh).fr=aE .any l:=rfl
theorem nF (kill:List Nat):forget kill (ST l m sh)=ST (f8 kill l) (fF kill m) sh:=by
 unfold forget ST;simp only[AS.mk.injEq,and_true];exact⟨by funext t;rw[eF],by funext t;rw[jP]⟩
theorem DC (al:List Nat):scrub al (ST l m sh)=ST (s5 al l) (fF al m) sh:=by
 unfold scrub ST;simp only[AS.mk.injEq,and_true];exact⟨by funext t;rw[u7],by funext t;rw[jP]⟩
theorem BC (σ:AS):scrub [] σ=σ:=by
 unfold scrub;have h1:(fun t=>aQ [] (σ.fr t))=σ.fr:=by
  funext t
  cases σ.fr t<;>simp [aQ]
 have h2:(fun s=>if s∈([]:List Nat) then none else σ.lo s)=σ.lo:=by funext s;simp
 rw[h1,h2]
theorem eO (d:Nat) (v:AV):put (ST l m sh) (some d) v=ST (dJ l d v) m sh:=by
 unfold put ST;simp only[o6]
theorem DO (σ:AS) (v:AV):put σ none v=σ:=rfl
theorem zZ (d:Nat):cI (ST l m sh) (some d)=ST (dJ l d (aH (aE .any l d))) m sh:=by
 unfold cI ST;simp only[o6]
theorem g8 (σ:AS):cI σ none=σ:=rfl
theorem wJ (s:Nat) (v:MV):wrm (ST l m sh) v (.lo s)=ST l (dJ m s v.1) sh:=by
 unfold wrm ST;simp only[o6]
theorem CD (v:MV):wrm (ST l m sh) v .sh=ST l m v.2:=rfl
theorem wZ (s:Nat):rdm (ST l m sh) (.lo s)=(aE none m s,[]):=rfl
theorem gP:rdm (ST l m sh) .sh=(none,sh):=rfl
def rG:Nat->List AV->List (Nat × AV)
 | _,[]=>[]
 | k,a :: as=>(k,a) :: rG (k+1) as
theorem BR (args:List AV) (t:Nat):∀ k,aE .any (rG k args) t=if t < k then .any else (args[t - k]?).getD .any:=by
 induction args with
 | nil=>intro k;simp [rG,aE]
 | cons a as ih =>
  intro k;simp only[rG,aE];rw[ih];by_cases h:t=k
  ·subst h;simp
  ·rw[if_neg h]
   by_cases h2:t < k
   ·rw[if_pos (by omega),if_pos h2]
   ·rw[if_neg (by omega),if_neg h2]
    have:t - k=(t - (k+1))+1:=by omega
    rw[this];simp
theorem ET (args:List AV) (sh:LL):lY args sh=ST (rG 0 args) [] sh:=by
 unfold lY ST;simp only[AS.mk.injEq,and_true];refine⟨?_,by funext s;rfl⟩
 funext t
 rw[BR];simp
end Go.Av
