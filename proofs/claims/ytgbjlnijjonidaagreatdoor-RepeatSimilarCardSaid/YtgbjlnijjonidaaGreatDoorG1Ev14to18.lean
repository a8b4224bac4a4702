/- A part of the frame (Ev14 Ev15 Ev16 Ev17 Ev18). No conditions. -/
import Derived.Test.YtgbjlnijjonidaaGreatDoorG1Ev12to13
import Derived.LoopN
open List
set_option linter.unusedSimpArgs false
set_option linter.unusedVariables false
set_option linter.unusedSectionVars false
set_option maxRecDepth 100000
set_option maxHeartbeats 16000000
namespace Go.Av
variable [Gtab]
open Go.RowKit
def sel (D:Nat->Bool):Nat->List AOper->List AOper
 | _,[]=>[]
 | k,o :: os=>if D k then o :: sel D (k+1) os else sel D (k+1) os
section
variable {G:aL}
theorem iV (D:Nat->Bool) (o:AOper):∀ (l:List AOper) (k:Nat),sel D k (l++[o])=sel D k l++(if D (k+l.length) then [o] else [])
 | [],k=>by simp [sel]
 | p :: l,k=>by
  simp only[cons_append,sel,length_cons];have e:k+(l.length+1)=k+1+l.length:=by omega
  rw[iV D o l (k+1)];simp only[e];by_cases h:D k=true<;>simp [h]
theorem xV {D:Nat->Bool} {p:AOper}:∀ {l:List AOper} {k:Nat},p∈sel D k l->∃ j,l[j]?=some p/\D (k+j)=true
 | [],_,h=>by simp [sel] at h
 | o :: l,k,h=>by
  simp only[sel] at h;have hrec:p∈sel D (k+1) l->∃ j,(o :: l)[j]?=some p/\D (k+j)=true:=fun h=>by
   obtain⟨j,h1,h2⟩:=xV h;exact⟨j+1,by simpa using h1,by rwa [show k+(j+1)=k+1+j from by omega]⟩
  split at h
  ·rename_i hk
   rcases mem_cons.1 h with rfl | h
   ·exact⟨0,rfl,hk⟩
   ·exact hrec h
  ·exact hrec h
theorem eB (l m:List AOper):∀ σ,cD G (l++m) σ=(cD G l σ).bind (cD G m):=by
 induction l with
 | nil=>intro σ;rfl
 | cons o l ih =>
  intro σ;simp only[cons_append,cD]
  cases bO G o σ with
  | none=>rfl
  | some σ1=>exact ih σ1
theorem iW (o:AOper) (σ:AS):cD G [o] σ=bO G o σ:=by
 simp only[cD]
 cases bO G o σ<;>rfl
theorem uZ {o:AOper}:∀ {l:List AOper},(∀ p∈l,nG p o=true)->∀ σ,(cD G l σ).bind (bO G o)=(bO G o σ).bind (cD G l)
 | [],_,σ=>by
  show bO G o σ=_
  cases bO G o σ<;>rfl
 | p :: l,h,σ=>by
  simp only[cD];have h1:((bO G p σ).bind (cD G l)).bind (bO G o)=((bO G p σ).bind (bO G o)).bind (cD G l):=by
   cases bO G p σ with
   | none=>rfl
   | some τ=>exact uZ (fun q hq=>h q (by simp [hq])) τ
  rw[h1,qS (h p (by simp)) σ]
  cases bO G o σ with
  | none=>rfl
  | some τ=>rfl
theorem qT (D:Nat->Bool) (l:List AOper) (h:∀ (j i:Nat) (oj oi:AOper),j < i->l[j]?=some oj->l[i]?=some oi->D j=false->D i=true->nG oj oi=true) :
  ∀ n,n<=l.length->∀ σ,cD G (l.take n) σ=(cD G (sel D 0 (l.take n)) σ).bind (cD G (sel (fun i=>!D i) 0 (l.take n)))
 | 0,_,σ=>by simp [sel,cD]
 | n+1,hn,σ=>by
  have hlt:n < l.length:=by omega
  have htake:l.take (n+1)=l.take n++[l[n]]:=take_succ_eq_append_getElem hlt;rw[htake,eB,qT D l h n (by omega),iV,iV];have hl:0+(l.take n).length=n:=by simp;omega
  rw[hl];by_cases hd:D n=true
  ·have hcomm:∀ p∈sel (fun i=>!D i) 0 (l.take n),nG p l[n]=true:=by
    intro p hp;obtain⟨j,h1,h2⟩:=xV hp;rw[getElem?_take] at h1
    split at h1
    ·rename_i hj
     refine h j n p l[n] hj h1 (getElem?_eq_getElem hlt) ?_ hd;simpa using h2
    ·cases h1
   simp only[hd,if_true,Bool.not_true,Bool.false_eq_true,if_false,append_nil];rw[eB];cases hr:cD G (sel D 0 (l.take n)) σ with
   | none=>rfl
   | some τ =>
    have:=uZ (G:=G) hcomm τ
    show (cD G _ τ).bind (cD G [l[n]])=(cD G [l[n]] τ).bind _;rw[iW,<- this]
    cases cD G (sel (fun i=>!D i) 0 (l.take n)) τ with
    | none=>rfl
    | some υ=>exact iW _ _
  ·have hd':D n=false:=by simpa using hd
   simp only[hd',Bool.false_eq_true,if_false,append_nil,Bool.not_false,if_true];cases hr:cD G (sel D 0 (l.take n)) σ with
   | none=>rfl
   | some τ =>
    show (cD G _ τ).bind (cD G [l[n]])=cD G _ τ;rw[eB]
theorem yV (D:Nat->Bool) (l:List AOper) (i:Nat) (hi:D i=false) (oi:AOper) (hoi:l[i]?=some oi)
  (h:∀ (j:Nat) (oj:AOper),i < j->l[j]?=some oj->D j=true->nG oi oj=true) :
  ∀ n,i < n->n<=l.length->∀ σ,cD G (sel (fun k=>D k || k == i) 0 (l.take n)) σ=(cD G (sel D 0 (l.take n)) σ).bind (bO G oi)
 | 0,h0,_,_=>by omega
 | n+1,h0,hn,σ=>by
  have hlt:n < l.length:=by omega
  have htake:l.take (n+1)=l.take n++[l[n]]:=take_succ_eq_append_getElem hlt;rw[htake,iV,iV];have hl:0+(l.take n).length=n:=by simp;omega
  rw[hl];by_cases he:n=i
  ·subst he
   have hoi':l[n]=oi:=by
    rw[getElem?_eq_getElem hlt] at hoi
    injection hoi
   have hsame:∀ (m:List AOper) (k:Nat),k+m.length<=n->sel (fun k=>D k || k == n) k m=sel D k m:=by
    intro m
    induction m with
    | nil=>intro k _;rfl
    | cons o m ih =>
     intro k hk;simp only[sel];have hne:(k == n)=false:=by simp at hk ⊢;omega
     simp only[hne,Bool.or_false];rw[ih (k+1) (by simp at hk;omega)]
   rw[hsame _ 0 (by simp;omega)];simp only[hi,BEq.rfl,Bool.or_true,if_true,Bool.false_eq_true,if_false,append_nil];rw[eB,hoi']
   cases cD G (sel D 0 (l.take n)) σ with
   | none=>rfl
   | some τ=>exact iW _ _
  ·have hne:(n == i)=false:=by simpa using he
   have hrec:=yV D l i hi oi hoi h n (by omega) (by omega) σ;by_cases hd:D n=true
   ·simp only[hd,Bool.true_or,if_true]
    rw[eB,eB,hrec];have hc:=h n l[n] (by omega) (getElem?_eq_getElem hlt) hd
    cases cD G (sel D 0 (l.take n)) σ with
    | none=>rfl
    | some τ =>
     show (bO G oi τ).bind (cD G [l[n]])=(cD G [l[n]] τ).bind (bO G oi);rw[iW];rw[<- qS hc τ]
     cases bO G oi τ with
     | none=>rfl
     | some υ=>exact iW _ _
   ·have hd':D n=false:=by simpa using hd
    simp only[hd',hne,Bool.or_self,Bool.false_eq_true,if_false,append_nil];exact hrec
end
def eR (o:Oper):List Nat:=(o.after.toList.filter (Region.binds .any)).map (·.on)
def CM (acc:List Nat) (d:List Nat):Nat:=d.foldl (fun m e=>m ||| (2 ^ e) ||| acc.getD e 0) 0
def vA (acc:List Nat):List (List Nat)->List Nat
 | []=>acc
 | d :: ds=>vA (acc++[CM acc d]) ds
theorem uG {acc:List Nat}:∀ {d:List Nat} {m j:Nat},(d.foldl (fun m e=>m ||| (2 ^ e) ||| acc.getD e 0) m).testBit j=true->m.testBit j=true\/∃ e∈d,j=e\/(acc.getD e 0).testBit j=true
 | [],m,j,h=>.inl h
 | e :: d,m,j,h=>by
  simp only[foldl_cons] at h;rcases uG h with h | ⟨e',h1,h2⟩
  ·rw[Nat.testBit_or,Nat.testBit_or,Bool.or_eq_true,Bool.or_eq_true] at h
   rcases h with (h | h) | h
   ·exact .inl h
   ·rw[Nat.testBit_two_pow] at h
    exact .inr ⟨e,by simp,.inl (by simpa using (of_decide_eq_true h).symm)⟩
   ·exact .inr ⟨e,by simp,.inr h⟩
  ·exact .inr ⟨e',by simp [h1],h2⟩
theorem qH {D:Nat->Bool}:∀ {ds:List (List Nat)} {acc:List Nat} (all:Nat->List Nat),(∀ i,(hi:i < ds.length)->all (acc.length+i)=ds[i]) ->
  (∀ i,D i=true->∀ e∈all i,D e=true)->(∀ i j,D i=true->(acc.getD i 0).testBit j=true->D j=true) ->
  ∀ i j,D i=true->((vA acc ds).getD i 0).testBit j=true->D j=true
 | [],acc,all,_,_,hacc=>hacc
 | d :: ds,acc,all,hall,hcl,hacc=>by
  intro i j hi hj;simp only[vA] at hj;refine qH (ds:=ds) (acc:=acc++[CM acc d]) all ?_ hcl ?_ i j hi hj
  ·intro k hk
   have:=hall (k+1) (by simp;omega)
   simp only[length_append,length_singleton];rw[show acc.length+1+k=acc.length+(k+1) from by omega];simpa using this
  ·intro i j hi hj
   by_cases hlt:i < acc.length
   ·rw[getD_eq_getElem?_getD,getElem?_append_left hlt,<- getD_eq_getElem?_getD] at hj
    exact hacc i j hi hj
   ·by_cases he:i=acc.length
    ·subst he
     rw[getD_eq_getElem?_getD,getElem?_append_right (Nat.le_refl _)] at hj;simp at hj;have hd:all acc.length=d:=by
      have:=hall 0 (by simp)
      simpa only [Nat.add_zero,getElem_cons_zero] using this
     rcases uG hj with h | ⟨e,h1,h2⟩
     ·simp at h
     ·have hDe:=hcl _ hi e (by rw[hd];exact h1)
      rcases h2 with rfl | h2
      ·exact hDe
      ·exact hacc e j hDe h2
    ·rw[getD_eq_getElem?_getD,getElem?_eq_none (by simp;omega)] at hj
     simp at hj
def sL (ms:List Nat) (aos:List AOper):Bool:=
 aos.zipIdx.all fun x=>(aos.take x.2).zipIdx.all fun y=>(ms.getD x.2 0).testBit y.2 || nG y.1 x.1
def mZ (ops:Array Oper) (aos:List AOper):Bool:=
 let ds:=ops.toList.map eR
 ds.zipIdx.all (fun x=>x.1.all (· < x.2)) && sL (vA [] ds) aos && aos.length == ops.size
theorem lH {ms:List Nat} {aos:List AOper} (h:sL ms aos=true) {j i:Nat} {oj oi:AOper} (hji:j < i) (hj:aos[j]?=some oj) (hi:aos[i]?=some oi):(ms.getD i 0).testBit j=true\/nG oj oi=true:=by
 unfold sL at h;rw[all_eq_true] at h;have h1:=h (oi,i) (by rw[mk_mem_zipIdx_iff_getElem?];exact hi);simp only at h1;rw[all_eq_true] at h1;have h2:=h1 (oj,j) (by rw[mk_mem_zipIdx_iff_getElem?,getElem?_take_of_lt hji];exact hj);simpa using h2
section
variable {P:Program} {E:Env} {σ σ':AS} {a:Act} {w:World} {Q:Exit->Act->World->Prop} {ops:Array Oper} {G:aL}
theorem uA:∀ {os:List Oper} {aos:List AOper},nQ P E.nt ops os aos=true->∀ {i:Nat} {o:Oper} {ao:AOper},os[i]?=some o->aos[i]?=some ao->okO P E.nt ops o ao=true
 | o :: os,ao :: aos,h,0,_,_,h1,h2=>by
  simp at h1 h2;subst h1;subst h2;simp only[nQ,Bool.and_eq_true] at h;exact h.1
 | o :: os,ao :: aos,h,i+1,_,_,h1,h2=>by
  simp only[nQ,Bool.and_eq_true] at h;exact uA h.2 (i:=i) (by simpa using h1) (by simpa using h2)
 | [],_,_,_,_,_,h1,_=>by simp at h1
 | _ :: _,[],h,_,_,_,_,_=>by simp [nQ] at h
def unl (n:Nat) (D:Nat->Bool):Nat:=((List.range n).filter fun i=>!D i).length
theorem JP {n i:Nat} {D:Nat->Bool} (hi:i < n) (hD:D i=false):unl n (fun k=>D k || k == i) < unl n D:=by
 unfold unl;have h1:(List.range n).filter (fun k=>!(D k || k == i))=((List.range n).filter fun k=>!D k).filter (fun k=>!(k == i)):=by
  rw[filter_filter]
  congr 1
  funext k
  cases D k<;>simp
 rw[h1];refine length_filter_lt_length_iff_exists.2 ⟨i,?_,by simp⟩;simp [hi,hD]
theorem wG (hG:gM P G) {aos:List AOper} (hok:nQ P E.nt ops ops.toList aos=true) (hdr:mZ ops aos=true) (hrun:cD G aos σ=some σ') (hQ:∀ a w,aR E σ' a w->Q .normal a w) :
  ∀ (fuel:Nat) (listed:Array Bool) (a:Act) (w:World),listed.size=ops.size->unl ops.size (fun i=>listed.getD i false)<=fuel ->
   (∀ i,listed.getD i false=true->∀ e∈eR (ops.getD i default),listed.getD e false=true) ->
   (∀ τ,cD G (sel (fun i=>listed.getD i false) 0 aos) σ=some τ->aR E τ a w)->wpAny P .any ops Q fuel listed a w:=by
 unfold mZ at hdr;simp only[Bool.and_eq_true] at hdr;obtain⟨⟨hlt,hpairs⟩,hlen⟩:=hdr;have hlen:aos.length=ops.size:=by simpa using hlen
 have hdlt:∀ i,i < ops.size->∀ e∈eR (ops.getD i default),e < i:=by
  intro i hi e he;rw[all_eq_true] at hlt;have h1:=hlt (eR (ops.getD i default),i) (by rw[mk_mem_zipIdx_iff_getElem?];simp [hi,Array.getD_eq_getD_getElem?]);rw[all_eq_true] at h1;simpa using h1 e he
 have hanc:∀ D:Nat->Bool,(∀ i,D i=true->∀ e∈eR (ops.getD i default),D e=true)->∀ i j,D i=true->((vA [] (ops.toList.map eR)).getD i 0).testBit j=true->D j=true:=by
  intro D hD;refine qH (acc:=[]) (fun i=>eR (ops.getD i default)) (fun i hi=>?_) hD (fun i j _ h=>by simp at h);simp at hi;simp [hi,Array.getD_eq_getD_getElem?]
 have hsplit:∀ D:Nat->Bool,(∀ i,D i=true->∀ e∈eR (ops.getD i default),D e=true)->cD G aos σ=(cD G (sel D 0 aos) σ).bind (cD G (sel (fun i=>!D i) 0 aos)):=by
  intro D hD
  have:=qT (G:=G) D aos (fun j i oj oi hji hj hi hDj hDi=>by
   rcases lH hpairs hji hj hi with h | h
   ·have:=hanc D hD i j hDi h
    rw[hDj] at this;cases this
   ·exact h) aos.length (Nat.le_refl _) σ
  simpa using this
 have hselall:∀ (D:Nat->Bool) (l:List AOper) (k:Nat),(∀ i,i < k+l.length->D i=true)->sel D k l=l:=by
  intro D l
  induction l with
  | nil=>intro k _;rfl
  | cons o l ih =>
   intro k h;simp only[sel];rw[if_pos (h k (by simp)),ih (k+1) (fun i hi=>h i (by simp at hi ⊢;omega))]
 intro fuel
 induction fuel with
 | zero =>
  intro listed a w hsz hun hcl hpost;have hall:∀ i,i < ops.size->listed.getD i false=true:=by
   intro i hi;have h0:unl ops.size (fun i=>listed.getD i false)=0:=by omega
   unfold unl at h0
   have:=eq_nil_of_length_eq_zero h0
   rw[filter_eq_nil_iff] at this;simpa using this i (by simp [hi])
  refine⟨?_,hQ _ _ (hpost _ ?_)⟩
  ·unfold Region.ready
   rw[filter_eq_nil_iff];intro i hi;have hi':i < ops.size:=by simpa using hi
   have h1:=hall i hi';have h2:listed.getD i true=true:=by
    simp only[Array.getD_eq_getD_getElem?] at h1 ⊢;rw[Array.getElem?_eq_getElem (by omega)] at h1 ⊢;exact h1
   simp [h2]
  ·rw[hselall _ aos 0 (fun i hi=>hall i (by omega))];exact hrun
 | succ fuel ih =>
  intro listed a w hsz hun hcl hpost;have hgd:∀ i,i < ops.size->listed.getD i true=listed.getD i false:=by
   intro i hi;simp only[Array.getD_eq_getD_getElem?];rw[Array.getElem?_eq_getElem (by omega)];rfl
  have hτ:∃ τ,cD G (sel (fun i=>listed.getD i false) 0 aos) σ=some τ:=by
   have h1:=hsplit _ hcl;rw[hrun] at h1;obtain⟨τ,h2,_⟩:=Option.bind_eq_some_iff.1 h1.symm;exact⟨τ,h2⟩
  obtain⟨τ,hτ⟩:=hτ;have hpo:=hpost τ hτ;refine⟨fun hr=>?_,fun i hi=>?_⟩
  ·
   have hall:∀ i,i < ops.size->listed.getD i false=true:=by
    intro i
    induction i using Nat.strongRecOn with
    | _ i ihi =>
     intro hi;unfold Region.ready at hr;rw[filter_eq_nil_iff] at hr;have h1:=hr i (by simp [hi]);have h2:(((ops[i]?).map (·.after.all fun e=>!Region.binds .any e || listed.getD e.on false)).getD false)=true:=by
      rw[Array.getElem?_eq_getElem hi];simp only[Option.map_some,Option.getD_some,Array.all_eq_true_iff_forall_mem];intro e he;by_cases hb:Region.binds .any e=true
      ·have hmem:e.on∈eR (ops.getD i default):=by
        unfold eR;rw[mem_map];refine⟨e,?_,rfl⟩;rw[mem_filter];refine⟨?_,hb⟩;simpa [Array.getD_eq_getD_getElem?,hi] using he
       have hlt':=hdlt i hi _ hmem;rw[ihi _ hlt' (by omega)];simp
      ·simp only[Bool.not_eq_true] at hb
       simp [hb]
     rw[h2,hgd i hi] at h1;simpa using h1
   refine hQ _ _ (hpost _ ?_);rw[hselall _ aos 0 (fun i hi=>hall i (by omega))];exact hrun
  ·unfold Region.ready at hi
   rw[mem_filter] at hi;obtain⟨hi1,hi2⟩:=hi;have hin:i < ops.size:=by simpa using hi1
   rw[Bool.and_eq_true] at hi2;obtain⟨hi3,hi4⟩:=hi2;have hDi:listed.getD i false=false:=by rw[<- hgd i hin];simpa using hi3
   have hoi:ops[i]?=some ops[i]:=Array.getElem?_eq_getElem hin;have hai:aos[i]?=some (aos[i]'(by omega)):=getElem?_eq_getElem (by omega);have hdeps:∀ e∈eR (ops.getD i default),listed.getD e false=true:=by
    intro e he;unfold eR at he;rw[mem_map] at he;obtain⟨ed,he1,rfl⟩:=he;rw[mem_filter] at he1;rw[hoi] at hi4;simp only[Option.map_some,Option.getD_some,Array.all_eq_true_iff_forall_mem] at hi4
    have:=hi4 ed (by simpa [Array.getD_eq_getD_getElem?,hin] using he1.1)
    rw[he1.2] at this;simpa using this
   have hset:∀ k,(listed.setIfInBounds i true).getD k false=(listed.getD k false || k == i):=by
    intro k;simp only[Array.getD_eq_getD_getElem?,Array.getElem?_setIfInBounds];by_cases hk:i=k
    ·subst hk;simp [hsz,hin]
    ·have:(k == i)=false:=by simp;exact fun e=>hk e.symm
     simp [hk,this]
   have hfun:(fun k=>(listed.setIfInBounds i true).getD k false)=fun k=>listed.getD k false || k == i:=funext hset
   have hcl':∀ k,(listed.setIfInBounds i true).getD k false=true->∀ e∈eR (ops.getD k default),(listed.setIfInBounds i true).getD e false=true:=by
    intro k hk e he;rw[hset] at hk ⊢;rw[Bool.or_eq_true] at hk ⊢;rcases hk with hk | hk
    ·exact .inl (hcl k hk e he)
    ·have:k=i:=by simpa using hk
     subst this;exact .inl (hdeps e he)
   have hadd:=yV (G:=G) (fun k=>listed.getD k false) aos i hDi _ hai (fun j oj hij hj hDj=>by
    rcases lH hpairs hij hai hj with h | h
    ·have this:listed.getD i false=true:=hanc _ hcl j i hDj h
     rw[hDi] at this;cases this
    ·exact h) aos.length (by omega) (Nat.le_refl _) σ
   simp only[take_length] at hadd;rw[hτ] at hadd;have hτ':∃ τ',bO G (aos[i]'(by omega)) τ=some τ':=by
    have h1:=hsplit _ hcl';rw[hrun,hfun,hadd] at h1;obtain⟨τ',h2,_⟩:=Option.bind_eq_some_iff.1 h1.symm;exact⟨τ',h2⟩
   obtain⟨τ',hτ'⟩:=hτ';have hok1:=uA hok (i:=i) (by rw[Array.getElem?_toList];exact hoi) hai;obtain⟨g,hsim⟩:=hpo;have hst:=oT (Q:=Q) hG hsim hok1 hτ';have hnext:∀ a w,aR E τ' a w->wpAny P .any ops Q fuel (listed.setIfInBounds i true) a w:=by
    intro a w hp;refine ih _ a w (by simpa using hsz) ?_ hcl' ?_
    ·rw[hfun]
     have:=JP (D:=fun k=>listed.getD k false) hin hDi
     omega
    ·intro υ hυ
     rw[hfun,hadd] at hυ
     have:υ=τ':=by
      have h2:bO G (aos[i]'(by omega)) τ=some υ:=hυ;rw[hτ'] at h2
      injection h2 with h2
      exact h2.symm
     rw[this];exact hp
   unfold wpOp;rw[hoi];simp only;split
   ·rename_i hw
    rw[if_pos hw] at hst;exact .inl (Oper.wp_mono hnext hst)
   ·rename_i hw
    rw[if_neg hw] at hst;exact hnext _ _ hst
end
end Go.Av
namespace Go.Av
variable [Gtab]
open Go.RowKit
def n9:List AOper->Bool
 | ⟨_,.mv,[],.none,none,none⟩ :: _=>true
 | _=>false
theorem vN {G:aL} {os:List AOper} {σ:AS} (h:n9 os=true):cD G os σ=none:=by
 unfold n9 at h
 split at h
 ·rfl
 ·cases h
def c7 (P:Program) (nt:Nat):Code->ACode->Bool
 | .skip,.skip=>true
 | .label _,.skip=>true
 | .region _ ops draw,.reg draw' _ aos _=>n9 aos || draw == draw' && nQ P nt ops ops.toList aos && (!draw || mZ ops aos)
 | .seq a b,.seq a' b'=>c7 P nt a a' && c7 P nt b b'
 | .cond c x y,.cond r x' y'=>okR c r && c7 P nt x x' && c7 P nt y y'
 | .block id a,.block id' a'=>id == id' && c7 P nt a a'
 | .loop a,.loop _ a'=>c7 P nt a a'
 | .exit id,.exit id'=>id == id'
 | .ret,.ret=>true
 | _,_=>false
def xp:AX->Exit
 | .norm=>.normal
 | .ex i=>.exit i
 | .ret=>.ret
section
variable {P:Program} {E:Env} {a:Act} {w:World} {G:aL}
theorem aR.scrub {σ:AS} (h:aR E σ a w) (al:List Nat):aR E (Av.scrub al σ) a w:=by
 obtain⟨g,h⟩:=h;exact⟨g,h.scrub_ al⟩
theorem aR.forget {σ:AS} (h:aR E σ a w) (kl:List Nat):aR E (Av.forget kl σ) a w:=by
 obtain⟨g,h⟩:=h;exact⟨g,h.forget_ kl⟩
theorem z4 (hmix:P.follows .mixedOrders=true) (hG:gM P G) {id:Nat} {ops:Array Oper} {draw:Bool} {aos:List AOper} (hok:nQ P E.nt ops ops.toList aos=true) (hdr:(!draw || mZ ops aos)=true)
  {σ σ':AS} (hp:aR E σ a w) (hr:cD G aos σ=some σ') {Q:Exit->Act->World->Prop} (hQ:∀ a w,aR E σ' a w->Q .normal a w):(Code.region id ops draw).wp P Q a w:=by
 cases draw with
 | false=>exact wp_region_list (kI hG hok hp hr hQ)
 | true =>
  have hd:mZ ops aos=true:=by simpa using hdr
  obtain⟨g,hs⟩:=hp;have hfalse:∀ i,(Array.replicate ops.size false).getD i false=false:=by
   intro i;simp only[Array.getD_eq_getD_getElem?,Array.getElem?_replicate]
   split<;>rfl
  refine wp_region_any hmix (wG hG hok hd hr hQ ops.size _ _ _ (by simp) ?_ ?_ ?_)
  ·unfold unl
   exact Nat.le_trans (length_filter_le _ _) (by simp)
  ·intro i hi
   rw[hfalse] at hi;cases hi
  ·intro τ hτ
   have hnil:∀ (l:List AOper) (k:Nat),sel (fun i=>(Array.replicate ops.size false).getD i false) k l=[]:=by
    intro l
    induction l with
    | nil=>intro k;rfl
    | cons o l ih =>
     intro k;simp only[sel];rw[if_neg (by rw[hfalse];simp)];exact ih (k+1)
   rw[hnil] at hτ;simp only[cD,Option.some.injEq] at hτ;subst hτ;exact⟨_,hs.drawn _⟩
theorem d8 (hmix:P.follows .mixedOrders=true) (hG:gM P G) (n:Nat):∀ (C:Code) (c:ACode) (σ σ':AS) (e:AX) (a:Act) (w:World) (Q:Exit->Act->World->Prop),c7 P E.nt C c=true->cX n G c σ=some (e,σ')->aR E σ a w ->
  (∀ a w,aR E σ' a w->Q (xp e) a w)->C.wp P Q a w
 | .skip,.skip,σ,σ',e,a,w,Q,_,hx,hp,hQ=>by
  simp only[cX,Option.some.injEq,Prod.mk.injEq] at hx;obtain⟨rfl,rfl⟩:=hx;exact wp_skip (hQ a w hp)
 | .label _,.skip,σ,σ',e,a,w,Q,_,hx,hp,hQ=>by
  simp only[cX,Option.some.injEq,Prod.mk.injEq] at hx;obtain⟨rfl,rfl⟩:=hx;exact wp_label (hQ a w hp)
 | .region id ops draw,.reg draw' al aos kill,σ,σ',e,a,w,Q,hok,hx,hp,hQ=>by
  simp only[c7,Bool.and_eq_true,Bool.or_eq_true] at hok;simp only[cX] at hx;obtain⟨σ1,h4,h5⟩:=Option.map_eq_some_iff.1 hx;have hns:¬ n9 aos=true:=fun h=>by rw[vN h] at h4;cases h4
  obtain⟨⟨_,h2⟩,h3⟩:=hok.resolve_left hns;have h3:(!draw || mZ ops aos)=true:=by simpa using h3
  simp only[Prod.mk.injEq] at h5;obtain⟨rfl,rfl⟩:=h5;exact z4 hmix hG h2 h3 (hp.scrub al) h4 (fun a w h=>hQ a w (h.forget kill))
 | .seq x y,.seq x' y',σ,σ',e,a,w,Q,hok,hx,hp,hQ=>by
  simp only[c7,Bool.and_eq_true] at hok;simp only[cX] at hx;refine wp_seq ?_;cases h1:cX n G x' σ with
  | none=>rw[h1] at hx;cases hx
  | some r =>
   obtain⟨e1,σ1⟩:=r;rw[h1] at hx;refine d8 hmix hG n x x' σ σ1 e1 a w _ hok.1 h1 hp fun a1 w1 hp1=>?_
   cases e1 with
   | norm=>exact d8 hmix hG n y y' σ1 σ' e a1 w1 Q hok.2 hx hp1 hQ
   | ex i =>
    simp only[Option.some.injEq,Prod.mk.injEq] at hx;obtain⟨rfl,rfl⟩:=hx;exact hQ _ _ hp1
   | ret =>
    simp only[Option.some.injEq,Prod.mk.injEq] at hx;obtain⟨rfl,rfl⟩:=hx;exact hQ _ _ hp1
 | .cond c x y,.cond r x' y',σ,σ',e,a,w,Q,hok,hx,hp,hQ=>by
  simp only[c7,Bool.and_eq_true] at hok;obtain⟨⟨h1,h2⟩,h3⟩:=hok;simp only[cX] at hx;obtain⟨g,hs⟩:=hp
  split at hx
  ·rename_i t ht
   have hb:=hs.rdBool h1 ht;refine wp_cond hb ?_
   cases t with
   | true=>exact d8 hmix hG n x x' σ σ' e a w Q h2 hx ⟨g,hs⟩ hQ
   | false=>exact d8 hmix hG n y y' σ σ' e a w Q h3 hx ⟨g,hs⟩ hQ
  ·cases hx
 | .block id x,.block id' x',σ,σ',e,a,w,Q,hok,hx,hp,hQ=>by
  simp only[c7,Bool.and_eq_true] at hok;have hid:id=id':=by simpa using hok.1
  subst hid;simp only[cX] at hx;refine wp_block ?_;cases h1:cX n G x' σ with
  | none=>rw[h1] at hx;cases hx
  | some r =>
   obtain⟨e1,σ1⟩:=r;rw[h1] at hx;refine d8 hmix hG n x x' σ σ1 e1 a w _ hok.2 h1 hp fun a1 w1 hp1=>?_
   cases e1 with
   | norm =>
    simp only[Option.some.injEq,Prod.mk.injEq] at hx;obtain⟨rfl,rfl⟩:=hx;exact hQ _ _ hp1
   | ex i =>
    show if i=id then Q .normal a1 w1 else Q (.exit i) a1 w1
    simp only at hx
    split at hx
    ·rename_i he
     rw[if_pos he];simp only[Option.some.injEq,Prod.mk.injEq] at hx;obtain⟨rfl,rfl⟩:=hx;exact hQ _ _ hp1
    ·rename_i he
     rw[if_neg he];simp only[Option.some.injEq,Prod.mk.injEq] at hx;obtain⟨rfl,rfl⟩:=hx;exact hQ _ _ hp1
   | ret =>
    simp only[Option.some.injEq,Prod.mk.injEq] at hx;obtain⟨rfl,rfl⟩:=hx;exact hQ _ _ hp1
 | .loop x,.loop kill x',σ,σ',e,a,w,Q,hok,hx,hp,hQ=>by
  simp only[c7] at hok;simp only[cX] at hx;refine wp_loop_rounds n ?_;have key:∀ m σ a w,dI (fun σ=>cX n G x' (forget kill σ)) m σ=some (e,σ')->aR E σ a w->Code.rounds P x Q m a w:=by
   intro m
   induction m with
   | zero=>intro σ a w h;simp [dI] at h
   | succ m ih =>
    intro σ a w h hp;rw[rounds_succ];simp only[dI] at h;cases h1:cX n G x' (forget kill σ) with
    | none=>rw[h1] at h;cases h
    | some r =>
     obtain⟨e1,σ1⟩:=r;rw[h1] at h;refine d8 hmix hG n x x' (forget kill σ) σ1 e1 a w _ hok h1 (hp.forget kill) fun a1 w1 hp1=>?_
     cases e1 with
     | norm=>exact ih σ1 a1 w1 h hp1
     | ex i =>
      simp only[Option.some.injEq,Prod.mk.injEq] at h;obtain⟨rfl,rfl⟩:=h;exact hQ _ _ hp1
     | ret =>
      simp only[Option.some.injEq,Prod.mk.injEq] at h;obtain⟨rfl,rfl⟩:=h;exact hQ _ _ hp1
  exact key n σ a w hx hp
 | .exit id,.exit id',σ,σ',e,a,w,Q,hok,hx,hp,hQ=>by
  simp only[c7] at hok;have hid:id=id':=by simpa using hok
  subst hid;simp only[cX,Option.some.injEq,Prod.mk.injEq] at hx;obtain⟨rfl,rfl⟩:=hx;exact wp_exit (hQ a w hp)
 | .ret,.ret,σ,σ',e,a,w,Q,hok,hx,hp,hQ=>by
  simp only[cX,Option.some.injEq,Prod.mk.injEq] at hx;obtain⟨rfl,rfl⟩:=hx;exact wp_ret (hQ a w hp)
end
def eK (P:Program):List ResultVar->List ARes->Bool
 | [],[]=>true
 | .tmp t :: rs,.tmp t' :: as=>t == t' && eK P rs as
 | .tmp t :: rs,.tmpD t' :: as=>t == t' && eK P rs as
 | .cell s t :: rs,.cell s' agg n :: as=>s == s' && dD P t agg n && eK P rs as
 | _,_=>false
def pA (P:Program) (f:FuncId) (F:AFun):Bool:=
 match P.funcs[f]? with
 | some fn=>(match fn.body with | some C=>c7 P fn.ntmps C F.body | none=>false) && decide (F.nargs<=fn.ntmps) && eK P fn.results.toList F.res && !(fn.name == "runtime.NumGoroutine")
 | none=>false
end Go.Av
namespace Go.Av
variable [Gtab]
open Go.RowKit
theorem DV {c:Cx} {ow:Value->Nat->Nat->Prop} {args:List AV} {vs:Array Value} (h:aI (aK c ow) args vs.toList) (n:Nat) (t:Nat) :
  aK c ow ((args[t]?).getD .any) ((vs++Array.replicate n undef).getD t undef):=by
 cases hx:args[t]? with
 | none=>exact trivial
 | some x =>
  obtain⟨v,h1,h2⟩:=h.get hx;have hv:vs[t]?=some v:=by simpa using h1
  have hlt:=(Array.getElem?_eq_some_iff.1 hv).1
  have:(vs++Array.replicate n undef).getD t undef=v:=by
   rw[Array.getD_eq_getD_getElem?,Array.getElem?_append_left hlt,hv];rfl
  rw[this];exact h2
section
variable {P:Program} {E:Env} {a:Act} {w:World} {G:aL} {g:Gh} {σ:AS}
noncomputable def kdF (kd:Nat->BK) (β:Nat->Nat) (n:Nat) (b:Nat):BK:=
 open Classical in if ∃ i,i < n/\β i=b then kd b else match kd b with | .shr _=>.stab | .loc _=>.stab | x=>x
theorem yB {kd:Nat->BK} {β:Nat->Nat} {n i:Nat} (hi:i < n):kdF kd β n (β i)=kd (β i):=by
 unfold kdF;rw[if_pos ⟨i,hi,rfl⟩]
theorem CY {kd:Nat->BK} {β:Nat->Nat} {n b:Nat} (h:kd b=.stab):kdF kd β n b=.stab:=by
 unfold kdF;split<;>simp [h]
theorem n8 {kd:Nat->BK} {β:Nat->Nat} {n b k:Nat} {t:Ow}:kdF kd β n b=.own t k↔kd b=.own t k:=by
 unfold kdF;split
 ·exact Iff.rfl
 ·cases h:kd b<;>simp
theorem CZ {kd:Nat->BK} {β:Nat->Nat} {n b i:Nat} (h:kd b=.shr i) (hb:∀ j,j < n->β j≠b):kdF kd β n b=.stab:=by
 unfold kdF;rw[if_neg (by rintro ⟨j,h1,h2⟩;exact hb j h1 h2),h]
theorem SS.out (hs:Sim E g σ a w) {n:Nat}:∀ b m,SS E g w b m->S1 E.S0 E.w0 w (kdF g.kd g.β n) b m:=by
 rintro b m (⟨_,h⟩ | ⟨h1,h2,h3⟩ | ⟨h1,t,k,h2,h3⟩)
 ·exact .inl h
 ·exact .inr (.inl ⟨h1,h2,CY h3⟩)
 ·exact .inr (.inr ⟨h1,t,k,n8.2 h2,h3⟩)
theorem sM (hs:Sim E g σ a w) {n:Nat} {k:Bool} (hk:k=true->n=σ.sh.length) {x:AV} {v:Value} (ho:kF k x=true) (r:aK (cx E g σ w) aN x v) :
  aJ (cx0 g.β g.bs (S1 E.S0 E.w0 w (kdF g.kd g.β n)) w n) x v:=by
 have hm:∀ b m,SS E g w b m->S1 E.S0 E.w0 w (kdF g.kd g.β n) b m/\w.cell? ⟨b,m,none⟩=w.cell? ⟨b,m,none⟩:=fun b m h=>⟨SS.out hs b m h,rfl⟩
 cases x with
 | int=>exact r
 | bool=>exact r
 | nilp=>exact r
 | str s =>
  have r':aD (SS E g w) w (.str s) v:=r;exact aD.mono hm _ _ r'
 | sl m z l =>
  cases m with
  | own=>exact r.2.elim
  | no =>
   have r':aD (SS E g w) w (.sl .no z l) v:=r;exact aD.mono hm _ _ r'
  | full =>
   have r':aD (SS E g w) w (.sl .full z l) v:=r;exact aD.mono hm _ _ r'
 | agg l =>
  obtain⟨cs,h1,h2⟩:=r;exact⟨cs,h1,h2.mono (aD.mono hm)⟩
 | ptr o off =>
  have hkt:k=true:=by simpa [kF] using ho
  have r':o < σ.sh.length/\v=_:=r;exact⟨by rw[show (cx0 g.β g.bs (S1 E.S0 E.w0 w (kdF g.kd g.β n)) w n).shn=n from rfl,hk hkt];exact r'.1,r'.2⟩
 | ss o off m z =>
  have hkt:k=true:=by simpa [kF] using ho
  have r':o < σ.sh.length/\_:=r;exact⟨by rw[show (cx0 g.β g.bs (S1 E.S0 E.w0 w (kdF g.kd g.β n)) w n).shn=n from rfl,hk hkt];exact r'.1,r'.2⟩
 | mp o =>
  have hkt:k=true:=by simpa [kF] using ho
  have r':o < σ.sh.length/\_:=r;exact⟨by rw[show (cx0 g.β g.bs (S1 E.S0 E.w0 w (kdF g.kd g.β n)) w n).shn=n from rfl,hk hkt];exact r'.1,r'.2⟩
 | _=>simp [kF,CC] at ho
theorem AJ (x:AV):aH (aH x)=aH x:=by
 cases x with
 | sl m z l=>cases m<;>rfl
 | _=>rfl
theorem AI (x:AV):aH (dO x)=dO x:=by cases x<;>rfl
theorem aJ.topT {c:Cx} {ow:Value->Nat->Nat->Prop} {x:AV} {v:Value} (hd:aH x=x) (h:aJ c x v):aK c ow x v:=by
 cases x with
 | sl m z l =>
  cases m with
  | own=>simp [aH] at hd
  | no=>exact h
  | full=>exact h
 | any=>simp [aJ,aD] at h
 | undef=>simp [aJ,aD] at h
 | loc=>simp [aJ,aD] at h
 | ip=>simp [aJ,aD] at h
 | fn=>simp [aJ,aD] at h
 | tup=>simp [aJ,aD] at h
 | mapv=>simp [aJ,aD] at h
 | aggR=>simp [aJ,aD] at h
 | _=>exact h
theorem mT {c:List AV}:eQ c=true↔c=bJ:=by
 unfold eQ bJ;split
 ·simp
 ·rename_i h
  constructor
  ·intro h;cases h
  ·intro e;exact absurd e h
theorem lB:∀ {xs ys:LL},cZ xs ys=true->∀ {j:Nat} {x:List AV},xs[j]?=some x->ys[j]?=some bJ->eQ x=true
 | x :: xs,y :: ys,h,0,u,hu,hy=>by
  simp only[cZ,Bool.and_eq_true,Bool.or_eq_true] at h;simp at hu hy;subst hu;subst hy;rcases h.1 with h | h
  ·exact h
  ·simp [eQ,bJ] at h
 | x :: xs,y :: ys,h,j+1,u,hu,hy=>by
  simp only[cZ,Bool.and_eq_true] at h;exact lB h.2 (j:=j) (by simpa using hu) (by simpa using hy)
 | [],_,_,_,_,hu,_=>by simp at hu
 | _ :: _,[],h,_,_,_,_=>by simp [cZ] at h
theorem G5 (hs:Sim E g σ a w) {sh0:LL} {k:Bool} {n:Nat} (hn:n=if k then σ.sh.length else sh0.length) (hn0:E.n0=sh0.length) (hβ:∀ i,i < E.n0->E.β0 i < E.w0.heap.size)
  (hD:∀ (j:Nat) (x:List AV),sh0[j]?=some x->eQ x=true->E.D0 j=true) {x y:AV} {v:Value} (hdx:aH x=x) (hy:fZ k sh0 σ.sh x=some y) (ho:kF k y=true) (r:aK (cx E g σ w) aN x v) :
  aJ (cx0 g.β g.bs (S1 E.S0 E.w0 w (kdF g.kd g.β n)) w n) y v/\aH y=y:=by
 by_cases hss:∃ o off m z,x=.ss o off m z
 ·obtain⟨o,off,m,z,rfl⟩:=hss
  simp only[fZ] at hy
  split at hy
  ·rename_i hk
   cases hy;exact⟨sM hs (fun _=>by rw[hn,if_pos hk]) ho r,rfl⟩
  ·rename_i hk
   split at hy
   ·rename_i hc
    obtain⟨hc1,hc2⟩:=hc;simp only[jV] at hy;obtain⟨cells,h1,h2⟩:=Option.bind_eq_some_iff.1 hy;obtain⟨l,h3,h4⟩:=Option.map_eq_some_iff.1 h2;subst h4;refine⟨?_,rfl⟩;obtain⟨e0,cp,rfl,e2,e3⟩:o < σ.sh.length/\∃ cp,v=.slice (some ⟨g.β o,off,none⟩) m cp/\m<=cp/\ssz off cp z (g.bs o):=r;show aD _ w (.sl .no z l) _;simp only[aD];by_cases hn0':m=0
    ·have hl:l.length=0:=by
      unfold cN at h3
      split at h3
      ·cases h3;subst hn0';simp [cH]
      ·cases h3
     have hl':=eq_nil_of_length_eq_zero hl;exact⟨_,cp,by rw[hl,hn0'],by omega,by simp,by simp,.inl hl'⟩
    ·have hd:cells≠bJ/\bV cells=true:=by
      have hc:0 < z/\off+m*z<=cells.length/\((cells.drop off).take (m*z)).all (fun x=>a8 (aH x))=true:=by
       unfold cN at h3
       split at h3
       ·assumption
       ·cases h3
      obtain⟨hz,hlen,hall⟩:=hc;have hpos:0 < m*z:=Nat.mul_pos (by omega) hz;have key:∀ y,cells=[y]->a8 (aH y)=true:=by
       rintro y rfl
       have:off=0/\m*z=1:=by simp at hlen;omega
       obtain⟨rfl,h1⟩:=this;rw[h1] at hall;simpa using hall
      refine⟨fun e=>?_,?_⟩
      ·have:=key _ e;simp [aH,a8] at this
      ·unfold bV
       split
       ·have:=key _ rfl;simp [aH,a8] at this
       ·have:=key _ rfl;simp [aH,a8] at this
       ·rfl
     obtain⟨f1,hob,_⟩:=hs.shr o cells h1 hd.1;have hnew:E.w0.heap.size<=g.β o:=by
      rcases hs.shr1 o e0 (by omega) with h9 | ⟨j,h9,h10,h11,h12⟩
      ·exact h9
      ·exfalso
       have hjl:j < sh0.length:=by omega
       have:=lB hc2 (getElem?_eq_getElem hjl) h12
       have:=hD j _ (getElem?_eq_getElem hjl) this
       rw[h11] at this;cases this
     have hkd:kdF g.kd g.β n (g.β o)=.stab:=by
      refine CZ f1 (fun j hj e=>?_);have hkf:k=false:=by simpa using hk
      rw[hn,hkf] at hj;simp at hj;have h9:=(hs.shr0 j (by omega)).1;have h10:=hβ j (by omega);omega
     have hlt:=hs.shrlt o e0;obtain⟨_,r1,r2,r3,_⟩:=mK (S':=S1 E.S0 E.w0 w (kdF g.kd g.β n)) h3 (hob hd.2) (fun b' n h=>⟨SS.out hs b' n h,rfl⟩) (fun _=>.inr (.inl ⟨hnew,hlt,hkd⟩));exact⟨_,cp,by rw[r1],by rw[r1];exact e2,by simp,by simp,.inr ⟨_,_,rfl,r3⟩⟩
   ·cases hy
 ·have hxy:y=x:=by
   unfold fZ at hy
   split at hy
   ·rename_i o off m z
    exact absurd ⟨o,off,m,z,rfl⟩ hss
   ·cases hy;rfl
  subst hxy;refine⟨?_,hdx⟩;by_cases hk:k=true
  ·exact sM hs (fun _=>by rw[hn,if_pos hk]) ho r
  ·exact sM hs (k:=k) (fun h=>absurd h hk) ho r
def kE (tmps:Array Value):ResultVar->Sem Value
 | .tmp t=>pure (tmps.getD t undef)
 | .cell s t=>do loadVar t (<- asAddr (tmps.getD s undef))
theorem x7 {c:Cx} {t:TypeId} {agg:Bool} {n off b:Nat} (hsz:dD P t agg n=true) {cells:List AV} {v:AV} (ht:ldC agg off n cells=some v) {ow:Nat->Value->Nat->Nat->Prop} {m:Nat} (hb:jT c ow w b m cells) :
  ∃ val,(loadVar t ⟨b,off,none⟩).run P w=.ok val w/\aK c aN v val/\aH v=v:=by
 obtain⟨arr,ty,fz,h1,_,h2,h3⟩:=hb;obtain⟨h4,h5⟩:=x8 ht h3;have hcell:∀ j u,arr[off+j]?=some u->w.cell? ⟨b,off+j,none⟩=some u:=fun j u hu=>by
  simp [World.cell?,h1];simpa using hu
 rcases h5 with ⟨rfl,vs,h6,h7,h8⟩ | ⟨rfl,u,h6,h7⟩
 ·obtain⟨val,h9,h10⟩:=lP (P:=P) (off:=off) hsz h6 (fun j u hu=>hcell j u (h7 j u hu)) (fun h=>by cases h)
  rcases h10 with ⟨_,rfl⟩ | ⟨h10,_⟩
  ·exact⟨_,by simpa [Instr.loadAt,Instr.sureAddr] using h9,h8,h4⟩
  ·cases h10
 ·obtain⟨ha,_⟩:=fI hsz
  have hc0:w.cell? ⟨b,off,none⟩=some u:=by simpa using hcell 0 u (by simpa using h6)
  exact⟨u,by simp [loadVar,ha,hc0],h7,h4⟩
theorem FW (hs:Sim E g σ a w) {rv:ResultVar} {ar:ARes} {x:AV} (hok:eK P [rv] [ar]=true) (hr:sK σ ar=some x) :
  ∃ v,(kE a.tmps rv).run P w=.ok v w/\aK (cx E g σ w) aN x v/\aH x=x:=by
 cases rv with
 | tmp t=>cases ar with
  | tmp t' =>
   simp only[eK,Bool.and_eq_true] at hok;have ht:t=t':=by simpa using hok.1
   subst ht;simp only[sK,Option.some.injEq] at hr;subst hr;exact⟨_,rfl,(hs.slots t).str,AI _⟩
  | tmpD t' =>
   simp only[eK,Bool.and_eq_true] at hok;have ht:t=t':=by simpa using hok.1
   subst ht;simp only[sK,Option.some.injEq] at hr;subst hr;exact⟨_,rfl,(hs.slots t).dem,AJ _⟩
  | cell=>simp [eK] at hok
 | cell s t=>cases ar with
  | tmp=>simp [eK] at hok
  | tmpD=>simp [eK] at hok
  | cell s' agg m =>
   simp only[eK,Bool.and_eq_true] at hok;obtain⟨⟨hss,hsz⟩,_⟩:=hok;have ht:s=s':=by simpa using hss
   subst ht;have hslot:=hs.slots s;simp only[sK] at hr
   split at hr
   ·rename_i ls off hfr
    obtain⟨cells,hc,htk⟩:=Option.bind_eq_some_iff.1 hr;rw[hfr] at hslot;obtain⟨hlive,hval⟩:=hslot;have hval2:(a.tmps[s]?).getD undef=.pointer (some ⟨g.lam ls,off,none⟩):=by rw[<- Array.getD_eq_getD_getElem?];exact hval
    obtain⟨val,h1,h2,h3⟩:=x7 (P:=P) hsz htk (hs.loc ls cells hc).2.2;exact⟨val,by simp [kE,hval2,asAddr,h1],h2,h3⟩
   ·rename_i ls off hfr
    obtain⟨cells,hc,htk⟩:=Option.bind_eq_some_iff.1 hr
    split at htk
    ·rename_i hbk
     rw[hfr] at hslot;obtain⟨hlive,hval⟩:=hslot;have hval2:(a.tmps[s]?).getD undef=.pointer (some ⟨g.β ls,off,none⟩):=by rw[<- Array.getD_eq_getD_getElem?];exact hval
     obtain⟨val,h1,h2,h3⟩:=x7 (P:=P) hsz htk ((hs.shr ls cells hc (cF hbk)).2.1 hbk);exact⟨val,by simp [kE,hval2,asAddr,h1],h2,h3⟩
    ·cases htk
   ·cases hr
theorem jX (hs:Sim E g σ a w) {sh0:LL} {k:Bool} {n:Nat} (hn:n=if k then σ.sh.length else sh0.length) (hn0:E.n0=sh0.length) (hβ:∀ i,i < E.n0->E.β0 i < E.w0.heap.size)
  (hD:∀ (j:Nat) (x:List AV),sh0[j]?=some x->eQ x=true->E.D0 j=true) :
  ∀ {rs:List ResultVar} {as:List ARes} {xs:List AV},eK P rs as=true->dU k sh0 σ as=some xs->xs.all (kF k)=true ->
   ∃ vs:List Value,(rs.mapM (kE a.tmps)).run P w=.ok vs w/\aI (aJ (cx0 g.β g.bs (S1 E.S0 E.w0 w (kdF g.kd g.β n)) w n)) xs vs/\(∀ x∈xs,aH x=x)
 | [],[],xs,_,hr,_=>by
  simp only[dU,Option.some.injEq] at hr;subst hr;exact⟨[],rfl,trivial,by simp⟩
 | rv :: rs,ar :: as,xs,hok,hr,hall=>by
  have hok1:eK P [rv] [ar]=true/\eK P rs as=true:=by
   cases rv<;>cases ar<;>simp only[eK,Bool.and_eq_true,Bool.false_eq_true] at hok ⊢
   ·exact⟨⟨hok.1,trivial⟩,hok.2⟩
   ·exact⟨⟨hok.1,trivial⟩,hok.2⟩
   ·exact⟨⟨hok.1,trivial⟩,hok.2⟩
  simp only[dU] at hr
  split at hr
  ·rename_i y ys hy hys
   simp only[Option.some.injEq] at hr;subst hr;simp only[all_cons,Bool.and_eq_true] at hall;obtain⟨x,hx,hfz⟩:=Option.bind_eq_some_iff.1 hy;obtain⟨v,h0,h1,h2⟩:=FW hs hok1.1 hx;obtain⟨us,h3,h4,h5⟩:=jX hs hn hn0 hβ hD hok1.2 hys hall.2;obtain⟨h6,h7⟩:=G5 hs hn hn0 hβ hD h2 hfz hall.1 h1;refine⟨v :: us,by simp only[mapM_cons,Sem.run_bind,h0,h3,Result.andThen_ok,Sem.run_pure],⟨h6,h4⟩,?_⟩;intro x hx;rcases mem_cons.1 hx with rfl | hx
   ·exact h7
   ·exact h5 x hx
  ·cases hr
 | [],_ :: _,_,hok,_,_=>by simp [eK] at hok
 | rv :: _,[],_,hok,_,_=>by cases rv<;>simp [eK] at hok
def IN:List Value->Value
 | [v]=>v
 | vs=>.tuple vs.toArray
theorem tX {fn:Func} {tmps:Array Value} {vs:List Value} (h:(fn.results.toList.mapM (kE tmps)).run P w=.ok vs w) :
  (results fn tmps).run P w=.ok (IN vs) w:=by
 have h1:(fn.results.mapM (kE tmps)).run P w=.ok vs.toArray w:=by
  rw[Array.mapM_eq_mapM_toList];simp [h]
 have h2:results fn tmps=(do let vs <- fn.results.mapM (kE tmps);pure (if h:vs.size=1 then vs[0] else .tuple vs)):=rfl;rw[h2];simp only[Sem.run_bind,h1,Result.andThen_ok,Sem.run_pure]
 match vs with
 | []=>rfl
 | [v]=>rfl
 | v :: u :: vs=>rfl
theorem o7 {c c':Cx} {ow ow':Value->Nat->Nat->Prop} {x:AV} {v:Value} {n:Nat} (hm:∀ b o,c.S b o->c'.S b o/\c'.w.cell? ⟨b,o,none⟩=c.w.cell? ⟨b,o,none⟩) (hβ:c'.β=c.β) (hbs:c'.bs=c.bs) (hn:c'.shn=n) (hlt:fB n x=true)
  (ho:∀ z l,x=.sl .own z l->ow v z l.length->ow' v z l.length) (r:aX c ow x v):aX c' ow' x v:=by
 cases x with
 | any=>trivial
 | sl m z l =>
  cases m with
  | own=>exact⟨aD.mono hm _ _ r.1,ho z l rfl r.2⟩
  | no =>
   have r':aD c.S c.w (.sl .no z l) v:=r;exact aD.mono hm _ _ r'
  | full =>
   have r':aD c.S c.w (.sl .full z l) v:=r;exact aD.mono hm _ _ r'
 | ptr o off =>
  have r':o < c.shn/\v=.pointer (some ⟨c.β o,off,none⟩):=r;have hl:o < n:=by simpa [fB] using hlt
  show o < c'.shn/\v=.pointer (some ⟨c'.β o,off,none⟩);rw[hn,hβ];exact⟨hl,r'.2⟩
 | ss o off m z =>
  have r':o < c.shn/\∃ cp,v=.slice (some ⟨c.β o,off,none⟩) m cp/\m<=cp/\ssz off cp z (c.bs o):=r;have hl:o < n:=by simpa [fB] using hlt
  show o < c'.shn/\∃ cp,v=.slice (some ⟨c'.β o,off,none⟩) m cp/\m<=cp/\ssz off cp z (c'.bs o);rw[hn,hβ,hbs];exact⟨hl,r'.2⟩
 | mp o =>
  have r':o < c.shn/\v=.map (some (c.β o)):=r;have hl:o < n:=by simpa [fB] using hlt
  show o < c'.shn/\v=.map (some (c'.β o));rw[hn,hβ];exact⟨hl,r'.2⟩
 | agg l =>
  obtain⟨cs,h1,h2⟩:∃ cs,v=.agg cs/\aI (aD c.S c.w) l cs.toList:=r;exact⟨cs,h1,h2.mono (aD.mono hm)⟩
 | str s =>
  have r':aD c.S c.w (.str s) v:=r;exact aD.mono hm _ _ r'
 | int=>exact r
 | bool=>exact r
 | nilp=>exact r
 | undef=>simp [aX,aJ,aD] at r
 | loc=>simp [aX,aJ,aD] at r
 | ip=>simp [aX,aJ,aD] at r
 | fn=>simp [aX,aJ,aD] at r
 | tup=>simp [aX,aJ,aD] at r
 | aggR=>simp [aX,aJ,aD] at r
 | mapv=>simp [aX,aJ,aD] at r
theorem l9 {c c':Cx} {x:AV} {v:Value} (hm:∀ b o,c.S b o->c'.S b o/\c'.w.cell? ⟨b,o,none⟩=c.w.cell? ⟨b,o,none⟩) (h:aP x=true) (r:aJ c x v):aJ c' x v:=by
 cases x with
 | int=>exact r
 | bool=>exact r
 | nilp=>exact r
 | str s =>
  have r':aD c.S c.w (.str s) v:=r;exact aD.mono hm _ _ r'
 | agg l =>
  obtain⟨cs,h1,h2⟩:∃ cs,v=.agg cs/\aI (aD c.S c.w) l cs.toList:=r;exact⟨cs,h1,h2.mono (aD.mono hm)⟩
 | _=>simp [aP,aY] at h
theorem kP {c c':Cx} (hm:∀ b o,c.S b o->c'.S b o/\c'.w.cell? ⟨b,o,none⟩=c.w.cell? ⟨b,o,none⟩):∀ {l:LL} {es:List MapEntry},cP c l es->cP c' l es
 | [],[],_=>trivial
 | [k,v] :: l,e :: es,r=>by
  simp only[cP] at r ⊢;exact⟨r.1,r.2.1,l9 hm r.1 r.2.2.1,l9 hm r.2.1 r.2.2.2.1,kP hm r.2.2.2.2⟩
 | [],_ :: _,r=>by simp [cP] at r
 | [] :: _,_,r=>by simp [cP] at r
 | [_] :: _,_,r=>by simp [cP] at r
 | (_ :: _ :: _ :: _) :: _,_,r=>by simp [cP] at r
 | [_,_] :: _,[],r=>by simp [cP] at r
theorem AF (hmix:P.follows .mixedOrders=true) (hG:gM P G) {n:Nat} {f:FuncId} {F:AFun} (hok:pA P f F=true) {args:List AV} {sh sh':LL} {r:AV} (h:yT n G F args sh=some (r,sh')) :
  vB P f/\gF P f args sh r sh':=by
 unfold pA at hok
 split at hok
 case h_2=>cases hok
 rename_i fn hfn;simp only[Bool.and_eq_true,decide_eq_true_eq] at hok;obtain⟨⟨⟨hbody,hnt⟩,hres⟩,hname⟩:=hok
 split at hbody
 case h_2=>cases hbody
 rename_i C hC;refine⟨⟨fn,hfn,by rw[hC];rfl,by simpa using hname⟩,?_⟩;intro kd β bs S0 O0 w vs hent hargs;obtain⟨⟨e1,e2⟩,e3,e4,e5,e6⟩:=hent;unfold yT at h
 split at h
 case isFalse=>cases h
 rename_i hlen;have hsz:vs.size=F.nargs:=by have:=hargs.length;simp at this;omega
 let E:Env:={ w0:=w,S0:=S0,β0:=β,bs0:=bs,O0:=O0,D0:=fun j=>match sh[j]? with | some c=>eQ c | none=>false,n0:=sh.length,nt:=fn.ntmps }
 let g:Gh:={ β:=β,bs:=bs,lam:=fun _=>0,kd:=kd }
 have hSS:∀ b m,S0 b m->SS E g w b m:=fun b m hS=>.inl ⟨(e3 b m hS).1,hS⟩
 have hle0:Cx.le (cx0 β bs S0 w sh.length) (cx E g (lR args sh) w):=⟨fun b m hS=>⟨hSS b m hS,rfl⟩,Nat.le_refl _,fun _ _=>rfl,fun _ _=>rfl,fun s hs=>hs.elim⟩
 have hsim:Sim E g (lR args sh) { tmps:=vs++Array.replicate (fn.ntmps - vs.size) undef,defers:=[] } w:=by
  refine { size:=by show (vs++Array.replicate (fn.ntmps - vs.size) undef).size=fn.ntmps;simp;omega,defers:=rfl,slots:=?_,shr:=?_,shr0:=fun _ _=>⟨rfl,rfl⟩,shr1:=?_,dd:=?_,shrlt:=fun i hi=>(e2 i hi).1,shrk:=fun i hi=>(e2 i hi).2,loc:=fun s c hc=>by simp [lR] at hc,n0:=Nat.le_refl _,s0:=e3,o0:=e4,own0:=?_,os:=rfl,tape:=rfl,output:=rfl,hsize:=Nat.le_refl _,frame:=fun _ _ _ _=>rfl,sframe:=fun _ _ _=>rfl,gl:=e6 }
  ·intro t
   have h1:=DV hargs (fn.ntmps - vs.size) t;exact aK.mono hle0 _ _ (fun _ _ _ h=>h.elim) h1
  ·intro i cells hi hd
   obtain⟨f1,f2⟩:=e1 i cells hi hd;exact⟨f1,f2.mono hle0 rfl (fun _ _ _ _ _ h=>h)⟩
  ·intro i hi hn
   have hi':i < sh.length:=hi;have hn':sh.length<=i:=hn;omega
  ·intro i hi hd
   have hi':i < sh.length:=hi;have hd':(match sh[i]? with | some c=>eQ c | none=>false)=true:=hd;show sh[i]?=some bJ;rw[getElem?_eq_getElem hi'] at hd' ⊢;rw[mT.1 hd']
  ·intro b t k hk
   rcases Nat.lt_or_ge b w.heap.size with hb | hb
   ·exact .inr (e5 b t k hk hb)
   ·exact .inl hb
 unfold DC at h
 split at h
 ·cases h
 ·rename_i e σ hx hex
  split at h
  case h_2=>cases h
  rename_i xs hxs;unfold t9 at h
  split at h
  case isFalse=>cases h
  rename_i hall;obtain⟨hall,hkeep⟩:=hall;simp only[Option.some.injEq,Prod.mk.injEq] at h;obtain⟨hr,hsh'⟩:=h;refine calls_of_wp hfn hC (d8 hmix hG n C F.body _ σ e _ w _ hbody hex ⟨g,hsim⟩ ?_)
  rintro a1 w1 ⟨g1,hs1⟩
  have hn0:sh.length<=σ.sh.length:=hs1.n0;have hlen':sh'.length=if F.keep then σ.sh.length else sh.length:=by
   rw[<- hsh'];split
   ·rfl
   ·simp;omega
  have hshl:sh'.length<=σ.sh.length/\sh.length<=sh'.length:=by
   rw[hlen'];split<;>omega
  have hshget:∀ (i:Nat),i < sh'.length->sh'[i]?=σ.sh[i]?:=by
   intro i hi;rw[<- hsh'] at hi ⊢;split
   ·rfl
   ·rename_i hk
    rw[if_neg hk] at hi;rw[getElem?_take_of_lt (by simp at hi;omega)]
  have hβ0:∀ i,i < E.n0->E.β0 i < E.w0.heap.size:=fun i hi=>(e2 i hi).1
  have hD:∀ (j:Nat) (x:List AV),sh[j]?=some x->eQ x=true->E.D0 j=true:=by
   intro j x hj hx;show (match sh[j]? with | some c=>eQ c | none=>false)=true;rw[hj];exact hx
  obtain⟨us,hu1,hu2,hu3⟩:=jX hs1 (sh0:=sh) (k:=F.keep) (n:=sh'.length) hlen' rfl hβ0 hD hres hxs hall;have hrun:=tX (fn:=fn) hu1;have hm1:∀ b m,SS E g1 w1 b m->S1 S0 w w1 (kdF g1.kd g1.β sh'.length) b m:=SS.out hs1;have hfin:∃ v kd' β' bs',Ending.returned (IN us)=Ending.returned v/\After S0 O0 β bs w sh sh' r v kd' β' bs' w1:=by
   refine⟨_,kdF g1.kd g1.β sh'.length,g1.β,g1.bs,rfl,?_⟩
   refine { same:=fun i hi=>hs1.shr0 i hi,len:=hshl.2,shok:=⟨fun i cells hi hd=>?_,fun i hi=>?_⟩,rep:=?_,os:=hs1.os,tape:=hs1.tape,output:=hs1.output,size:=hs1.hsize,frame:=fun b hb hnb ho=>hs1.frame b hb hnb ho,sframe:=fun b o hS=>hs1.sframe b o hS,o0:=fun b k hk=>?_,own0:=fun b t k hk=>hs1.own0 b t k (n8.1 hk),new:=fun i h1 h2=>?_,deads:=fun i hi=>?_ }
   ·have hil:=(List.getElem?_eq_some_iff.1 hi).1
    have hi':σ.sh[i]?=some cells:=by rw[<- hshget i hil];exact hi
    obtain⟨f1,f2,f3⟩:=hs1.shr i cells hi' hd;refine⟨by rw[yB hil];exact f1,?_⟩;have how:∀ j z v m,c8 g1.kd w1 (.cell i j) v z m->c8 (kdF g1.kd g1.β sh'.length) w1 (.cell i j) v z m:=by
     rintro j z v m ⟨A,c,q1,q2⟩
     refine⟨A,c,q1,?_⟩;rcases q2 with q2 | ⟨b,ar,tt,q3,q4,q5,q6⟩
     ·exact .inl q2
     ·exact .inr ⟨b,ar,tt,q3,q4,q5,n8.2 q6⟩
    refine⟨fun hbk=>?_,?_⟩
    ·obtain⟨arr,ty,fz,q1,q2,q3,q4⟩:=f2 hbk
     refine⟨arr,ty,fz,q1,q2,q3,fun j x hx=>?_⟩;obtain⟨v,q5,q6⟩:=q4 j x hx;refine⟨v,q5,?_⟩;by_cases hk:F.keep=true
     ·have hln:sh'.length=σ.sh.length:=by rw[hlen',if_pos hk]
      have q7:=(nK (c:=cx E g1 σ w1)).2 q6;refine aX.mono (c:=(cx E g1 σ w1).noloc) (c':=cx0 g1.β g1.bs (S1 S0 w w1 (kdF g1.kd g1.β sh'.length)) w1 sh'.length) ⟨fun b m hS=>⟨hm1 b m hS,rfl⟩,by show σ.sh.length<=sh'.length;omega,fun _ _=>rfl,fun _ _=>rfl,fun s hs=>hs.elim⟩ _ _ (fun z l _=>how _ _ _ _) q7
     ·have hall2:((σ.sh.take sh.length).all fun c=>c.all (fB sh.length))=true:=by
       rcases hkeep with hk' | hk'
       ·exact absurd hk' hk
       ·exact hk'
      have hln:sh'.length=sh.length:=by rw[hlen',if_neg hk]
      refine o7 (c:=cx E g1 σ w1) (n:=sh.length) (fun b m hS=>⟨hm1 b m hS,rfl⟩) rfl rfl hln ?_ (fun z l _=>how _ _ _ _) q6;rw[all_eq_true] at hall2;have h8:=hall2 cells (mem_iff_getElem?.2 ⟨i,by rw[getElem?_take_of_lt (by omega)];exact hi'⟩);rw[all_eq_true] at h8;exact h8 x (mem_iff_getElem?.2 ⟨j,hx⟩)
    ·unfold kR at f3 ⊢
     split
     ·obtain⟨es,cl,q1,q2⟩:=f3
      exact⟨es,cl,q1,kP (c:=cx E g1 σ w1) (c':=cx0 g1.β g1.bs (S1 S0 w w1 (kdF g1.kd g1.β sh'.length)) w1 sh'.length) (fun b m hS=>⟨hm1 b m hS,rfl⟩) q2⟩
     ·trivial
   ·obtain⟨j,hj⟩:=hs1.shrk i (by omega)
    exact⟨hs1.shrlt i (by omega),j,by rw[yB hi];exact hj⟩
   ·rw[<- hr]
    match xs,us,hu2,hu3 with
    | [x],[v],hu2,hu3=>exact aJ.topT (hu3 x (by simp)) hu2.1
    | [],[],hu2,_=>exact⟨#[],rfl,trivial⟩
    | x :: y :: xs,v :: u :: us,hu2,_=>exact⟨(v :: u :: us).toArray,rfl,hu2⟩
    | [],_ :: _,hu2,_=>simp [aI] at hu2
    | _ :: _,[],hu2,_=>simp [aI] at hu2
    | [_],_ :: _ :: _,hu2,_=>simp [aI] at hu2
    | _ :: _ :: _,[_],hu2,_=>simp [aI] at hu2
   ·obtain⟨_,_,t,k',q1,q2⟩:=hs1.o0 b k hk
    exact⟨t,k',n8.2 q1,q2⟩
   ·rcases hs1.shr1 i (by omega) h1 with q | ⟨j,q1,q2,q3,q4⟩
    ·exact .inl q
    ·have hjl:j < sh.length:=q1
     refine .inr ⟨j,q1,q2,fun hjd=>?_,?_⟩
     ·have:=hD j _ hjd (mT.2 rfl)
      rw[q3] at this;cases this
     ·rw[hshget j (by omega)];exact q4
   ·have hil:=(List.getElem?_eq_some_iff.1 hi).1
    rw[hshget i (by omega)];exact hs1.dd i hil (hD i _ hi (mT.2 rfl))
  cases e with
  | norm=>exact⟨hs1.defers,_,hrun,hfin⟩
  | ret=>exact⟨hs1.defers,_,hrun,hfin⟩
  | ex i=>exact (hx i rfl).elim
 ·cases h
theorem pQ (hmix:P.follows .mixedOrders=true) {B:aL} (hB:gM P B) {T:FuncId->Option AFun} (hT:∀ f F,T f=some F->pA P f F=true):∀ n,gM P (mV B T n)
 | 0=>hB
 | n+1=>by
  intro f args sh r sh' h;simp only[mV] at h
  split at h
  ·rename_i x hx
   simp only[Option.some.injEq] at h;subst h;exact hB f args sh r sh' hx
  ·split at h
   ·rename_i F hF
    exact .inl (AF hmix (pQ hmix hB hT n) (hT f F hF) h)
   ·cases h
end
end Go.Av
namespace Go.Av
variable [Gtab]
open Classical in
noncomputable def lim {α:Type} (u:Nat->Option α):Option α:=if h:∃ x n,∀ m,n<=m->u m=some x then some h.choose else none
theorem cV {α:Type} {u:Nat->Option α} {x:α}:lim u=some x↔∃ n,∀ m,n<=m->u m=some x:=by
 unfold lim;constructor
 ·intro h
  split at h
  ·rename_i hex
   injection h with h
   rw[<- h];exact hex.choose_spec
  ·cases h
 ·rintro ⟨n,hn⟩
  have hex:∃ x n,∀ m,n<=m->u m=some x:=⟨x,n,hn⟩
  rw[dif_pos hex];obtain⟨n',hn'⟩:=hex.choose_spec;have h1:=hn' (max n n') (by omega);rw[hn (max n n') (by omega)] at h1;exact h1.symm
noncomputable def pO (f:AS->Option (AX × AS)) (σ:AS):Option (AX × AS):=lim fun n=>dI f n σ
theorem pN (f:AS->Option (AX × AS)) (σ:AS):pO f σ=match f σ with
  | some (.norm,σ')=>pO f σ'
  | r=>r:=by
 unfold pO;cases h:f σ with
 | none =>
  show lim _=none;cases hl:lim fun n=>dI f n σ with
  | none=>rfl
  | some x =>
   obtain⟨n,hn⟩:=cV.1 hl
   have:=hn (n+1) (by omega)
   simp only[dI,h] at this;cases this
 | some r =>
  obtain⟨e,σ'⟩:=r
  cases e with
  | norm =>
   show lim _=lim _;cases hl:lim fun n=>dI f n σ' with
   | some x =>
    obtain⟨n,hn⟩:=cV.1 hl;refine cV.2 ⟨n+1,fun m hm=>?_⟩;obtain⟨m',rfl⟩:∃ m',m=m'+1:=⟨m - 1,by omega⟩
    simp only[dI,h];exact hn m' (by omega)
   | none =>
    cases hl2:lim fun n=>dI f n σ with
    | none=>rfl
    | some x =>
     obtain⟨n,hn⟩:=cV.1 hl2
     have:lim (fun n=>dI f n σ')=some x:=cV.2 ⟨n,fun m hm=>by
      have:=hn (m+1) (by omega)
      simp only[dI,h] at this
      exact this⟩
     rw[hl] at this;cases this
  | ex i =>
   refine cV.2 ⟨1,fun m hm=>?_⟩;obtain⟨m',rfl⟩:∃ m',m=m'+1:=⟨m - 1,by omega⟩
   simp only[dI,h]
  | ret =>
   refine cV.2 ⟨1,fun m hm=>?_⟩;obtain⟨m',rfl⟩:∃ m',m=m'+1:=⟨m - 1,by omega⟩
   simp only[dI,h]
noncomputable def aC (G:aL):ACode->AS->Option (AX × AS)
 | .skip,σ=>some (.norm,σ)
 | .reg _ al ops kill,σ=>(cD G ops (scrub al σ)).map fun σ'=>(.norm,forget kill σ')
 | .seq a b,σ=>match aC G a σ with
  | some (.norm,σ')=>aC G b σ'
  | r=>r
 | .cond c a b,σ=>match ev σ.fr c with
  | .bool t=>if t then aC G a σ else aC G b σ
  | _=>none
 | .block id a,σ=>match aC G a σ with
  | some (.ex i,σ')=>if i=id then some (.norm,σ') else some (.ex i,σ')
  | r=>r
 | .loop kill a,σ=>pO (fun σ=>aC G a (forget kill σ)) σ
 | .exit id,σ=>some (.ex id,σ)
 | .ret,σ=>some (.ret,σ)
noncomputable def yS (G:aL) (F:AFun) (args:List AV) (sh:LL):Option (AV × LL):=
 if args.length=F.nargs then DC F sh (aC G F.body (lR args sh)) else none
section
variable {B:aL} {T:FuncId->Option AFun}
noncomputable def Gx (B:aL) (T:FuncId->Option AFun):aL:=fun f args sh=>lim fun n=>mV B T n f args sh
theorem K8 {d:Nat} {ml:ML} {k:AK} {xs:List AV} {m:MV} {r:AV × MV} (h:kf (Gx B T) d ml k xs m=some r):∃ n,∀ i,n<=i->kf (mV B T i) d ml k xs m=some r:=by
 have hcall:∀ {f:FuncId} {ys:List AV},gV (Gx B T) ml f ys m=some r->∃ n,∀ i,n<=i->gV (mV B T i) ml f ys m=some r:=by
  intro f ys h;unfold gV at h ⊢
  cases ml with
  | lo s=>cases h
  | sh =>
   simp only at h ⊢
   split at h
   ·rename_i hc
    obtain⟨y,h1,h2⟩:=Option.map_eq_some_iff.1 h;obtain⟨n,hn⟩:=cV.1 h1;refine⟨n,fun i hi=>?_⟩;rw[if_pos hc,hn i hi];exact congrArg some h2
   ·cases h
  | none =>
   simp only at h ⊢
   split at h
   ·rename_i hc
    obtain⟨y,h1,h2⟩:=Option.bind_eq_some_iff.1 h;obtain⟨n,hn⟩:=cV.1 h1;refine⟨n,fun i hi=>?_⟩;rw[if_pos hc,hn i hi];exact h2
   ·cases h
 have hcallR:∀ {f:FuncId} {ys:List AV},fV (Gx B T) ml f ys m=some r->∃ n,∀ i,n<=i->fV (mV B T i) ml f ys m=some r:=by
  intro f ys h;unfold fV at h ⊢
  cases ml with
  | lo s=>cases h
  | none=>cases h
  | sh =>
   simp only at h ⊢;obtain⟨zs,hz,h⟩:=Option.bind_eq_some_iff.1 h;rw[hz];simp only[Option.bind_some]
   split at h
   ·rename_i hc
    obtain⟨y,h1,h2⟩:=Option.bind_eq_some_iff.1 h;obtain⟨n,hn⟩:=cV.1 h1;refine⟨n,fun i hi=>?_⟩;rw[if_pos hc,hn i hi];exact h2
   ·cases h
 cases k
 case call f=>exact hcall h
 case callR f=>exact hcallR h
 case callv =>
  simp only[kf,s9] at h ⊢
  split at h
  ·exact hcall h
  ·cases h
 case callvR =>
  simp only[kf,cJ] at h ⊢
  split at h
  ·exact hcallR h
  ·cases h
 all_goals exact⟨0,fun i _=>h⟩
theorem BC {o:AOper} {σ σ':AS} (h:bO (Gx B T) o σ=some σ'):∃ n,∀ i,n<=i->bO (mV B T i) o σ=some σ':=by
 unfold bO at h ⊢;cases hg:dA σ.fr o.guard with
 | none=>rw[hg] at h;cases h
 | some b =>
  rw[hg] at h
  cases b with
  | false=>exact⟨0,fun i _=>h⟩
  | true =>
   simp only at h ⊢;cases hk:kf (Gx B T) (o.dst.getD 0) o.ml o.k (o.args.map (ev σ.fr)) (rdm σ o.ml) with
   | none=>rw[hk] at h;cases h
   | some r =>
    rw[hk] at h;obtain⟨n,hn⟩:=K8 hk;refine⟨n,fun i hi=>?_⟩;rw[hn i hi];exact h
theorem xG:∀ {os:List AOper} {σ σ':AS},cD (Gx B T) os σ=some σ'->∃ n,∀ i,n<=i->cD (mV B T i) os σ=some σ'
 | [],σ,σ',h=>⟨0,fun i _=>h⟩
 | o :: os,σ,σ',h=>by
  simp only[cD] at h ⊢;obtain⟨σ1,h1,h2⟩:=Option.bind_eq_some_iff.1 h;obtain⟨n1,hn1⟩:=BC h1;obtain⟨n2,hn2⟩:=xG h2;refine⟨max n1 n2,fun i hi=>?_⟩;rw[hn1 i (by omega)];exact hn2 i (by omega)
theorem fT:∀ (c:ACode) (σ:AS) (r:AX × AS),aC (Gx B T) c σ=some r->∃ n,∀ i,n<=i->cX i (mV B T i) c σ=some r
 | .skip,σ,r,h=>⟨0,fun i _=>h⟩
 | .exit _,σ,r,h=>⟨0,fun i _=>h⟩
 | .ret,σ,r,h=>⟨0,fun i _=>h⟩
 | .reg _ al ops kill,σ,r,h=>by
  simp only[aC,cX] at h ⊢;obtain⟨σ1,h1,h2⟩:=Option.map_eq_some_iff.1 h;obtain⟨n,hn⟩:=xG h1;refine⟨n,fun i hi=>?_⟩;rw[hn i hi];exact congrArg some h2
 | .cond c a b,σ,r,h=>by
  simp only[aC,cX] at h ⊢
  split at h
  ·rename_i t ht
   rw[ht]
   cases t with
   | true=>exact fT a σ r h
   | false=>exact fT b σ r h
  ·cases h
 | .seq a b,σ,r,h=>by
  simp only[aC,cX] at h ⊢;cases h1:aC (Gx B T) a σ with
  | none=>rw[h1] at h;cases h
  | some q =>
   obtain⟨n1,hn1⟩:=fT a σ q h1;rw[h1] at h;obtain⟨e,σ1⟩:=q
   cases e with
   | norm =>
    obtain⟨n2,hn2⟩:=fT b σ1 r h;refine⟨max n1 n2,fun i hi=>?_⟩;rw[hn1 i (by omega)];exact hn2 i (by omega)
   | ex j=>exact⟨n1,fun i hi=>by rw[hn1 i hi];exact h⟩
   | ret=>exact⟨n1,fun i hi=>by rw[hn1 i hi];exact h⟩
 | .block id a,σ,r,h=>by
  simp only[aC,cX] at h ⊢;cases h1:aC (Gx B T) a σ with
  | none=>rw[h1] at h;cases h
  | some q =>
   obtain⟨n1,hn1⟩:=fT a σ q h1;rw[h1] at h;exact⟨n1,fun i hi=>by rw[hn1 i hi];exact h⟩
 | .loop kill a,σ,r,h=>by
  simp only[aC,cX] at h ⊢;obtain⟨n,hn⟩:=cV.1 h;have key:∀ m σ r,dI (fun σ=>aC (Gx B T) a (forget kill σ)) m σ=some r->∃ n,∀ i,n<=i->dI (fun σ=>cX i (mV B T i) a (forget kill σ)) m σ=some r:=by
   intro m
   induction m with
   | zero=>intro σ r h;simp [dI] at h
   | succ m ih =>
    intro σ r h;simp only[dI] at h ⊢;cases h1:aC (Gx B T) a (forget kill σ) with
    | none=>rw[h1] at h;cases h
    | some q =>
     obtain⟨n1,hn1⟩:=fT a _ q h1;rw[h1] at h;obtain⟨e,σ1⟩:=q
     cases e with
     | norm =>
      obtain⟨n2,hn2⟩:=ih σ1 r h;refine⟨max n1 n2,fun i hi=>?_⟩;rw[hn1 i (by omega)];exact hn2 i (by omega)
     | ex j=>exact⟨n1,fun i hi=>by rw[hn1 i hi];exact h⟩
     | ret=>exact⟨n1,fun i hi=>by rw[hn1 i hi];exact h⟩
  have mono:∀ (f:AS->Option (AX × AS)) m σ r,dI f m σ=some r->∀ m',m<=m'->dI f m' σ=some r:=by
   intro f m
   induction m with
   | zero=>intro σ r h;simp [dI] at h
   | succ m ih =>
    intro σ r h m' hm;obtain⟨m',rfl⟩:∃ k,m'=k+1:=⟨m' - 1,by omega⟩
    simp only[dI] at h ⊢;cases h1:f σ with
    | none=>rw[h1] at h;cases h
    | some q =>
     rw[h1] at h;obtain⟨e,σ1⟩:=q
     cases e with
     | norm=>exact ih σ1 r h m' (by omega)
     | ex j=>exact h
     | ret=>exact h
  obtain⟨n2,hn2⟩:=key n σ r (hn n (Nat.le_refl _));exact⟨max n n2,fun i hi=>mono _ n σ r (hn2 i (by omega)) i (by omega)⟩
theorem RR {f:FuncId} {F:AFun} {args:List AV} {sh:LL} {r:AV × LL} (hB:B f args sh=none) (hT:T f=some F) (h:yS (Gx B T) F args sh=some r):Gx B T f args sh=some r:=by
 unfold yS at h
 split at h
 ·rename_i hlen
  have hex:∃ q,aC (Gx B T) F.body (lR args sh)=some q:=by
   cases hq:aC (Gx B T) F.body (lR args sh) with
   | none=>rw[hq] at h;cases h
   | some q=>exact⟨q,rfl⟩
  obtain⟨q,hq⟩:=hex;obtain⟨n,hn⟩:=fT _ _ _ hq;refine cV.2 ⟨n+1,fun m hm=>?_⟩;obtain⟨m',rfl⟩:∃ k,m=k+1:=⟨m - 1,by omega⟩
  simp only[mV,hB,hT];unfold yT;rw[if_pos hlen,hn m' (by omega),<- hq];exact h
 ·cases h
theorem zI {f:FuncId} {args:List AV} {sh:LL} {r:AV × LL} (hB:B f args sh=some r):Gx B T f args sh=some r:=
 cV.2 ⟨0,fun m _=>by
  cases m with
  | zero=>exact hB
  | succ m=>simp only[mV,hB]⟩
theorem IA {P:Program} (hmix:P.follows .mixedOrders=true) (hB:gM P B) (hT:∀ f F,T f=some F->pA P f F=true):gM P (Gx B T):=by
 intro f args sh r sh' h;obtain⟨n,hn⟩:=cV.1 h;exact pQ hmix hB hT n f args sh r sh' (hn n (Nat.le_refl _))
end
end Go.Av
namespace Go.Av
def aF {α:Type} (d:α):List (Nat × α)->Nat->α
 | [],_=>d
 | (k,v) :: r,t=>if t=k then v else aF d r t
def dE {α:Type}:List (Nat × α)->Nat->α->List (Nat × α)
 | [],k,v=>[(k,v)]
 | (k',v') :: r,k,v=>if k=k' then (k,v) :: r else if k < k' then (k,v) :: (k',v') :: r else (k',v') :: dE r k v
theorem eD {α:Type} (d:α) (k:Nat) (v:α) (t:Nat):∀ l,aF d (dE l k v) t=if t=k then v else aF d l t
 | []=>rfl
 | (k',v') :: r=>by
  simp only[dE];split
  ·rename_i h
   subst h;simp only[aF]
   split<;>rfl
  ·rename_i h
   split
   ·simp only[aF]
   ·simp only[aF]
    rw[eD d k v t r];by_cases h1:t=k'
    ·subst h1
     rw[if_pos rfl,if_pos rfl,if_neg (fun e=>h e.symm)]
    ·rw[if_neg h1,if_neg h1]
theorem oO {α:Type} (d:α) (l:List (Nat × α)) (k:Nat) (v:α):upd (aF d l) k v=aF d (dE l k v):=by
 funext t
 rw[eD];rfl
def fR (kill:List Nat):List (Nat × AV)->List (Nat × AV)
 | []=>[]
 | (k,v) :: r=>if k∈kill then fR kill r else (k,aS kill v) :: fR kill r
def eW {α:Type} (kill:List Nat):List (Nat × α)->List (Nat × α)
 | []=>[]
 | (k,v) :: r=>if k∈kill then eW kill r else (k,v) :: eW kill r
def sI (al:List Nat):List (Nat × AV)->List (Nat × AV)
 | []=>[]
 | (k,v) :: r=>(k,aS al v) :: sI al r
theorem dQ (kill:List Nat) (t:Nat):∀ l,aF .any (fR kill l) t=if t∈kill then .any else aS kill (aF .any l t)
 | []=>by simp [fR,aF,aS]
 | (k,v) :: r=>by
  simp only[fR];by_cases hk:k∈kill
  ·rw[if_pos hk,dQ kill t r]
   by_cases ht:t∈kill
   ·simp [ht]
   ·have:t≠k:=by rintro rfl;exact ht hk
    simp [ht,aF,this]
  ·rw[if_neg hk]
   simp only[aF];rw[dQ kill t r];by_cases h:t=k
   ·subst h;simp [hk]
   ·simp [h]
theorem uJ (al:List Nat) (t:Nat):∀ l,aF .any (sI al l) t=aS al (aF .any l t)
 | []=>by simp [sI,aF,aS]
 | (k,v) :: r=>by
  simp only[sI,aF];split
  ·rfl
  ·exact uJ al t r
theorem jL {α:Type} (kill:List Nat) (t:Nat):∀ l:List (Nat × Option α),aF none (eW kill l) t=if t∈kill then none else aF none l t
 | []=>by simp [eW,aF]
 | (k,v) :: r=>by
  simp only[eW];by_cases hk:k∈kill
  ·rw[if_pos hk,jL kill t r]
   by_cases ht:t∈kill
   ·simp [ht]
   ·have:t≠k:=by rintro rfl;exact ht hk
    simp [ht,aF,this]
  ·rw[if_neg hk]
   simp only[aF];rw[jL kill t r];by_cases h:t=k
   ·subst h;simp [hk]
   ·simp [h]
def ST (l:List (Nat × AV)) (m:List (Nat × Option (List AV))) (sh:LL):AS:={ fr:=aF .any l,lo:=aF none m,sh:=sh }
variable {l:List (Nat × AV)} {m:List (Nat × Option (List AV))} {sh:LL}
theorem JK (t:Nat):(ST l m sh).fr t=aF .any l t:=rfl
theorem iH:(ST l m sh).fr=aF .any l:=rfl
theorem mX (kill:List Nat):forget kill (ST l m sh)=ST (fR kill l) (eW kill m) sh:=by
 unfold forget ST;simp only[AS.mk.injEq,and_true];exact⟨by funext t;rw[dQ],by funext t;rw[jL]⟩
theorem BV (al:List Nat):scrub al (ST l m sh)=ST (sI al l) (eW al m) sh:=by
 unfold scrub ST;simp only[AS.mk.injEq,and_true];exact⟨by funext t;rw[uJ],by funext t;rw[jL]⟩
theorem zS (σ:AS):scrub [] σ=σ:=by
 unfold scrub;have h1:(fun t=>aS [] (σ.fr t))=σ.fr:=by
  funext t
  cases σ.fr t<;>simp [aS]
 have h2:(fun s=>if s∈([]:List Nat) then none else σ.lo s)=σ.lo:=by funext s;simp
 rw[h1,h2]
theorem eJ (d:Nat) (v:AV):put (ST l m sh) (some d) v=ST (dE l d v) m sh:=by
 unfold put ST;simp only[oO]
theorem B6 (σ:AS) (v:AV):put σ none v=σ:=rfl
theorem yN (d:Nat):cI (ST l m sh) (some d)=ST (dE l d (aH (aF .any l d))) m sh:=by
 unfold cI ST;simp only[oO]
theorem gU (σ:AS):cI σ none=σ:=rfl
theorem vJ (s:Nat) (v:MV):wrm (ST l m sh) v (.lo s)=ST l (dE m s v.1) sh:=by
 unfold wrm ST;simp only[oO]
theorem AU (v:MV):wrm (ST l m sh) v .sh=ST l m v.2:=rfl
theorem vX (s:Nat):rdm (ST l m sh) (.lo s)=(aF none m s,[]):=rfl
theorem gI:rdm (ST l m sh) .sh=(none,sh):=rfl
def qP:Nat->List AV->List (Nat × AV)
 | _,[]=>[]
 | k,a :: as=>(k,a) :: qP (k+1) as
theorem AB (args:List AV) (t:Nat):∀ k,aF .any (qP k args) t=if t < k then .any else (args[t - k]?).getD .any:=by
 induction args with
 | nil=>intro k;simp [qP,aF]
 | cons a as ih =>
  intro k;simp only[qP,aF];rw[ih];by_cases h:t=k
  ·subst h;simp
  ·rw[if_neg h]
   by_cases h2:t < k
   ·rw[if_pos (by omega),if_pos h2]
   ·rw[if_neg (by omega),if_neg h2]
    have:t - k=(t - (k+1))+1:=by omega
    rw[this];simp
theorem C3 (args:List AV) (sh:LL):lR args sh=ST (qP 0 args) [] sh:=by
 unfold lR ST;simp only[AS.mk.injEq,and_true];refine⟨?_,by funext s;rfl⟩
 funext t
 rw[AB];simp
end Go.Av
