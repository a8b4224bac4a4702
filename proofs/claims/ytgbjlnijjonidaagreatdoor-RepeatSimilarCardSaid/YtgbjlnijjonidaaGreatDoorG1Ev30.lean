/- A part of the frame (Ev30). No conditions. -/
import Derived.Test.YtgbjlnijjonidaaGreatDoorG1Ev19to29
open List
set_option linter.unusedSimpArgs false
set_option linter.unusedVariables false
set_option linter.unusedSectionVars false
set_option maxRecDepth 100000
set_option maxHeartbeats 16000000
namespace Go.Av
variable [Gtab]
open Go.RowKit
def eX (n:Nat):AV->Bool
 | .ptr o _=>decide (o < n)
 | .ss o _ _ _=>decide (o < n)
 | .int .. | .bool _ | .str _ | .nilp | .agg _ | .sl ..=>true
 | _=>false
theorem AO {c:Cx} {n:Nat} {x:AV} {v:Value} (hlt:eX n x=true) (r:aK c aN x v):aK { c with shn:=n } aN x v:=by
 cases x with
 | ptr o off =>
  have r':o < c.shn/\v=.pointer (some ⟨c.β o,off,none⟩):=r;exact⟨by simpa [eX] using hlt,r'.2⟩
 | ss o off m z =>
  have r':o < c.shn/\∃ cp,v=.slice (some ⟨c.β o,off,none⟩) m cp/\m<=cp/\ssz off cp z (c.bs o):=r;exact⟨by simpa [eX] using hlt,r'.2⟩
 | int=>exact r
 | bool=>exact r
 | str=>exact r
 | nilp=>exact r
 | agg=>exact r
 | sl m z l=>cases m<;>exact r
 | any=>simp [eX] at hlt
 | undef=>simp [eX] at hlt
 | loc=>simp [eX] at hlt
 | ip=>simp [eX] at hlt
 | fn=>simp [eX] at hlt
 | tup=>simp [eX] at hlt
 | mp=>simp [eX] at hlt
 | mapv=>simp [eX] at hlt
 | aggR=>simp [eX] at hlt
theorem kO {c:Cx} {n:Nat}:∀ {xs:List AV} {vs:List Value},xs.all (eX n)=true->aI (aK c aN) xs vs->aI (aK { c with shn:=n } aN) xs vs
 | [],[],_,_=>trivial
 | x :: xs,v :: vs,h,r=>by
  rw[all_cons,Bool.and_eq_true] at h;exact⟨AO h.1 r.1,kO h.2 r.2⟩
 | [],_ :: _,_,r=>by simp [aI] at r
 | _ :: _,[],_,r=>by simp [aI] at r
theorem pR {sh sh':LL} {r:AV} (hl:sh'.length=sh.length) (hsh:sh.all (fun c=>c.all (fB sh.length))=true) (hD:∀ c∈sh,c≠bJ) (R:LL) {kd:Nat->BK} {β bs:Nat->Nat} {S0:Nat->Nat->Prop} {O0:Nat->Option Nat} {w:World} (hE:nP (sh++R) kd β bs S0 O0 w) :
  ∃ kd1 O1,nP sh kd1 β bs S0 O1 w/\∀ v kd' β' bs' w',After S0 O1 β bs w sh sh' r v kd' β' bs' w'->∃ kd2,After S0 O0 β bs w (sh++R) (sh'++R) r v kd2 β bs w':=by
 obtain⟨⟨e1,e1'⟩,e2,e3,e4,e5⟩:=hE;have hlen:sh.length<=(sh++R).length:=by simp
 have hget:∀ {i:Nat} {c:List AV},sh[i]?=some c->(sh++R)[i]?=some c:=fun {i c} hi=>by
  rw[getElem?_append_left (List.getElem?_eq_some_iff.1 hi).1];exact hi
 have hlive:∀ i,i < sh.length->kd (β i)=.shr i:=fun i hi=>by
  have hg:sh[i]?=some sh[i]:=getElem?_eq_getElem hi;exact (e1 i _ (hget hg) (hD _ (mem_of_getElem? hg))).1
 let RO:Nat->Prop:=fun b=>∃ i j k,kd b=.own (.cell i j) k/\sh.length<=i
 have hnRO:∀ {b i:Nat},kd b=.shr i->¬ RO b:=by
  rintro b i hb ⟨_,_,_,h1,_⟩
  rw[hb] at h1;cases h1
 classical
 let kd1:Nat->BK:=fun b=>if RO b then .stab else kd b
 let O1:Nat->Option Nat:=fun b=>if RO b then none else O0 b
 have kd1n:∀ {b},¬ RO b->kd1 b=kd b:=fun {b} hb=>if_neg hb
 have O1n:∀ {b},¬ RO b->O1 b=O0 b:=fun {b} hb=>if_neg hb
 have O1s:∀ {b k},O1 b=some k->¬ RO b/\O0 b=some k:=fun {b k} hb=>by
  by_cases q:RO b
  ·have:O1 b=none:=if_pos q
   rw[this] at hb;cases hb
  ·exact⟨q,(O1n q).symm.trans hb⟩
 have kd1s:∀ {b t k},kd1 b=.own t k->¬ RO b/\kd b=.own t k:=fun {b t k} hb=>by
  by_cases q:RO b
  ·have:kd1 b=.stab:=if_pos q
   rw[this] at hb;cases hb
  ·exact⟨q,(kd1n q).symm.trans hb⟩
 have hE1:nP sh kd1 β bs S0 O1 w:=by
  refine⟨⟨fun i cells hi hd=>?_,fun i hi=>?_⟩,fun b o hS=>?_,fun b k hk=>?_,fun b t k hk hb=>?_,e5⟩
  ·obtain⟨k1,k2,k3⟩:=e1 i cells (hget hi) hd
   have hil:i < sh.length:=(List.getElem?_eq_some_iff.1 hi).1;refine⟨(kd1n (hnRO k1)).trans k1,fun hbk=>?_,?_⟩
   ·obtain⟨arr,ty,fz,q1,q2,q3,q4⟩:=k2 hbk
    refine⟨arr,ty,fz,q1,q2,q3,fun j x hx=>?_⟩;obtain⟨v,q5,q6⟩:=q4 j x hx;refine⟨v,q5,o7 (c:=cx0 β bs S0 w (sh++R).length) (n:=sh.length) (fun b m hS=>⟨hS,rfl⟩) rfl rfl rfl ?_ ?_ q6⟩
    ·rw[all_eq_true] at hsh
     have h8:=hsh cells (mem_of_getElem? hi);rw[all_eq_true] at h8;exact h8 x (mem_of_getElem? hx)
    ·rintro z l hxe ⟨A,c,p1,p2⟩
     refine⟨A,c,p1,?_⟩;rcases p2 with p2 | ⟨b,ar,tt,p3,p4,p5,p6⟩
     ·exact .inl p2
     ·refine .inr ⟨b,ar,tt,p3,p4,p5,?_⟩
      rw[kd1n]
      ·exact p6
      ·rintro ⟨i',j',k',p7,p8⟩
       rw[p6] at p7;cases p7;omega
   ·unfold kR at k3 ⊢
    split
    ·obtain⟨es,cl,q1,q2⟩:=k3
     exact⟨es,cl,q1,kP (c:=cx0 β bs S0 w (sh++R).length) (c':=cx0 β bs S0 w sh.length) (fun b m hS=>⟨hS,rfl⟩) q2⟩
    ·trivial
  ·exact⟨(e1' i (by omega)).1,i,(kd1n (hnRO (hlive i hi))).trans (hlive i hi)⟩
  ·obtain⟨k1,k2,k3⟩:=e2 b o hS
   exact⟨k1,fun i hi=>k2 i (by omega),fun k hk=>k3 k (O1s hk).2⟩
  ·obtain⟨q,hk⟩:=O1s hk
   obtain⟨k1,k2,t,k',k3,k4⟩:=e3 b k hk;exact⟨k1,fun i hi=>k2 i (by omega),t,k',(kd1n q).trans k3,k4⟩
  ·obtain⟨q,hk⟩:=kd1s hk
   rw[O1n q];exact e4 b t k hk hb
 refine⟨kd1,O1,hE1,fun v kd' β' bs' w' A=>?_⟩
 let Q:Nat->Prop:=fun b=>b < w.heap.size/\(∀ i,i < sh.length->β i≠b)/\O1 b=none
 let kd2:Nat->BK:=fun b=>if Q b then kd b else kd' b
 have kd2q:∀ {b},Q b->kd2 b=kd b:=fun {b} hb=>if_pos hb
 have kd2n:∀ {b},¬ Q b->kd2 b=kd' b:=fun {b} hb=>if_neg hb
 have hQsh:∀ i,i < sh.length->¬ Q (β i):=fun i hi q=>q.2.1 i hi rfl
 have hQown:∀ {b t k},kd' b=.own t k->¬ Q b:=fun {b t k} hb q=>by
  rcases A.own0 b t k hb with q1 | q1
  ·have:=q.1;omega
  ·rw[q.2.2] at q1;cases q1
 have hSm:∀ b o,S1 S0 w w' kd' b o->S1 S0 w w' kd2 b o:=by
  rintro b o (q | ⟨q1,q2,q3⟩ | ⟨q1,t,k,q2,q3⟩)
  ·exact .inl q
  ·exact .inr (.inl ⟨q1,q2,(kd2n (fun q=>by have:=q.1;omega)).trans q3⟩)
  ·exact .inr (.inr ⟨q1,t,k,(kd2n (hQown q2)).trans q2,q3⟩)
 have hle1:Cx.le (cx0 β' bs' (S1 S0 w w' kd') w' sh'.length) (cx0 β bs (S1 S0 w w' kd2) w' (sh'++R).length):=
  ⟨fun b o hS=>⟨hSm b o hS,rfl⟩,by show sh'.length<=(sh'++R).length;simp,fun i hi=>(A.same i (by have:i < sh'.length:=hi;omega)).1.symm,fun i hi=>(A.same i (by have:i < sh'.length:=hi;omega)).2.symm,fun s hs=>hs.elim⟩
 have hle2:Cx.le (cx0 β bs S0 w (sh++R).length) (cx0 β bs (S1 S0 w w' kd2) w' (sh'++R).length):=
  ⟨fun b o hS=>⟨.inl hS,A.sframe b o hS⟩,by show (sh++R).length<=(sh'++R).length;simp [hl],fun _ _=>rfl,fun _ _=>rfl,fun s hs=>hs.elim⟩
 have hheap:∀ {b},Q b->w'.heap[b]?=w.heap[b]?:=fun {b} q=>A.frame b q.1 q.2.1 q.2.2
 have hRget:∀ {i:Nat},sh.length<=i->(sh'++R)[i]?=(sh++R)[i]?:=fun {i} hi=>by
  rw[getElem?_append_right (by omega),getElem?_append_right hi,hl]
 refine⟨kd2,fun _ _=>⟨rfl,rfl⟩,by simp [hl],⟨fun i cells hi hd=>?_,fun i hi=>?_⟩,?_,A.os,A.tape,A.output,A.size,fun b hb hn ho=>?_,A.sframe,fun b k hk=>?_,fun b t k hk=>?_,fun i h1 h2=>?_,fun i hi=>?_⟩
 ·by_cases hlt:i < sh.length
  ·rw[getElem?_append_left (by omega)] at hi
   obtain⟨k1,k2⟩:=A.shok.1 i cells hi hd;obtain⟨s1,s2⟩:=A.same i hlt;rw[s1] at k1 k2;rw[s2] at k2;refine⟨(kd2n (hQsh i hlt)).trans k1,k2.mono hle1 rfl ?_⟩
   rintro j z l v hx ⟨A',c,p1,p2⟩
   refine⟨A',c,p1,?_⟩;rcases p2 with p2 | ⟨b,ar,tt,p3,p4,p5,p6⟩
   ·exact .inl p2
   ·exact .inr ⟨b,ar,tt,p3,p4,p5,(kd2n (hQown p6)).trans p6⟩
  ·rw[hRget (by omega)] at hi
   obtain⟨k1,k2⟩:=e1 i cells hi hd;have hi':i < (sh++R).length:=(List.getElem?_eq_some_iff.1 hi).1;have hq:Q (β i):=by
    refine⟨(e1' i hi').1,fun k hk hkb=>?_,?_⟩
    ·have:=hlive k hk
     rw[hkb,k1] at this;cases this;omega
    ·cases ho:O1 (β i) with
     | none=>rfl
     | some k =>
      obtain⟨_,_,t,k',q,_⟩:=e3 _ _ (O1s ho).2;rw[k1] at q;cases q
   refine⟨(kd2q hq).trans k1,k2.mono hle2 (hheap hq) ?_⟩
   rintro j z l v hx ⟨A',c,p1,p2⟩
   refine⟨A',c,p1,?_⟩;rcases p2 with p2 | ⟨b,ar,tt,p3,p4,p5,p6⟩
   ·exact .inl p2
   ·have hb:Q b:=by
     refine⟨(Array.getElem?_eq_some_iff.1 p4).1,fun k hk hkb=>?_,if_pos ⟨i,j,_,p6,by omega⟩⟩
     have:=hlive k hk
     rw[hkb,p6] at this;cases this
    exact .inr ⟨b,ar,tt,p3,(hheap hb).trans p4,p5,(kd2q hb).trans p6⟩
 ·have hi':i < (sh++R).length:=by simp [hl] at hi ⊢;omega
  obtain⟨k1,j,k2⟩:=e1' i hi';have hsz:=A.size;refine⟨by omega,?_⟩;by_cases q:Q (β i)
  ·exact⟨j,(kd2q q).trans k2⟩
  ·rw[kd2n q]
   by_cases q1:∃ k,k < sh.length/\β k=β i
   ·obtain⟨k,q2,q3⟩:=q1
    obtain⟨_,j',q4⟩:=A.shok.2 k (by omega);rw[(A.same k q2).1,q3] at q4;exact⟨j',q4⟩
   ·cases ho:O1 (β i) with
    | none=>exact absurd ⟨k1,fun k hk hkb=>q1 ⟨k,hk,hkb⟩,ho⟩ q
    | some k =>
     obtain⟨_,_,t,k',q5,_⟩:=e3 _ _ (O1s ho).2;rw[k2] at q5;cases q5
 ·exact aK.mono hle1 _ _ (fun _ _ _ h=>h) A.rep
 ·refine A.frame b hb (fun i hi=>hn i (by omega)) ?_
  by_cases q:RO b
  ·exact if_pos q
  ·rw[O1n q];exact ho
 ·obtain⟨k1,k2,t,k',k3,k4⟩:=e3 b k hk
  by_cases q:RO b
  ·have hq:Q b:=⟨k1,fun i hi=>k2 i (by omega),if_pos q⟩
   exact⟨t,k',(kd2q hq).trans k3,k4⟩
  ·have ho:O1 b=some k:=(O1n q).trans hk
   obtain⟨t',k'',q1,q2⟩:=A.o0 b k ho;exact⟨t',k'',(kd2n (hQown q1)).trans q1,q2⟩
 ·by_cases q:Q b
  ·rw[kd2q q] at hk
   exact .inr (e4 b t k hk q.1)
  ·rw[kd2n q] at hk
   rcases A.own0 b t k hk with q1 | q1
   ·exact .inl q1
   ·refine .inr ?_
    obtain⟨k2,q2⟩:=Option.isSome_iff_exists.1 q1;rw[(O1s q2).2];rfl
 ·simp [hl] at h1 h2;omega
 ·by_cases hlt:i < sh.length
  ·rw[getElem?_append_left hlt] at hi
   exact absurd rfl (hD _ (mem_of_getElem? hi))
  ·rw[hRget (by omega)];exact hi
theorem gF.frame {P:Program} {f:FuncId} {args:List AV} {sh sh':LL} {r:AV} (h:gF P f args sh r sh') (hl:sh'.length=sh.length) (hsh:sh.all (fun c=>c.all (fB sh.length))=true) (hD:∀ c∈sh,c≠bJ) (ha:args.all (eX sh.length)=true) (R:LL):gF P f args (sh++R) r (sh'++R):=by
 intro kd β bs S0 O0 w vs hE hargs;obtain⟨kd1,O1,hE1,hA⟩:=pR (r:=r) hl hsh hD R hE;refine (h kd1 β bs S0 O1 w vs hE1 (kO ha hargs)).mono ?_
 rintro e w' ⟨v,kd',β',bs',he,A⟩
 obtain⟨kd2,A2⟩:=hA v kd' β' bs' w' A;exact⟨v,kd2,β,bs,he,A2⟩
theorem D4.frame {P:Program} {f:FuncId} {args:List AV} {sh sh':LL} {r:AV} (h:D4 P f args sh r sh') (hl:sh'.length=sh.length) (hsh:sh.all (fun c=>c.all (fB sh.length))=true) (hD:∀ c∈sh,c≠bJ) (ha:args.all (eX sh.length)=true) (R:LL):D4 P f args (sh++R) r (sh'++R):=by
 intro kd β bs S0 O0 w vs hE hargs;obtain⟨kd1,O1,hE1,hA⟩:=pR (r:=r) hl hsh hD R hE;obtain⟨v,w',kd',β',bs',hr,A⟩:=h kd1 β bs S0 O1 w vs hE1 (kO ha hargs);obtain⟨kd2,A2⟩:=hA v kd' β' bs' w' A;exact⟨v,w',kd2,β,bs,hr,A2⟩
def WX (G:aL) (f:FuncId) (args:List AV):LL->Option (AV × LL)
 | c :: R=>(G f args [c]).bind fun p=>if p.2.length=1/\c.all (fB 1)=true/\eQ c=false/\args.all (eX 1)=true then some (p.1,p.2++R) else none
 | []=>none
def WS (G:aL) (f:FuncId) (args:List AV) (sh:LL):Option (AV × LL):=
 match args with
 | .sl .full z [] :: xs=>(G f (.sl .no z [] :: xs) []).bind fun p=>if p.2=[]/\xs.all (eX 0)=true then some (p.1,sh) else none
 | _=>none
end Go.Av
