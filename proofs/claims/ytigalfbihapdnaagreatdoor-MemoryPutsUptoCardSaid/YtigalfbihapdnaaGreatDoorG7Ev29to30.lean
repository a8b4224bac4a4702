/- A part of the frame (Ev29 Ev30). No conditions. -/
import Derived.Test.YtigalfbihapdnaaGreatDoorG7Ev21to28
open List
set_option linter.unusedSimpArgs false
set_option linter.unusedVariables false
set_option linter.unusedSectionVars false
set_option maxRecDepth 100000
set_option maxHeartbeats 16000000
namespace Go.Av
variable [Gtab]
open Go.RowKit
section
variable {P:Program}
def cloneA4 (z bytes:Nat) (zero:List AV):ACode:=.seq (.reg false [] [
 ⟨some 5,.mks z zero 0 [],[],.none,none,none⟩,
 ⟨some 6,.mv,[.t 0],.none,none,none⟩,
 ⟨some 7,.app false z bytes,[.t 5,.t 6],.none,some 5,none⟩,
 ⟨some 2,.mvo,[.t 7],.none,some 7,none⟩] []) .ret
def okCloneV (P:Program) (f:FuncId) (z bytes:Nat) (zero:List AV):Bool:=
 match P.funcs[f]? with
 | some fn=>(match fn.body with
  | some (.seq c0 (.seq (.seq (.region _ ops false) (.cond (.tmp 4) x .skip)) rest)) =>
   okCode P fn.ntmps c0 (cloneA0 z) && (match ops.toList with
     | [o3,o4]=>okO P fn.ntmps ops o3 ⟨some 3,.mv,[.t 0],.none,none,none⟩ && o4.dst == some 4 && o4.guard.isNone && isNilEq P (.tmp 3) o4.op
     | _=>false) && okCode P fn.ntmps x (.seq (cloneA0 z) .ret) && okCode P fn.ntmps rest (cloneA4 z bytes zero)
  | _=>false) && decide (8<=fn.ntmps) && okRes P fn.results.toList [.tmp 2] && !(fn.name == "runtime.NumGoroutine")
 | none=>false
theorem appA_fu {z bytes z':Nat} {l:LL} {o:Own} (hz:0 < z) (hzl:z'=z\/l=[]) (hb:appOK bytes l.length=true):appA false z bytes (.sl .full z []) (.sl o z' l)=some (.sl .own z l):=by
 have hb':l.length*bytes<=140737488355328/\l.length<=4611686018427387904:=by simpa [appOK] using hb
 cases l with
 | nil=>simp [appA,hz,rowsA]
 | cons a l =>
  have e:z'=z:=hzl.resolve_right (by simp);subst e;simp only[length_cons] at hb';simp [appA,hz,rowsA,hb']
theorem cloneV_sound (hmix:P.follows .mixedOrders=true) {f:FuncId} {z bytes:Nat} {zero:List AV} (hok:okCloneV P f z bytes zero=true) (hz:0 < z) {m:Own} {z':Nat} {l:LL} {sh:LL}
  (hzl:z'=z\/l=[]) (hb:appOK bytes l.length=true):Real P f/\SemCall P f [.sl m z' l] sh (.sl .no z l) sh:=by
 unfold okCloneV at hok
 split at hok
 case h_2=>cases hok
 rename_i fn hfn;simp only[Bool.and_eq_true,decide_eq_true_eq] at hok;obtain⟨⟨⟨hbody,hnt⟩,hres⟩,hname⟩:=hok
 split at hbody
 case h_2=>cases hbody
 rename_i c0 id ops x rest hC;simp only[Bool.and_eq_true] at hbody;obtain⟨⟨⟨h0,h1⟩,h2⟩,h3⟩:=hbody
 split at h1
 case h_2=>cases h1
 rename_i o3 o4 hops;simp only[Bool.and_eq_true] at h1;obtain⟨⟨⟨k1,k2⟩,k3⟩,k4⟩:=h1;have k2':o4.dst=some 4:=by simpa using k2
 have k3':o4.guard=none:=by simpa using k3
 refine fun_wp (nargs:=1) (keep:=true) (res:=[.tmp 2]) hfn hC (by omega) hres (by simpa using hname) rfl ?_;intro E g a w hEt hn0 hs;rw[<- hEt] at h0 h2 h3 k1;have hG:Good P (funA (fun _ _ _=>none) (fun _=>none) 0):=fun _ _ _ _ _ h=>by cases h
 rw[initA_ST] at hs;refine wp_seq ?_;have e0:execX GN (cloneA0 z) (ST (argl 0 [.sl m z' l]) [] sh)=some (.norm,ST [(0,.sl m z' l),(2,.sl .full z [])] [] sh):=by
  simp only[cloneA0,argl,go_sem,set_cons_zero,set_cons_succ,take_succ_cons,and_false,false_and,and_true,true_and,Nat.reduceAdd,Nat.reduceEqDiff,Nat.reduceLT,↓reduceIte,decide_eq_true_eq,take_nil,beq_self_eq_true,bne_self_eq_false,take_zero,map_cons,map_nil,Int.reduceNeg,Bool.and_true,and_self,Bool.true_and,Bool.and_self,ne_eq,not_true_eq_false,decide_false,decide_true,Bool.false_eq_true,Nat.reduceAdd,Option.map_some,Option.map_none,Option.bind_some,Option.bind_none,length_nil,length_cons,append_nil,Bool.and_false,w64,demV_sl,Int.cast_ofNat_Int,Int.reduceLT,Int.reduceAdd,Int.reduceSub,Int.reduceLE,Int.reduceEq,Int.reduceToNat,Int.toNat_natCast,Nat.reduceSub,Nat.reduceMul,Nat.reduceLeDiff,Nat.zero_add,Int.zero_add,not_false_eq_true,Bool.not_true,Bool.not_false,Bool.false_and,cons_append,nil_append]
 refine execX_sound hmix h0 e0 ⟨g,hs⟩ fun a1 w1 hp1=>?_
 refine wp_seq ?_;refine wp_seq ?_;refine wp_region_list ?_;rw[hops];have e1:stepA (funA (fun _ _ _=>none) (fun _=>none) 0) ⟨some 3,.mv,[.t 0],.none,none,none⟩ (ST [(0,.sl m z' l),(2,.sl .full z [])] [] sh)=some (put (ST [(0,.sl m z' l),(2,.sl .full z [])] [] sh) (some 3) (demV (.sl m z' l))):=rfl;have e1':put (ST [(0,.sl m z' l),(2,.sl .full z [])] [] sh) (some 3) (demV (.sl m z' l))=ST [(0,.sl m z' l),(2,.sl .full z []),(3,demV (.sl m z' l))] [] sh:=by
  simp only[put,ST,upd_look,setl];rfl
 rw[e1'] at e1;refine wpl_step hG hp1 k1 e1 fun a2 w2 hp2=>?_
 obtain⟨g2,hs2⟩:=hp2;have hr3:∃ A c,a2.eval (.tmp 3)=.slice A l.length c/\(l=[]\/A.isNone=false):=by
  obtain⟨A,c,q1,_,_,q4⟩:=hs2.rdSl (x:=.tmp 3) (r:=.t 3) (m:=match m with | .own=>.no | m=>m) (z:=z') (l:=l) (by simp [okR]) (by cases m<;>rfl);refine⟨A,c,q1,?_⟩;rcases q4 with q4 | ⟨b,o,q4,_⟩
  ·exact .inl q4
  ·exact .inr (by rw[q4];rfl)
 obtain⟨A,c,q1,q2⟩:=hr3;refine wpList_plain k3' fun K hK=>?_
 refine Oper.wp_mono ?_ (nilEq_sound hs2 (fun d hd=>by rw[k2'] at hd;injection hd with hd;rw[<- hd,hEt];exact Nat.lt_of_lt_of_le (by decide) hnt) k4 q1);intro a3 w3 hp3;rw[k2'] at hp3;refine hK _ _ ?_;show ((Code.cond (.tmp 4) x .skip).wp P _ _ _);have hp3':Post E (ST [(0,.sl m z' l),(2,.sl .full z []),(3,demV (.sl m z' l)),(4,.bool A.isNone)] [] sh) a3 w3:=by
  have:put (ST [(0,.sl m z' l),(2,.sl .full z []),(3,demV (.sl m z' l))] [] sh) (some 4) (.bool A.isNone)=ST [(0,.sl m z' l),(2,.sl .full z []),(3,demV (.sl m z' l)),(4,.bool A.isNone)] [] sh:=by
   simp only[put,ST,upd_look,setl];rfl
  rwa [<- this]
 have hb4:a3.eval (.tmp 4)=.bool A.isNone:=by
  obtain⟨g3,hs3⟩:=hp3';exact hs3.rdBool (r:=.t 4) (by simp [okR]) rfl
 refine wp_cond hb4 ?_;cases hA:A.isNone with
 | true =>
  have hl:l=[]:=by
   rcases q2 with q2 | q2
   ·exact q2
   ·rw[hA] at q2;cases q2
  subst hl;rw[hA] at hp3';have e2:execX GN (.seq (cloneA0 z) .ret) (ST [(0,.sl m z' []),(2,.sl .full z []),(3,demV (.sl m z' [])),(4,.bool true)] [] sh)=some (.ret,ST [(0,.sl m z' []),(2,.sl .full z []),(3,demV (.sl m z' [])),(4,.bool true)] [] sh):=by
   simp only[cloneA0,go_sem,set_cons_zero,set_cons_succ,take_succ_cons,and_false,false_and,and_true,true_and,Nat.reduceAdd,Nat.reduceEqDiff,Nat.reduceLT,↓reduceIte,decide_eq_true_eq,take_nil,beq_self_eq_true,bne_self_eq_false,take_zero,map_cons,map_nil,Int.reduceNeg,Bool.and_true,and_self,Bool.true_and,Bool.and_self,ne_eq,not_true_eq_false,decide_false,decide_true,Bool.false_eq_true,Nat.reduceAdd,Option.map_some,Option.map_none,Option.bind_some,Option.bind_none,length_nil,length_cons,append_nil,Bool.and_false,w64,demV_sl,Int.cast_ofNat_Int,Int.reduceLT,Int.reduceAdd,Int.reduceSub,Int.reduceLE,Int.reduceEq,Int.reduceToNat,Int.toNat_natCast,Nat.reduceSub,Nat.reduceMul,Nat.reduceLeDiff,Nat.zero_add,Int.zero_add,not_false_eq_true,Bool.not_true,Bool.not_false,Bool.false_and,cons_append,nil_append]
  refine execX_sound hmix h2 e2 hp3' fun a4 w4 hp4=>?_
  exact⟨.inl rfl,_,hp4,by simp [finA,resultsA,resA,frzV,packA,outB,plainB,demV,ST,look,strV]⟩
 | false =>
  rw[hA] at hp3';refine wp_skip ?_;have ha:∀ o:Own,appA false z bytes (.sl .full z []) (.sl o z' l)=some (.sl .own z l):=fun o=>appA_fu hz hzl hb
  cases l with
  | nil =>
   have e2:execX GN (cloneA4 z bytes zero) (ST [(0,.sl m z' []),(2,.sl .full z []),(3,demV (.sl m z' [])),(4,.bool false)] [] sh)=some (.ret,ST [(0,.sl m z' []),(2,.sl .own z []),(3,demV (.sl m z' [])),(4,.bool false),(5,.sl .full z []),(6,demV (.sl m z' [])),(7,.sl .no z [])] [] sh):=by
    simp only[cloneA4,mks0,ha,go_sem,set_cons_zero,set_cons_succ,take_succ_cons,and_false,false_and,and_true,true_and,Nat.reduceAdd,Nat.reduceEqDiff,Nat.reduceLT,↓reduceIte,decide_eq_true_eq,take_nil,beq_self_eq_true,bne_self_eq_false,take_zero,map_cons,map_nil,Int.reduceNeg,Bool.and_true,and_self,Bool.true_and,Bool.and_self,ne_eq,not_true_eq_false,decide_false,decide_true,Bool.false_eq_true,Nat.reduceAdd,Option.map_some,Option.map_none,Option.bind_some,Option.bind_none,length_nil,length_cons,append_nil,Bool.and_false,w64,demV_sl,Int.cast_ofNat_Int,Int.reduceLT,Int.reduceAdd,Int.reduceSub,Int.reduceLE,Int.reduceEq,Int.reduceToNat,Int.toNat_natCast,Nat.reduceSub,Nat.reduceMul,Nat.reduceLeDiff,Nat.zero_add,Int.zero_add,not_false_eq_true,Bool.not_true,Bool.not_false,Bool.false_and,cons_append,nil_append]
   refine execX_sound hmix h3 e2 hp3' fun a4 w4 hp4=>?_
   exact⟨.inl rfl,_,hp4,by simp [finA,resultsA,resA,frzV,packA,outB,plainB,demV,ST,look,strV]⟩
  | cons r l =>
   have hzz:z'=z:=by simpa using hzl
   subst hzz;have hb':appOK bytes (l.length+1)=true:=hb;have e2:execX GN (cloneA4 z' bytes zero) (ST [(0,.sl m z' (r :: l)),(2,.sl .full z' []),(3,demV (.sl m z' (r :: l))),(4,.bool false)] [] sh)=some (.ret,ST [(0,.sl m z' (r :: l)),(2,.sl .own z' (r :: l)),(3,demV (.sl m z' (r :: l))),(4,.bool false),(5,.sl .full z' []),(6,demV (.sl m z' (r :: l))),(7,.sl .no z' (r :: l))] [] sh):=by
    cases m<;>simp only[cloneA4,mks0,ha,go_sem,set_cons_zero,set_cons_succ,take_succ_cons,and_false,false_and,and_true,true_and,Nat.reduceAdd,Nat.reduceEqDiff,Nat.reduceLT,↓reduceIte,decide_eq_true_eq,take_nil,beq_self_eq_true,bne_self_eq_false,take_zero,map_cons,map_nil,Int.reduceNeg,Bool.and_true,and_self,Bool.true_and,Bool.and_self,ne_eq,not_true_eq_false,decide_false,decide_true,Bool.false_eq_true,Nat.reduceAdd,Option.map_some,Option.map_none,Option.bind_some,Option.bind_none,length_nil,length_cons,append_nil,Bool.and_false,w64,demV_sl,Int.cast_ofNat_Int,Int.reduceLT,Int.reduceAdd,Int.reduceSub,Int.reduceLE,Int.reduceEq,Int.reduceToNat,Int.toNat_natCast,Nat.reduceSub,Nat.reduceMul,Nat.reduceLeDiff,Nat.zero_add,Int.zero_add,not_false_eq_true,Bool.not_true,Bool.not_false,Bool.false_and,cons_append,nil_append,hz,hb']
   refine execX_sound hmix h3 e2 hp3' fun a4 w4 hp4=>?_
   exact⟨.inl rfl,_,hp4,by simp [finA,resultsA,resA,frzV,packA,outB,plainB,demV,ST,look,strV]⟩
end
def cloneV (z bytes:Nat):List AV->LL->Option (AV × LL)
 | [.sl _ z' l],sh=>if z'=z/\appOK bytes l.length=true then some (.sl .no z l,sh) else none
 | _,_=>none
theorem cloneVB_sound {P:Program} (hmix:P.follows .mixedOrders=true) {f:FuncId} {z bytes:Nat} {zero:List AV} (hok:okCloneV P f z bytes zero=true) (hz:0 < z) {args:List AV} {sh sh':LL} {r:AV}
  (h:cloneV z bytes args sh=some (r,sh')):Real P f/\SemCall P f args sh r sh':=by
 unfold cloneV at h
 split at h
 ·rename_i m z' l
  split at h
  ·rename_i hc
   simp only[Option.some.injEq,Prod.mk.injEq] at h
   have:=cloneV_sound (m:=m) (sh:=sh) hmix hok hz (.inl hc.1) hc.2
   rw[<- h.1,<- h.2];exact this
  ·cases h
 ·cases h
end Go.Av
namespace Go.Av
variable [Gtab]
open Go.RowKit
def argLt (n:Nat):AV->Bool
 | .ptr o _=>decide (o < n)
 | .ss o _ _ _=>decide (o < n)
 | .int .. | .bool _ | .str _ | .nilp | .agg _ | .sl ..=>true
 | _=>false
theorem argLt_rep {c:Cx} {n:Nat} {x:AV} {v:Value} (hlt:argLt n x=true) (r:RepT c noOwn x v):RepT { c with shn:=n } noOwn x v:=by
 cases x with
 | ptr o off =>
  have r':o < c.shn/\v=.pointer (some ⟨c.β o,off,none⟩):=r;exact⟨by simpa [argLt] using hlt,r'.2⟩
 | ss o off m z =>
  have r':o < c.shn/\∃ cp,v=.slice (some ⟨c.β o,off,none⟩) m cp/\m<=cp/\ssz off cp z (c.bs o):=r;exact⟨by simpa [argLt] using hlt,r'.2⟩
 | int=>exact r
 | bool=>exact r
 | str=>exact r
 | nilp=>exact r
 | agg=>exact r
 | sl m z l=>cases m<;>exact r
 | any=>simp [argLt] at hlt
 | undef=>simp [argLt] at hlt
 | loc=>simp [argLt] at hlt
 | ip=>simp [argLt] at hlt
 | fn=>simp [argLt] at hlt
 | tup=>simp [argLt] at hlt
 | mp=>simp [argLt] at hlt
 | mapv=>simp [argLt] at hlt
 | aggR=>simp [argLt] at hlt
theorem argLt_reps {c:Cx} {n:Nat}:∀ {xs:List AV} {vs:List Value},xs.all (argLt n)=true->RepL (RepT c noOwn) xs vs->RepL (RepT { c with shn:=n } noOwn) xs vs
 | [],[],_,_=>trivial
 | x :: xs,v :: vs,h,r=>by
  rw[all_cons,Bool.and_eq_true] at h;exact⟨argLt_rep h.1 r.1,argLt_reps h.2 r.2⟩
 | [],_ :: _,_,r=>by simp [RepL] at r
 | _ :: _,[],_,r=>by simp [RepL] at r
theorem frame_core {sh sh':LL} {r:AV} (hl:sh'.length=sh.length) (hsh:sh.all (fun c=>c.all (refLt sh.length))=true) (hD:∀ c∈sh,c≠dead) (R:LL) {kd:Nat->BK} {β bs:Nat->Nat} {S0:Nat->Nat->Prop} {O0:Nat->Option Nat} {w:World} (hE:EntOK (sh++R) kd β bs S0 O0 w) :
  ∃ kd1 O1,EntOK sh kd1 β bs S0 O1 w/\∀ v kd' β' bs' w',After S0 O1 β bs w sh sh' r v kd' β' bs' w'->∃ kd2,After S0 O0 β bs w (sh++R) (sh'++R) r v kd2 β bs w':=by
 obtain⟨⟨e1,e1'⟩,e2,e3,e4,e5⟩:=hE;have hlen:sh.length<=(sh++R).length:=by simp
 have hget:∀ {i:Nat} {c:List AV},sh[i]?=some c->(sh++R)[i]?=some c:=fun {i c} hi=>by
  rw[getElem?_append_left (List.getElem?_eq_some_iff.1 hi).1];exact hi
 have hlive:∀ i,i < sh.length->kd (β i)=.shr i:=fun i hi=>by
  have hg:sh[i]?=some sh[i]:=getElem?_eq_getElem hi;exact (e1 i _ (hget hg) (hD _ (mem_of_getElem? hg))).1
 let RO:Nat->Prop:=fun b=>∃ i j k,kd b=.own (.cell i j) k/\sh.length<=i
 have hnRO:∀ {b i:Nat},kd b=.shr i->¬ RO b:=by
  rintro b i hb ⟨_,_,_,h1,_⟩
  rw[hb] at h1;cases h1
 classical
 let kd1:Nat->BK:=fun b=>if RO b then .stab else kd b
 let O1:Nat->Option Nat:=fun b=>if RO b then none else O0 b
 have kd1n:∀ {b},¬ RO b->kd1 b=kd b:=fun {b} hb=>if_neg hb
 have O1n:∀ {b},¬ RO b->O1 b=O0 b:=fun {b} hb=>if_neg hb
 have O1s:∀ {b k},O1 b=some k->¬ RO b/\O0 b=some k:=fun {b k} hb=>by
  by_cases q:RO b
  ·have:O1 b=none:=if_pos q
   rw[this] at hb;cases hb
  ·exact⟨q,(O1n q).symm.trans hb⟩
 have kd1s:∀ {b t k},kd1 b=.own t k->¬ RO b/\kd b=.own t k:=fun {b t k} hb=>by
  by_cases q:RO b
  ·have:kd1 b=.stab:=if_pos q
   rw[this] at hb;cases hb
  ·exact⟨q,(kd1n q).symm.trans hb⟩
 have hE1:EntOK sh kd1 β bs S0 O1 w:=by
  refine⟨⟨fun i cells hi hd=>?_,fun i hi=>?_⟩,fun b o hS=>?_,fun b k hk=>?_,fun b t k hk hb=>?_,e5⟩
  ·obtain⟨k1,k2,k3⟩:=e1 i cells (hget hi) hd
   have hil:i < sh.length:=(List.getElem?_eq_some_iff.1 hi).1;refine⟨(kd1n (hnRO k1)).trans k1,fun hbk=>?_,?_⟩
   ·obtain⟨arr,ty,fz,q1,q2,q3,q4⟩:=k2 hbk
    refine⟨arr,ty,fz,q1,q2,q3,fun j x hx=>?_⟩;obtain⟨v,q5,q6⟩:=q4 j x hx;refine⟨v,q5,refLt_mono (c:=cx0 β bs S0 w (sh++R).length) (n:=sh.length) (fun b m hS=>⟨hS,rfl⟩) rfl rfl rfl ?_ ?_ q6⟩
    ·rw[all_eq_true] at hsh
     have h8:=hsh cells (mem_of_getElem? hi);rw[all_eq_true] at h8;exact h8 x (mem_of_getElem? hx)
    ·rintro z l hxe ⟨A,c,p1,p2⟩
     refine⟨A,c,p1,?_⟩;rcases p2 with p2 | ⟨b,ar,tt,p3,p4,p5,p6⟩
     ·exact .inl p2
     ·refine .inr ⟨b,ar,tt,p3,p4,p5,?_⟩
      rw[kd1n]
      ·exact p6
      ·rintro ⟨i',j',k',p7,p8⟩
       rw[p6] at p7;cases p7;omega
   ·unfold ObjM at k3 ⊢
    split
    ·obtain⟨es,cl,q1,q2⟩:=k3
     exact⟨es,cl,q1,RepM_mono' (c:=cx0 β bs S0 w (sh++R).length) (c':=cx0 β bs S0 w sh.length) (fun b m hS=>⟨hS,rfl⟩) q2⟩
    ·trivial
  ·exact⟨(e1' i (by omega)).1,i,(kd1n (hnRO (hlive i hi))).trans (hlive i hi)⟩
  ·obtain⟨k1,k2,k3⟩:=e2 b o hS
   exact⟨k1,fun i hi=>k2 i (by omega),fun k hk=>k3 k (O1s hk).2⟩
  ·obtain⟨q,hk⟩:=O1s hk
   obtain⟨k1,k2,t,k',k3,k4⟩:=e3 b k hk;exact⟨k1,fun i hi=>k2 i (by omega),t,k',(kd1n q).trans k3,k4⟩
  ·obtain⟨q,hk⟩:=kd1s hk
   rw[O1n q];exact e4 b t k hk hb
 refine⟨kd1,O1,hE1,fun v kd' β' bs' w' A=>?_⟩
 let Q:Nat->Prop:=fun b=>b < w.heap.size/\(∀ i,i < sh.length->β i≠b)/\O1 b=none
 let kd2:Nat->BK:=fun b=>if Q b then kd b else kd' b
 have kd2q:∀ {b},Q b->kd2 b=kd b:=fun {b} hb=>if_pos hb
 have kd2n:∀ {b},¬ Q b->kd2 b=kd' b:=fun {b} hb=>if_neg hb
 have hQsh:∀ i,i < sh.length->¬ Q (β i):=fun i hi q=>q.2.1 i hi rfl
 have hQown:∀ {b t k},kd' b=.own t k->¬ Q b:=fun {b t k} hb q=>by
  rcases A.own0 b t k hb with q1 | q1
  ·have:=q.1;omega
  ·rw[q.2.2] at q1;cases q1
 have hSm:∀ b o,S1 S0 w w' kd' b o->S1 S0 w w' kd2 b o:=by
  rintro b o (q | ⟨q1,q2,q3⟩ | ⟨q1,t,k,q2,q3⟩)
  ·exact .inl q
  ·exact .inr (.inl ⟨q1,q2,(kd2n (fun q=>by have:=q.1;omega)).trans q3⟩)
  ·exact .inr (.inr ⟨q1,t,k,(kd2n (hQown q2)).trans q2,q3⟩)
 have hle1:Cx.le (cx0 β' bs' (S1 S0 w w' kd') w' sh'.length) (cx0 β bs (S1 S0 w w' kd2) w' (sh'++R).length):=
  ⟨fun b o hS=>⟨hSm b o hS,rfl⟩,by show sh'.length<=(sh'++R).length;simp,fun i hi=>(A.same i (by have:i < sh'.length:=hi;omega)).1.symm,fun i hi=>(A.same i (by have:i < sh'.length:=hi;omega)).2.symm,fun s hs=>hs.elim⟩
 have hle2:Cx.le (cx0 β bs S0 w (sh++R).length) (cx0 β bs (S1 S0 w w' kd2) w' (sh'++R).length):=
  ⟨fun b o hS=>⟨.inl hS,A.sframe b o hS⟩,by show (sh++R).length<=(sh'++R).length;simp [hl],fun _ _=>rfl,fun _ _=>rfl,fun s hs=>hs.elim⟩
 have hheap:∀ {b},Q b->w'.heap[b]?=w.heap[b]?:=fun {b} q=>A.frame b q.1 q.2.1 q.2.2
 have hRget:∀ {i:Nat},sh.length<=i->(sh'++R)[i]?=(sh++R)[i]?:=fun {i} hi=>by
  rw[getElem?_append_right (by omega),getElem?_append_right hi,hl]
 refine⟨kd2,fun _ _=>⟨rfl,rfl⟩,by simp [hl],⟨fun i cells hi hd=>?_,fun i hi=>?_⟩,?_,A.os,A.tape,A.output,A.size,fun b hb hn ho=>?_,A.sframe,fun b k hk=>?_,fun b t k hk=>?_,fun i h1 h2=>?_,fun i hi=>?_⟩
 ·by_cases hlt:i < sh.length
  ·rw[getElem?_append_left (by omega)] at hi
   obtain⟨k1,k2⟩:=A.shok.1 i cells hi hd;obtain⟨s1,s2⟩:=A.same i hlt;rw[s1] at k1 k2;rw[s2] at k2;refine⟨(kd2n (hQsh i hlt)).trans k1,k2.mono hle1 rfl ?_⟩
   rintro j z l v hx ⟨A',c,p1,p2⟩
   refine⟨A',c,p1,?_⟩;rcases p2 with p2 | ⟨b,ar,tt,p3,p4,p5,p6⟩
   ·exact .inl p2
   ·exact .inr ⟨b,ar,tt,p3,p4,p5,(kd2n (hQown p6)).trans p6⟩
  ·rw[hRget (by omega)] at hi
   obtain⟨k1,k2⟩:=e1 i cells hi hd;have hi':i < (sh++R).length:=(List.getElem?_eq_some_iff.1 hi).1;have hq:Q (β i):=by
    refine⟨(e1' i hi').1,fun k hk hkb=>?_,?_⟩
    ·have:=hlive k hk
     rw[hkb,k1] at this;cases this;omega
    ·cases ho:O1 (β i) with
     | none=>rfl
     | some k =>
      obtain⟨_,_,t,k',q,_⟩:=e3 _ _ (O1s ho).2;rw[k1] at q;cases q
   refine⟨(kd2q hq).trans k1,k2.mono hle2 (hheap hq) ?_⟩
   rintro j z l v hx ⟨A',c,p1,p2⟩
   refine⟨A',c,p1,?_⟩;rcases p2 with p2 | ⟨b,ar,tt,p3,p4,p5,p6⟩
   ·exact .inl p2
   ·have hb:Q b:=by
     refine⟨(Array.getElem?_eq_some_iff.1 p4).1,fun k hk hkb=>?_,if_pos ⟨i,j,_,p6,by omega⟩⟩
     have:=hlive k hk
     rw[hkb,p6] at this;cases this
    exact .inr ⟨b,ar,tt,p3,(hheap hb).trans p4,p5,(kd2q hb).trans p6⟩
 ·have hi':i < (sh++R).length:=by simp [hl] at hi ⊢;omega
  obtain⟨k1,j,k2⟩:=e1' i hi';have hsz:=A.size;refine⟨by omega,?_⟩;by_cases q:Q (β i)
  ·exact⟨j,(kd2q q).trans k2⟩
  ·rw[kd2n q]
   by_cases q1:∃ k,k < sh.length/\β k=β i
   ·obtain⟨k,q2,q3⟩:=q1
    obtain⟨_,j',q4⟩:=A.shok.2 k (by omega);rw[(A.same k q2).1,q3] at q4;exact⟨j',q4⟩
   ·cases ho:O1 (β i) with
    | none=>exact absurd ⟨k1,fun k hk hkb=>q1 ⟨k,hk,hkb⟩,ho⟩ q
    | some k =>
     obtain⟨_,_,t,k',q5,_⟩:=e3 _ _ (O1s ho).2;rw[k2] at q5;cases q5
 ·exact RepT.mono hle1 _ _ (fun _ _ _ h=>h) A.rep
 ·refine A.frame b hb (fun i hi=>hn i (by omega)) ?_
  by_cases q:RO b
  ·exact if_pos q
  ·rw[O1n q];exact ho
 ·obtain⟨k1,k2,t,k',k3,k4⟩:=e3 b k hk
  by_cases q:RO b
  ·have hq:Q b:=⟨k1,fun i hi=>k2 i (by omega),if_pos q⟩
   exact⟨t,k',(kd2q hq).trans k3,k4⟩
  ·have ho:O1 b=some k:=(O1n q).trans hk
   obtain⟨t',k'',q1,q2⟩:=A.o0 b k ho;exact⟨t',k'',(kd2n (hQown q1)).trans q1,q2⟩
 ·by_cases q:Q b
  ·rw[kd2q q] at hk
   exact .inr (e4 b t k hk q.1)
  ·rw[kd2n q] at hk
   rcases A.own0 b t k hk with q1 | q1
   ·exact .inl q1
   ·refine .inr ?_
    obtain⟨k2,q2⟩:=Option.isSome_iff_exists.1 q1;rw[(O1s q2).2];rfl
 ·simp [hl] at h1 h2;omega
 ·by_cases hlt:i < sh.length
  ·rw[getElem?_append_left hlt] at hi
   exact absurd rfl (hD _ (mem_of_getElem? hi))
  ·rw[hRget (by omega)];exact hi
theorem SemCall.frame {P:Program} {f:FuncId} {args:List AV} {sh sh':LL} {r:AV} (h:SemCall P f args sh r sh') (hl:sh'.length=sh.length) (hsh:sh.all (fun c=>c.all (refLt sh.length))=true) (hD:∀ c∈sh,c≠dead) (ha:args.all (argLt sh.length)=true) (R:LL):SemCall P f args (sh++R) r (sh'++R):=by
 intro kd β bs S0 O0 w vs hE hargs;obtain⟨kd1,O1,hE1,hA⟩:=frame_core (r:=r) hl hsh hD R hE;refine (h kd1 β bs S0 O1 w vs hE1 (argLt_reps ha hargs)).mono ?_
 rintro e w' ⟨v,kd',β',bs',he,A⟩
 obtain⟨kd2,A2⟩:=hA v kd' β' bs' w' A;exact⟨v,kd2,β,bs,he,A2⟩
theorem SemX.frame {P:Program} {f:FuncId} {args:List AV} {sh sh':LL} {r:AV} (h:SemX P f args sh r sh') (hl:sh'.length=sh.length) (hsh:sh.all (fun c=>c.all (refLt sh.length))=true) (hD:∀ c∈sh,c≠dead) (ha:args.all (argLt sh.length)=true) (R:LL):SemX P f args (sh++R) r (sh'++R):=by
 intro kd β bs S0 O0 w vs hE hargs;obtain⟨kd1,O1,hE1,hA⟩:=frame_core (r:=r) hl hsh hD R hE;obtain⟨v,w',kd',β',bs',hr,A⟩:=h kd1 β bs S0 O1 w vs hE1 (argLt_reps ha hargs);obtain⟨kd2,A2⟩:=hA v kd' β' bs' w' A;exact⟨v,w',kd2,β,bs,hr,A2⟩
def frmB (G:Calls') (f:FuncId) (args:List AV):LL->Option (AV × LL)
 | c :: R=>(G f args [c]).bind fun p=>if p.2.length=1/\c.all (refLt 1)=true/\isDead c=false/\args.all (argLt 1)=true then some (p.1,p.2++R) else none
 | []=>none
theorem frmB_sound {P:Program} {G:Calls'} (hG:Good P G) {f:FuncId} {args:List AV} {sh sh':LL} {r:AV} (h:frmB G f args sh=some (r,sh')):(Real P f/\SemCall P f args sh r sh')\/SemX P f args sh r sh':=by
 unfold frmB at h
 split at h
 ·rename_i c R
  obtain⟨⟨r1,s1⟩,h1,h2⟩:=Option.bind_eq_some_iff.1 h;obtain⟨⟨q1,q2,q3,q4⟩,h3⟩:=ite_some h2;simp only[Option.some.injEq,Prod.mk.injEq] at h3;obtain⟨rfl,rfl⟩:=h3;have hsh:[c].all (fun c=>c.all (refLt [c].length))=true:=by simp only[all_cons,all_nil,Bool.and_true];exact q2
  have hD:∀ x∈[c],x≠dead:=fun x hx=>by rw[mem_singleton.1 hx];intro e;rw[isDead_eq.2 e] at q3;cases q3
  rcases hG f args [c] r1 s1 h1 with ⟨hr,hs⟩ | hs
  ·exact .inl ⟨hr,hs.frame q1 hsh hD q4 R⟩
  ·exact .inr (hs.frame q1 hsh hD q4 R)
 ·cases h
theorem nil_no {c:Cx} {z:Nat} {v:Value} (r:RepT c noOwn (.sl .full z []) v):RepT c noOwn (.sl .no z []) v:=RepT.str r
def nilB (G:Calls') (f:FuncId) (args:List AV) (sh:LL):Option (AV × LL):=
 match args with
 | .sl .full z [] :: xs=>(G f (.sl .no z [] :: xs) []).bind fun p=>if p.2=[]/\xs.all (argLt 0)=true then some (p.1,sh) else none
 | _=>none
theorem nilB_sound {P:Program} {G:Calls'} (hG:Good P G) {f:FuncId} {args:List AV} {sh sh':LL} {r:AV} (h:nilB G f args sh=some (r,sh')):(Real P f/\SemCall P f args sh r sh')\/SemX P f args sh r sh':=by
 unfold nilB at h
 split at h
 ·rename_i z xs
  obtain⟨⟨r1,s1⟩,h1,h2⟩:=Option.bind_eq_some_iff.1 h;obtain⟨⟨q1,q2⟩,h3⟩:=ite_some h2;simp only[Option.some.injEq,Prod.mk.injEq] at h3;obtain⟨rfl,rfl⟩:=h3;simp only at q1;subst q1;have ha:(AV.sl .no z [] :: xs).all (argLt ([]:LL).length)=true:=by rw[all_cons,Bool.and_eq_true];exact⟨rfl,q2⟩
  have hD:∀ x∈([]:LL),x≠dead:=fun x hx=>by cases hx
  have hr:∀ {c:Cx} {vs:List Value},RepL (RepT c noOwn) (.sl .full z [] :: xs) vs->RepL (RepT c noOwn) (.sl .no z [] :: xs) vs:=fun {c vs} q=>by
   cases vs with
   | nil=>exact q
   | cons v vs=>exact⟨nil_no q.1,q.2⟩
  rcases hG f _ [] r1 [] h1 with ⟨hR,hs⟩ | hs
  ·refine .inl ⟨hR,fun kd β bs S0 O0 w vs hE hargs=>?_⟩
   exact (hs.frame rfl rfl hD ha sh) kd β bs S0 O0 w vs hE (hr hargs)
  ·refine .inr (fun kd β bs S0 O0 w vs hE hargs=>?_)
   exact (hs.frame rfl rfl hD ha sh) kd β bs S0 O0 w vs hE (hr hargs)
 ·cases h
end Go.Av
