/- A part of the frame (Ev29). No conditions. -/
import Derived.Test.YtigalfbihapdnaaGreatDoorG6Ev21to28
open List
set_option linter.unusedSimpArgs false
set_option linter.unusedVariables false
set_option linter.unusedSectionVars false
set_option maxRecDepth 100000
set_option maxHeartbeats 16000000
namespace Go.Av
variable [Gtab]
open Go.RowKit
section
variable {P:Program}
def cloneA4 (z bytes:Nat) (zero:List AV):ACode:=.seq (.reg false [] [
 ⟨some 5,.mks z zero 0 [],[],.none,none,none⟩,
 ⟨some 6,.mv,[.t 0],.none,none,none⟩,
 ⟨some 7,.app false z bytes,[.t 5,.t 6],.none,some 5,none⟩,
 ⟨some 2,.mvo,[.t 7],.none,some 7,none⟩] []) .ret
def okCloneV (P:Program) (f:FuncId) (z bytes:Nat) (zero:List AV):Bool:=
 match P.funcs[f]? with
 | some fn=>(match fn.body with
  | some (.seq c0 (.seq (.seq (.region _ ops false) (.cond (.tmp 4) x .skip)) rest)) =>
   okCode P fn.ntmps c0 (cloneA0 z) && (match ops.toList with
     | [o3,o4]=>okO P fn.ntmps ops o3 ⟨some 3,.mv,[.t 0],.none,none,none⟩ && o4.dst == some 4 && o4.guard.isNone && isNilEq P (.tmp 3) o4.op
     | _=>false) && okCode P fn.ntmps x (.seq (cloneA0 z) .ret) && okCode P fn.ntmps rest (cloneA4 z bytes zero)
  | _=>false) && decide (8<=fn.ntmps) && okRes P fn.results.toList [.tmp 2] && !(fn.name == "runtime.NumGoroutine")
 | none=>false
theorem appA_fu {z bytes z':Nat} {l:LL} {o:Own} (hz:0 < z) (hzl:z'=z\/l=[]) (hb:appOK bytes l.length=true):appA false z bytes (.sl .full z []) (.sl o z' l)=some (.sl .own z l):=by
 have hb':l.length*bytes<=140737488355328/\l.length<=4611686018427387904:=by simpa [appOK] using hb
 cases l with
 | nil=>simp [appA,hz,rowsA]
 | cons a l =>
  have e:z'=z:=hzl.resolve_right (by simp);subst e;simp only[length_cons] at hb';simp [appA,hz,rowsA,hb']
theorem cloneV_sound (hmix:P.follows .mixedOrders=true) {f:FuncId} {z bytes:Nat} {zero:List AV} (hok:okCloneV P f z bytes zero=true) (hz:0 < z) {m:Own} {z':Nat} {l:LL} {sh:LL}
  (hzl:z'=z\/l=[]) (hb:appOK bytes l.length=true):Real P f/\SemCall P f [.sl m z' l] sh (.sl .no z l) sh:=by
 unfold okCloneV at hok
 split at hok
 case h_2=>cases hok
 rename_i fn hfn;simp only[Bool.and_eq_true,decide_eq_true_eq] at hok;obtain⟨⟨⟨hbody,hnt⟩,hres⟩,hname⟩:=hok
 split at hbody
 case h_2=>cases hbody
 rename_i c0 id ops x rest hC;simp only[Bool.and_eq_true] at hbody;obtain⟨⟨⟨h0,h1⟩,h2⟩,h3⟩:=hbody
 split at h1
 case h_2=>cases h1
 rename_i o3 o4 hops;simp only[Bool.and_eq_true] at h1;obtain⟨⟨⟨k1,k2⟩,k3⟩,k4⟩:=h1;have k2':o4.dst=some 4:=by simpa using k2
 have k3':o4.guard=none:=by simpa using k3
 refine fun_wp (nargs:=1) (keep:=true) (res:=[.tmp 2]) hfn hC (by omega) hres (by simpa using hname) rfl ?_;intro E g a w hEt hn0 hs;rw[<- hEt] at h0 h2 h3 k1;have hG:Good P (funA (fun _ _ _=>none) (fun _=>none) 0):=fun _ _ _ _ _ h=>by cases h
 rw[initA_ST] at hs;refine wp_seq ?_;have e0:execX GN (cloneA0 z) (ST (argl 0 [.sl m z' l]) [] sh)=some (.norm,ST [(0,.sl m z' l),(2,.sl .full z [])] [] sh):=by
  simp only[cloneA0,argl,go_sem,set_cons_zero,set_cons_succ,take_succ_cons,and_false,false_and,and_true,true_and,Nat.reduceAdd,Nat.reduceEqDiff,Nat.reduceLT,↓reduceIte,decide_eq_true_eq,take_nil,beq_self_eq_true,bne_self_eq_false,take_zero,map_cons,map_nil,Int.reduceNeg,Bool.and_true,and_self,Bool.true_and,Bool.and_self,ne_eq,not_true_eq_false,decide_false,decide_true,Bool.false_eq_true,Nat.reduceAdd,Option.map_some,Option.map_none,Option.bind_some,Option.bind_none,length_nil,length_cons,append_nil,Bool.and_false,w64,demV_sl,Int.cast_ofNat_Int,Int.reduceLT,Int.reduceAdd,Int.reduceSub,Int.reduceLE,Int.reduceEq,Int.reduceToNat,Int.toNat_natCast,Nat.reduceSub,Nat.reduceMul,Nat.reduceLeDiff,Nat.zero_add,Int.zero_add,not_false_eq_true,Bool.not_true,Bool.not_false,Bool.false_and,cons_append,nil_append]
 refine execX_sound hmix h0 e0 ⟨g,hs⟩ fun a1 w1 hp1=>?_
 refine wp_seq ?_;refine wp_seq ?_;refine wp_region_list ?_;rw[hops];have e1:stepA (funA (fun _ _ _=>none) (fun _=>none) 0) ⟨some 3,.mv,[.t 0],.none,none,none⟩ (ST [(0,.sl m z' l),(2,.sl .full z [])] [] sh)=some (put (ST [(0,.sl m z' l),(2,.sl .full z [])] [] sh) (some 3) (demV (.sl m z' l))):=rfl;have e1':put (ST [(0,.sl m z' l),(2,.sl .full z [])] [] sh) (some 3) (demV (.sl m z' l))=ST [(0,.sl m z' l),(2,.sl .full z []),(3,demV (.sl m z' l))] [] sh:=by
  simp only[put,ST,upd_look,setl];rfl
 rw[e1'] at e1;refine wpl_step hG hp1 k1 e1 fun a2 w2 hp2=>?_
 obtain⟨g2,hs2⟩:=hp2;have hr3:∃ A c,a2.eval (.tmp 3)=.slice A l.length c/\(l=[]\/A.isNone=false):=by
  obtain⟨A,c,q1,_,_,q4⟩:=hs2.rdSl (x:=.tmp 3) (r:=.t 3) (m:=match m with | .own=>.no | m=>m) (z:=z') (l:=l) (by simp [okR]) (by cases m<;>rfl);refine⟨A,c,q1,?_⟩;rcases q4 with q4 | ⟨b,o,q4,_⟩
  ·exact .inl q4
  ·exact .inr (by rw[q4];rfl)
 obtain⟨A,c,q1,q2⟩:=hr3;refine wpList_plain k3' fun K hK=>?_
 refine Oper.wp_mono ?_ (nilEq_sound hs2 (fun d hd=>by rw[k2'] at hd;injection hd with hd;rw[<- hd,hEt];exact Nat.lt_of_lt_of_le (by decide) hnt) k4 q1);intro a3 w3 hp3;rw[k2'] at hp3;refine hK _ _ ?_;show ((Code.cond (.tmp 4) x .skip).wp P _ _ _);have hp3':Post E (ST [(0,.sl m z' l),(2,.sl .full z []),(3,demV (.sl m z' l)),(4,.bool A.isNone)] [] sh) a3 w3:=by
  have:put (ST [(0,.sl m z' l),(2,.sl .full z []),(3,demV (.sl m z' l))] [] sh) (some 4) (.bool A.isNone)=ST [(0,.sl m z' l),(2,.sl .full z []),(3,demV (.sl m z' l)),(4,.bool A.isNone)] [] sh:=by
   simp only[put,ST,upd_look,setl];rfl
  rwa [<- this]
 have hb4:a3.eval (.tmp 4)=.bool A.isNone:=by
  obtain⟨g3,hs3⟩:=hp3';exact hs3.rdBool (r:=.t 4) (by simp [okR]) rfl
 refine wp_cond hb4 ?_;cases hA:A.isNone with
 | true =>
  have hl:l=[]:=by
   rcases q2 with q2 | q2
   ·exact q2
   ·rw[hA] at q2;cases q2
  subst hl;rw[hA] at hp3';have e2:execX GN (.seq (cloneA0 z) .ret) (ST [(0,.sl m z' []),(2,.sl .full z []),(3,demV (.sl m z' [])),(4,.bool true)] [] sh)=some (.ret,ST [(0,.sl m z' []),(2,.sl .full z []),(3,demV (.sl m z' [])),(4,.bool true)] [] sh):=by
   simp only[cloneA0,go_sem,set_cons_zero,set_cons_succ,take_succ_cons,and_false,false_and,and_true,true_and,Nat.reduceAdd,Nat.reduceEqDiff,Nat.reduceLT,↓reduceIte,decide_eq_true_eq,take_nil,beq_self_eq_true,bne_self_eq_false,take_zero,map_cons,map_nil,Int.reduceNeg,Bool.and_true,and_self,Bool.true_and,Bool.and_self,ne_eq,not_true_eq_false,decide_false,decide_true,Bool.false_eq_true,Nat.reduceAdd,Option.map_some,Option.map_none,Option.bind_some,Option.bind_none,length_nil,length_cons,append_nil,Bool.and_false,w64,demV_sl,Int.cast_ofNat_Int,Int.reduceLT,Int.reduceAdd,Int.reduceSub,Int.reduceLE,Int.reduceEq,Int.reduceToNat,Int.toNat_natCast,Nat.reduceSub,Nat.reduceMul,Nat.reduceLeDiff,Nat.zero_add,Int.zero_add,not_false_eq_true,Bool.not_true,Bool.not_false,Bool.false_and,cons_append,nil_append]
  refine execX_sound hmix h2 e2 hp3' fun a4 w4 hp4=>?_
  exact⟨.inl rfl,_,hp4,by simp [finA,resultsA,resA,frzV,packA,outB,plainB,demV,ST,look,strV]⟩
 | false =>
  rw[hA] at hp3';refine wp_skip ?_;have ha:∀ o:Own,appA false z bytes (.sl .full z []) (.sl o z' l)=some (.sl .own z l):=fun o=>appA_fu hz hzl hb
  cases l with
  | nil =>
   have e2:execX GN (cloneA4 z bytes zero) (ST [(0,.sl m z' []),(2,.sl .full z []),(3,demV (.sl m z' [])),(4,.bool false)] [] sh)=some (.ret,ST [(0,.sl m z' []),(2,.sl .own z []),(3,demV (.sl m z' [])),(4,.bool false),(5,.sl .full z []),(6,demV (.sl m z' [])),(7,.sl .no z [])] [] sh):=by
    simp only[cloneA4,mks0,ha,go_sem,set_cons_zero,set_cons_succ,take_succ_cons,and_false,false_and,and_true,true_and,Nat.reduceAdd,Nat.reduceEqDiff,Nat.reduceLT,↓reduceIte,decide_eq_true_eq,take_nil,beq_self_eq_true,bne_self_eq_false,take_zero,map_cons,map_nil,Int.reduceNeg,Bool.and_true,and_self,Bool.true_and,Bool.and_self,ne_eq,not_true_eq_false,decide_false,decide_true,Bool.false_eq_true,Nat.reduceAdd,Option.map_some,Option.map_none,Option.bind_some,Option.bind_none,length_nil,length_cons,append_nil,Bool.and_false,w64,demV_sl,Int.cast_ofNat_Int,Int.reduceLT,Int.reduceAdd,Int.reduceSub,Int.reduceLE,Int.reduceEq,Int.reduceToNat,Int.toNat_natCast,Nat.reduceSub,Nat.reduceMul,Nat.reduceLeDiff,Nat.zero_add,Int.zero_add,not_false_eq_true,Bool.not_true,Bool.not_false,Bool.false_and,cons_append,nil_append]
   refine execX_sound hmix h3 e2 hp3' fun a4 w4 hp4=>?_
   exact⟨.inl rfl,_,hp4,by simp [finA,resultsA,resA,frzV,packA,outB,plainB,demV,ST,look,strV]⟩
  | cons r l =>
   have hzz:z'=z:=by simpa using hzl
   subst hzz;have hb':appOK bytes (l.length+1)=true:=hb;have e2:execX GN (cloneA4 z' bytes zero) (ST [(0,.sl m z' (r :: l)),(2,.sl .full z' []),(3,demV (.sl m z' (r :: l))),(4,.bool false)] [] sh)=some (.ret,ST [(0,.sl m z' (r :: l)),(2,.sl .own z' (r :: l)),(3,demV (.sl m z' (r :: l))),(4,.bool false),(5,.sl .full z' []),(6,demV (.sl m z' (r :: l))),(7,.sl .no z' (r :: l))] [] sh):=by
    cases m<;>simp only[cloneA4,mks0,ha,go_sem,set_cons_zero,set_cons_succ,take_succ_cons,and_false,false_and,and_true,true_and,Nat.reduceAdd,Nat.reduceEqDiff,Nat.reduceLT,↓reduceIte,decide_eq_true_eq,take_nil,beq_self_eq_true,bne_self_eq_false,take_zero,map_cons,map_nil,Int.reduceNeg,Bool.and_true,and_self,Bool.true_and,Bool.and_self,ne_eq,not_true_eq_false,decide_false,decide_true,Bool.false_eq_true,Nat.reduceAdd,Option.map_some,Option.map_none,Option.bind_some,Option.bind_none,length_nil,length_cons,append_nil,Bool.and_false,w64,demV_sl,Int.cast_ofNat_Int,Int.reduceLT,Int.reduceAdd,Int.reduceSub,Int.reduceLE,Int.reduceEq,Int.reduceToNat,Int.toNat_natCast,Nat.reduceSub,Nat.reduceMul,Nat.reduceLeDiff,Nat.zero_add,Int.zero_add,not_false_eq_true,Bool.not_true,Bool.not_false,Bool.false_and,cons_append,nil_append,hz,hb']
   refine execX_sound hmix h3 e2 hp3' fun a4 w4 hp4=>?_
   exact⟨.inl rfl,_,hp4,by simp [finA,resultsA,resA,frzV,packA,outB,plainB,demV,ST,look,strV]⟩
end
def cloneV (z bytes:Nat):List AV->LL->Option (AV × LL)
 | [.sl _ z' l],sh=>if z'=z/\appOK bytes l.length=true then some (.sl .no z l,sh) else none
 | _,_=>none
theorem cloneVB_sound {P:Program} (hmix:P.follows .mixedOrders=true) {f:FuncId} {z bytes:Nat} {zero:List AV} (hok:okCloneV P f z bytes zero=true) (hz:0 < z) {args:List AV} {sh sh':LL} {r:AV}
  (h:cloneV z bytes args sh=some (r,sh')):Real P f/\SemCall P f args sh r sh':=by
 unfold cloneV at h
 split at h
 ·rename_i m z' l
  split at h
  ·rename_i hc
   simp only[Option.some.injEq,Prod.mk.injEq] at h
   have:=cloneV_sound (m:=m) (sh:=sh) hmix hok hz (.inl hc.1) hc.2
   rw[<- h.1,<- h.2];exact this
  ·cases h
 ·cases h
end Go.Av
