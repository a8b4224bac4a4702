/- A part of the proof: QG. No conditions. -/
import Derived.Test.YtgbjlnijjonidaaGreatDoorG1XD
import Derived.Test.YtgbjlnijjonidaaGreatDoorG1Ev19to29
import Derived.SizedLaws
import Derived.Deep.Strs
import Derived.Deep.Fields
open List
set_option linter.unusedSimpArgs false
set_option linter.unusedVariables false
set_option linter.unusedSectionVars false
set_option maxRecDepth 100000
set_option maxHeartbeats 16000000

namespace Go.Av
open Go.ChangeShapes Go.WideShapes Go.ChangeAt Go.RowKit
section
variable {H:Type} {enc:TypeId × Value->H} {P:Program} {w:World} {base:Nat} {spare:Nat->Bool} {held:Bool}
theorem iR {e:TypeId} {d:DataW H} {m:Nat}:∀ {l:List (DataW H)},d∈l->m∈d.weights P e->m∈DataW.weightsAll P e l
 | x :: l,h,hm=>by
  simp only[DataW.weightsAll,mem_append];rcases mem_cons.1 h with h | h
  ·subst h;exact .inl hm
  ·exact .inr (iR h hm)
theorem nJ {X:Type} (R:Nat->X->Prop):∀ n,(∀ i,i < n->∃ x,R i x)->∃ l:List X,l.length=n/\∀ i x,l[i]?=some x->R i x
 | 0,_=>⟨[],rfl,by simp⟩
 | n+1,h=>by
  obtain⟨l,hl,hr⟩:=nJ R n (fun i hi=>h i (by omega));obtain⟨x,hx⟩:=h n (by omega);refine⟨l++[x],by simp [hl],fun i y hy=>?_⟩;by_cases hi:i < l.length
  ·rw[getElem?_append_left hi] at hy;exact hr i y hy
  ·rw[getElem?_append_right (by omega)] at hy
   have:i - l.length=0:=by
    have:=(List.getElem?_eq_some_iff.1 hy).1
    simp at this;omega
   rw[this] at hy;simp at hy;subst hy
   have:i=n:=by omega
   rw[this];exact hx
theorem zZ {X:Type} (f:X->List AV) (z:Nat) (Q:X->Prop) {r:Reach} {b0 nn:Nat} {t e:TypeId} {v:Value} {d:DataW H} {ps:List MemPlace} {ow:Value->Nat->Nat->Prop} (ht:P.underlying t=some (.slice e)) (hc:P.cellsOf e=z)
  (hz:0 < z) (hval:Value.okWide P w r b0 t v) (hd:DataW.Trod enc P w base spare held t v d ps) (hs:∀ m∈d.weights P t,m<=reachBytes)
  (hel:∀ (S:Nat->Nat->Prop) (n:Nat) (cs:List Value) (dd:DataW H × List MemPlace),cs.length=z->DataW.trod enc P w base spare held n e cs=some dd->(∀ m∈dd.1.weights P e,m<=reachBytes)->∃ x:X,(f x).length=z/\Q x/\∀ (j:Nat) (a:AV),(f x)[j]?=some a->∃ u:Value,cs[j]?=some u/\aD S w a u) :
  ∃ l:List X,aK (cx0 (fun _=>0) (fun _=>0) (fun b _=>b < w.heap.size) w nn) ow (.sl .no z (l.map f)) v/\(∀ x∈l,Q x)/\l.length*P.bytesOf e<=reachBytes:=by
 obtain⟨a0,len,cap,rfl⟩:=okWide_slice ht hval;obtain⟨fuel,hf⟩:=hd;rcases DataW.trod_slice ht hf with ⟨hcs,hx⟩ | ⟨a,len',cap',elems,rest,n,_,hcs,hx,_,hl,_,hlen,hE,_⟩
 ·simp [Value.cells] at hcs
  obtain⟨rfl,rfl,rfl⟩:=hcs;refine⟨[],?_,by simp,by simp⟩;simp only[aK,aJ,aD];exact⟨none,0,rfl,Nat.le_refl _,by simp,by simp,.inl rfl⟩
 ·simp [Value.cells] at hcs
  obtain⟨rfl,rfl,rfl⟩:=hcs;simp only[Prod.mk.injEq] at hx;obtain⟨rfl,_⟩:=hx;simp only[DataW.weights,ht] at hs;have key:∀ i,i < len->∃ x:X,(f x).length=z/\Q x/\∀ (j:Nat) (y:AV),(f x)[j]?=some y->∃ u:Value,w.cell? ((a.add (i*z)).add j)=some u/\aD (fun b _=>b < w.heap.size) w y u:=by
   intro i hi;have hi':=hE i hi;rw[hc] at hi';have hy:elems[i]?=some elems[i]:=getElem?_eq_getElem (by omega);rw[hy] at hi';simp only[Option.bind_eq_some_iff] at hi';obtain⟨cs,hcs,htr⟩:=hi';have hcz:=World.cells?_some hcs
   obtain⟨x,x1,x2,x3⟩:=hel (fun b _=>b < w.heap.size) n cs elems[i] hcz.2.1 htr (fun m hm=>hs m (by
    refine mem_cons_of_mem _ (mem_append_left _ (iR (d:=elems[i].1) (mem_map_of_mem (getElem_mem _)) hm))))
   refine⟨x,x1,x2,fun j y hj=>?_⟩;obtain⟨u,u1,u2⟩:=x3 j y hj;have hjz:j < z:=by rw[<- x1];exact (List.getElem?_eq_some_iff.1 hj).1
   exact⟨u,by rw[hcz.2.2 j hjz];exact u1,u2⟩
  obtain⟨l,l1,l2⟩:=nJ (fun i x=>(f x).length=z/\Q x/\∀ (j:Nat) (y:AV),(f x)[j]?=some y->∃ u:Value,w.cell? ((a.add (i*z)).add j)=some u/\aD (fun b _=>b < w.heap.size) w y u) len key;refine⟨l,?_,fun x hx=>?_,?_⟩
  ·simp only[aK,aJ,aD]
   have hl2:(l.map f).length=len:=by simp [l1]
   refine⟨some a,cap,by rw[hl2],by rw[hl2];omega,by simp,by simp,?_⟩;by_cases h0:len=0
   ·left
    have:l=[]:=eq_nil_of_length_eq_zero (by omega)
    rw[this];rfl
   ·right
    have hsp:a.spot=none:=by
     have g:=l2 0 _ (getElem?_eq_getElem (by omega));have q1:0 < (f l[0]).length:=by rw[g.1];exact hz
     obtain⟨u,u1,_⟩:=g.2.2 0 _ (getElem?_eq_getElem q1)
     have:=kZ u1
     simpa [Addr.add] using this
    obtain⟨b,o,sp⟩:=a;simp only at hsp;subst hsp;have ea:∀ k,(⟨b,o,none⟩:Addr).add k=⟨b,o+k,none⟩:=by
     intro k;unfold Addr.add;split
     ·rename_i h;subst h;rfl
     ·rfl
    refine⟨b,o,rfl,dK.mk fun i row hrow=>?_⟩;rw[getElem?_map] at hrow;obtain⟨x,hx,rfl⟩:=Option.map_eq_some_iff.1 hrow;have g:=l2 i x hx;refine⟨g.1,cW.mk fun j y hj=>?_⟩;obtain⟨u,u1,u2⟩:=g.2.2 j y hj;have e2:((⟨b,o,none⟩:Addr).add (i*z)).add j=⟨b,o+i*z+j,none⟩:=by
     rw[ea];unfold Addr.add;split
     ·rename_i h;subst h;rfl
     ·rfl
    rw[e2] at u1;exact⟨World.block_lt_of_cell? w _ u1,u,u1,u2⟩
  ·obtain⟨i,hi⟩:=mem_iff_getElem?.1 hx
   exact (l2 i x hi).2.1
  ·have:=hs _ (mem_cons_self)
   simp only[length_map] at this;rw[l1,<- hlen];exact Nat.le_trans (Nat.mul_le_mul_right _ (by omega)) this
end
section
open Go.Deep
section
variable {H:Type} {enc:TypeId × Value->H} {P:Program} {w:World} {base:Nat} {spare:Nat->Bool} {held:Bool}
theorem xN:reachBytes<=140737488355328:=by decide
theorem B1 {r:Reach} {b0 nn:Nat} {t e:TypeId} {f0 f1 f2:Field} {v:Value} {d:DataW H} {ps:List MemPlace} {ow:Value->Nat->Nat->Prop} (ht:P.underlying t=some (.slice e)) (he:P.underlying e=some (.struct #[f0,f1,f2])) (hone:oneCellFields P #[f0,f1,f2]=true) (hc:P.cellsOf e=3) (hb:P.bytesOf e=32)
  (k0:P.underlying f0.type=some (.int .i64)) (k1:P.underlying f1.type=some .string) (k2:P.underlying f2.type=some (.int .i64))
  (hval:Value.okWide P w r b0 t v) (hd:DataW.Trod enc P w base spare held t v d ps) (hs:∀ m∈d.weights P t,m<=reachBytes) :
  ∃ l:List Tk,aK (cx0 (fun _=>0) (fun _=>0) (fun b _=>b < w.heap.size) w nn) ow (.sl .no 3 (tks l)) v/\l.length<=4398046511104/\∀ x∈l,x.2.1.length<=140737488355328:=by
 obtain⟨l,h1,h2,h3⟩:=zZ (nn:=nn) (ow:=ow) tkR 3 (fun x=>x.2.1.length<=140737488355328) ht hc (by decide) hval hd hs (by
  intro S n cs dd hcs htr hwt;obtain⟨y0,y1,y2,m,rfl,_,a0,a1,a2⟩:=trod_struct3 he htr;obtain⟨o0,c0⟩:=hone_of hone 0 f0 rfl;obtain⟨o1,c1⟩:=hone_of hone 1 f1 rfl;obtain⟨o2,c2⟩:=hone_of hone 2 f2 rfl
  match cs,hcs with
  | [u0,u1,u2],_ =>
   rw[o0,c0] at a0;rw[o1,c1] at a1;rw[o2,c2] at a2;obtain⟨x0,e0,_,_⟩:=DataW.trod_int k0 a0;obtain⟨s,e1,q1,_⟩:=DataW.trod_string k1 a1;obtain⟨x2,e2,_,_⟩:=DataW.trod_int k2 a2;simp at e0 e1 e2;subst e0 e1 e2 q1
   have hl:s.data.toList.length<=reachBytes:=hwt _ (by
    simp only[DataW.weights,he]
    simp [DataW.weightsEach,DataW.weights])
   refine⟨(x0,s.data.toList,x2),rfl,Nat.le_trans hl xN,fun j a hj=>?_⟩
   match j with
   | 0 =>
    simp [tkR] at hj;subst hj;exact⟨.int .i64 x0,rfl,by simp [aD]⟩
   | 1 =>
    simp [tkR] at hj;subst hj;exact⟨.string s,rfl,by simp only[aD];exact⟨s,rfl,rfl⟩⟩
   | 2 =>
    simp [tkR] at hj;subst hj;exact⟨.int .i64 x2,rfl,by simp [aD]⟩
   | j+3=>simp [tkR] at hj)
 refine⟨l,h1,?_,h2⟩
 have:=xN
 rw[hb] at h3;omega
end
end
end Go.Av
