/- Entries within the bound of a bulk. No conditions. Entries as arguments, within the bound of a bulk. No conditions. -/
import Derived.Test.YtmjfblcmbcfkcaaGreatDoorG3XB
import Derived.Test.YtmjfblcmbcfkcaaGreatDoorG3PG
import Derived.Test.YtmjfblcmbcfkcaaGreatDoorG3XH
import Derived.Test.YtmjfblcmbcfkcaaGreatDoorG3W0
open List
set_option linter.unusedSimpArgs false
set_option linter.unusedVariables false
set_option linter.unusedSectionVars false
set_option maxRecDepth 100000
set_option maxHeartbeats 16000000
namespace Go.Av
open Go.Nt
structure UE (e:En):Prop where
 S:e.S.length<=1048576
 sT:∀ t∈e.S,t.2.1.length<=1048576
 T:e.T.length<=1048576
 tT:∀ t∈e.T,t.2.1.length<=1048576
 p:e.p.length<=1048576
 n:e.n.length<=1048576
 a:e.a.length<=1048576
 j:e.j.length<=1048576
end Go.Av
namespace Go.Av
open Go.ChangeShapes Go.WideShapes Go.ChangeAt Go.RowKit Go.Deep Go.Nt
section
variable {H:Type} {enc:TypeId × Value->H} {P:Program} {w:World} {base:Nat} {spare:Nat->Bool} {held:Bool}
theorem C9 {X:Type} (f:X->List AV) (z:Nat) (Q:X->DataW H->Prop) {nn:Nat} {t e:TypeId} {v:Value} {dp:DataW H × List MemPlace} {fuel:Nat} {ow:Value->Nat->Nat->Prop} (ht:P.underlying t=some (.slice e)) (hc:P.cellsOf e=z)
  (hz:0 < z) (hf:DataW.trod enc P w base spare held fuel t [v]=some dp)
  (hel:∀ (n:Nat) (cs:List Value) (dd:DataW H × List MemPlace),cs.length=z->DataW.trod enc P w base spare held n e cs=some dd->∃ x:X,(f x).length=z/\Q x dd.1/\∀ (j:Nat) (a:AV),(f x)[j]?=some a->∃ u:Value,cs[j]?=some u/\aE (fun b _=>b < w.heap.size) w a u) :
  ∃ l:List X,aE (fun b _=>b < w.heap.size) w (.sl .no z (l.map f)) v/\(l=[]\/∃ elems sp,dp.1=.slice elems sp/\l.length<=elems.length/\∀ x∈l,∃ dd∈elems,Q x dd):=by
 rcases DataW.trod_slice ht hf with ⟨hcs,hx⟩ | ⟨a,len,cap,elems,rest,n,_,hcs,hx,_,hl,_,hlen,hE,_⟩
 ·simp at hcs
  subst hcs;refine⟨[],?_,.inl rfl⟩;simp only[aE];exact⟨none,0,rfl,Nat.le_refl _,by simp,by simp,.inl rfl⟩
 ·simp at hcs
  subst hcs;have key:∀ i,i < len->∃ x:X,(f x).length=z/\(∃ dd∈elems.map (·.1),Q x dd)/\∀ (j:Nat) (y:AV),(f x)[j]?=some y->∃ u:Value,w.cell? ((a.add (i*z)).add j)=some u/\aE (fun b _=>b < w.heap.size) w y u:=by
   intro i hi;have hi':=hE i hi;rw[hc] at hi';have hy:elems[i]?=some elems[i]:=getElem?_eq_getElem (by omega);rw[hy] at hi';simp only[Option.bind_eq_some_iff] at hi';obtain⟨cs,hcs,htr⟩:=hi';have hcz:=World.cells?_some hcs;obtain⟨x,x1,x2,x3⟩:=hel n cs elems[i] hcz.2.1 htr;refine⟨x,x1,⟨_,mem_map_of_mem (getElem_mem _),x2⟩,fun j y hj=>?_⟩;obtain⟨u,u1,u2⟩:=x3 j y hj;have hjz:j < z:=by rw[<- x1];exact (List.getElem?_eq_some_iff.1 hj).1
   exact⟨u,by rw[hcz.2.2 j hjz];exact u1,u2⟩
  obtain⟨l,l1,l2⟩:=tM (fun i x=>(f x).length=z/\(∃ dd∈elems.map (·.1),Q x dd)/\∀ (j:Nat) (y:AV),(f x)[j]?=some y->∃ u:Value,w.cell? ((a.add (i*z)).add j)=some u/\aE (fun b _=>b < w.heap.size) w y u) len key;refine⟨l,?_,?_⟩
  ·simp only[aE]
   have hl2:(l.map f).length=len:=by simp [l1]
   refine⟨some a,cap,by rw[hl2],by rw[hl2];omega,by simp,by simp,?_⟩;by_cases h0:len=0
   ·left
    have:l=[]:=eq_nil_of_length_eq_zero (by omega)
    rw[this];rfl
   ·right
    have hsp:a.spot=none:=by
     have g:=l2 0 _ (getElem?_eq_getElem (by omega));have q1:0 < (f l[0]).length:=by rw[g.1];exact hz
     obtain⟨u,u1,_⟩:=g.2.2 0 _ (getElem?_eq_getElem q1)
     have:=qN u1
     simpa [Addr.add] using this
    obtain⟨b,o,sp⟩:=a;simp only at hsp;subst hsp;have ea:∀ k,(⟨b,o,none⟩:Addr).add k=⟨b,o+k,none⟩:=by
     intro k;unfold Addr.add;split
     ·rename_i h;subst h;rfl
     ·rfl
    refine⟨b,o,rfl,fO.mk fun i row hrow=>?_⟩;rw[getElem?_map] at hrow;obtain⟨x,hx,rfl⟩:=Option.map_eq_some_iff.1 hrow;have g:=l2 i x hx;refine⟨g.1,d9.mk fun j y hj=>?_⟩;obtain⟨u,u1,u2⟩:=g.2.2 j y hj;have e2:((⟨b,o,none⟩:Addr).add (i*z)).add j=⟨b,o+i*z+j,none⟩:=by
     rw[ea];unfold Addr.add;split
     ·rename_i h;subst h;rfl
     ·rfl
    rw[e2] at u1;exact⟨World.block_lt_of_cell? w _ u1,u,u1,u2⟩
  ·right
   refine⟨_,_,by rw[hx],by simp;omega,fun x hx=>?_⟩;obtain⟨i,hi⟩:=mem_iff_getElem?.1 hx;exact (l2 i x hi).2.1
theorem xO {nn:Nat} {t e:TypeId} {f0 f1 f2:Field} {v:Value} {dp:DataW H × List MemPlace} {fuel:Nat} (ht:P.underlying t=some (.slice e)) (he:P.underlying e=some (.struct #[f0,f1,f2])) (hone:oneCellFields P #[f0,f1,f2]=true) (hc:P.cellsOf e=3)
  (k0:P.underlying f0.type=some (.int .i64)) (k1:P.underlying f1.type=some .string) (k2:P.underlying f2.type=some (.int .i64)) (hf:DataW.trod enc P w base spare held fuel t [v]=some dp) :
  ∃ l:List Tk,aE (fun b _=>b < w.heap.size) w (.sl .no 3 (tks l)) v/\(l=[]\/∃ elems sp,dp.1=.slice elems sp/\l.length<=elems.length/\∀ x∈l,∃ dd∈elems,∃ d0 d2,dd=.agg [d0,.lit (.string x.2.1),d2]):=by
 refine C9 (nn:=nn) (ow:=fun _ _ _=>False) tkR 3 (fun x dd=>∃ d0 d2,dd=.agg [d0,.lit (.string x.2.1),d2]) ht hc (by decide) hf ?_;intro n cs dd hcs htr;obtain⟨y0,y1,y2,m,rfl,_,a0,a1,a2⟩:=trod_struct3 he htr;obtain⟨o0,c0⟩:=hone_of hone 0 f0 rfl;obtain⟨o1,c1⟩:=hone_of hone 1 f1 rfl;obtain⟨o2,c2⟩:=hone_of hone 2 f2 rfl
 match cs,hcs with
 | [u0,u1,u2],_ =>
  rw[o0,c0] at a0;rw[o1,c1] at a1;rw[o2,c2] at a2;obtain⟨x0,e0,_,_⟩:=DataW.trod_int k0 a0;obtain⟨s,e1,q1,_⟩:=DataW.trod_string k1 a1;obtain⟨x2,e2,_,_⟩:=DataW.trod_int k2 a2;simp at e0 e1 e2;subst e0 e1 e2 q1;refine⟨(x0,s.data.toList,x2),rfl,⟨_,_,rfl⟩,fun j a hj=>?_⟩
  match j with
  | 0 =>
   simp [tkR] at hj;subst hj;exact⟨.int .i64 x0,rfl,by simp [aE]⟩
  | 1 =>
   simp [tkR] at hj;subst hj;exact⟨.string s,rfl,by simp only[aE];exact⟨s,rfl,rfl⟩⟩
  | 2 =>
   simp [tkR] at hj;subst hj;exact⟨.int .i64 x2,rfl,by simp [aE]⟩
  | j+3=>simp [tkR] at hj
theorem W0 {α:Type} {cs:Array α} (h:cs.size=8):∃ c0 c1 c2 c3 c4 c5 c6 c7,cs=#[c0,c1,c2,c3,c4,c5,c6,c7]:=by
 obtain⟨l⟩:=cs
 match l,h with
 | [c0,c1,c2,c3,c4,c5,c6,c7],_=>exact⟨c0,c1,c2,c3,c4,c5,c6,c7,rfl⟩
theorem yW {t:TypeId} {f0 f1 f2 f3 f4 f5 f6 f7:Field} {fuel:Nat} {cs:List Value} {x:DataW H × List MemPlace} (ht:P.underlying t=some (.struct #[f0,f1,f2,f3,f4,f5,f6,f7])) (h:DataW.trod enc P w base spare held fuel t cs=some x) :
  ∃ (y0 y1 y2 y3 y4 y5 y6 y7:DataW H × List MemPlace) (n:Nat),x.1=.agg [y0.1,y1.1,y2.1,y3.1,y4.1,y5.1,y6.1,y7.1]/\cs.length=P.cellsOf t/\∀ (i:Nat) (f:Field) (y:DataW H × List MemPlace),#[f0,f1,f2,f3,f4,f5,f6,f7][i]?=some f->[y0,y1,y2,y3,y4,y5,y6,y7][i]?=some y ->
   DataW.trod enc P w base spare held n f.type ((cs.drop f.offset).take (P.cellsOf f.type))=some y:=by
 obtain⟨xs,n,_,rfl,hl,hlen,hf⟩:=DataW.trod_struct ht h
 match xs,hlen with
 | [y0,y1,y2,y3,y4,y5,y6,y7],_ =>
  refine⟨y0,y1,y2,y3,y4,y5,y6,y7,n,by simp,hl,fun i f y h1 h2=>?_⟩
  have:=hf i f h1
  rw[h2] at this;exact this
open Go.Proofs.YtmjfblcmbcfkcaaGreatDoor (Rows.uptoBulk Rows.uptoBulkAll)
theorem MA (d:DataW H):1<=Rows.uptoBulk d:=by
 cases d with
 | lit l=>cases l<;>simp [Rows.uptoBulk]
 | nil=>simp [Rows.uptoBulk]
 | ptr d=>simp [Rows.uptoBulk]
 | slice elems spare=>simp [Rows.uptoBulk]
 | agg parts=>simp [Rows.uptoBulk]
 | iface t d=>simp [Rows.uptoBulk]
 | map entries=>simp [Rows.uptoBulk]
 | held h=>simp [Rows.uptoBulk]
theorem yK {d:DataW H} {l:List (DataW H)} (h:d∈l):Rows.uptoBulk d<=Rows.uptoBulkAll l:=by
 induction l with
 | nil=>cases h
 | cons x r ih =>
  simp only[Rows.uptoBulkAll]
  cases mem_cons.1 h with
  | inl e=>subst e;omega
  | inr e=>have:=ih e;omega
theorem MB (l:List (DataW H)):l.length<=Rows.uptoBulkAll l:=by
 induction l with
 | nil=>simp [Rows.uptoBulkAll]
 | cons x r ih=>have:=MA x;simp only[Rows.uptoBulkAll,length_cons];omega
theorem yJ {l:List Tk} {d:DataW H} (h:l=[]\/∃ elems sp,d=.slice elems sp/\l.length<=elems.length/\∀ x∈l,∃ dd∈elems,∃ d0 d2,dd=.agg [d0,.lit (.string x.2.1),d2]):l.length<=Rows.uptoBulk d/\∀ x∈l,x.2.1.length<=Rows.uptoBulk d:=by
 rcases h with rfl | ⟨elems,sp,rfl,h1,h2⟩
 ·simp
 ·have h3:=MB elems
  have e:Rows.uptoBulk (.slice elems sp)=Rows.uptoBulkAll elems+Rows.uptoBulkAll sp+1:=by simp [Rows.uptoBulk]
  refine⟨by omega,fun x hx=>?_⟩;obtain⟨dd,h4,d0,d2,rfl⟩:=h2 x hx;have h5:=yK h4;have e2:Rows.uptoBulk (DataW.agg (H:=H) [d0,.lit (.string x.2.1),d2])=(Rows.uptoBulk d0+((x.2.1.length+1)+(Rows.uptoBulk d2+0)))+1:=by simp [Rows.uptoBulk,Rows.uptoBulkAll]
  omega
theorem HS {r:Reach} {b0 nn:Nat} {t te:TypeId} {f0 f1 f2 f3 f4 f5 f6 f7 g0 g1 g2:Field} {v:Value} {d:DataW H} {ps:List MemPlace} {ow:Value->Nat->Nat->Prop} (hs:P.underlying t=some (.struct #[f0,f1,f2,f3,f4,f5,f6,f7])) (hone:oneCellFields P #[f0,f1,f2,f3,f4,f5,f6,f7]=true) (hC:P.cellsOf t=8)
  (s0:P.underlying f0.type=some (.slice te)) (s1:P.underlying f1.type=some (.slice te)) (he:P.underlying te=some (.struct #[g0,g1,g2])) (hone2:oneCellFields P #[g0,g1,g2]=true) (hc:P.cellsOf te=3)
  (k0:P.underlying g0.type=some (.int .i64)) (k1:P.underlying g1.type=some .string) (k2:P.underlying g2.type=some (.int .i64))
  (s2:P.underlying f2.type=some .string) (s3:P.underlying f3.type=some .string) (s4:P.underlying f4.type=some .string) (s5:P.underlying f5.type=some .string) (s6:P.underlying f6.type=some (.int .i64)) (s7:P.underlying f7.type=some (.int .i64))
  (hval:Value.okWide P w r b0 t v) (hd:DataW.Trod enc P w base spare held t v d ps) :
  ∃ e:En,aP (cx0 (fun _=>0) (fun _=>0) (fun b _=>b < w.heap.size) w nn) ow (.agg (aN e)) v/\(Rows.uptoBulk d<=1048576->UE e):=by
 obtain⟨cs,rfl,hsz⟩:=okWide_struct hs hval;obtain⟨c0,c1,c2,c3,c4,c5,c6,c7,rfl⟩:=W0 (hsz.trans hC);obtain⟨fuel,hf⟩:=hd;obtain⟨y0,y1,y2,y3,y4,y5,y6,y7,n,hx,_,hg⟩:=yW hs hf;have hx:d=.agg [y0.1,y1.1,y2.1,y3.1,y4.1,y5.1,y6.1,y7.1]:=hx;have a0:=hg 0 f0 y0 rfl rfl;have a1:=hg 1 f1 y1 rfl rfl;have a2:=hg 2 f2 y2 rfl rfl;have a3:=hg 3 f3 y3 rfl rfl;have a4:=hg 4 f4 y4 rfl rfl;have a5:=hg 5 f5 y5 rfl rfl;have a6:=hg 6 f6 y6 rfl rfl;have a7:=hg 7 f7 y7 rfl rfl;obtain⟨o0,q0⟩:=hone_of hone 0 f0 rfl;obtain⟨o1,q1⟩:=hone_of hone 1 f1 rfl;obtain⟨o2,q2⟩:=hone_of hone 2 f2 rfl;obtain⟨o3,q3⟩:=hone_of hone 3 f3 rfl;obtain⟨o4,q4⟩:=hone_of hone 4 f4 rfl;obtain⟨o5,q5⟩:=hone_of hone 5 f5 rfl;obtain⟨o6,q6⟩:=hone_of hone 6 f6 rfl;obtain⟨o7,q7⟩:=hone_of hone 7 f7 rfl;have z0:DataW.trod enc P w base spare held n f0.type [c0]=some y0:=by simpa [Value.cells,o0,q0] using a0
 have z1:DataW.trod enc P w base spare held n f1.type [c1]=some y1:=by simpa [Value.cells,o1,q1] using a1
 have z2:DataW.trod enc P w base spare held n f2.type [c2]=some y2:=by simpa [Value.cells,o2,q2] using a2
 have z3:DataW.trod enc P w base spare held n f3.type [c3]=some y3:=by simpa [Value.cells,o3,q3] using a3
 have z4:DataW.trod enc P w base spare held n f4.type [c4]=some y4:=by simpa [Value.cells,o4,q4] using a4
 have z5:DataW.trod enc P w base spare held n f5.type [c5]=some y5:=by simpa [Value.cells,o5,q5] using a5
 have z6:DataW.trod enc P w base spare held n f6.type [c6]=some y6:=by simpa [Value.cells,o6,q6] using a6
 have z7:DataW.trod enc P w base spare held n f7.type [c7]=some y7:=by simpa [Value.cells,o7,q7] using a7
 obtain⟨S,rS,bS⟩:=xO (nn:=nn) s0 he hone2 hc k0 k1 k2 z0;obtain⟨T,rT,bT⟩:=xO (nn:=nn) s1 he hone2 hc k0 k1 k2 z1;obtain⟨p,e2,p2,_⟩:=DataW.trod_string s2 z2;obtain⟨m,e3,p3,_⟩:=DataW.trod_string s3 z3;obtain⟨a,e4,p4,_⟩:=DataW.trod_string s4 z4;obtain⟨j,e5,p5,_⟩:=DataW.trod_string s5 z5;obtain⟨x6,e6,p6,_⟩:=DataW.trod_int s6 z6;obtain⟨x7,e7,p7,_⟩:=DataW.trod_int s7 z7;simp at e2 e3 e4 e5 e6 e7;subst e2 e3 e4 e5 e6 e7;refine⟨⟨S,T,p.data.toList,m.data.toList,a.data.toList,j.data.toList,x6,x7⟩,?_,fun hb=>?_⟩
 ·have rS':aE (fun b _=>b < w.heap.size) w (.sl .no 3 (tks S)) c0:=rS
  have rT':aE (fun b _=>b < w.heap.size) w (.sl .no 3 (tks T)) c1:=rT;unfold aN;generalize AV.sl Own.no 3 (tks S)=vS at rS';generalize AV.sl Own.no 3 (tks T)=vT at rT';simp [aP,aQ,aJ,rS',rT'];simp [aE];exact⟨rS',rT'⟩
 ·obtain⟨u1,u2⟩:=yJ bS
  obtain⟨u3,u4⟩:=yJ bT;subst hx;rw[p2,p3,p4,p5] at hb;simp only[Rows.uptoBulk,Rows.uptoBulkAll] at hb;exact⟨by show S.length<=_;omega,fun x hx=>by have:=u2 x hx;omega,by show T.length<=_;omega,fun x hx=>by have:=u4 x hx;omega,by show p.data.toList.length<=_;omega,by show m.data.toList.length<=_;omega,by show a.data.toList.length<=_;omega,by show j.data.toList.length<=_;omega⟩
end
end Go.Av
