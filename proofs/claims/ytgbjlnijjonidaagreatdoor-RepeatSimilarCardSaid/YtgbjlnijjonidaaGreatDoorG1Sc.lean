/-  -/
import Derived.Test.YtgbjlnijjonidaaGreatDoorG1Sb
import Derived.Test.YtgbjlnijjonidaaGreatDoorG1XA
open List
set_option linter.unusedSimpArgs false
set_option linter.unusedVariables false
set_option linter.unusedSectionVars false
set_option maxRecDepth 100000
set_option maxHeartbeats 16000000
namespace Go.Av
open Go.Proofs Go.RowKit Go.Nt Go.Maps
set_option maxHeartbeats 800000
def gT (p:Int × List UInt8):Prop:=(p.1=2\/p.1=3\/p.1=4)/\p.2.length<=1000000
theorem sT (x y:Int × List UInt8) (hx:gT x) (hy:gT y) (h:klT x=klT y):x=y:=by
 obtain⟨a,s⟩:=x;obtain⟨b,t⟩:=y;have h1:=sU a s hx.1 hx.2;have h2:=sU b t hy.1 hy.2;rw[h] at h1
 have:=CW.inj h1 h2
 simp at this;rw[this.1,this.2]
theorem wW {a:List Tok} {i:Nat} {t:Tok} (h:a[i]?=some t):tky (a.take (i+1))=tky (a.take i)++(if tgT t=true then [(t.1,t.2.1)] else []):=by
 unfold tky;rw[take_add_one,h];show List.map _ (List.filter tgT (a.take i++[t]))=_;rw[filter_append,map_append]
 congr 1
 by_cases q:tgT t=true
 ·rw[if_pos q,filter_cons_of_pos q];rfl
 ·rw[if_neg q,filter_cons_of_neg q];rfl
theorem yF (w:World) (k:Int) (s:ByteArray) (n:Int) (h:k=2\/k=3\/k=4):Calls Tryz.prog 73 #[.agg #[.int .i64 k,.string s,.int .i64 n]] w fun e w'=>e=.returned (.bool true)/\Below w.heap.size w w':=by
 have:=yE w k s n
 rwa [decide_eq_true h] at this
theorem yG (w:World) (k:Int) (s:ByteArray) (n:Int) (h:¬ (k=2\/k=3\/k=4)):Calls Tryz.prog 73 #[.agg #[.int .i64 k,.string s,.int .i64 n]] w fun e w'=>e=.returned (.bool false)/\Below w.heap.size w w':=by
 have:=yE w k s n
 rwa [decide_eq_false h] at this
theorem rI {W:World} {k T:Nat} {c0 c1 c2:Value} (hx:W.heap[k]?=some (.cells #[c0,c1,c2] T (0,0))):W.cell? ⟨k,0,none⟩=some c0/\W.cell? ⟨k,1,none⟩=some c1:=by
 refine⟨?_,?_⟩<;>simp [World.cell?,hx]
structure Cn (wx:World) (B n:Nat) (p q:List (Int × List UInt8)):Prop where
 c:∃ (D:DataW Unit) (Ks:List (Int × List UInt8)),wx.ownsMap Tryz.prog 67 (plainElem Tryz.prog 3) B n D/\MI klT gT D (fun k=>(p.count k:Int) - (q.count k:Int)) Ks/\∀ k,k∈Ks↔k∈p\/k∈q
theorem Cn.addA {B n:Nat} {p q:List (Int × List UInt8)} {k:Int × List UInt8} {w3:World} {D:DataW Unit} {Ks:List (Int × List UInt8)} {z:Int} (hown:w3.ownsMap Tryz.prog 67 (plainElem Tryz.prog 3) B (n+1) (D.put (klT k) (.lit (.int .i64 z)))) (hMI:MI klT gT D (fun k=>(p.count k:Int) - (q.count k:Int)) Ks) (hKs:∀ k,k∈Ks↔k∈p\/k∈q) (gk:gT k) (hz:z=(p.count k:Int) - (q.count k:Int)+1):Cn w3 B (n+1) (p++[k]) q:=by
 refine⟨D.put (klT k) (.lit (.int .i64 z)),wL Ks k,hown,?_,fun x=>?_⟩
 ·have h:=hMI.put sS sT gk z
  have e:(fun x=>if x=k then z else (p.count x:Int) - (q.count x:Int))=fun x=>((p++[k]).count x:Int) - (q.count x:Int):=by
   funext x
   rw[count_append,count_singleton];by_cases e:x=k
   ·subst e
    rw[if_pos rfl,hz];simp;omega
   ·rw[if_neg e]
    have:(k == x)=false:=by simpa using fun h=>e h.symm
    rw[this];simp
  rw[e] at h;exact h
 ·rw[gY,hKs,mem_append,mem_singleton]
  constructor
  ·rintro ((q | q) | q)
   ·exact .inl (.inl q)
   ·exact .inr q
   ·exact .inl (.inr q)
  ·rintro ((q | q) | q)
   ·exact .inl (.inl q)
   ·exact .inr q
   ·exact .inl (.inr q)
theorem Cn.addB {B n:Nat} {p q:List (Int × List UInt8)} {k:Int × List UInt8} {w3:World} {D:DataW Unit} {Ks:List (Int × List UInt8)} {z:Int} (hown:w3.ownsMap Tryz.prog 67 (plainElem Tryz.prog 3) B (n+1) (D.put (klT k) (.lit (.int .i64 z)))) (hMI:MI klT gT D (fun k=>(p.count k:Int) - (q.count k:Int)) Ks) (hKs:∀ k,k∈Ks↔k∈p\/k∈q) (gk:gT k) (hz:z=(p.count k:Int) - (q.count k:Int) - 1):Cn w3 B (n+1) p (q++[k]):=by
 refine⟨D.put (klT k) (.lit (.int .i64 z)),wL Ks k,hown,?_,fun x=>?_⟩
 ·have h:=hMI.put sS sT gk z
  have e:(fun x=>if x=k then z else (p.count x:Int) - (q.count x:Int))=fun x=>(p.count x:Int) - ((q++[k]).count x:Int):=by
   funext x
   rw[count_append,count_singleton];by_cases e:x=k
   ·subst e
    rw[if_pos rfl,hz];simp;omega
   ·rw[if_neg e]
    have:(k == x)=false:=by simpa using fun h=>e h.symm
    rw[this];simp
  rw[e] at h;exact h
 ·rw[gY,hKs,mem_append,mem_singleton,or_assoc]
theorem Cn.mono {wx w':World} {B n:Nat} {p q:List (Int × List UInt8)} (h:Cn wx B n p q) (e:w'.heap[B]?=wx.heap[B]?) {m:Nat} (hm:n<=m):Cn w' B m p q:=by
 obtain⟨D,Ks,h1,h2,h3⟩:=h.c;exact⟨D,Ks,(h1.of_heap e).mono hm,h2,h3⟩
theorem Cn.lt {wx:World} {B n:Nat} {p q:List (Int × List UInt8)} (h:Cn wx B n p q):B < wx.heap.size:=by
 obtain⟨D,Ks,h1,h2,h3⟩:=h.c;exact h1.lt
theorem VZ:(instBEqProd:BEq (Int × List UInt8))=instBEqOfDecidableEq:=by
 have h:∀ a b:Int × List UInt8,@BEq.beq _ instBEqProd a b=@BEq.beq _ instBEqOfDecidableEq a b:=fun a b=>by
  show (a == b)=decide (a=b);exact Bool.eq_iff_iff.2 (by simp)
 exact congrArg BEq.mk (funext fun a=>funext fun b=>h a b)
theorem TW {p q Ks:List (Int × List UInt8)} (hn:Ks.Nodup) (h:∀ k,k∈Ks↔k∈p\/k∈q):(Ks.map fun k=>((p.count k:Int) - (q.count k:Int)).natAbs).sum=oR p q:=by
 rw[VZ];exact JX hn h
theorem OA (a b:List Tok) (la:a.length<=5000) (lb:b.length<=5000) (ta:∀ t∈a,t.2.1.length<=1000000) (tb:∀ t∈b,t.2.1.length<=1000000) (w:World) (va vb:Value) (A B:Option Addr) (ba oa ca bb ob cb:Nat) (ha:TkAt w a va A ba oa ca) (hb:TkAt w b vb B bb ob cb) :
  Calls Tryz.prog 56 #[va,vb] w fun e w'=>e=.returned (.int .i64 (2*(iM a b:Int)))/\Below w.heap.size w w':=by
 obtain⟨rfl,hA,hca,ra⟩:=ha;obtain⟨rfl,hB,hcb,rb⟩:=hb;have RA:=Lib.hid ra;have RB:=Lib.hid rb;have TA:=Lib.hid ta;have TB:=Lib.hid tb;have HA:=Lib.hid hA;have HB:=Lib.hid hB
 clear ra rb ta tb hA hB
 have hmm:=@run_makeMap Tryz.prog
 go_enter Tryz.func56,Tryz.ntmps56
 go_wp2
 go_loopg [16] a.length (fun g s16 wx=>∃ i:Nat,i+g=a.length/\s16=.int .i64 (i:Int)/\Cn wx w.heap.size i (tky (a.take i)) []/\Below w.heap.size w wx)
 case atStart =>
  refine⟨0,by omega,rfl,⟨.map [],[],World.ownsMap_made _ _ _ _,?_,by simp [tky]⟩,(Below.refl _ _).alloc (Nat.le_refl _) _⟩
  have:=MI.start (H:=Unit) (kl:=klT) (g:=gT)
  simpa [tky] using this
 case round =>
  obtain⟨i,hi,rfl,hC,hbx⟩:=hrel
  cases gk with
  | zero =>
   obtain rfl:i=a.length:=by omega
   rw[take_length] at hC
   clear hi
   go_wp2
   go_loopg [35] b.length (fun g s35 wx=>∃ i:Nat,i+g=b.length/\s35=.int .i64 (i:Int)/\Cn wx w.heap.size (a.length+i) (tky a) (tky (b.take i))/\Below w.heap.size w wx)
   case atStart=>exact⟨0,by omega,rfl,by simpa [tky] using hC,hbx⟩
   case round =>
    clear hC hbx
    obtain⟨i,hi,rfl,hC,hbx⟩:=hrel
    cases gk with
    | zero =>
     obtain rfl:i=b.length:=by omega
     rw[take_length] at hC;obtain⟨D,Ks,hown,hMI,hKs⟩:=hC.c
     clear hi hC
     have hsum:=TW hMI.nd hKs;have hle:=EK (tky a) (tky b);have hla:(tky a).length<=5000:=by unfold tky;rw[length_map];exact Nat.le_trans (length_filter_le _ _) la
     have hlb:(tky b).length<=5000:=by unfold tky;rw[length_map];exact Nat.le_trans (length_filter_le _ _) lb
     have hRI0:=hMI.ri;have hsz0:=hbx.size;have hM:=Lib.hid hMI;have HS:=Lib.hid hsum
     clear hMI hsum
     go_wp2_with (first
      | (at_range;refine wpList_range_own _ rfl _ 96 rfl 67 3 CW Tryz.underlying96 _ w.heap.size _ _ rfl hown ?_;intro w0 hrg0 hg0 hs0)
      | go_in)
     go_frame
     go_loopw [10] (fun s10 wx=>∃ (left:Lit->Bool) (cnt:Nat) (x:Int),s10=.int .i64 (2*x)/\wx.ranges Tryz.prog 67 (plainElem Tryz.prog 3) w.heap.size wr.heap.size (a.length+b.length) D left cnt/\RI klT gT (fun k=>((tky a).count k:Int) - ((tky b).count k:Int)) Ks left x/\Below w.heap.size w wx)
      (fun _ wx=>wx.rangeLeft w.heap.size wr.heap.size)
     case atStart=>exact⟨_,_,0,rfl,hrg0,hRI0,hbx.grown hg0 hbx.size (fun j hj=>by cases hj)⟩
     case round =>
      clear hRI0 hrg0 hg0 hs0 hbx hown
      obtain⟨left,cnt,x,rfl,hrg,hRI,hbx⟩:=hrel;have hx0:0<=x:=by rw[hRI.sum];omega
      have hxl:x<=10000:=by
       have h1:x=((sfN (fun k=>(((tky a).count k:Int) - ((tky b).count k:Int)).natAbs) (fun k=>left (klT k)) Ks:Nat):Int):=hRI.sum;have h3:sfN (fun k=>(((tky a).count k:Int) - ((tky b).count k:Int)).natAbs) (fun k=>left (klT k)) Ks<=oR (tky a) (tky b):=Nat.le_trans (BU _ _ Ks) (Nat.le_of_eq HS.out);generalize sfN (fun k=>(((tky a).count k:Int) - ((tky b).count k:Int)).natAbs) (fun k=>left (klT k)) Ks=N at h1 h3;omega
      have HRI:=Lib.hid hRI
      clear hRI
      go_wp2_with (first
       | (at_next;go_loud (refine wpList_next_ranges (α:=Value) (β:=Int) _ rfl _ rfl 67 CW (plainElem Tryz.prog 3) (fun v=>v) (Value.int .i64) (fun key kl _=>⟨key,rfl⟩) (fun v y hv=>by obtain⟨c,hc,_⟩:=plainElem_int_inv Tryz.underlying3 hv;exact⟨c,hc⟩) w.heap.size _ _ _ _ _ rfl hrg ?_ ?_))
       | go_in)
      ·intro _ hl0
       go_wp2
       go_ret
       refine⟨?_,hbx⟩;have h1:=HRI.out.fin hl0;have h2:=HS.out;have h3:x=(iM a b:Int):=by
        rw[h1];unfold iM;rw[<- h2]
       rw[h3];rfl
      ·intro xk c kl y ps w1 cnt1 hkey hlx hv hat hrg1 hlt hg1 hs1 hen
       have hRI:=HRI.out;obtain⟨k0,hk0,hkl⟩:=hRI.dom kl hlx;have hMI:=hM.out;have hy:∃ c',y=sX c'/\c'=c:=by
        obtain⟨c',hc',hy',_⟩:=plainElem_int_inv Tryz.underlying3 hv;simp only[Value.int.injEq,true_and] at hc';simp only[Prod.mk.injEq] at hy';exact⟨c',hy'.1,hc'.symm⟩
       obtain⟨c',hy1,rfl⟩:=hy;have hat':∀ zd,D.atKey kl zd=sX c':=fun zd=>by rw[hat zd,hy1]
       have hcn:c'=((tky a).count k0:Int) - ((tky b).count k0:Int):=by
        have h1:=hMI.at_ k0 (hMI.g k0 hk0);rw[<- hkl,hat'] at h1;simpa using h1
       have hca1:(tky a).count k0<=5000:=Nat.le_trans count_le_length hla;have hcb1:(tky b).count k0<=5000:=Nat.le_trans count_le_length hlb;have hc1:-5000<=c':=by omega
       have hc2:c'<=5000:=by omega
       have hst:=hRI.step hMI sS sT hlx hat';have HST:=Lib.hid hst
       clear hst hcn hat' hRI hMI hat hkl hk0 hy1
       go_wp2_with fail
       refine⟨⟨_,cnt1,x+(c'.natAbs:Int),?_,hrg1,HST.out,hbx.grown hg1 hbx.size (fun j hj=>by cases hj;exact hsz0)⟩,by rw[hrg1.left_eq,hrg.left_eq];exact hlt⟩
       congr 1
       omega
    | succ g =>
      have him:i < b.length:=by omega
      obtain⟨t,hg⟩:∃ t,b[i]?=some t:=⟨_,getElem?_eq_getElem him⟩
      have htl:=TB.out t (mem_of_getElem? hg);obtain⟨hlt,hcell⟩:=RB.out i _ hg
      obtain rfl:=HB.out (by intro q;rw[q] at him;simp at him)
      obtain⟨c0,c1,c2⟩:=hcell wr hbx
      clear hcell
      obtain⟨k,s,n⟩:=t;simp only at c0 c1 c2 htl;have HG:=Lib.hid hg
      clear hg
      have hi0:(0:Int)<=(i:Int):=by omega
      have hi1:(i:Int) < (b.length:Int):=by omega
      by_cases htg:k=2\/k=3\/k=4
      ·go_wp2_with (go_at_call 73;(with_reducible refine (yF _ _ _ _ htg).mono ?_);rintro e w1 ⟨rfl,hb1⟩)
       have hx1:=(hb1.block wr.heap.size (by simp)).trans (heap_alloc_new wr _);obtain⟨D,Ks,hown,hMI,hKs⟩:=hC.c;have hBl:=hown.lt;have hown1:=hown.of_heap (w':=w1) ((hb1.block w.heap.size (by simp;omega)).trans (Below.heap_alloc wr _ _ hBl));have hkey:=sU k s htg htl;obtain⟨c,hat,hwc,hlk⟩:=hown1.look_any CW Tryz.underlying96 Tryz.underlying3 wR hkey;have hcc:=hMI.at_ (k,s) ⟨htg,htl⟩;have hc0:c=((tky a).count (k,s):Int) - ((tky (b.take i)).count (k,s):Int):=by
        rw[hat] at hcc;simp only[DataW.lit.injEq,Lit.int.injEq,true_and] at hcc;rw[hcc]
       have hcl:(tky (b.take i)).count (k,s)<=5000:=by
        refine Nat.le_trans count_le_length ?_;unfold tky;rw[length_map];refine Nat.le_trans (length_filter_le _ _) ?_;rw[length_take];omega
       have hcl2:(tky a).count (k,s)<=5000:=by
        refine Nat.le_trans count_le_length ?_;unfold tky;rw[length_map];exact Nat.le_trans (length_filter_le _ _) la
       have hwr:IntKind.i64.wrap (c - 1)=c - 1:=IntWalk.i64_in _ (by omega);have hne:wr.heap.size≠w.heap.size:=by omega
       have hwf:(Lit.int .i64 (IntKind.i64.wrap (c - 1))).wf=true:=by rw[hwr];exact WalkArith.wf_i64 (by omega)
       have HC:=Lib.hid hc0;have HW:=Lib.hid hwr
       clear hc0 hwr hcc
       have hl1:=hlk w1.drew rfl;obtain⟨c',st,w2,he2,hg2,hs2,hat2,hwc2,hl2,hbk⟩:=(hown1.of_heap (w':=w1.drew) rfl).entry K6 Tryz.underlying96 Tryz.underlying3 wR (by unfold maxLen;omega) hkey
       obtain rfl:c'=c:=by
        rw[hat] at hat2;simp only[DataW.lit.injEq,Lit.int.injEq,true_and] at hat2;exact hat2.symm
       have hl3:=hl2 w2 rfl;obtain⟨w3,he3,hown3,hg3,hs3⟩:=hbk w2 (IntKind.i64.wrap (c' - 1)) hwf rfl;have he3:(Instr.entryStore 96 (.map (some w.heap.size)) (.int .i64 (st:Int)) (.int .i64 (IntKind.i64.wrap (c' - 1)))).run Tryz.prog w2=.ok () w3:=he3;have hx2:=(hg2.block wr.heap.size (by have:=hb1.size;simp at this;show wr.heap.size < w1.heap.size;omega) (by simp;omega)).trans hx1;have hx3:=(hg3.block wr.heap.size (by have:=hb1.size;simp at this;have h9:w2.heap.size=w1.heap.size:=hs2;omega) (by simp;omega)).trans hx2
       go_region_held3 (fun w'=>w'.cell? ⟨wr.heap.size,0,none⟩=some (.int .i64 k)/\w'.cell? ⟨wr.heap.size,1,none⟩=some (.string ⟨s.toArray⟩))
        (first | exact rI hx1 | exact rI hx2 | exact rI hx3)
        (fail)
       all_goals
        go_wp2_with fail
        go_roundg g
        case measure=>omega
        case rel =>
         have hB1:Below w.heap.size w w1.drew:=((hbx.alloc hbx.size _).trans (hb1.mono (by simp;have:=hbx.size;omega))).drew;have hB3:Below w.heap.size w w3:=(hB1.grown hg2 hB1.size (fun j hj=>by cases hj;exact Nat.le_refl _)).grown hg3 (by have h9:w2.heap.size=w1.heap.size:=hs2;have h8:w.heap.size<=w1.heap.size:=hB1.size;omega) (fun j hj=>by cases hj;exact Nat.le_refl _);refine⟨i+1,by omega,by go_num,?_,hB3⟩;rw[wW HG.out,if_pos (show tgT (k,s,n)=true from decide_eq_true htg)];exact Cn.addB hown3 hMI hKs ⟨htg,htl⟩ (by rw[HW.out,HC.out])
      ·go_wp2_with (go_at_call 73;(with_reducible refine (yG _ _ _ _ htg).mono ?_);rintro e w1 ⟨rfl,hb1⟩)
       go_roundg g
       case measure=>omega
       case rel =>
        have hB1:Below w.heap.size w w1:=(hbx.alloc hbx.size _).trans (hb1.mono (by simp;have:=hbx.size;omega));refine⟨i+1,by omega,by go_num,?_,hB1⟩;rw[wW HG.out,if_neg (show ¬ tgT (k,s,n)=true from fun z=>htg (of_decide_eq_true z)),append_nil];have hBl:=hC.lt;exact hC.mono ((hb1.block w.heap.size (by simp;omega)).trans (Below.heap_alloc wr _ _ hBl)) (Nat.le_succ _)
  | succ g =>
   have him:i < a.length:=by omega
   obtain⟨t,hg⟩:∃ t,a[i]?=some t:=⟨_,getElem?_eq_getElem him⟩
   have htl:=TA.out t (mem_of_getElem? hg);obtain⟨hlt,hcell⟩:=RA.out i _ hg
   obtain rfl:=HA.out (by intro q;rw[q] at him;simp at him)
   obtain⟨c0,c1,c2⟩:=hcell wr hbx
   clear hcell
   obtain⟨k,s,n⟩:=t;simp only at c0 c1 c2 htl;have HG:=Lib.hid hg
   clear hg
   have hi0:(0:Int)<=(i:Int):=by omega
   have hi1:(i:Int) < (a.length:Int):=by omega
   by_cases htg:k=2\/k=3\/k=4
   ·go_wp2_with (go_at_call 73;(with_reducible refine (yF _ _ _ _ htg).mono ?_);rintro e w1 ⟨rfl,hb1⟩)
    have hx1:=(hb1.block wr.heap.size (by simp)).trans (heap_alloc_new wr _);obtain⟨D,Ks,hown,hMI,hKs⟩:=hC.c;have hBl:=hown.lt;have hown1:=hown.of_heap (w':=w1) ((hb1.block w.heap.size (by simp;omega)).trans (Below.heap_alloc wr _ _ hBl));have hkey:=sU k s htg htl;obtain⟨c,hat,hwc,hlk⟩:=hown1.look_any CW Tryz.underlying96 Tryz.underlying3 wR hkey;have hcc:=hMI.at_ (k,s) ⟨htg,htl⟩;have hc0:c=((tky (a.take i)).count (k,s):Int):=by
     rw[hat] at hcc;simp only[DataW.lit.injEq,Lit.int.injEq,true_and] at hcc;rw[hcc];simp
    have hcl:(tky (a.take i)).count (k,s)<=5000:=by
     refine Nat.le_trans count_le_length ?_;unfold tky;rw[length_map];refine Nat.le_trans (length_filter_le _ _) ?_;rw[length_take];omega
    have hwr:IntKind.i64.wrap (c+1)=c+1:=IntWalk.i64_in _ (by omega);have hne:wr.heap.size≠w.heap.size:=by omega
    have hwf:(Lit.int .i64 (IntKind.i64.wrap (c+1))).wf=true:=by rw[hwr];exact WalkArith.wf_i64 (by omega)
    have HC:=Lib.hid hc0;have HW:=Lib.hid hwr
    clear hc0 hwr hcc
    have hl1:=hlk w1.drew rfl;obtain⟨c',st,w2,he2,hg2,hs2,hat2,hwc2,hl2,hbk⟩:=(hown1.of_heap (w':=w1.drew) rfl).entry K6 Tryz.underlying96 Tryz.underlying3 wR (by unfold maxLen;omega) hkey
    obtain rfl:c'=c:=by
     rw[hat] at hat2;simp only[DataW.lit.injEq,Lit.int.injEq,true_and] at hat2;exact hat2.symm
    have hl3:=hl2 w2 rfl;obtain⟨w3,he3,hown3,hg3,hs3⟩:=hbk w2 (IntKind.i64.wrap (c'+1)) hwf rfl;have he3:(Instr.entryStore 96 (.map (some w.heap.size)) (.int .i64 (st:Int)) (.int .i64 (IntKind.i64.wrap (c'+1)))).run Tryz.prog w2=.ok () w3:=he3;have hx2:=(hg2.block wr.heap.size (by have:=hb1.size;simp at this;show wr.heap.size < w1.heap.size;omega) (by simp;omega)).trans hx1;have hx3:=(hg3.block wr.heap.size (by have:=hb1.size;simp at this;have h9:w2.heap.size=w1.heap.size:=hs2;omega) (by simp;omega)).trans hx2
    go_region_held3 (fun w'=>w'.cell? ⟨wr.heap.size,0,none⟩=some (.int .i64 k)/\w'.cell? ⟨wr.heap.size,1,none⟩=some (.string ⟨s.toArray⟩))
     (first | exact rI hx1 | exact rI hx2 | exact rI hx3)
     (fail)
    all_goals
     go_wp2_with fail
     go_roundg g
     case measure=>omega
     case rel =>
      have hB1:Below w.heap.size w w1.drew:=((hbx.alloc hbx.size _).trans (hb1.mono (by simp;have:=hbx.size;omega))).drew;have hB3:Below w.heap.size w w3:=(hB1.grown hg2 hB1.size (fun j hj=>by cases hj;exact Nat.le_refl _)).grown hg3 (by have h9:w2.heap.size=w1.heap.size:=hs2;have h8:w.heap.size<=w1.heap.size:=hB1.size;omega) (fun j hj=>by cases hj;exact Nat.le_refl _);refine⟨i+1,by omega,by go_num,?_,hB3⟩;rw[wW HG.out,if_pos (show tgT (k,s,n)=true from decide_eq_true htg)];exact Cn.addA hown3 hMI hKs ⟨htg,htl⟩ (by rw[HW.out,HC.out];simp)
   ·go_wp2_with (go_at_call 73;(with_reducible refine (yG _ _ _ _ htg).mono ?_);rintro e w1 ⟨rfl,hb1⟩)
    go_roundg g
    case measure=>omega
    case rel =>
     have hB1:Below w.heap.size w w1:=(hbx.alloc hbx.size _).trans (hb1.mono (by simp;have:=hbx.size;omega));refine⟨i+1,by omega,by go_num,?_,hB1⟩;rw[wW HG.out,if_neg (show ¬ tgT (k,s,n)=true from fun z=>htg (of_decide_eq_true z)),append_nil];have hBl:=hC.lt;exact hC.mono ((hb1.block w.heap.size (by simp;omega)).trans (Below.heap_alloc wr _ _ hBl)) (Nat.le_succ _)
end Go.Av
