/- The text of a memory as plain data: its length; errors of what is written. No conditions. -/
import Derived.Test.YtmjfblcmbcfkcaaGreatDoorG2XB
open List
set_option linter.unusedSimpArgs false
set_option linter.unusedVariables false
set_option linter.unusedSectionVars false
set_option maxRecDepth 100000
set_option maxHeartbeats 16000000
namespace Go.Nt
def szE (e:En):Nat:=(fmE e.S).length+(fmE e.T).length+e.p.length+e.n.length+e.a.length+e.j.length
theorem jI (k:Nat) (v:Bs):(jn (lnE k v)).length<=(fnm.getD k []).length+v.length+2:=by
 unfold lnE;split
 ·simp [jn]
 ·simp [jn,lnK];omega
theorem FZ {e:En} (h:VE e):(vlE e 6).length<=10:=by
 show (if e.c=0 then [] else dcN e.c.toNat).length<=10;split
 ·simp
 ·have c0:=h.c0
  have c1:=h.c1;exact (xQ 9 e.c.toNat (by omega)).2.2.2.1
theorem GV:∀ k,(orn.getD k []).length<=7
 | 0=>by decide
 | 1=>by decide
 | 2=>by decide
 | k+3=>by simp [orn]
theorem MY {e:En} (h:VE e):(jn (i6 e)).length<=szE e+100:=by
 have h6:=FZ h;have h7:(vlE e 7).length<=7:=GV _;have a0:=jI 0 (vlE e 0);have a1:=jI 1 (vlE e 1);have a2:=jI 2 (vlE e 2);have a3:=jI 3 (vlE e 3);have a4:=jI 4 (vlE e 4);have a5:=jI 5 (vlE e 5);have a6:=jI 6 (vlE e 6);have a7:=jI 7 (vlE e 7);have b0:(vlE e 0).length=(fmE e.S).length:=rfl;have b1:(vlE e 1).length=(fmE e.T).length:=rfl;have b2:(vlE e 2).length=e.p.length:=rfl;have b3:(vlE e 3).length=e.n.length:=rfl;have b4:(vlE e 4).length=e.a.length:=rfl;have b5:(vlE e 5).length=e.j.length:=rfl;have c0:(fnm.getD 0 []).length=6:=rfl;have c1:(fnm.getD 1 []).length=6:=rfl;have c2:(fnm.getD 2 []).length=8:=rfl;have c3:(fnm.getD 3 []).length=4:=rfl;have c4:(fnm.getD 4 []).length=6:=rfl;have c5:(fnm.getD 5 []).length=7:=rfl;have c6:(fnm.getD 6 []).length=7:=rfl;have c7:(fnm.getD 7 []).length=6:=rfl;have e1:i6 e=((((((([]++lnE 0 (vlE e 0))++lnE 1 (vlE e 1))++lnE 2 (vlE e 2))++lnE 3 (vlE e 3))++lnE 4 (vlE e 4))++lnE 5 (vlE e 5))++lnE 6 (vlE e 6))++lnE 7 (vlE e 7):=rfl;rw[e1];simp only[xD,length_append,A5,length_nil];unfold szE;omega
theorem RR (m:List En):jn (m.flatMap i6)=m.flatMap fun e=>jn (i6 e):=by
 induction m with
 | nil=>rfl
 | cons e m ih=>rw[flatMap_cons,xD,ih,flatMap_cons]
theorem xL {B:Nat}:∀ {m:List En},(∀ e∈m,VE e/\szE e<=B)->(m.flatMap fun e=>jn (i6 e)).length<=m.length*(B+100)
 | [],_=>by simp
 | e :: m,h=>by
  have h1:=xL (m:=m) (fun x hx=>h x (mem_cons_of_mem _ hx));obtain⟨h2,h3⟩:=h e mem_cons_self;have h4:=MY h2;rw[flatMap_cons,length_append,length_cons,Nat.add_mul];omega
theorem HV {n:Nat} (h:n<=1024):(hdT n).length<=24:=by
 have:=(xQ 9 n (by omega)).2.2.2.1
 unfold hdT;rw[length_append];have e:hdB.length=14:=rfl;omega
theorem EB (m:List En):txM m=hdT m.length++10 :: m.flatMap fun e=>jn (i6 e):=by
 unfold txM;rw[kU,RR]
theorem O3 {m:List En} {B:Nat} (hl:m.length<=1024) (h:∀ e∈m,VE e/\szE e<=B):(txM m).length<=25+m.length*(B+100):=by
 have h1:=HV hl;have h2:=xL h;rw[EB,length_append,length_cons];omega
theorem tU {s:Bs} (h:iD s=true):s.length<=24:=by
 unfold iD at h;rcases (by simpa using h:s=[]\/cW s=true) with q | q
 ·rw[q];simp
 ·exact (iF q).2.1
theorem FC {m:List En} (h:Mem m) (hl:m.length<=1024) (ht:(txM m).length<=1048576):fmM m=(txM m,0):=by
 unfold fmM;rw[if_neg (fun q=>q ((BM m).2 ⟨hl,h⟩)),if_neg (by omega)]
end Go.Nt
