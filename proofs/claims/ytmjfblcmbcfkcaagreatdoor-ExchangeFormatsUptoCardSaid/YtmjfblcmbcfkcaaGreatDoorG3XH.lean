/- Entries: validity, keys, comparison, by both packages. No conditions. Keys and the order of entries, by both packages. No conditions. The keys of a list of entries; whether a list is a memory, by both packages. No conditions. Searching a sorted list of texts. No conditions. Copies of entries. No conditions. Finding a key, by both packages. No conditions. Putting an entry, by both packages. No conditions. r3.Normalize and r3.Concat that hand out an object of their own. No conditions. Fragments that are nested, out of numbers. No conditions. A target of a source out of numbers: the same tags, other texts. No conditions. -/
import Derived.Test.YtmjfblcmbcfkcaaGreatDoorG3XG
import Derived.Test.YtmjfblcmbcfkcaaGreatDoorG3XB
open List
set_option linter.unusedSimpArgs false
set_option linter.unusedVariables false
set_option linter.unusedSectionVars false
set_option maxRecDepth 100000
set_option maxHeartbeats 16000000
namespace Go.Av
open Go.Nt
def aN (e:En):List AV:=[.sl .no 3 (tks e.S),.sl .no 3 (tks e.T),.str e.p,.str e.n,.str e.a,.str e.j,.int .i64 e.c,.int .i64 e.o]
structure BE (e:En):Prop where
 S:e.S.length<=600
 sT:tot e.S<=32000000
 T:e.T.length<=600
 tT:tot e.T<=32000000
 p:e.p.length<=50000
 n:e.n.length<=50000
 a:e.a.length<=2000000
 j:e.j.length<=2000000
theorem BE.lS {e:En} (h:BE e):e.S.length<=600/\tot e.S<=32000000/\∀ t∈e.S,t.2.1.length<=fW:=
 ⟨h.S,h.sT,SH (n:=32000000) h.sT (by decide)⟩
theorem BE.lT {e:En} (h:BE e):e.T.length<=600/\tot e.T<=32000000/\∀ t∈e.T,t.2.1.length<=fW:=
 ⟨h.T,h.tT,SH (n:=32000000) h.tT (by decide)⟩
theorem k125 (s:Bs):G0 86 [.str s] []=some (.bool (gU s),[]):=by
 have c:=c74 s;refine aA F86 rfl rfl rfl ?_;unfold gU;by_cases h:s=[]
 ·subst h
  simp only[F86,go_sem,decide_true,Bool.true_or,beq_self_eq_true]
 ·have h2:(s == [])=false:=by simpa using h
  rw[decide_eq_false h,Bool.false_or];simp only[F86,go_sem,h2,c]
theorem RP {e:En} (hS:vld e.S=0) (hT:vld e.T=0):vE e=(if e.S=[]\/gP e.S e.T≠e.S\/gX e.S e.T≠e.T then 1 else
 if jR e.p≠0 then jR e.p else if jR e.n≠0 then jR e.n else
 if ¬ (gU e.a=true/\gU e.j=true) then 4 else
 if e.c < 0\/1073741824 < e.c\/e.o < 1\/3 < e.o then 1 else 0):=by
 unfold vE;rw[if_neg (by simp [hS]),if_neg (by simp [hT])]
theorem DG {f:List Tk} (h:f≠[]):¬ (f.length:Int)=0:=by
 have:f.length≠0:=fun q=>h (eq_nil_of_length_eq_zero q)
 omega
theorem KM (s:Bs):((s != []) && !(cR s))=!(gU s):=by
 unfold gU;by_cases h:s=[]
 ·subst h;rfl
 ·rw[decide_eq_false h]
  have:(s != [])=true:=by simpa using h
  rw[this];simp
theorem k23v (e:En) (h:BE e) (hS:vld e.S=0) (hT:vld e.T=0):G0 61 [.agg (aN e)] []=some (.int .i64 (vE e),[]):=by
 obtain⟨l1,l2,l3⟩:=h.lS;obtain⟨m1,m2,m3⟩:=h.lT;have a1:=c46 e.S (by omega) l3;have a2:=c46 e.T (by omega) m3;rw[hS] at a1;rw[hT] at a2;have a3:=k60 e.S e.T hS hT;have b1:=fQ (iQ (jZ hS hT) hS).2;have b2:=fQ (iP (jZ hS hT) hT).2;have a4:=k61 (gP e.S e.T) e.S (by omega);have a5:=k61 (gX e.S e.T) e.T (by omega);have hp:=h.p;have hn:=h.n;have a6:=c35 e.p (by omega);have a7:=c35 e.n (by omega);have a8:=c83 e.a;have a9:=c83 e.j;rw[RP hS hT];refine aA F61 rfl rfl rfl ?_;by_cases q1:e.S=[]
 ·rw[if_pos (.inl q1)]
  have q1':((e.S.length:Nat):Int)=0:=by rw[q1];rfl
  simp only[F61,aN,go_sem,a1,a2,a3,aD,q1']
 have q1':=DG q1;by_cases q2:gP e.S e.T=e.S
 case neg =>
  rw[if_pos (.inr (.inl q2))];rw[decide_eq_false q2] at a4;simp only[F61,aN,go_sem,a1,a2,a3,a4,aD,q1',Bool.not_false]
 rw[decide_eq_true q2] at a4;by_cases q3:gX e.S e.T=e.T
 case neg =>
  rw[if_pos (.inr (.inr q3))];rw[decide_eq_false q3] at a5;simp only[F61,aN,go_sem,a1,a2,a3,a4,a5,aD,q1',Bool.not_false,Bool.not_true]
 rw[decide_eq_true q3] at a5;rw[if_neg (by simp [q1,q2,q3])];by_cases q4:jR e.p=0
 case neg =>
  rw[if_pos q4];have q4':¬ (aK e.p).2.2=0:=q4;simp only[F61,aN,go_sem,a1,a2,a3,a4,a5,a6,aD,q1',q4',Bool.not_true];rfl
 have q4':(aK e.p).2.2=0:=q4;rw[if_neg (by simp [q4])];by_cases q5:jR e.n=0
 case neg =>
  rw[if_pos q5];have q5':¬ (aK e.n).2.2=0:=q5;simp only[F61,aN,go_sem,a1,a2,a3,a4,a5,a6,a7,aD,q1',q4',q5',Bool.not_true];rfl
 have q5':(aK e.n).2.2=0:=q5;rw[if_neg (by simp [q5])];have n1:=KM e.a;have n2:=KM e.j;by_cases q6:gU e.a=true/\gU e.j=true
 case neg =>
  rw[if_pos q6];by_cases z1:gU e.a=true
  ·have z2:gU e.j=false:=by simpa [z1] using q6
   rw[z1,Bool.not_true] at n1;rw[z2,Bool.not_false] at n2;simp only[Bool.and_eq_true,Bool.not_eq_true'] at n2;by_cases w1:(e.a != [])=true
   ·rw[w1,Bool.true_and] at n1
    simp only[F61,aN,go_sem,a1,a2,a3,a4,a5,a6,a7,a8,a9,aD,q1',q4',q5',Bool.not_true,w1,n1,n2.1,n2.2,Bool.not_false]
   ·have w1:(e.a != [])=false:=by simpa using w1
    simp only[F61,aN,go_sem,a1,a2,a3,a4,a5,a6,a7,a8,a9,aD,q1',q4',q5',Bool.not_true,w1,n2.1,n2.2,Bool.not_false]
  ·have z1:gU e.a=false:=by simpa using z1
   rw[z1,Bool.not_false] at n1;simp only[Bool.and_eq_true,Bool.not_eq_true'] at n1;simp only[F61,aN,go_sem,a1,a2,a3,a4,a5,a6,a7,a8,a9,aD,q1',q4',q5',Bool.not_true,n1.1,n1.2,Bool.not_false]
 rw[if_neg (by simp [q6])];obtain⟨z1,z2⟩:=q6;rw[z1,Bool.not_true] at n1;rw[z2,Bool.not_true] at n2;have w1:(e.a != [])=false\/((e.a != [])=true/\cR e.a=true):=by
  cases w:(e.a != []) with
  | false=>exact .inl rfl
  | true=>rw[w,Bool.true_and] at n1;exact .inr ⟨rfl,by simpa using n1⟩
 have w2:(e.j != [])=false\/((e.j != [])=true/\cR e.j=true):=by
  cases w:(e.j != []) with
  | false=>exact .inl rfl
  | true=>rw[w,Bool.true_and] at n2;exact .inr ⟨rfl,by simpa using n2⟩
 by_cases q7:e.c < 0
 ·rw[if_pos (.inl q7)]
  rcases w1 with w1 | ⟨w1,v1⟩<;>rcases w2 with w2 | ⟨w2,v2⟩
  ·simp only[F61,aN,go_sem,a1,a2,a3,a4,a5,a6,a7,a8,a9,aD,q1',q4',q5',Bool.not_true,w1,w2,q7]
  ·simp only[F61,aN,go_sem,a1,a2,a3,a4,a5,a6,a7,a8,a9,aD,q1',q4',q5',Bool.not_true,w1,w2,v2,q7]
  ·simp only[F61,aN,go_sem,a1,a2,a3,a4,a5,a6,a7,a8,a9,aD,q1',q4',q5',Bool.not_true,w1,v1,w2,q7]
  ·simp only[F61,aN,go_sem,a1,a2,a3,a4,a5,a6,a7,a8,a9,aD,q1',q4',q5',Bool.not_true,w1,v1,w2,v2,q7]
 by_cases q8:1073741824 < e.c
 ·rw[if_pos (.inr (.inl q8))]
  rcases w1 with w1 | ⟨w1,v1⟩<;>rcases w2 with w2 | ⟨w2,v2⟩
  ·simp only[F61,aN,go_sem,a1,a2,a3,a4,a5,a6,a7,a8,a9,aD,q1',q4',q5',Bool.not_true,w1,w2,q7,q8]
  ·simp only[F61,aN,go_sem,a1,a2,a3,a4,a5,a6,a7,a8,a9,aD,q1',q4',q5',Bool.not_true,w1,w2,v2,q7,q8]
  ·simp only[F61,aN,go_sem,a1,a2,a3,a4,a5,a6,a7,a8,a9,aD,q1',q4',q5',Bool.not_true,w1,v1,w2,q7,q8]
  ·simp only[F61,aN,go_sem,a1,a2,a3,a4,a5,a6,a7,a8,a9,aD,q1',q4',q5',Bool.not_true,w1,v1,w2,v2,q7,q8]
 by_cases q9:e.o < 1
 ·rw[if_pos (.inr (.inr (.inl q9)))]
  rcases w1 with w1 | ⟨w1,v1⟩<;>rcases w2 with w2 | ⟨w2,v2⟩
  ·simp only[F61,aN,go_sem,a1,a2,a3,a4,a5,a6,a7,a8,a9,aD,q1',q4',q5',Bool.not_true,w1,w2,q7,q8,q9]
  ·simp only[F61,aN,go_sem,a1,a2,a3,a4,a5,a6,a7,a8,a9,aD,q1',q4',q5',Bool.not_true,w1,w2,v2,q7,q8,q9]
  ·simp only[F61,aN,go_sem,a1,a2,a3,a4,a5,a6,a7,a8,a9,aD,q1',q4',q5',Bool.not_true,w1,v1,w2,q7,q8,q9]
  ·simp only[F61,aN,go_sem,a1,a2,a3,a4,a5,a6,a7,a8,a9,aD,q1',q4',q5',Bool.not_true,w1,v1,w2,v2,q7,q8,q9]
 by_cases q10:3 < e.o
 ·rw[if_pos (.inr (.inr (.inr q10)))]
  rcases w1 with w1 | ⟨w1,v1⟩<;>rcases w2 with w2 | ⟨w2,v2⟩
  ·simp only[F61,aN,go_sem,a1,a2,a3,a4,a5,a6,a7,a8,a9,aD,q1',q4',q5',Bool.not_true,w1,w2,q7,q8,q9,q10]
  ·simp only[F61,aN,go_sem,a1,a2,a3,a4,a5,a6,a7,a8,a9,aD,q1',q4',q5',Bool.not_true,w1,w2,v2,q7,q8,q9,q10]
  ·simp only[F61,aN,go_sem,a1,a2,a3,a4,a5,a6,a7,a8,a9,aD,q1',q4',q5',Bool.not_true,w1,v1,w2,q7,q8,q9,q10]
  ·simp only[F61,aN,go_sem,a1,a2,a3,a4,a5,a6,a7,a8,a9,aD,q1',q4',q5',Bool.not_true,w1,v1,w2,v2,q7,q8,q9,q10]
 rw[if_neg (by omega)];rcases w1 with w1 | ⟨w1,v1⟩<;>rcases w2 with w2 | ⟨w2,v2⟩
 ·simp only[F61,aN,go_sem,a1,a2,a3,a4,a5,a6,a7,a8,a9,aD,q1',q4',q5',Bool.not_true,w1,w2,q7,q8,q9,q10]
 ·simp only[F61,aN,go_sem,a1,a2,a3,a4,a5,a6,a7,a8,a9,aD,q1',q4',q5',Bool.not_true,w1,w2,v2,q7,q8,q9,q10]
 ·simp only[F61,aN,go_sem,a1,a2,a3,a4,a5,a6,a7,a8,a9,aD,q1',q4',q5',Bool.not_true,w1,v1,w2,q7,q8,q9,q10]
 ·simp only[F61,aN,go_sem,a1,a2,a3,a4,a5,a6,a7,a8,a9,aD,q1',q4',q5',Bool.not_true,w1,v1,w2,v2,q7,q8,q9,q10]
theorem k23 (e:En) (h:BE e):G0 61 [.agg (aN e)] []=some (.int .i64 (vE e),[]):=by
 obtain⟨l1,l2,l3⟩:=h.lS;obtain⟨m1,m2,m3⟩:=h.lT;have a1:=c46 e.S (by omega) l3;have a2:=c46 e.T (by omega) m3;by_cases hS:vld e.S=0
 ·by_cases hT:vld e.T=0
  ·exact k23v e h hS hT
  ·have hv:vE e=vld e.T:=by unfold vE;rw[if_neg (by simp [hS]),if_pos hT]
   rw[hv];refine aA F61 rfl rfl rfl ?_;simp only[F61,aN,go_sem,a1,a2,hS,hT]
 ·have hv:vE e=vld e.S:=by unfold vE;rw[if_pos hS]
  rw[hv];refine aA F61 rfl rfl rfl ?_;simp only[F61,aN,go_sem,a1,hS]
theorem k38v (e:En) (h:BE e) (hS:vld e.S=0) (hT:vld e.T=0):G0 51 [.agg (aN e)] []=some (.int .i64 (vE e),[]):=by
 obtain⟨l1,l2,l3⟩:=h.lS;obtain⟨m1,m2,m3⟩:=h.lT;have a1:=c21 e.S (by omega) l3;have a2:=c21 e.T (by omega) m3;rw[hS] at a1;rw[hT] at a2;have u1:=fQ hS;have u2:=fQ hT;have a3:=k76 e.S e.T (by omega) (by omega);have b1:=fQ (iQ (jZ hS hT) hS).2;have b2:=fQ (iP (jZ hS hT) hT).2;have a4:=c22 (gP e.S e.T) e.S (by omega);have a5:=c22 (gX e.S e.T) e.T (by omega);have hp:=h.p;have hn:=h.n;have a6:=c36 e.p (by omega);have a7:=c36 e.n (by omega);have a8:=k125 e.a;have a9:=k125 e.j;rw[RP hS hT];refine aA F51 rfl rfl rfl ?_;by_cases q1:e.S=[]
 ·rw[if_pos (.inl q1)]
  have q1':((e.S.length:Nat):Int)=0:=by rw[q1];rfl
  simp only[F51,aN,go_sem,a1,a2,a3,aD,q1']
 have q1':=DG q1;by_cases q2:gP e.S e.T=e.S
 case neg =>
  rw[if_pos (.inr (.inl q2))];rw[decide_eq_false q2] at a4;simp only[F51,aN,go_sem,a1,a2,a3,a4,aD,q1',Bool.not_false]
 rw[decide_eq_true q2] at a4;by_cases q3:gX e.S e.T=e.T
 case neg =>
  rw[if_pos (.inr (.inr q3))];rw[decide_eq_false q3] at a5;simp only[F51,aN,go_sem,a1,a2,a3,a4,a5,aD,q1',Bool.not_false,Bool.not_true]
 rw[decide_eq_true q3] at a5;rw[if_neg (by simp [q1,q2,q3])];by_cases q4:jR e.p=0
 case neg =>
  rw[if_pos q4];have q4':¬ (aK e.p).2.2=0:=q4;simp only[F51,aN,go_sem,a1,a2,a3,a4,a5,a6,aD,q1',q4',Bool.not_true];rfl
 have q4':(aK e.p).2.2=0:=q4;rw[if_neg (by simp [q4])];by_cases q5:jR e.n=0
 case neg =>
  rw[if_pos q5];have q5':¬ (aK e.n).2.2=0:=q5;simp only[F51,aN,go_sem,a1,a2,a3,a4,a5,a6,a7,aD,q1',q4',q5',Bool.not_true];rfl
 have q5':(aK e.n).2.2=0:=q5;rw[if_neg (by simp [q5])];by_cases z1:gU e.a=true
 case neg =>
  have z1:gU e.a=false:=by simpa using z1
  rw[if_pos (by simp [z1])];simp only[F51,aN,go_sem,a1,a2,a3,a4,a5,a6,a7,a8,a9,aD,q1',q4',q5',Bool.not_true,z1,Bool.not_false]
 by_cases z2:gU e.j=true
 case neg =>
  have z2:gU e.j=false:=by simpa using z2
  rw[if_pos (by simp [z2])];simp only[F51,aN,go_sem,a1,a2,a3,a4,a5,a6,a7,a8,a9,aD,q1',q4',q5',Bool.not_true,z1,z2,Bool.not_false]
 rw[if_neg (by simp [z1,z2])];by_cases q7:e.c < 0
 ·rw[if_pos (.inl q7)]
  simp only[F51,aN,go_sem,a1,a2,a3,a4,a5,a6,a7,a8,a9,aD,q1',q4',q5',Bool.not_true,z1,z2,q7]
 by_cases q8:1073741824 < e.c
 ·rw[if_pos (.inr (.inl q8))]
  simp only[F51,aN,go_sem,a1,a2,a3,a4,a5,a6,a7,a8,a9,aD,q1',q4',q5',Bool.not_true,z1,z2,q7,q8]
 by_cases q9:e.o < 1
 ·rw[if_pos (.inr (.inr (.inl q9)))]
  simp only[F51,aN,go_sem,a1,a2,a3,a4,a5,a6,a7,a8,a9,aD,q1',q4',q5',Bool.not_true,z1,z2,q7,q8,q9]
 by_cases q10:3 < e.o
 ·rw[if_pos (.inr (.inr (.inr q10)))]
  simp only[F51,aN,go_sem,a1,a2,a3,a4,a5,a6,a7,a8,a9,aD,q1',q4',q5',Bool.not_true,z1,z2,q7,q8,q9,q10]
 rw[if_neg (by omega)];simp only[F51,aN,go_sem,a1,a2,a3,a4,a5,a6,a7,a8,a9,aD,q1',q4',q5',Bool.not_true,z1,z2,q7,q8,q9,q10]
theorem k38 (e:En) (h:BE e):G0 51 [.agg (aN e)] []=some (.int .i64 (vE e),[]):=by
 obtain⟨l1,l2,l3⟩:=h.lS;obtain⟨m1,m2,m3⟩:=h.lT;have a1:=c21 e.S (by omega) l3;have a2:=c21 e.T (by omega) m3;by_cases hS:vld e.S=0
 ·by_cases hT:vld e.T=0
  ·exact k38v e h hS hT
  ·have hv:vE e=vld e.T:=by unfold vE;rw[if_neg (by simp [hS]),if_pos hT]
   rw[hv];refine aA F51 rfl rfl rfl ?_;simp only[F51,aN,go_sem,a1,a2,hS,hT]
 ·have hv:vE e=vld e.S:=by unfold vE;rw[if_pos hS]
  rw[hv];refine aA F51 rfl rfl rfl ?_;simp only[F51,aN,go_sem,a1,hS]
end Go.Av
namespace Go.Av
open Go.Nt
theorem wA (f:List Tk):LM f=fmE f:=rfl
theorem FY (e:En):gB e=fmE e.S++[10]++e.p++[10]++e.n:=by simp [gB]
theorem iI {f:List Tk}:(fmE f).length<=50000:=by
 unfold fmE;split
 ·rename_i h;exact yU h
 ·simp
theorem k64 (e:En) (h:BE e):G0 96 [.agg (aN e)] []=some (.str (gB e),[]):=by
 obtain⟨l1,l2,l3⟩:=h.lS;have a1:=c32 e.S (by omega) l3;have hf:=iI (f:=e.S);rw[wA] at a1;have hp:=h.p;have hn:=h.n;have x1:(fmE e.S).length+[(10:UInt8)].length<=140737488355328:=by simp;omega
 have x2:(fmE e.S++[10]).length+e.p.length<=140737488355328:=by simp;omega
 have x3:(fmE e.S++[10]++e.p).length+[(10:UInt8)].length<=140737488355328:=by simp;omega
 have x4:(fmE e.S++[10]++e.p++[10]).length+e.n.length<=140737488355328:=by simp;omega
 have y1:(fmE e.S).length<=140737488355327:=by omega
 have y3:(fmE e.S++[10]++e.p).length<=140737488355327:=by simp;omega
 rw[FY];refine aA F96 rfl rfl rfl ?_;simp only[F96,aN,go_sem,a1,x1,x2,x3,x4,y1,y3]
theorem k24 (e:En) (h:BE e):G0 62 [.agg (aN e)] []=some (.str (aL e),[]):=by
 have a1:=k23 e h;have a2:=k64 e h;simp only[aN] at a1 a2;unfold aL;refine aA F62 rfl rfl rfl ?_;by_cases q:vE e=0
 ·rw[if_pos q]
  simp only[F62,aN,go_sem,a1,a2,q]
 ·rw[if_neg q]
  simp only[F62,aN,go_sem,a1,a2,q]
theorem k26 (e:En) (h:BE e):G0 53 [.agg (aN e)] []=some (.str (aL e),[]):=by
 have a1:=k38 e h;simp only[aN] at a1;obtain⟨l1,l2,l3⟩:=h.lS;have a2:=c33 e.S (by omega) l3;have hf:=iI (f:=e.S);rw[wA] at a2;have hp:=h.p;have hn:=h.n;have x1:(fmE e.S).length+[(10:UInt8)].length<=140737488355328:=by simp;omega
 have x2:(fmE e.S++[10]).length+e.p.length<=140737488355328:=by simp;omega
 have x3:(fmE e.S++[10]++e.p).length+[(10:UInt8)].length<=140737488355328:=by simp;omega
 have x4:(fmE e.S++[10]++e.p++[10]).length+e.n.length<=140737488355328:=by simp;omega
 have y1:(fmE e.S).length<=140737488355327:=by omega
 have y3:(fmE e.S++[10]++e.p).length<=140737488355327:=by simp;omega
 unfold aL;refine aA F53 rfl rfl rfl ?_;by_cases q:vE e=0
 ·rw[if_pos q,FY]
  simp only[F53,aN,go_sem,a1,a2,q,x1,x2,x3,x4,y1,y3]
 ·rw[if_neg q]
  simp only[F53,aN,go_sem,a1,q]
theorem oN (a b:Bs):Op.bytesLess a b=ltB a b:=rfl
theorem LF (a b:Bs):(Op.bytesLess a b || a == b)=!(ltB b a):=by
 rw[oN];cases h:ltB a b with
 | true=>rw[gV h];rfl
 | false =>
  by_cases e:a=b
  ·subst e;rw[lI];simp
  ·rw[oM a b h e];simpa using e
end Go.Av
namespace Go.Av
open Go.Nt
def ens (m:List En):List (List AV):=m.map aN
theorem aW (m:List En):(ens m).length=m.length:=by simp [ens]
theorem jK {m:List En} {i:Nat} {e:En} (h:m[i]?=some e):(ens m)[i]?=some [.sl .no 3 (tks e.S),.sl .no 3 (tks e.T),.str e.p,.str e.n,.str e.a,.str e.j,.int .i64 e.c,.int .i64 e.o]:=by simp [ens,aN,h]
def okE (p:Option Bs) (e:En):Bool:=decide (vE e=0) && (match p with | none=>true | some k=>ltB k (gB e))
def xD:Option Bs->List En->Bool
 | _,[]=>true
 | p,e :: m=>okE p e && xD (some (gB e)) m
def okM (m:List En):Bool:=decide (m.length<=1024) && xD none m
def prv (m:List En):Nat->Option Bs
 | 0=>none
 | i+1=>(m[i]?).map gB
theorem R0 {m:List En} {i:Nat} {e:En} (h:m[i]?=some e):prv m (i+1)=some (gB e):=by simp [prv,h]
theorem SX (b:Bool) (l:List Bs) (s:Bs) (h:l.length<=1000000):iF false 1 16 (.sl (md b) 1 (dP l)) (.sl .full 1 [[.str s]])=some (.sl .own 1 (dP (l++[s]))):=by
 have ha:cQ 16 (l.length+1)=true:=bV (by decide) (by omega);rw[dM (md b) .full (FF b) 1 16 (by decide),dK,length_singleton,if_pos ha];simp [dP]
def lst (m:List En):Nat->Bs
 | 0=>[]
 | i+1=>match m[i]? with | some e=>aL e | none=>[]
theorem FI {m:List En} {i:Nat} {e:En} (h:m[i]?=some e):lst m (i+1)=aL e:=by simp [lst,h]
theorem kP {e:En} (h:vE e=0):aL e=gB e:=by unfold aL;rw[if_pos h]
theorem PQ (e:En):gB e≠[]:=by unfold gB;simp
theorem DN (a b:Bs):eU .leq (.str a) (.str b)=some (.bool !(ltB b a)):=by
 rw[MC,LF]
theorem l32k (m:List En) (hl:m.length<=2000) (hB:∀ e∈m,BE e):∀ (k i:Nat),i+k=m.length->(∀ j e,j < i->m[j]?=some e->vE e=0) ->
  (xD (prv m i) (m.drop i)=true->∃ l',aC G0 mI (ST [(0,.sl .no 8 (ens m)),(3,.str (lst m i)),(8,.bool false),(10,.int .i64 m.length),(11,.int .i64 i)] [] [])=some (.ex 0,ST l' [] [])) /\
  (xD (prv m i) (m.drop i)=false->∃ l',aC G0 mI (ST [(0,.sl .no 8 (ens m)),(3,.str (lst m i)),(8,.bool false),(10,.int .i64 m.length),(11,.int .i64 i)] [] [])=some (.ret,ST l' [] [])/\aF .any l' 2=.bool false)
 | 0,i,h,hv=>by
  have:i=m.length:=by omega
  subst this;refine⟨fun _=>?_,fun q=>by rw[drop_length] at q;cases q⟩;refine Exists.intro ?_ ?_
  rotate_left 1
  rw[aB (L:=mI) rfl];simp only[go_sem,Int.lt_irrefl];rfl
 | k+1,i,h,hv=>by
  have hi:i < m.length:=by omega
  have h4:(i:Int) < (m.length:Int):=by omega
  have h0:(0:Int)<=(i:Int):=by omega
  have hw:=wI (i:=i) (by omega)
  have hg:m[i]?=some m[i]:=getElem?_eq_getElem hi;have hd:m.drop i=m[i] :: m.drop (i+1):=drop_eq_getElem_cons hi;have hBe:=hB _ (getElem_mem hi);generalize m[i]=e at hg hd hBe;have hr:=jK hg;have a1:=k26 e hBe;simp only[aN] at a1;rw[hd];show ((okE _ _ && _)=true->_)/\((okE _ _ && _)=false->_);by_cases q:vE e=0
  case neg =>
   have:okE (prv m i) e=false:=by unfold okE;rw[decide_eq_false q];rfl
   rw[this,Bool.false_and];have ek:aL e=[]:=by unfold aL;rw[if_neg q]
   rw[ek] at a1;refine⟨fun z=>(by cases z),fun _=>?_⟩;refine Exists.intro ?_ (And.intro ?_ ?_)
   rotate_left 1
   ·rw[aB (L:=mI) rfl]
    simp only[go_sem,h4,h0,hr,hw,a1,beq_self_eq_true];rfl
   ·rfl
  have ek:=kP q
  have ih:=l32k m hl hB k (i+1) (by omega) (fun j f hj hf=>by
   by_cases z:j=i
   ·subst z;rw[hg] at hf;cases hf;exact q
   ·exact hv j f (by omega) hf)
  rw[R0 hg,FI hg] at ih;have hne:(aL e == [])=false:=by rw[ek];simpa using PQ e
  by_cases hz0:i=0
  ·have e2:okE (prv m i) e=true:=by unfold okE;rw[decide_eq_true q,hz0];rfl
   have hz:¬ (0:Int) < (i:Int):=by omega
   rw[e2,Bool.true_and];have step:aC G0 mI (ST [(0,.sl .no 8 (ens m)),(3,.str (lst m i)),(8,.bool false),(10,.int .i64 m.length),(11,.int .i64 i)] [] [])=aC G0 mI (ST [(0,.sl .no 8 (ens m)),(3,.str (aL e)),(8,.bool false),(10,.int .i64 m.length),(11,.int .i64 ((i+1:Nat):Int))] [] []):=by
    conv=>lhs;rw[aB (L:=mI) rfl]
    simp only[go_sem,h4,h0,hr,hw,a1,hne,hz,decide_false]
   rw[step];exact ih
  obtain⟨j,rfl⟩:∃ j,i=j+1:=⟨i - 1,by omega⟩
  have hgj:m[j]?=some m[j]:=getElem?_eq_getElem (by omega);generalize m[j]=f at hgj;have qf:=hv j f (by omega) hgj;have ep:prv m (j+1)=some (gB f):=R0 hgj;have el:lst m (j+1)=aL f:=FI hgj;rw[ep,el];have hj0:(0:Int) < ((j+1:Nat):Int):=by omega
  have lq:=DN (aL e) (aL f);cases hlt:ltB (aL f) (aL e) with
  | false =>
   have hlt':ltB (gB f) (gB e)=false:=by rw[<- kP q,<- kP qf];exact hlt
   have:okE (some (gB f)) e=false:=by unfold okE;simp [hlt']
   rw[this,Bool.false_and];refine⟨fun z=>(by cases z),fun _=>?_⟩;refine Exists.intro ?_ (And.intro ?_ ?_)
   rotate_left 1
   ·rw[aB (L:=mI) rfl]
    simp only[go_sem,h4,h0,hr,hw,a1,hne,hj0,DN,hlt,Bool.not_false];rfl
   ·rfl
  | true =>
   have hlt':ltB (gB f) (gB e)=true:=by rw[<- kP q,<- kP qf];exact hlt
   have:okE (some (gB f)) e=true:=by unfold okE;simp [hlt',q]
   rw[this,Bool.true_and];have step:aC G0 mI (ST [(0,.sl .no 8 (ens m)),(3,.str (aL f)),(8,.bool false),(10,.int .i64 m.length),(11,.int .i64 ((j+1:Nat):Int))] [] [])=aC G0 mI (ST [(0,.sl .no 8 (ens m)),(3,.str (aL e)),(8,.bool false),(10,.int .i64 m.length),(11,.int .i64 ((j+1+1:Nat):Int))] [] []):=by
    conv=>lhs;rw[aB (L:=mI) rfl]
    simp only[go_sem,h4,h0,hr,hw,a1,hne,hj0,DN,hlt,Bool.not_true]
   rw[step];exact ih
theorem k32 (m:List En) (hl:m.length<=2000) (hB:∀ e∈m,BE e):G0 50 [.sl .no 8 (ens m)] []=some (.bool (okM m),[]):=by
 refine aA F50 rfl rfl rfl ?_;by_cases hc:1024 < m.length
 ·have hc':(1024:Int) < (m.length:Int):=by omega
  have:okM m=false:=by unfold okM;rw[decide_eq_false (by omega)];rfl
  rw[this];simp only[F50,go_sem,aW,hc']
 have hc':¬ (1024:Int) < (m.length:Int):=by omega
 have e1:okM m=xD none m:=by unfold okM;rw[decide_eq_true (by omega),Bool.true_and]
 rw[e1];obtain⟨x1,x2⟩:=l32k m hl hB m.length 0 (by omega) (fun j e hj=>by omega);have ec:((0:Nat):Int)=0:=rfl;have e3:lst m 0=[]:=rfl;have e4:prv m 0=none:=rfl;rw[drop_zero,ec,e3,e4] at x1 x2;cases hq:xD none m with
 | true =>
  obtain⟨l',y⟩:=x1 hq;simp only[F50,go_sem,aW,hc',y,gM,iA,not_mem_nil,if_true,if_false]
 | false =>
  obtain⟨l',y1,y2⟩:=x2 hq;simp only[F50,go_sem,aW,hc',y1,y2]
end Go.Av
namespace Go.Av
open Go.Nt
def isLb (l:List Bs) (k:Bs) (n:Nat):Prop:=n<=l.length/\∀ h x,l[h]?=some x->ltB x k=decide (h < n)
end Go.Av
namespace Go.Av
open Go.Nt
theorem KQ (a b c d e f g h:AV):gO 8 [AV.sl Own.full 3 [],AV.sl Own.full 3 [],AV.str [],AV.str [],AV.str [],AV.str [],AV.int IntKind.i64 0,AV.int IntKind.i64 0] 1 [0] [.agg [a,b,c,d,e,f,g,h]]=some (.sl .full 8 [[a,b,c,d,e,f,g,h]]):=rfl
attribute [-go_sem] jL BI
end Go.Av
namespace Go.Av
open Go.Nt
theorem oP {e:En} (h:VE e):gB e=aL e:=(kP ((lB e).2 h)).symm
theorem yL:∀ (m:List En) (k:Bs),xD (some k) m=true↔(∀ e∈m,VE e)/\Sr m/\∀ e∈m,ltB k (aL e)=true
 | [],k=>by simp [xD,Sr]
 | e :: m,k=>by
  show (okE _ _ && _)=true↔_;rw[Bool.and_eq_true,yL m (gB e)];unfold okE;simp only[Bool.and_eq_true,decide_eq_true_eq];constructor
  ·rintro ⟨⟨h1,h2⟩,h3,h4,h5⟩
   have hv:=(lB e).1 h1;rw[oP hv] at h2 h5;refine⟨fun x hx=>?_,pairwise_cons.2 ⟨fun x hx=>h5 x hx,h4⟩,fun x hx=>?_⟩
   ·rcases mem_cons.1 hx with rfl | hx
    ·exact hv
    ·exact h3 x hx
   ·rcases mem_cons.1 hx with rfl | hx
    ·exact h2
    ·exact pX _ _ _ h2 (h5 x hx)
  ·rintro ⟨h1,h2,h3⟩
   have hv:=h1 e (mem_cons_self ..);rw[oP hv];obtain⟨p1,p2⟩:=pairwise_cons.1 h2;exact⟨⟨(lB e).2 hv,h3 e (mem_cons_self ..)⟩,fun x hx=>h1 x (mem_cons_of_mem _ hx),p2,p1⟩
theorem IG (m:List En):xD none m=true↔Mem m:=by
 cases m with
 | nil=>simp [xD,rE]
 | cons e m =>
  show (okE _ _ && _)=true↔_;rw[Bool.and_eq_true,yL m (gB e)];unfold okE;simp only[Bool.and_true,decide_eq_true_eq];constructor
  ·rintro ⟨h1,h3,h4,h5⟩
   have hv:=(lB e).1 h1;rw[oP hv] at h5;refine⟨fun x hx=>?_,pairwise_cons.2 ⟨fun x hx=>h5 x hx,h4⟩⟩;rcases mem_cons.1 hx with rfl | hx
   ·exact hv
   ·exact h3 x hx
  ·rintro ⟨h1,h2⟩
   have hv:=h1 e (mem_cons_self ..);rw[oP hv];obtain⟨p1,p2⟩:=pairwise_cons.1 h2;exact⟨(lB e).2 hv,fun x hx=>h1 x (mem_cons_of_mem _ hx),p2,p1⟩
theorem FA (m:List En):okM m=true↔m.length<=1024/\Mem m:=by
 unfold okM;rw[Bool.and_eq_true,IG,decide_eq_true_eq]
def plc (m:List En) (k:Bs):Nat:=(bel k m).length
theorem H1 {m:List En} (h:Sr m) (k:Bs):∃ r,m=bel k m++r/\∀ e∈r,ltB (aL e) k=false:=by
 cases hg:kS m k with
 | none =>
  refine⟨abv k m,pQ h hg,fun e he=>?_⟩;exact gV (rF.1 he).2
 | some x =>
  refine⟨x :: abv k m,lE h hg,fun e he=>?_⟩;rcases mem_cons.1 he with rfl | he
  ·rw[(oQ hg).2];exact lI k
  ·exact gV (rF.1 he).2
theorem K1 {m:List En} (h:Mem m) (k:Bs):isLb (m.map aL) k (plc m k):=by
 obtain⟨r,e,hr⟩:=H1 h.2 k;have hl:(bel k m).length<=m.length:=by
  have:=congrArg List.length e
  rw[length_append] at this;omega
 refine⟨by rw[length_map];exact hl,fun i x hx=>?_⟩;rw[getElem?_map] at hx;obtain⟨y,hy,rfl⟩:=Option.map_eq_some_iff.1 hx;unfold plc;by_cases q:i < (bel k m).length
 ·rw[decide_eq_true q]
  rw[e,getElem?_append_left q] at hy;exact (zK.1 (mem_of_getElem? hy)).2
 ·rw[decide_eq_false q]
  rw[e,getElem?_append_right (by omega)] at hy;exact hr y (mem_of_getElem? hy)
theorem UC {m:List En} (h:Mem m) (k:Bs):plc m k<=m.length:=by have:=(K1 h k).1;simpa using this
theorem GH {m:List En} (h:Mem m) {k:Bs} {x:En} (hg:kS m k=some x):m[plc m k]?=some x:=by
 have e:=lE h.2 hg
 have:(bel k m++x :: abv k m)[(bel k m).length]?=some x:=by simp
 unfold plc;rw[<- e] at this;exact this
theorem GI {m:List En} (h:Mem m) {k:Bs} (hg:kS m k=none):∀ y,m[plc m k]?=some y->aL y≠k:=by
 intro y hy q
 have:=LG h.2 (mem_of_getElem? hy)
 rw[q,hg] at this;cases this
theorem l71k (m:List En) (hl:m.length<=2000) (hB:∀ e∈m,BE e) (k:Bs) (n:Nat) (hn:isLb (m.map aL) k n):∀ (d i:Nat),i+d=n ->
  aC G0 GR (ST [(0,.sl .no 8 (ens m)),(1,.str k),(5,.int .i64 i)] [] [])=some (.ex 0,ST [(0,.sl .no 8 (ens m)),(1,.str k),(5,.int .i64 n),(18,.bool false)] [] [])
 | 0,i,h=>by
  have:i=n:=by omega
  subst this;have hle:=hn.1;rw[length_map] at hle;rw[aB (L:=GR) rfl];by_cases q:i < m.length
  ·have q':(i:Int) < (m.length:Int):=by omega
   have h0:(0:Int)<=(i:Int):=by omega
   have hg:m[i]?=some m[i]:=getElem?_eq_getElem q;have hBe:=hB _ (getElem_mem q);generalize m[i]=e at hg hBe;have hr:=jK hg;have a1:=k26 e hBe;simp only[aN] at a1;have hx:=hn.2 i (aL e) (by rw[getElem?_map,hg];rfl);rw[decide_eq_false (Nat.lt_irrefl i)] at hx;simp only[go_sem,aW,q',h0,hr,a1,oN,hx]
  ·have q':¬ (i:Int) < (m.length:Int):=by omega
   simp only[go_sem,aW,q']
 | d+1,i,h=>by
  have hle:=hn.1;rw[length_map] at hle;have q:i < m.length:=by omega
  have q':(i:Int) < (m.length:Int):=by omega
  have h0:(0:Int)<=(i:Int):=by omega
  have hw:=wI (i:=i) (by omega)
  have hg:m[i]?=some m[i]:=getElem?_eq_getElem q;have hBe:=hB _ (getElem_mem q);generalize m[i]=e at hg hBe;have hr:=jK hg;have a1:=k26 e hBe;simp only[aN] at a1;have hx:=hn.2 i (aL e) (by rw[getElem?_map,hg];rfl);rw[decide_eq_true (show i < n by omega)] at hx;have ih:=l71k m hl hB k n hn d (i+1) (by omega);rw[aB (L:=GR) rfl];simp only[go_sem,aW,q',h0,hr,a1,oN,hx,hw];exact ih
theorem k71 (m:List En) (hl:m.length<=2000) (hB:∀ e∈m,BE e) (hm:Mem m) (k:Bs):G0 52 [.sl .no 8 (ens m),.str k] []=some (.int .i64 (plc m k),[]):=by
 have x:=l71k m hl hB k (plc m k) (K1 hm k) (plc m k) 0 (by omega);have ec:((0:Nat):Int)=0:=rfl;rw[ec] at x;refine aA F52 rfl rfl rfl ?_;simp only[F52,go_sem,x]
end Go.Av
namespace Go.Av
open Go.Nt
attribute [-go_sem] jL BI
theorem QA (a b:List En):ens (a++b)=ens a++ens b:=by simp [ens]
theorem CB (m:List En) (n:Nat):(ens m).take n=ens (m.take n):=by simp [ens,map_take]
theorem CC (m:List En) (n:Nat):(ens m).drop n=ens (m.drop n):=by simp [ens,map_drop]
theorem P8 (e:En):[[AV.sl .no 3 (tks e.S),.sl .no 3 (tks e.T),.str e.p,.str e.n,.str e.a,.str e.j,.int .i64 e.c,.int .i64 e.o]]=ens [e]:=rfl
theorem F9:ens []=[]:=rfl
theorem IJ {md o:Own} (hm:md≠.no) (X Y:List En) (h:X.length+Y.length<=100000):iF false 8 128 (.sl md 8 (ens X)) (.sl o 8 (ens Y))=some (.sl .own 8 (ens (X++Y))):=by
 rw[dM _ _ hm _ _ (by decide),aW,aW,if_pos (bV (by decide) (by omega)),QA]
theorem k72 (m:List En) (hl:m.length<=2000) (i:Nat) (e:En) (f:Nat) (hi:i+f<=m.length):G0 54 [.sl .no 8 (ens m),.int .i64 i,.agg (aN e),.int .i64 f] []=some (.sl .no 8 (ens (m.take i++[e]++m.drop (i+f))),[]):=by
 have h0:(0:Int)<=(i:Int):=by omega
 have h1:(i:Int)<=(m.length:Int):=by omega
 have hw:IntKind.i64.wrap ((i:Int)+(f:Int))=((i+f:Nat):Int):=by rw[w64 (by omega) (by omega)];rfl
 have h2:(0:Int)<=((i+f:Nat):Int):=by omega
 have h3:((i+f:Nat):Int)<=(m.length:Int):=by omega
 have p1:=IJ (md:=.full) (o:=.no) (by decide) [] (m.take i) (by simp;omega);have p2:=IJ (md:=.own) (o:=.full) (by decide) ([]++m.take i) [e] (by simp;omega);have p3:=IJ (md:=.own) (o:=.no) (by decide) ([]++m.take i++[e]) (m.drop (i+f)) (by simp;omega);rw[F9] at p1;rw[nil_append] at p1 p2 p3;refine aA F54 rfl rfl rfl ?_;simp only[F54,aN,go_sem,aW,h0,h1,h2,h3,hw,Int.toNat_natCast,CB,CC,p1,KQ,P8,p2,p3,nil_append]
def putE (m:List En) (e:En):Int:=if okM m=true then (if vE e=0 then (if kS m (aL e)=none/\1024<=m.length then 3 else 0) else vE e) else 1
def wZ (m:List En) (e:En):List En:=if putE m e=0 then mM m e else []
theorem J7 {m:List En} {e:En} (h:okM m=false):putE m e=1/\wZ m e=[]:=by
 have:putE m e=1:=by unfold putE;rw[h];rfl
 exact⟨this,by unfold wZ;rw[this];rfl⟩
theorem J6 {m:List En} {e:En} (h:okM m=true) (hv:vE e≠0):putE m e=vE e/\wZ m e=[]:=by
 have:putE m e=vE e:=by unfold putE;rw[if_pos h,if_neg hv]
 exact⟨this,by unfold wZ;rw[this,if_neg hv]⟩
theorem J5 {m:List En} {e:En} (h:okM m=true) (hv:vE e=0) (hg:kS m (aL e)=none) (hc:1024<=m.length):putE m e=3/\wZ m e=[]:=by
 have:putE m e=3:=by unfold putE;rw[if_pos h,if_pos hv,if_pos ⟨hg,hc⟩]
 exact⟨this,by unfold wZ;rw[this];rfl⟩
theorem vF {m:List En} {e:En} (h:okM m=true) (hv:vE e=0) (hg:¬ (kS m (aL e)=none/\1024<=m.length)):putE m e=0/\wZ m e=mM m e:=by
 have:putE m e=0:=by unfold putE;rw[if_pos h,if_pos hv,if_neg hg]
 exact⟨this,by unfold wZ;rw[this];rfl⟩
theorem OT {m:List En} (hm:Mem m) {e x:En} (hg:kS m (aL e)=some x):m.take (plc m (aL e))++[e]++m.drop (plc m (aL e)+1)=mM m e:=by
 have hs:=lE hm.2 hg;unfold mM plc;generalize bel (aL e) m=B at *;generalize abv (aL e) m=A at *;subst hs;simp
theorem OU {m:List En} (hm:Mem m) {e:En} (hg:kS m (aL e)=none):m.take (plc m (aL e))++[e]++m.drop (plc m (aL e))=mM m e:=by
 have hs:=pQ hm.2 hg;unfold mM plc;generalize bel (aL e) m=B at *;generalize abv (aL e) m=A at *;subst hs;simp
theorem UB {m:List En} (hm:Mem m) {k:Bs} {x:En} (hg:kS m k=some x):plc m k < m.length:=by
 have e1:=GH hm hg;by_cases q:plc m k < m.length
 ·exact q
 ·rw[getElem?_eq_none (by omega)] at e1;cases e1
theorem k30 (m:List En) (hl:m.length<=2000) (hB:∀ e∈m,BE e) (e:En) (he:BE e):G0 28 [.sl .no 8 (ens m),.agg (aN e)] []=some (.tup [.sl .no 8 (ens (wZ m e)),.int .i64 (putE m e)],[]):=by
 have a1:=k32 m hl hB;refine aA F28 rfl rfl rfl ?_;cases hq:okM m with
 | false =>
  rw[hq] at a1;rw[(J7 hq).1,(J7 hq).2];simp only[F28,aN,go_sem,a1,Bool.not_false];rfl
 | true =>
  rw[hq] at a1;obtain⟨h1,h2⟩:=(FA m).1 hq;have a2:=k38 e he;simp only[aN] at a2;by_cases hv:vE e=0
  case neg =>
   rw[(J6 hq hv).1,(J6 hq hv).2];simp only[F28,aN,go_sem,a1,a2,Bool.not_true,ne_eq,hv,not_false_eq_true,decide_true];rfl
  have a3:=k26 e he;simp only[aN] at a3;have a4:=k71 m hl hB h2 (aL e);have h0:(0:Int)<=((plc m (aL e):Nat):Int):=by omega
  have hle:=UC h2 (aL e);have w1:=k72 m hl (plc m (aL e)) e 1;have w0:=k72 m hl (plc m (aL e)) e 0 (by omega);have e1:((1:Nat):Int)=1:=rfl;have e0:((0:Nat):Int)=0:=rfl;rw[e1] at w1;rw[e0,Nat.add_zero] at w0;simp only[aN] at w1 w0;cases hg:kS m (aL e) with
  | some x =>
   have q:=UB h2 hg;have q':((plc m (aL e):Nat):Int) < (m.length:Int):=by omega
   have ex:=GH h2 hg;have hBx:=hB x (oQ hg).1;have hr:=jK ex;have a5:=k26 x hBx;rw[(oQ hg).2] at a5;simp only[aN] at a5;have w1:=w1 (by omega);rw[OT h2 hg] at w1;rw[(vF hq hv (by rw[hg];simp)).1,(vF hq hv (by rw[hg];simp)).2];simp only[F28,aN,go_sem,a1,a2,Bool.not_true,ne_eq,hv,not_true_eq_false,decide_false,a3,a4,aW,q',h0,hr,a5,beq_self_eq_true,w1]
  | none =>
   rw[OU h2 hg] at w0;by_cases hc:1024<=m.length
   ·have hc':(1024:Int)<=(m.length:Int):=by omega
    rw[(J5 hq hv hg hc).1,(J5 hq hv hg hc).2];by_cases q:plc m (aL e) < m.length
    ·have q':((plc m (aL e):Nat):Int) < (m.length:Int):=by omega
     have ex:m[plc m (aL e)]?=some m[plc m (aL e)]:=getElem?_eq_getElem q;have hBx:=hB _ (getElem_mem q);have hk:=GI h2 hg _ ex;generalize m[plc m (aL e)]=x at ex hBx hk;have hr:=jK ex;have a5:=k26 x hBx;simp only[aN] at a5;have hkk:(aL x == aL e)=false:=by simpa using hk
     simp only[F28,aN,go_sem,a1,a2,Bool.not_true,ne_eq,hv,not_true_eq_false,decide_false,a3,a4,aW,q',h0,hr,a5,hkk,hc'];rfl
    ·have q':¬ ((plc m (aL e):Nat):Int) < (m.length:Int):=by omega
     simp only[F28,aN,go_sem,a1,a2,Bool.not_true,ne_eq,hv,not_true_eq_false,decide_false,a3,a4,aW,q',hc'];rfl
   ·have hc':¬ (1024:Int)<=(m.length:Int):=by omega
    rw[(vF hq hv (by simp;omega)).1,(vF hq hv (by simp;omega)).2];by_cases q:plc m (aL e) < m.length
    ·have q':((plc m (aL e):Nat):Int) < (m.length:Int):=by omega
     have ex:m[plc m (aL e)]?=some m[plc m (aL e)]:=getElem?_eq_getElem q;have hBx:=hB _ (getElem_mem q);have hk:=GI h2 hg _ ex;generalize m[plc m (aL e)]=x at ex hBx hk;have hr:=jK ex;have a5:=k26 x hBx;simp only[aN] at a5;have hkk:(aL x == aL e)=false:=by simpa using hk
     simp only[F28,aN,go_sem,a1,a2,Bool.not_true,ne_eq,hv,not_true_eq_false,decide_false,a3,a4,aW,q',h0,hr,a5,hkk,hc',w0]
    ·have q':¬ ((plc m (aL e):Nat):Int) < (m.length:Int):=by omega
     simp only[F28,aN,go_sem,a1,a2,Bool.not_true,ne_eq,hv,not_true_eq_false,decide_false,a3,a4,aW,q',hc',w0]
end Go.Av
namespace Go.Av
open Go.Nt
def StP (P:LL) (v:AV) (sh:LL) (out:List Tk):Prop:=
 (out=[]/\v=.sl .full 3 []/\P=sh)\/(∃ D o t,out=o++[t]/\v=.ss (P++D).length 0 (o.length+1) 3/\sh=P++D++[fl (o++[t])]/\∀ c∈D,c=aZ)
theorem fl3 {f:List Tk} {i:Nat} {t:Tk} (h:f[i]?=some t):((fl f).drop (i*3)).take 3=[AV.int .i64 t.1,.str t.2.1,.int .i64 t.2.2]:=by
 have hi:i < f.length:=by
  by_cases q:i < f.length
  ·exact q
  ·rw[getElem?_eq_none (by omega)] at h;cases h
 have hd:f.drop i=t :: f.drop (i+1):=by
  rw[drop_eq_getElem_cons hi]
  congr 1
  rw[getElem?_eq_getElem hi] at h;exact Option.some.inj h
 have e:fl f=fl (f.take i)++fl (f.drop i):=by rw[<- kG,take_append_drop]
 have hl:(fl (f.take i)).length=i*3:=by rw[iC,length_take,Nat.min_eq_left (by omega)]
 rw[e,<- hl,drop_left,hd,lM];rfl
theorem qA (a:Int) (s:Bs) (c:Int):mD [AV.int .i64 a,.str s,.int .i64 c]=some [AV.int .i64 a,.str s,.int .i64 c]:=rfl
theorem DV {P:LL} {so:Nat} {c:List AV} (h:P[so]?=some c) (X Y:LL):(P++X++Y)[so]?=some c:=by
 have hi:so < P.length:=by
  by_cases q:so < P.length
  ·exact q
  ·rw[getElem?_eq_none (by omega)] at h;cases h
 rw[append_assoc,getElem?_append_left hi,h]
theorem DP (P:LL) (so:Nat) (f:List Tk) (hP:P[so]?=some (fl f)) (hf:f.length<=100000):∀ (k i:Nat) (out:List Tk) (v:AV) (sh:LL),i+k=f.length->out.length<=i->tot out+tot (f.drop i)<=1000000->StP P v sh out ->
  ∃ v' sh',StP P v' sh' ((f.drop i).foldl pn out) /\
   aC G1 jN (ST [(0,.ss so 0 f.length 3),(3,v),(8,.int .i64 f.length),(9,.int .i64 i)] [] sh)=some (.ex 0,ST [(0,.ss so 0 f.length 3),(3,v'),(8,.int .i64 f.length),(9,.int .i64 f.length),(10,.bool false)] [] sh')
 | 0,i,out,v,sh,h1,h2,h3,hst=>by
  have:i=f.length:=by omega
  subst this;refine⟨v,sh,by rw[drop_of_length_le (Nat.le_refl _)];exact hst,?_⟩;rcases hst with ⟨rfl,rfl,rfl⟩ | ⟨D,o,t,rfl,rfl,rfl,hD⟩
  ·rw[aB (L:=jN) rfl]
   simp only[go_sem,Int.lt_irrefl]
  ·rw[aB (L:=jN) rfl]
   simp only[go_sem,Int.lt_irrefl]
 | k+1,i,out,v,sh,h1,h2,h3,hst=>by
  have hi:i < f.length:=by omega
  have h4:(i:Int) < (f.length:Int):=by omega
  have h0:(0:Int)<=(i:Int):=by omega
  have hw:=wI (i:=i) (by omega)
  have hg:f[i]?=some f[i]:=getElem?_eq_getElem hi;have hd:f.drop i=f[i] :: f.drop (i+1):=drop_eq_getElem_cons hi;generalize f[i]=T at hg hd;have hr:=fl3 hg;obtain⟨kk,s,id⟩:=T;rw[hd] at h3 ⊢;rw[bC] at h3;simp only[foldl_cons];simp only[] at h3;by_cases c1:kk=1
  ·by_cases c2:s=[]
   ·subst c1 c2
    rw[A8];obtain⟨v',sh',p1,p4⟩:=DP P so f hP hf k (i+1) out v sh (by omega) (by omega) (by simp only[length_nil] at h3;omega) hst;refine⟨v',sh',p1,?_⟩;rcases hst with ⟨rfl,rfl,rfl⟩ | ⟨D,o,t,rfl,rfl,rfl,hD⟩
    ·rw[aB (L:=jN) rfl]
     simp only[go_sem,h4,h0,hP,DV hP,hr,qA,hw];exact p4
    ·rw[aB (L:=jN) rfl]
     simp only[go_sem,h4,h0,hP,DV hP,hr,qA,hw];exact p4
   ·subst c1
    have hne:(s == [])=false:=by simp [c2]
    rcases hst with ⟨rfl,rfl,rfl⟩ | ⟨D,o,t,rfl,rfl,rfl,hD⟩
    ·rw[A7 c2]
     obtain⟨v',sh',p1,p4⟩:=DP P so f hP hf k (i+1) [(1,s,0)] (.ss P.length 0 1 3) (P++[fl [(1,s,0)]]) (by omega) (by simp) (by simp only[bC,cJ] at *;first | done | omega) (.inr ⟨[],[],(1,s,0),rfl,by simp,by simp,by simp⟩);refine⟨v',sh',p1,?_⟩;have ha:cQ 32 1=true:=bV (by decide) (by decide);rw[aB (L:=jN) rfl];simp only[go_sem,h4,h0,hP,DV hP,hr,qA,hw,hne,ha,Int.lt_irrefl];exact p4
    ·have hpos:(0:Int) < ((o.length+1:Nat):Int):=by omega
     have hlt:((o.length:Nat):Int) < ((o.length+1:Nat):Int):=by omega
     have hge:(0:Int)<=((o.length:Nat):Int):=by omega
     have hw3:IntKind.i64.wrap (((o.length+1:Nat):Int) - 1)=((o.length:Nat):Int):=by rw[w64 (by omega) (by simp at h2;omega)];omega
     have hat0:(fl (o++[t]))[o.length*3]?=some (.int .i64 t.1):=F5 o t 0;have hat1:(fl (o++[t]))[o.length*3+1]?=some (.str t.2.1):=F5 o t 1;by_cases c3:t.1=1
     ·rw[E4 c2 c3]
      have hc:t.2.1.length+s.length<=140737488355328:=by simp only[dO,bC,cJ] at h3;omega
      have hb:=nK (o++[t]);have hp:kD (o.length*3) [.int .i64 1,.str (t.2.1++s),.int .i64 0] (fl (o++[t]))=some (fl (o++[(1,t.2.1++s,0)])):=LR o t (1,t.2.1++s,0);obtain⟨v',sh',p1,p4⟩:=DP P so f hP hf k (i+1) (o++[(1,t.2.1++s,0)]) (.ss (P++D).length 0 (o.length+1) 3) (P++D++[fl (o++[(1,t.2.1++s,0)])]) (by omega) (by simp at h2 ⊢;omega) (by simp only[dO,bC,cJ,length_append] at *;omega) (.inr ⟨D,o,_,rfl,rfl,rfl,hD⟩);refine⟨v',sh',p1,?_⟩;rw[aB (L:=jN) rfl];simp only[go_sem,h4,h0,hP,DV hP,hr,qA,hw,hne,hpos,hlt,hge,hw3,gD,sD,hat0,hat1,c3,Nat.add_zero,hc,hb,hp];exact p4
     ·rw[KE c2 c3]
      have h6:(o.length+1)*3=(fl (o++[t])).length:=by rw[iC];simp
      have ha:cQ 32 (o.length+1+1)=true:=bV (by decide) (by simp at h2;omega);have hb:=nK (o++[t]);have hn:=lL (o++[t]);have e6:fl (o++[t])++[[AV.int .i64 1,.str s,.int .i64 0]].flatten=fl (o++[t]++[(1,s,0)]):=by rw[kG (o++[t])];rfl
      have eL:(P++D++[fl (o++[t])]).length=(P++(D++[aZ])).length:=by simp
      have eA:P++D++[aZ]=P++(D++[aZ]):=append_assoc ..;obtain⟨v',sh',p1,p4⟩:=DP P so f hP hf k (i+1) (o++[t]++[(1,s,0)]) (.ss (P++(D++[aZ])).length 0 (o.length+1+1) 3) (P++(D++[aZ])++[fl (o++[t]++[(1,s,0)])]) (by omega) (by simp at h2 ⊢;omega) (by simp only[dO,bC,cJ] at *;omega) (.inr ⟨D++[aZ],o++[t],(1,s,0),rfl,by simp,rfl,dd hD⟩);refine⟨v',sh',p1,?_⟩;rw[aB (L:=jN) rfl];simp only[go_sem,h4,h0,hP,DV hP,hr,qA,hw,hne,hpos,hlt,hge,hw3,gD,sD,hat0,hat1,c3,Nat.add_zero,ha,hb,hn,h6,eL,eA];rw[e6];exact p4
  ·rw[KD c1]
   rcases hst with ⟨rfl,rfl,rfl⟩ | ⟨D,o,t,rfl,rfl,rfl,hD⟩
   ·rw[nil_append]
    obtain⟨v',sh',p1,p4⟩:=DP P so f hP hf k (i+1) [(kk,s,id)] (.ss P.length 0 1 3) (P++[fl [(kk,s,id)]]) (by omega) (by simp) (by simp only[bC,cJ] at *;first | done | omega) (.inr ⟨[],[],(kk,s,id),rfl,by simp,by simp,by simp⟩);refine⟨v',sh',p1,?_⟩;have ha:cQ 32 1=true:=bV (by decide) (by decide);rw[aB (L:=jN) rfl];simp only[go_sem,h4,h0,hP,DV hP,hr,qA,hw,c1,ha];exact p4
   ·have h6:(o.length+1)*3=(fl (o++[t])).length:=by rw[iC];simp
    have ha:cQ 32 (o.length+1+1)=true:=bV (by decide) (by simp at h2;omega);have hb:=nK (o++[t]);have hn:=lL (o++[t]);have e6:fl (o++[t])++[[AV.int .i64 kk,.str s,.int .i64 id]].flatten=fl (o++[t]++[(kk,s,id)]):=by rw[kG (o++[t])];rfl
    have eL:(P++D++[fl (o++[t])]).length=(P++(D++[aZ])).length:=by simp
    have eA:P++D++[aZ]=P++(D++[aZ]):=append_assoc ..;obtain⟨v',sh',p1,p4⟩:=DP P so f hP hf k (i+1) (o++[t]++[(kk,s,id)]) (.ss (P++(D++[aZ])).length 0 (o.length+1+1) 3) (P++(D++[aZ])++[fl (o++[t]++[(kk,s,id)])]) (by omega) (by simp at h2 ⊢;omega) (by simp only[dO,bC,cJ] at *;omega) (.inr ⟨D++[aZ],o++[t],(kk,s,id),rfl,by simp,rfl,dd hD⟩);refine⟨v',sh',p1,?_⟩;rw[aB (L:=jN) rfl];simp only[go_sem,h4,h0,hP,DV hP,hr,qA,hw,c1,gD,sD,ha,hb,hn,h6,eL,eA];rw[e6];exact p4
theorem k99s (P:LL) (so:Nat) (f:List Tk) (hP:P[so]?=some (fl f)) (hf:f.length<=100000) (ht:tot f<=1000000):∃ v sh,StP P v sh (nrm f)/\G1 88 [.ss so 0 f.length 3] P=some (v,sh):=by
 obtain⟨v,sh,p1,p4⟩:=DP P so f hP hf f.length 0 [] (.sl .full 3 []) P (by omega) (by simp) (by rw[drop_zero,cJ];omega) (.inl ⟨rfl,rfl,rfl⟩);rw[drop_zero] at p1;have p1:StP P v sh (nrm f):=p1;refine⟨v,sh,p1,?_⟩;have ec:((0:Nat):Int)=0:=rfl;rw[ec] at p4;generalize nrm f=g at p1;refine aA MT rfl rfl rfl ?_;rcases p1 with ⟨rfl,rfl,rfl⟩ | ⟨D,o,t,rfl,rfl,rfl,hD⟩
 ·simp only[MT,go_sem,p4]
 ·simp only[MT,go_sem,p4]
def FSt (v:AV) (sh:LL) (f:List Tk):Prop:=(f=[]/\v=.sl .full 3 [])\/(∃ so,v=.ss so 0 f.length 3/\1<=so/\sh[so]?=some (fl f)/\f≠[])
theorem TD {f:List Tk} (h:f≠[]):∃ r l,tks f=r :: l/\l.length+1=f.length:=by
 cases f with
 | nil=>exact absurd rfl h
 | cons a f=>exact⟨_,_,rfl,by simp [tks]⟩
theorem TE (f:List Tk):(tks f).flatten=fl f:=rfl
theorem app0 {f:List Tk} (h:f≠[]) (hf:f.length<=100000) (sh:LL):gE 3 32 sh (some (tks f)) (.sl .full 3 [])=some (.ss sh.length 0 f.length 3,sh++[fl f]):=by
 obtain⟨r,l,e,hl⟩:=TD h;have ha:cQ 32 (l.length+1)=true:=bV (by decide) (by omega);have e2:=TE f;rw[e] at e2 ⊢;rw[jA 3 32 3 (by decide),if_pos ha,e2,hl]
theorem rnl (o:Own) (sh:LL):fB false 3 sh (.sl o 3 [])=some []:=by simp [fB,jE]
theorem nn0 (sh:LL):gE 3 32 sh (some []) (.sl .full 3 [])=some (.sl .full 3 [],sh):=MK 3 32 3 sh
theorem k58s {v:AV} {sh:LL} {f:List Tk} (hv:FSt v sh f) (x:Tk) (hf:f.length<=10000) (ht:tot f+x.2.1.length<=100000) :
  ∃ E v' sh',(E=[fl [x]]\/E=[aZ,fl (f++[x])])/\StP (sh++E) v' sh' (nrm (f++[x]))/\G1 57 [v,.sl .full 3 [[.int .i64 x.1,.str x.2.1,.int .i64 x.2.2]]] sh=some (v',sh'):=by
 rcases hv with ⟨rfl,rfl⟩ | ⟨so,rfl,_,hs,hne⟩
 ·obtain⟨v',sh',p1,p2⟩:=k99s (sh++[fl [x]]) sh.length [x] (gD sh _) (by simp) (by simp only[bC,cJ];omega)
  refine⟨[fl [x]],v',sh',.inl rfl,p1,?_⟩;have ha:cQ 32 1=true:=bV (by decide) (by decide);rw[zV] at p2;have e1:([x]:List Tk).length=1:=rfl;rw[e1] at p2;have hd:aH v'=v':=by
   rcases p1 with ⟨_,rfl,_⟩ | ⟨D,o,t,_,rfl,_,_⟩<;>rfl
  refine aA CR rfl rfl rfl ?_;rcases p1 with ⟨_,rfl,rfl⟩ | ⟨D,o,t,_,rfl,rfl,_⟩
  ·simp only[CR,go_sem,rnl,nn0,ha,flatten_cons,flatten_nil,append_nil,p2]
  ·simp only[CR,go_sem,rnl,nn0,ha,flatten_cons,flatten_nil,append_nil,p2]
 ·obtain⟨v',sh',p1,p2⟩:=k99s (sh++[aZ]++[fl (f++[x])]) (sh++[aZ]).length (f++[x]) (gD _ _) (by simp;omega) (by simp only[dO,bC,cJ];omega)
  refine⟨[aZ,fl (f++[x])],v',sh',.inr rfl,by rw[show sh++[aZ,fl (f++[x])]=sh++[aZ]++[fl (f++[x])] by simp];exact p1,?_⟩;have ha:cQ 32 (f.length+1)=true:=bV (by decide) (by omega);have hA:=app0 hne (by omega) sh;have hr:=u6 f;have hb:=nK f;have hn:=lL f;have h6:f.length*3=(fl f).length:=(iC f).symm;have e6:fl f++[[AV.int .i64 x.1,.str x.2.1,.int .i64 x.2.2]].flatten=fl (f++[x]):=by rw[kG];rfl
  have eL:(sh++[fl f]).length=(sh++[aZ]).length:=by simp
  have e1:(f++[x]).length=f.length+1:=by simp
  rw[e1] at p2;refine aA CR rfl rfl rfl ?_;rcases p1 with ⟨_,rfl,rfl⟩ | ⟨D,o,t,_,rfl,rfl,_⟩
  ·simp only[CR,go_sem,hs,hr,hA,gD,sD,ha,hb,hn,h6,e6,eL,p2]
  ·simp only[CR,go_sem,hs,hr,hA,gD,sD,ha,hb,hn,h6,e6,eL,p2]
end Go.Av
namespace Go.Av
open Go.Nt
def REF (n:Nat) (E:LL):Prop:=∀ c∈E,∀ x∈c,hJ n x=true
theorem EZ {n n':Nat} (h:n<=n') {x:AV} (hx:hJ n x=true):hJ n' x=true:=by
 cases x<;>first | rfl | (simp only[hJ,decide_eq_true_eq] at hx ⊢;omega)
theorem REF.app {n:Nat} {E F:LL} (h:REF n E) (h2:REF n F):REF n (E++F):=by
 intro d hd;rcases mem_append.1 hd with q | q
 ·exact h d q
 ·exact h2 d q
theorem ON (n:Nat):REF n []:=fun c hc=>by cases hc
theorem vC (n:Nat) {D:LL} (h:∀ c∈D,c=aZ):REF n D:=fun c hc x hx=>by
 rw[h c hc] at hx;simp only[aZ,mem_singleton] at hx;subst hx;rfl
theorem EY (n:Nat):∀ (f:List Tk),∀ x∈fl f,hJ n x=true
 | [],x,hx=>by cases hx
 | t :: f,x,hx=>by
  rw[lM] at hx;simp only[mem_cons] at hx;rcases hx with rfl | rfl | rfl | hx
  ·rfl
  ·rfl
  ·rfl
  ·exact EY n f x hx
theorem vB (n:Nat) (f:List Tk):REF n [fl f]:=fun c hc=>by rw[mem_singleton] at hc;rw[hc];exact EY n f
theorem EX (n:Nat) (l:List Int) (k:Nat):∀ x∈num l k,hJ n x=true:=fun x hx=>by
 simp only[num,mem_cons,not_mem_nil,or_false] at hx;rcases hx with rfl | rfl<;>rfl
theorem REF.rok {R:LL} (h:REF 0 R):Rok R:=fun l n=>by
 unfold eP;rw[Bool.false_or,all_eq_true];intro c hc;rw[all_eq_true];intro x hx;rcases mem_cons.1 (mem_of_mem_take hc) with rfl | hc
 ·exact EX _ l n x hx
 ·exact EZ (Nat.zero_le _) (h c hc x hx)
theorem REF.rok1 {R:LL} (h:REF 0 R) (m:Nat) (l:List Int) (n:Nat):eP false m (num l n :: R)=true:=by
 unfold eP;rw[Bool.false_or,all_eq_true];intro c hc;rw[all_eq_true];intro x hx;rcases mem_cons.1 (mem_of_mem_take hc) with rfl | hc
 ·exact EX _ l n x hx
 ·exact EZ (Nat.zero_le _) (h c hc x hx)
def FR (v:AV) (R:LL) (f:List Tk):Prop:=(f=[]/\v=.sl .full 3 [])\/(∃ so,v=.ss (so+1) 0 f.length 3/\R[so]?=some (fl f)/\f≠[])
theorem FR.scrub {v:AV} {R:LL} {f:List Tk} (h:FR v R f) (k:List Nat):bY k v=v:=by
 rcases h with ⟨_,rfl⟩ | ⟨so,rfl,_⟩<;>rfl
theorem FR.dem {v:AV} {R:LL} {f:List Tk} (h:FR v R f):aH v=v:=by
 rcases h with ⟨_,rfl⟩ | ⟨so,rfl,_⟩<;>rfl
theorem FR.arg {v:AV} {R:LL} {f:List Tk} (h:FR v R f):gC true v=true:=by
 rcases h with ⟨_,rfl⟩ | ⟨so,rfl,_⟩<;>rfl
theorem FR.fst {v:AV} {R:LL} {f:List Tk} (h:FR v R f) (c:List AV):FSt v (c :: R) f:=by
 rcases h with ⟨h1,h2⟩ | ⟨so,h1,h2,h3⟩
 ·exact .inl ⟨h1,h2⟩
 ·exact .inr ⟨so+1,h1,by omega,by simpa using h2,h3⟩
theorem V2 {c:List AV} {R E:LL} {v:AV} {sh:LL} {g:List Tk} (h:StP (c :: R++E) v sh g) (hR:REF 0 R) (hE:REF 0 E):∃ R',sh=c :: R'/\REF 0 R'/\FR v R' g:=by
 rcases h with ⟨rfl,rfl,rfl⟩ | ⟨D,o,t,rfl,rfl,rfl,hD⟩
 ·exact⟨R++E,rfl,hR.app hE,.inl ⟨rfl,rfl⟩⟩
 ·refine⟨R++E++D++[fl (o++[t])],rfl,((hR.app hE).app (vC 0 hD)).app (vB 0 _),.inr ⟨(R++E++D).length,?_,gD _ _,by simp⟩⟩
  simp
theorem H5 {n:Nat} (l:List Int) {v:AV} {R:LL} {f:List Tk} (hR:REF 0 R) (hv:FR v R f) (hvl:VL f) (x:Tk) (hf:f.length<=10000) (ht:tot f+x.2.1.length<=100000) :
  ∃ w R2,REF 0 R2/\FR w R2 (pn f x)/\G0 57 [v,.sl .full 3 [[.int .i64 x.1,.str x.2.1,.int .i64 x.2.2]]] (num l n :: R)=some (w,num l n :: R2):=by
 obtain⟨E,w,sh',hE,p1,p2⟩:=k58s (hv.fst (num l n)) x hf ht;have hE':REF 0 E:=by
  rcases hE with rfl | rfl
  ·exact vB 0 _
  ·exact REF.app (E:=[aZ]) (vC 0 (by simp)) (vB 0 _)
 obtain⟨R2,rfl,h1,h2⟩:=V2 p1 hR hE';rw[BF hvl] at h2;exact⟨w,R2,h1,h2,oZ p2⟩
theorem zDL (l:List Int) {v:AV} {R:LL} {f:List Tk} (hR:REF 0 R) (hv:FR v R f) (x:Tk) (hf:f.length<=10000) :
  ∃ w R2,REF 0 R2/\FR w R2 (f++[x])/\∀ n,gE 3 32 (num l n :: R) (some [[.int .i64 x.1,.str x.2.1,.int .i64 x.2.2]]) v=some (w,num l n :: R2):=by
 rcases hv with ⟨rfl,rfl⟩ | ⟨so,rfl,hs,hne⟩
 ·refine⟨.ss (R.length+1) 0 1 3,R++[fl [x]],hR.app (vB 0 _),.inr ⟨R.length,rfl,gD _ _,by simp⟩,fun n=>?_⟩
  have ha:cQ 32 (([]:LL).length+1)=true:=bV (by decide) (by decide);rw[jA 3 32 3 (by decide),if_pos ha];rfl
 ·have hso:so < R.length:=by
   by_cases q:so < R.length
   ·exact q
   ·rw[getElem?_eq_none (by omega)] at hs;cases hs
  refine⟨.ss (R.length+1) 0 (f++[x]).length 3,R.set so aZ++[fl (f++[x])],?_,.inr ⟨R.length,rfl,?_,by simp⟩,fun n=>?_⟩
  ·refine REF.app ?_ (vB 0 _)
   intro c hc;rcases mem_or_eq_of_mem_set hc with q | q
   ·exact hR c q
   ·rw[q];exact vC 0 (D:=[aZ]) (by simp) aZ (by simp)
  ·rw[getElem?_append_right (by simp)]
   simp
  ·have ha:cQ 32 (f.length+1)=true:=bV (by decide) (by omega)
   have e6:fl f++[[AV.int .i64 x.1,.str x.2.1,.int .i64 x.2.2]].flatten=fl (f++[x]):=by rw[kG];rfl
   rw[jL (so+1) f.length 32 3 (by decide),length_singleton,if_pos ha,getElem?_cons_succ,hs];simp only[Option.bind_some];rw[if_pos ⟨nK f,(iC f).symm,lL f⟩,e6,set_cons_succ];simp
structure FIn (B k n:Nat) (f ops:List Tk) (id:Int) (md:Own):Prop where
 k8:k<=8
 n0:n<=B+20*(9 - k)/\B<=100000
 f0:f.length<=8 - k
 f1:tot f<=18*(8 - k)
 o0:ops.length<=8 - k
 o1:∀ t∈ops,t.2.1.length<=18
 i0:0<=id
 i1:id<=8 - (k:Int)
 md0:md≠.no
theorem DQ (B:Nat) (l:List Int):∀ (k n:Nat) (f ops:List Tk) (id:Int) (v:AV) (R:LL) (md10:Own),FIn B k n f ops id md10->FV f ops id->REF 0 R->FR v R f ->
  ∃ n' f' ops' id' v' R' md10',n'<=B+400/\f'.length<=8/\tot f'<=144/\(ops'.length<=8/\(∀ t∈ops',t.2.1.length<=18)/\id'<=8)/\FV f' ops' id'/\REF 0 R'/\FR v' R' f' /\
   aC G0 lA (ST [(0,.ptr 0 0),(2,.bool true),(3,.bool true),(9,v),(10,.sl md10 3 (tks ops)),(11,.int .i64 id),(12,.int .i64 k)] [] (num l n :: R))=some (.ex 0,ST [(0,.ptr 0 0),(2,.bool true),(3,.bool true),(9,v'),(10,.sl md10' 3 (tks ops')),(11,.int .i64 id'),(12,.int .i64 0),(21,.bool false)] [] (num l n' :: R'))
 | 0,n,f,ops,id,v,R,md10,h,fv,hR0,hv=>by
  obtain⟨k8,⟨n0,nB⟩,f0,f1,o0,o1,i0,i1,md0⟩:=h;refine⟨n,f,ops,id,v,R,md10,by omega,by omega,by omega,⟨by omega,o1,by omega⟩,fv,hR0,hv,?_⟩;have sc:=hv.scrub;rw[aB (L:=lA) rfl];simp only[go_sem,Int.lt_irrefl,sc]
 | k+1,n,f,ops,id,v,R,md10,h,fv,hR0,hv=>by
  obtain⟨k8,⟨n0,nB⟩,f0,f1,o0,o1,i0,i1,md0⟩:=h;have hR:=REF.rok hR0;have sc:=hv.scrub;have dm:=hv.dem;have ag:=hv.arg;have hk:(0:Int) < ((k+1:Nat):Int):=by omega
  have hwk:IntKind.i64.wrap (((k+1:Nat):Int) - 1)=(k:Int):=by rw[w64 (by omega) (by omega)];omega
  have hl:=zBB l n;have h48:=c63r hR l n 3 (by omega) (by decide) (by decide);generalize hL:l8 l n 3=L at hl h48;obtain⟨s,n1⟩:=L;simp only[] at hl h48;have h36:=D4 hR l n1 8 (by omega) (by decide) (by decide);have hy:=gH l n1 8 (by decide);generalize nxt l n1 8=y at h36 hy;by_cases y0:y=0\/y=1
  ·obtain⟨x,xm,x5,hx,hx0⟩:=IZ tbA tbA5 l (n1+1) 3 (by decide) rfl
   have h36b:=D4 hR l (n1+1) 3 (by omega) (by decide) (by decide);obtain⟨r2,r1⟩:=jC f (5,x,0);obtain⟨w,R2,hR2,hw,r3⟩:=H5 (n:=n1+2) l hR0 hv fv.vl (5,x,0) (by omega) (by simp only[length_cons,length_nil];omega);have sw:=hw.scrub;have dw:=hw.dem;have fv':=P1 fv (TI x xm);simp only[length_cons,length_nil] at r1 r2 r3;generalize pn f (5,x,0)=r at r1 r2 r3 fv' hw;obtain⟨n',f',ops',id',v',R',md10',p1,p2,p3,p4,pf,pR,pv,p5⟩:=DQ B l k (n1+2) r ops id w R2 md10 ⟨by omega,⟨by omega,nB⟩,by omega,by omega,by omega,o1,i0,by omega,md0⟩ fv' hR2 hw;refine⟨n',f',ops',id',v',R',md10',p1,p2,p3,p4,pf,pR,pv,?_⟩;rcases y0 with rfl | rfl
   ·rw[aB (L:=lA) rfl]
    simp only[go_sem,hk,h48,h36,h36b,mA,hx,hx0,hR l,sc,dm,ag,sw,dw,r3,hwk];exact p5
   ·rw[aB (L:=lA) rfl]
    simp only[go_sem,hk,h48,h36,h36b,mA,hx,hx0,hR l,sc,dm,ag,sw,dw,r3,hwk];exact p5
  have hid:IntKind.i64.wrap (id+1)=id+1:=w64 (by omega) (by omega);by_cases y2:y=2
  ·obtain⟨x,xm,x5,hx,hx0⟩:=IZ tbB tbB5 l (n1+1) 2 (by decide) rfl
   have h36b:=D4 hR l (n1+1) 2 (by omega) (by decide) (by decide);obtain⟨r2,r1⟩:=jC f (4,x,id+1);obtain⟨w,R2,hR2,hw,r3⟩:=H5 (n:=n1+2) l hR0 hv fv.vl (4,x,id+1) (by omega) (by simp only[length_cons,length_nil];omega);have sw:=hw.scrub;have dw:=hw.dem;have fv':=VZ (k:=4) fv (.inl ⟨rfl,ZH x xm⟩) (by omega);simp only[length_cons,length_nil] at r1 r2 r3;generalize pn f (4,x,id+1)=r at r1 r2 r3 fv' hw;obtain⟨n',f',ops',id',v',R',md10',p1,p2,p3,p4,pf,pR,pv,p5⟩:=DQ B l k (n1+2) r ops (id+1) w R2 md10 ⟨by omega,⟨by omega,nB⟩,by omega,by omega,by omega,o1,by omega,by omega,md0⟩ fv' hR2 hw;refine⟨n',f',ops',id',v',R',md10',p1,p2,p3,p4,pf,pR,pv,?_⟩;subst y2;rw[aB (L:=lA) rfl];simp only[go_sem,hk,h48,h36,h36b,mB,hx,hx0,hR l,sc,dm,ag,sw,dw,r3,hwk,hid];exact p5
  by_cases y3:y=3\/y=4
  ·obtain⟨x,xm,x5,hx,hx0⟩:=IZ tbC tbC5 l (n1+1) 3 (by decide) rfl
   have h36b:=D4 hR l (n1+1) 3 (by omega) (by decide) (by decide);obtain⟨r2,r1⟩:=jC f (2,x,id+1);obtain⟨w,R2,hR2,hw,r3⟩:=H5 (n:=n1+2) l hR0 hv fv.vl (2,x,id+1) (by omega) (by simp only[length_cons,length_nil];omega);have sw:=hw.scrub;have dw:=hw.dem;have fv':=P2 fv (ZG x xm) (by omega);simp only[length_cons,length_nil] at r1 r2 r3;generalize pn f (2,x,id+1)=r at r1 r2 r3 fv' hw;have ha:cQ 32 (ops.length+1)=true:=bV (by decide) (by omega)
   obtain⟨n',f',ops',id',v',R',md10',p1,p2,p3,p4,pf,pR,pv,p5⟩:=DQ B l k (n1+2) r (ops++[(2,x,id+1)]) (id+1) w R2 .own ⟨by omega,⟨by omega,nB⟩,by omega,by omega,by simp only[length_append,length_cons,length_nil];omega,fun t ht=>by
    rcases mem_append.1 ht with h | h
    ·exact o1 t h
    ·simp only[mem_cons,not_mem_nil,or_false] at h;subst h;simp only;omega,by omega,by omega,by decide⟩ fv' hR2 hw
   refine⟨n',f',ops',id',v',R',md10',p1,p2,p3,p4,pf,pR,pv,?_⟩;have e4:tks (ops++[(2,x,id+1)])=tks ops++[[.int .i64 2,.str x,.int .i64 (id+1)]]:=by rw[<- n9];rfl
   rw[e4] at p5;rcases y3 with rfl | rfl
   ·rw[aB (L:=lA) rfl]
    simp only[go_sem,hk,h48,h36,h36b,mC,hx,hx0,hR l,sc,dm,ag,sw,dw,r3,hwk,hid,dM md10 .full md0 3 32 (by decide),aD,ha];exact p5
   ·rw[aB (L:=lA) rfl]
    simp only[go_sem,hk,h48,h36,h36b,mC,hx,hx0,hR l,sc,dm,ag,sw,dw,r3,hwk,hid,dM md10 .full md0 3 32 (by decide),aD,ha];exact p5
  by_cases y5:y=5\/y=6
  ·by_cases hop:1<=ops.length
   ·have hm1:IntKind.i64.wrap ((ops.length:Int) - 1)=((ops.length - 1:Nat):Int):=by rw[w64 (by omega) (by omega)];omega
    have hge:(0:Int)<=((ops.length - 1:Nat):Int):=by omega
    obtain⟨jn,hjn⟩:∃ jn,jn=ops.length - 1:=⟨_,rfl⟩
    rw[<- hjn] at hm1 hge;have hjl:jn < ops.length:=by omega
    have hg:ops[jn]?=some ops[jn]:=getElem?_eq_getElem hjl;have ht:=o1 _ (getElem_mem hjl);generalize ops[jn]=T at hg ht;have hr:=dD hg;have nm2:=c64 T.2.1 (by omega);have nm1:=oJ T.2.1;have j0:(0:Int)<=(jn:Int):=by omega
    have j1:(jn:Int)<=(ops.length:Int):=by omega
    have jw:IntKind.i64.wrap ((jn:Int)+1)=((jn+1:Nat):Int):=by rw[w64 (by omega) (by omega)];rfl
    have j2:(0:Int)<=((jn+1:Nat):Int):=by omega
    have j3:((jn+1:Nat):Int)<=(ops.length:Int):=by omega
    obtain⟨r2,r1⟩:=jC f (3,aS T.2.1,T.2.2);obtain⟨w,R2,hR2,hw,r3⟩:=H5 (n:=n1+1) l hR0 hv fv.vl (3,aS T.2.1,T.2.2) (by omega) (by simp only[length_cons,length_nil];omega);have sw:=hw.scrub;have dw:=hw.dem;have fv':=BZ fv (by omega) (qO hg);simp only[length_cons,length_nil] at r1 r2 r3;generalize pn f (3,aS T.2.1,T.2.2)=r at r1 r2 r3 fv' hw;have ha:cQ 32 (ops.take jn).length=true:=bV (by decide) (by simp;omega);have ha2:cQ 32 ((ops.take jn).length+(ops.drop (jn+1)).length)=true:=bV (by decide) (by simp;omega);have tk:(tks ops).take jn=tks (ops.take jn):=by simp [tks,map_take]
    have td:(tks ops).drop (jn+1)=tks (ops.drop (jn+1)):=by simp [tks,map_drop]
    obtain⟨n',f',ops',id',v',R',md10',p1,p2,p3,p4,pf,pR,pv,p5⟩:=DQ B l k (n1+1) r (ops.take jn++ops.drop (jn+1)) id w R2 .own ⟨by omega,⟨by omega,nB⟩,by omega,by omega,by simp only[length_append,length_take,length_drop];omega,fun t ht=>by
     rcases mem_append.1 ht with h | h
     ·exact o1 t (mem_of_mem_take h)
     ·exact o1 t (mem_of_mem_drop h),i0,by omega,by decide⟩ fv' hR2 hw
    refine⟨n',f',ops',id',v',R',md10',p1,p2,p3,p4,pf,pR,pv,?_⟩;rcases y5 with rfl | rfl
    ·rw[aB (L:=lA) rfl]
     simp only[go_sem,hk,h48,h36,hR l,hwk,hm1,hge,hr,nm2,j0,j1,j2,j3,jw,Bool.not_true,aD,tk,td,dM .full .no (by decide) 3 32 (by decide),dM .own .no (by decide) 3 32 (by decide),ha,ha2,n9,r3,sc,dm,ag,sw,dw];exact p5
    ·rw[aB (L:=lA) rfl]
     simp only[go_sem,hk,h48,h36,hR l,hwk,hm1,hge,hr,nm2,j0,j1,j2,j3,jw,Bool.not_true,aD,tk,td,dM .full .no (by decide) 3 32 (by decide),dM .own .no (by decide) 3 32 (by decide),ha,ha2,n9,r3,sc,dm,ag,sw,dw];exact p5
   ·have hop0:ops=[]:=eq_nil_of_length_eq_zero (by omega)
    subst hop0;obtain⟨r2,r1⟩:=jC f (1,s,0);obtain⟨w,R2,hR2,hw,r3⟩:=H5 (n:=n1+1) l hR0 hv fv.vl (1,s,0) (by omega) (by simp only[length_cons,length_nil];omega);have sw:=hw.scrub;have dw:=hw.dem;have fv':=F2 fv (x:=(1,s,0)) rfl;simp only[length_cons,length_nil] at r1 r2 r3;generalize pn f (1,s,0)=r at r1 r2 r3 fv' hw;obtain⟨n',f',ops',id',v',R',md10',p1,p2,p3,p4,pf,pR,pv,p5⟩:=DQ B l k (n1+1) r [] id w R2 md10 ⟨by omega,⟨by omega,nB⟩,by omega,by omega,by simp,by simp,i0,by omega,md0⟩ fv' hR2 hw;refine⟨n',f',ops',id',v',R',md10',p1,p2,p3,p4,pf,pR,pv,?_⟩;rw[dY] at p5;rcases y5 with rfl | rfl
    ·rw[aB (L:=lA) rfl]
     simp only[go_sem,hk,h48,h36,hR l,hwk,dY,Bool.not_true,r3,sc,dm,ag,sw,dw];exact p5
    ·rw[aB (L:=lA) rfl]
     simp only[go_sem,hk,h48,h36,hR l,hwk,dY,Bool.not_true,r3,sc,dm,ag,sw,dw];exact p5
  ·have y7:y=7:=by omega
   subst y7;obtain⟨r2,r1⟩:=jC f (1,s,0);obtain⟨w,R2,hR2,hw,r3⟩:=H5 (n:=n1+1) l hR0 hv fv.vl (1,s,0) (by omega) (by simp only[length_cons,length_nil];omega);have sw:=hw.scrub;have dw:=hw.dem;have fv':=F2 fv (x:=(1,s,0)) rfl;simp only[length_cons,length_nil] at r1 r2 r3;generalize pn f (1,s,0)=r at r1 r2 r3 fv' hw;obtain⟨n',f',ops',id',v',R',md10',p1,p2,p3,p4,pf,pR,pv,p5⟩:=DQ B l k (n1+1) r ops id w R2 md10 ⟨by omega,⟨by omega,nB⟩,by omega,by omega,by omega,o1,i0,by omega,md0⟩ fv' hR2 hw;refine⟨n',f',ops',id',v',R',md10',p1,p2,p3,p4,pf,pR,pv,?_⟩;rw[aB (L:=lA) rfl];simp only[go_sem,hk,h48,h36,hR l,hwk,r3,sc,dm,ag,sw,dw];exact p5
theorem l97c (l:List Int) (n':Nat) (ops:List Tk) (id:Int) (hid:id<=999) (k12:AV) (s12:∀ k,bY k k12=k12) (md10:Own) (ho:ops.length<=8) (o1:∀ t∈ops,t.2.1.length<=18):∀ (k:Nat) (f:List Tk) (v:AV) (R:LL),k<=ops.length->f.length+k<=16->tot f+18*k<=300->FV f (ops.take k) id->REF 0 R->FR v R f ->
  ∃ g w R2,g.length<=16/\tot g<=300/\FV g [] id/\REF 0 R2/\FR w R2 g /\
   aC G0 GV (ST [(0,.ptr 0 0),(2,.bool true),(3,.bool true),(9,v),(10,.sl md10 3 (tks ops)),(11,.int .i64 id),(12,k12),(15,.int .i64 ((k:Int) - 1)),(21,.bool false)] [] (num l n' :: R))=some (.ex 3,ST [(0,.ptr 0 0),(2,.bool true),(3,.bool true),(9,w),(10,.sl md10 3 (tks ops)),(11,.int .i64 id),(12,k12),(15,.int .i64 (-1)),(21,.bool false),(122,.bool false)] [] (num l n' :: R2))
 | 0,f,v,R,hk,h1,h2,fv,hR,hv=>by
  refine⟨f,v,R,by omega,by omega,by simpa using fv,hR,hv,?_⟩;have sc:=hv.scrub;have hz:¬ (0:Int)<=((0:Nat):Int) - 1:=by decide
  have hz2:((0:Nat):Int) - 1 = -1:=rfl;rw[hz2];have hz:¬ (0:Int)<=(-1:Int):=by decide
  rw[aB (L:=GV) rfl];simp only[go_sem,hz,sc,s12]
 | k+1,f,v,R,hk,h1,h2,fv,hR,hv=>by
  have hg:ops[k]?=some ops[k]:=getElem?_eq_getElem (by omega);have ht:=o1 _ (getElem_mem (show k < ops.length by omega));have hts:ops.take (k+1)=ops.take k++ops[k] :: []:=by rw[take_add_one,hg];rfl
  generalize ops[k]=T at hg ht hts;have hr:=dD hg;have nm2:=c64 T.2.1 (by omega);have nm1:=oJ T.2.1;have fv':=BZ fv hid hts;rw[KD (by decide),append_nil] at fv';obtain⟨w,R2,hR2,hw,ha⟩:=zDL l hR hv (3,aS T.2.1,T.2.2) (by omega);have ha:=ha n';simp only[] at ha;obtain⟨g,w',R3,g1,g2,g3,g4,g5,g6⟩:=l97c l n' ops id hid k12 s12 md10 ho o1 k (f++[(3,aS T.2.1,T.2.2)]) w R2 (by omega) (by simp;omega) (by rw[dO,bC,cJ];simp only[];omega) fv' hR2 hw;refine⟨g,w',R3,g1,g2,g3,g4,g5,?_⟩;have e1:((k+1:Nat):Int) - 1=(k:Int):=by omega
  have hk0:(0:Int)<=(k:Int):=by omega
  have hw1:IntKind.i64.wrap ((k:Int) - 1)=(k:Int) - 1:=w64 (by omega) (by omega);have sc:=hv.scrub;have dm:=hv.dem;have sw:=hw.scrub;have dw:=hw.dem;rw[e1];rw[aB (L:=GV) rfl];simp only[go_sem,hk0,hr,nm2,aD,ha,hw1,sc,dm,sw,dw,s12];exact g6
theorem k97 (l:List Int) (p:Nat) (hp:p<=90000) (N:Int) (hN:1<=N) (hN8:N<=8):∃ n' f,n'<=p+500/\f.length<=16/\tot f<=300/\vld f=0/\G0 29 [.ptr 0 0,.int .i64 N,.bool true,.bool true] [num l p]=some (.sl .no 3 (tks f),[num l n']):=by
 have hb:=gH l p (N+1) (by omega);have h36:=c41 l p (N+1) (by omega) (by omega) (by omega);have hc:(((nxt l p (N+1)).toNat:Nat):Int)=nxt l p (N+1):=by omega
 obtain⟨n',f,ops,id,v,R,md10,p1,p2,p3,⟨p4,p4b,p4c⟩,pf,pR,pv,p5⟩:=DQ p l (nxt l p (N+1)).toNat (p+1) [] [] 0 (.sl .full 3 []) [] .full ⟨by omega,⟨by omega,by omega⟩,by simp,by rw[cJ];omega,by simp,by simp,by omega,by omega,by decide⟩ V0 (ON 0) (.inl ⟨rfl,rfl⟩);rw[hc] at p5;simp only[dY] at p5;have hid:id<=999:=by omega
 obtain⟨g,w,R2,g1,g2,g3,g4,g5,g6⟩:=l97c l n' ops id hid (.int .i64 0) (fun _=>rfl) md10 p4 p4b ops.length f v R (Nat.le_refl _) (by omega) (by omega) (by rw[take_length];exact pf) pR pv;have hL:=DM g;refine⟨n',g,by omega,g1,g2,(dG g).2 ⟨g3.vl,by omega,by omega⟩,?_⟩;have hwN:IntKind.i64.wrap (N+1)=N+1:=w64 (by omega) (by omega);have hw:IntKind.i64.wrap ((ops.length:Int) - 1)=(ops.length:Int) - 1:=w64 (by omega) (by omega);have sc:=pv.scrub;have sw:=g5.scrub;have hk:=g4.rok1 1 l n';refine aA F29 rfl rfl rfl ?_;rcases g5 with ⟨rfl,rfl⟩ | ⟨so,rfl,hs,hne⟩
 ·simp only[F29,go_sem,hwN,h36,p5,aD,hw,g6,sc,hk,take_succ_cons,take_zero,dY]
 ·have hr:=u6 g
  have hd:eK [num l p] (num l n' :: R2)=true:=rfl;simp only[F29,go_sem,hwN,h36,p5,aD,hw,g6,sc,hk,take_succ_cons,take_zero,hs,hr,hd,getElem?_cons_succ]
end Go.Av
namespace Go.Av
open Go.Nt
theorem S6 {a b:List Tk} (h:VL (a++b)):VL a:=by
 unfold VL at h ⊢;rw[rR] at h
 split at h
 ·rename_i q;exact absurd h q
 ·rename_i q;exact Decidable.not_not.1 q
theorem Y3 {f:List Tk} (h:VL f) {i:Nat} {x:Tk} (hg:f[i]?=some x):VL (f.take i)/\chk (f.take i) x=0/\f.take (i+1)=f.take i++[x]:=by
 have ht:f.take (i+1)=f.take i++[x]:=by rw[take_add_one,hg];rfl
 have h1:VL (f.take (i+1)):=S6 (b:=f.drop (i+1)) (by rw[take_append_drop];exact h);rw[ht] at h1;obtain⟨a,b⟩:=(cH _ _).1 h1;exact⟨a,b,ht⟩
theorem zBC (l:List Int) (n:Nat):(l8 l n 2).1.length<=12/\(l8 l n 2).2<=n+8:=by
 have hb:=gH l n 3 (by omega);have h1:=uI l (nxt l n 3).toNat (n+1) [];have h2:=FL l (nxt l n 3).toNat (n+1) [];simp only[length_nil] at h1;show (lnF l (nxt l n 3).toNat (n+1) []).1.length<=12/\(lnF l (nxt l n 3).toNat (n+1) []).2<=n+8;omega
def tbT (s:Bs):List Bs:=[[114,111,116],[100,97,115,32,65,117,116,111],[],[101,105,110,32]++s,s]
theorem TH (s:Bs) (l:List Int) (n:Nat):∃ x:Bs,x.length<=s.length+8/\(dP (tbT s))[(nxt l n 5).toNat]?=some [.str x]/\0<=nxt l n 5:=by
 have hb:=gH l n 5 (by decide);generalize nxt l n 5=y at hb;obtain⟨k,rfl⟩:∃ k:Nat,y=(k:Int):=⟨y.toNat,by omega⟩
 have hk:k < 5:=by omega
 rw[Int.toNat_natCast]
 match k,hk with
 | 0,_=>exact⟨_,by simp,rfl,by omega⟩
 | 1,_=>exact⟨_,by simp,rfl,by omega⟩
 | 2,_=>exact⟨_,by simp,rfl,by omega⟩
 | 3,_=>exact⟨[101,105,110,32]++s,by simp,rfl,by omega⟩
 | 4,_=>exact⟨_,Nat.le_add_right _ _,rfl,by omega⟩
theorem PI (l:List Int) (f:List Tk) (hf:f.length<=16) (hft:tot f<=300) (hv:VL f) (o:Own) (B:Nat) (hB:B<=100000):∀ (k i n:Nat) (t:List Tk) (md:Own),i+k=f.length->n<=B+20*i->VL t->tg t=tg (f.take i)->t.length<=2*i->tot t<=tot (f.take i)+20*i ->
  ∃ n' t' md',n'<=B+20*f.length/\VL t'/\tg t'=tg f/\t'.length<=2*f.length/\tot t'<=tot f+20*f.length /\
   aC G0 yQ (ST [(0,.ptr 0 0),(1,.sl o 3 (tks f)),(5,.sl md 3 (tks t)),(9,.int .i64 f.length),(10,.int .i64 i)] [] [num l n])=some (.ex 0,ST [(0,.ptr 0 0),(1,.sl o 3 (tks f)),(5,.sl md' 3 (tks t')),(9,.int .i64 f.length),(10,.int .i64 f.length),(11,.bool false)] [] [num l n'])
 | 0,i,n,t,md,h,hn,h1,h2,h3,h4=>by
  have:i=f.length:=by omega
  subst this;rw[take_length] at h2 h4;refine⟨n,t,md,hn,h1,h2,h3,h4,?_⟩;rw[aB (L:=yQ) rfl];simp only[go_sem,Int.lt_irrefl]
 | k+1,i,n,t,md,h,hn,h1,h2,h3,h4=>by
  have hi:i < f.length:=by omega
  have c4:(i:Int) < (f.length:Int):=by omega
  have c0:(0:Int)<=(i:Int):=by omega
  have hw:=wI (i:=i) (by omega)
  have hg:f[i]?=some f[i]:=getElem?_eq_getElem hi;have hs:=yY _ (getElem_mem hi);generalize f[i]=T at hg hs;obtain⟨v1,v2,v3⟩:=Y3 hv hg;have hr:=dD hg;have ht1:tot (f.take (i+1))=tot (f.take i)+T.2.1.length:=by rw[v3,dO,bC,cJ];omega
  have htl:tot (f.take i)<=300:=by
   have:tot f=tot (f.take i)+tot (f.drop i):=by rw[<- dO,take_append_drop]
   omega
  obtain⟨kk,s,id⟩:=T;simp only[] at hr hs ht1;by_cases hk:kk=1
  ·subst hk
   obtain⟨x,x1,x2,x3⟩:=TH s l n;have h36:=c41 l n 5 (by omega) (by decide) (by decide);have hcap:[(101:UInt8),105,110,32].length+s.length<=140737488355328:=by simp;omega
   have hcap2:s.length<=140737488355324:=by omega
   have hcap3:4+s.length<=140737488355328:=by omega
   have x2':[[AV.str [114,111,116]],[AV.str [100,97,115,32,65,117,116,111]],[AV.str []],[AV.str (101 :: 105 :: 110 :: 32 :: s)],[AV.str s]][(nxt l n 5).toNat]?=some [.str x]:=x2;obtain⟨r2,r1⟩:=jC t (1,x,id);have r3:=L7 h1 (1,x,id) (by omega) (by simp only[];omega);have p1:=qF (x:=(1,x,id)) h1 rfl;have p2:=lC (f:=t) (x:=(1,x,id)) rfl;simp only[] at r1 r2 r3;have et:tg (f.take (i+1))=tg (f.take i):=by rw[v3,fF,uW (by rfl),append_nil]
   obtain⟨n',t',md',q1,q2,q3,q4,q5,q6⟩:=PI l f hf hft hv o B hB k (i+1) (n+1) (pn t (1,x,id)) .no (by omega) (by omega) p1 (by rw[p2,et];exact h2) (by omega) (by omega);refine⟨n',t',md',q1,q2,q3,q4,q5,?_⟩;rw[aB (L:=yQ) rfl];simp only[go_sem,c4,c0,hr,hw,hcap,hcap2,hcap3,h36,x2',x3,pW,r3];exact q6
  ·have h36:=c41 l n 3 (by omega) (by decide) (by decide)
   have hy:=gH l n 3 (by decide);generalize nxt l n 3=y at h36 hy;have et:tg (f.take (i+1))=tg (f.take i++[(kk,s,id)]):=by rw[v3]
   by_cases y0:y=0
   ·subst y0
    obtain⟨w1,w2⟩:=zBC l (n+1);have h48:=c63 l (n+1) 2 (by omega) (by decide) (by decide);generalize hL:l8 l (n+1) 2=L at w1 w2 h48;obtain⟨u,n1⟩:=L;simp only[] at w1 w2 h48;obtain⟨r2,r1⟩:=jC t (1,u,0);have r3:=L7 h1 (1,u,0) (by omega) (by simp only[];omega);have p1:=qF (x:=(1,u,0)) h1 rfl;have p2:=lC (f:=t) (x:=(1,u,0)) rfl;simp only[] at r1 r2 r3;generalize pn t (1,u,0)=t1 at r1 r2 r3 p1 p2;obtain⟨e1,e2,e3⟩:=KB (f:=t1) (g:=f.take i) (x:=(kk,s,id)) hk p1 (by rw[p2];exact h2) v2;obtain⟨r5,r4⟩:=jC t1 (kk,s,id);have r6:=L7 p1 (kk,s,id) (by omega) (by simp only[];omega);simp only[] at r4 r5 r6;generalize pn t1 (kk,s,id)=t2 at r4 r5 r6 e1 e2 e3;obtain⟨n',t',md',q1,q2,q3,q4,q5,q6⟩:=PI l f hf hft hv o B hB k (i+1) n1 t2 .no (by omega) (by omega) e2 (by rw[e3,et]) (by omega) (by omega);refine⟨n',t',md',q1,q2,q3,q4,q5,?_⟩;rw[aB (L:=yQ) rfl];simp only[go_sem,c4,c0,hr,hw,hk,h36,h48,pW,r3,r6];exact q6
   ·obtain⟨e1,e2,e3⟩:=KB (f:=t) (g:=f.take i) (x:=(kk,s,id)) hk h1 h2 v2
    obtain⟨r5,r4⟩:=jC t (kk,s,id);have r6:=L7 h1 (kk,s,id) (by omega) (by simp only[];omega);simp only[] at r4 r5 r6;generalize pn t (kk,s,id)=t2 at r4 r5 r6 e1 e2 e3;obtain⟨n',t',md',q1,q2,q3,q4,q5,q6⟩:=PI l f hf hft hv o B hB k (i+1) (n+1) t2 .no (by omega) (by omega) e2 (by rw[e3,et]) (by omega) (by omega);refine⟨n',t',md',q1,q2,q3,q4,q5,?_⟩;rw[aB (L:=yQ) rfl];simp only[go_sem,c4,c0,hr,hw,hk,h36,y0,pW,r6];exact q6
theorem k98 (l:List Int) (p:Nat) (hp:p<=90000) (f:List Tk) (hf:f.length<=16) (hft:tot f<=300) (hv:vld f=0) (o:Own):∃ n' t,n'<=p+400/\t.length<=32/\tot t<=700/\vld t=0/\tg t=tg f/\G0 30 [.ptr 0 0,.sl o 3 (tks f)] [num l p]=some (.sl .no 3 (tks t),[num l n']):=by
 obtain⟨n',t,md,q1,q2,q3,q4,q5,q6⟩:=PI l f hf hft ((dG f).1 hv).1 o p (by omega) f.length 0 p [] .full (by omega) (by omega) rfl rfl (by simp) (by rw[cJ];omega);have ec:((0:Nat):Int)=0:=rfl;rw[ec,dY] at q6;have hL:=DM t;refine⟨n',t,by omega,by omega,by omega,(dG t).2 ⟨q2,by omega,by omega⟩,q3,?_⟩;refine aA F30 rfl rfl rfl ?_;simp only[F30,go_sem,aD,q6,pW,take_succ_cons,take_zero]
end Go.Av
