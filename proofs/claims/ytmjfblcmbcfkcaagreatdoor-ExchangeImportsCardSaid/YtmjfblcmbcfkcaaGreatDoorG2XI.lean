/- Entries: validity, keys, comparison, by both packages. No conditions. Keys and the order of entries, by both packages. No conditions. The keys of a list of entries; whether a list is a memory, by both packages. No conditions. Searching a sorted list of texts. No conditions. Copies of entries. No conditions. Finding a key, by both packages. No conditions. Putting an entry, by both packages. No conditions. r3.Normalize and r3.Concat that hand out an object of their own. No conditions. -/
import Derived.Test.YtmjfblcmbcfkcaaGreatDoorG2XH
open List
set_option linter.unusedSimpArgs false
set_option linter.unusedVariables false
set_option linter.unusedSectionVars false
set_option maxRecDepth 100000
set_option maxHeartbeats 16000000
namespace Go.Av
open Go.Nt
def aN (e:En):List AV:=[.sl .no 3 (tks e.S),.sl .no 3 (tks e.T),.str e.p,.str e.n,.str e.a,.str e.j,.int .i64 e.c,.int .i64 e.o]
structure BE (e:En):Prop where
 S:e.S.length<=600
 sT:tot e.S<=32000000
 T:e.T.length<=600
 tT:tot e.T<=32000000
 p:e.p.length<=50000
 n:e.n.length<=50000
 a:e.a.length<=2000000
 j:e.j.length<=2000000
theorem BE.lS {e:En} (h:BE e):e.S.length<=600/\tot e.S<=32000000/\∀ t∈e.S,t.2.1.length<=gK:=
 ⟨h.S,h.sT,UP (n:=32000000) h.sT (by decide)⟩
theorem BE.lT {e:En} (h:BE e):e.T.length<=600/\tot e.T<=32000000/\∀ t∈e.T,t.2.1.length<=gK:=
 ⟨h.T,h.tT,UP (n:=32000000) h.tT (by decide)⟩
theorem k125 (s:Bs):G0 86 [.str s] []=some (.bool (iD s),[]):=by
 have c:=c74 s;refine aA F86 rfl rfl rfl ?_;unfold iD;by_cases h:s=[]
 ·subst h
  simp only[F86,go_sem,decide_true,Bool.true_or,beq_self_eq_true]
 ·have h2:(s == [])=false:=by simpa using h
  rw[decide_eq_false h,Bool.false_or];simp only[F86,go_sem,h2,c]
theorem TT {e:En} (hS:vld e.S=0) (hT:vld e.T=0):vE e=(if e.S=[]\/hZ e.S e.T≠e.S\/iH e.S e.T≠e.T then 1 else
 if kG e.p≠0 then kG e.p else if kG e.n≠0 then kG e.n else
 if ¬ (iD e.a=true/\iD e.j=true) then 4 else
 if e.c < 0\/1073741824 < e.c\/e.o < 1\/3 < e.o then 1 else 0):=by
 unfold vE;rw[if_neg (by simp [hS]),if_neg (by simp [hT])]
theorem ES {f:List Tk} (h:f≠[]):¬ (f.length:Int)=0:=by
 have:f.length≠0:=fun q=>h (eq_nil_of_length_eq_zero q)
 omega
theorem MI (s:Bs):((s != []) && !(cW s))=!(iD s):=by
 unfold iD;by_cases h:s=[]
 ·subst h;rfl
 ·rw[decide_eq_false h]
  have:(s != [])=true:=by simpa using h
  rw[this];simp
theorem k23v (e:En) (h:BE e) (hS:vld e.S=0) (hT:vld e.T=0):G0 61 [.agg (aN e)] []=some (.int .i64 (vE e),[]):=by
 obtain⟨l1,l2,l3⟩:=h.lS;obtain⟨m1,m2,m3⟩:=h.lT;have a1:=c46 e.S (by omega) l3;have a2:=c46 e.T (by omega) m3;rw[hS] at a1;rw[hT] at a2;have a3:=k60 e.S e.T hS hT;have b1:=gE (jA (kP hS hT) hS).2;have b2:=gE (i9 (kP hS hT) hT).2;have a4:=k61 (hZ e.S e.T) e.S (by omega);have a5:=k61 (iH e.S e.T) e.T (by omega);have hp:=h.p;have hn:=h.n;have a6:=c35 e.p (by omega);have a7:=c35 e.n (by omega);have a8:=c83 e.a;have a9:=c83 e.j;rw[TT hS hT];refine aA F61 rfl rfl rfl ?_;by_cases q1:e.S=[]
 ·rw[if_pos (.inl q1)]
  have q1':((e.S.length:Nat):Int)=0:=by rw[q1];rfl
  simp only[F61,aN,go_sem,a1,a2,a3,aD,q1']
 have q1':=ES q1;by_cases q2:hZ e.S e.T=e.S
 case neg =>
  rw[if_pos (.inr (.inl q2))];rw[decide_eq_false q2] at a4;simp only[F61,aN,go_sem,a1,a2,a3,a4,aD,q1',Bool.not_false]
 rw[decide_eq_true q2] at a4;by_cases q3:iH e.S e.T=e.T
 case neg =>
  rw[if_pos (.inr (.inr q3))];rw[decide_eq_false q3] at a5;simp only[F61,aN,go_sem,a1,a2,a3,a4,a5,aD,q1',Bool.not_false,Bool.not_true]
 rw[decide_eq_true q3] at a5;rw[if_neg (by simp [q1,q2,q3])];by_cases q4:kG e.p=0
 case neg =>
  rw[if_pos q4];have q4':¬ (aM e.p).2.2=0:=q4;simp only[F61,aN,go_sem,a1,a2,a3,a4,a5,a6,aD,q1',q4',Bool.not_true];rfl
 have q4':(aM e.p).2.2=0:=q4;rw[if_neg (by simp [q4])];by_cases q5:kG e.n=0
 case neg =>
  rw[if_pos q5];have q5':¬ (aM e.n).2.2=0:=q5;simp only[F61,aN,go_sem,a1,a2,a3,a4,a5,a6,a7,aD,q1',q4',q5',Bool.not_true];rfl
 have q5':(aM e.n).2.2=0:=q5;rw[if_neg (by simp [q5])];have n1:=MI e.a;have n2:=MI e.j;by_cases q6:iD e.a=true/\iD e.j=true
 case neg =>
  rw[if_pos q6];by_cases z1:iD e.a=true
  ·have z2:iD e.j=false:=by simpa [z1] using q6
   rw[z1,Bool.not_true] at n1;rw[z2,Bool.not_false] at n2;simp only[Bool.and_eq_true,Bool.not_eq_true'] at n2;by_cases w1:(e.a != [])=true
   ·rw[w1,Bool.true_and] at n1
    simp only[F61,aN,go_sem,a1,a2,a3,a4,a5,a6,a7,a8,a9,aD,q1',q4',q5',Bool.not_true,w1,n1,n2.1,n2.2,Bool.not_false]
   ·have w1:(e.a != [])=false:=by simpa using w1
    simp only[F61,aN,go_sem,a1,a2,a3,a4,a5,a6,a7,a8,a9,aD,q1',q4',q5',Bool.not_true,w1,n2.1,n2.2,Bool.not_false]
  ·have z1:iD e.a=false:=by simpa using z1
   rw[z1,Bool.not_false] at n1;simp only[Bool.and_eq_true,Bool.not_eq_true'] at n1;simp only[F61,aN,go_sem,a1,a2,a3,a4,a5,a6,a7,a8,a9,aD,q1',q4',q5',Bool.not_true,n1.1,n1.2,Bool.not_false]
 rw[if_neg (by simp [q6])];obtain⟨z1,z2⟩:=q6;rw[z1,Bool.not_true] at n1;rw[z2,Bool.not_true] at n2;have w1:(e.a != [])=false\/((e.a != [])=true/\cW e.a=true):=by
  cases w:(e.a != []) with
  | false=>exact .inl rfl
  | true=>rw[w,Bool.true_and] at n1;exact .inr ⟨rfl,by simpa using n1⟩
 have w2:(e.j != [])=false\/((e.j != [])=true/\cW e.j=true):=by
  cases w:(e.j != []) with
  | false=>exact .inl rfl
  | true=>rw[w,Bool.true_and] at n2;exact .inr ⟨rfl,by simpa using n2⟩
 by_cases q7:e.c < 0
 ·rw[if_pos (.inl q7)]
  rcases w1 with w1 | ⟨w1,v1⟩<;>rcases w2 with w2 | ⟨w2,v2⟩
  ·simp only[F61,aN,go_sem,a1,a2,a3,a4,a5,a6,a7,a8,a9,aD,q1',q4',q5',Bool.not_true,w1,w2,q7]
  ·simp only[F61,aN,go_sem,a1,a2,a3,a4,a5,a6,a7,a8,a9,aD,q1',q4',q5',Bool.not_true,w1,w2,v2,q7]
  ·simp only[F61,aN,go_sem,a1,a2,a3,a4,a5,a6,a7,a8,a9,aD,q1',q4',q5',Bool.not_true,w1,v1,w2,q7]
  ·simp only[F61,aN,go_sem,a1,a2,a3,a4,a5,a6,a7,a8,a9,aD,q1',q4',q5',Bool.not_true,w1,v1,w2,v2,q7]
 by_cases q8:1073741824 < e.c
 ·rw[if_pos (.inr (.inl q8))]
  rcases w1 with w1 | ⟨w1,v1⟩<;>rcases w2 with w2 | ⟨w2,v2⟩
  ·simp only[F61,aN,go_sem,a1,a2,a3,a4,a5,a6,a7,a8,a9,aD,q1',q4',q5',Bool.not_true,w1,w2,q7,q8]
  ·simp only[F61,aN,go_sem,a1,a2,a3,a4,a5,a6,a7,a8,a9,aD,q1',q4',q5',Bool.not_true,w1,w2,v2,q7,q8]
  ·simp only[F61,aN,go_sem,a1,a2,a3,a4,a5,a6,a7,a8,a9,aD,q1',q4',q5',Bool.not_true,w1,v1,w2,q7,q8]
  ·simp only[F61,aN,go_sem,a1,a2,a3,a4,a5,a6,a7,a8,a9,aD,q1',q4',q5',Bool.not_true,w1,v1,w2,v2,q7,q8]
 by_cases q9:e.o < 1
 ·rw[if_pos (.inr (.inr (.inl q9)))]
  rcases w1 with w1 | ⟨w1,v1⟩<;>rcases w2 with w2 | ⟨w2,v2⟩
  ·simp only[F61,aN,go_sem,a1,a2,a3,a4,a5,a6,a7,a8,a9,aD,q1',q4',q5',Bool.not_true,w1,w2,q7,q8,q9]
  ·simp only[F61,aN,go_sem,a1,a2,a3,a4,a5,a6,a7,a8,a9,aD,q1',q4',q5',Bool.not_true,w1,w2,v2,q7,q8,q9]
  ·simp only[F61,aN,go_sem,a1,a2,a3,a4,a5,a6,a7,a8,a9,aD,q1',q4',q5',Bool.not_true,w1,v1,w2,q7,q8,q9]
  ·simp only[F61,aN,go_sem,a1,a2,a3,a4,a5,a6,a7,a8,a9,aD,q1',q4',q5',Bool.not_true,w1,v1,w2,v2,q7,q8,q9]
 by_cases q10:3 < e.o
 ·rw[if_pos (.inr (.inr (.inr q10)))]
  rcases w1 with w1 | ⟨w1,v1⟩<;>rcases w2 with w2 | ⟨w2,v2⟩
  ·simp only[F61,aN,go_sem,a1,a2,a3,a4,a5,a6,a7,a8,a9,aD,q1',q4',q5',Bool.not_true,w1,w2,q7,q8,q9,q10]
  ·simp only[F61,aN,go_sem,a1,a2,a3,a4,a5,a6,a7,a8,a9,aD,q1',q4',q5',Bool.not_true,w1,w2,v2,q7,q8,q9,q10]
  ·simp only[F61,aN,go_sem,a1,a2,a3,a4,a5,a6,a7,a8,a9,aD,q1',q4',q5',Bool.not_true,w1,v1,w2,q7,q8,q9,q10]
  ·simp only[F61,aN,go_sem,a1,a2,a3,a4,a5,a6,a7,a8,a9,aD,q1',q4',q5',Bool.not_true,w1,v1,w2,v2,q7,q8,q9,q10]
 rw[if_neg (by omega)];rcases w1 with w1 | ⟨w1,v1⟩<;>rcases w2 with w2 | ⟨w2,v2⟩
 ·simp only[F61,aN,go_sem,a1,a2,a3,a4,a5,a6,a7,a8,a9,aD,q1',q4',q5',Bool.not_true,w1,w2,q7,q8,q9,q10]
 ·simp only[F61,aN,go_sem,a1,a2,a3,a4,a5,a6,a7,a8,a9,aD,q1',q4',q5',Bool.not_true,w1,w2,v2,q7,q8,q9,q10]
 ·simp only[F61,aN,go_sem,a1,a2,a3,a4,a5,a6,a7,a8,a9,aD,q1',q4',q5',Bool.not_true,w1,v1,w2,q7,q8,q9,q10]
 ·simp only[F61,aN,go_sem,a1,a2,a3,a4,a5,a6,a7,a8,a9,aD,q1',q4',q5',Bool.not_true,w1,v1,w2,v2,q7,q8,q9,q10]
theorem k23 (e:En) (h:BE e):G0 61 [.agg (aN e)] []=some (.int .i64 (vE e),[]):=by
 obtain⟨l1,l2,l3⟩:=h.lS;obtain⟨m1,m2,m3⟩:=h.lT;have a1:=c46 e.S (by omega) l3;have a2:=c46 e.T (by omega) m3;by_cases hS:vld e.S=0
 ·by_cases hT:vld e.T=0
  ·exact k23v e h hS hT
  ·have hv:vE e=vld e.T:=by unfold vE;rw[if_neg (by simp [hS]),if_pos hT]
   rw[hv];refine aA F61 rfl rfl rfl ?_;simp only[F61,aN,go_sem,a1,a2,hS,hT]
 ·have hv:vE e=vld e.S:=by unfold vE;rw[if_pos hS]
  rw[hv];refine aA F61 rfl rfl rfl ?_;simp only[F61,aN,go_sem,a1,hS]
theorem k38v (e:En) (h:BE e) (hS:vld e.S=0) (hT:vld e.T=0):G0 51 [.agg (aN e)] []=some (.int .i64 (vE e),[]):=by
 obtain⟨l1,l2,l3⟩:=h.lS;obtain⟨m1,m2,m3⟩:=h.lT;have a1:=c21 e.S (by omega) l3;have a2:=c21 e.T (by omega) m3;rw[hS] at a1;rw[hT] at a2;have u1:=gE hS;have u2:=gE hT;have a3:=k76 e.S e.T (by omega) (by omega);have b1:=gE (jA (kP hS hT) hS).2;have b2:=gE (i9 (kP hS hT) hT).2;have a4:=c22 (hZ e.S e.T) e.S (by omega);have a5:=c22 (iH e.S e.T) e.T (by omega);have hp:=h.p;have hn:=h.n;have a6:=c36 e.p (by omega);have a7:=c36 e.n (by omega);have a8:=k125 e.a;have a9:=k125 e.j;rw[TT hS hT];refine aA F51 rfl rfl rfl ?_;by_cases q1:e.S=[]
 ·rw[if_pos (.inl q1)]
  have q1':((e.S.length:Nat):Int)=0:=by rw[q1];rfl
  simp only[F51,aN,go_sem,a1,a2,a3,aD,q1']
 have q1':=ES q1;by_cases q2:hZ e.S e.T=e.S
 case neg =>
  rw[if_pos (.inr (.inl q2))];rw[decide_eq_false q2] at a4;simp only[F51,aN,go_sem,a1,a2,a3,a4,aD,q1',Bool.not_false]
 rw[decide_eq_true q2] at a4;by_cases q3:iH e.S e.T=e.T
 case neg =>
  rw[if_pos (.inr (.inr q3))];rw[decide_eq_false q3] at a5;simp only[F51,aN,go_sem,a1,a2,a3,a4,a5,aD,q1',Bool.not_false,Bool.not_true]
 rw[decide_eq_true q3] at a5;rw[if_neg (by simp [q1,q2,q3])];by_cases q4:kG e.p=0
 case neg =>
  rw[if_pos q4];have q4':¬ (aM e.p).2.2=0:=q4;simp only[F51,aN,go_sem,a1,a2,a3,a4,a5,a6,aD,q1',q4',Bool.not_true];rfl
 have q4':(aM e.p).2.2=0:=q4;rw[if_neg (by simp [q4])];by_cases q5:kG e.n=0
 case neg =>
  rw[if_pos q5];have q5':¬ (aM e.n).2.2=0:=q5;simp only[F51,aN,go_sem,a1,a2,a3,a4,a5,a6,a7,aD,q1',q4',q5',Bool.not_true];rfl
 have q5':(aM e.n).2.2=0:=q5;rw[if_neg (by simp [q5])];by_cases z1:iD e.a=true
 case neg =>
  have z1:iD e.a=false:=by simpa using z1
  rw[if_pos (by simp [z1])];simp only[F51,aN,go_sem,a1,a2,a3,a4,a5,a6,a7,a8,a9,aD,q1',q4',q5',Bool.not_true,z1,Bool.not_false]
 by_cases z2:iD e.j=true
 case neg =>
  have z2:iD e.j=false:=by simpa using z2
  rw[if_pos (by simp [z2])];simp only[F51,aN,go_sem,a1,a2,a3,a4,a5,a6,a7,a8,a9,aD,q1',q4',q5',Bool.not_true,z1,z2,Bool.not_false]
 rw[if_neg (by simp [z1,z2])];by_cases q7:e.c < 0
 ·rw[if_pos (.inl q7)]
  simp only[F51,aN,go_sem,a1,a2,a3,a4,a5,a6,a7,a8,a9,aD,q1',q4',q5',Bool.not_true,z1,z2,q7]
 by_cases q8:1073741824 < e.c
 ·rw[if_pos (.inr (.inl q8))]
  simp only[F51,aN,go_sem,a1,a2,a3,a4,a5,a6,a7,a8,a9,aD,q1',q4',q5',Bool.not_true,z1,z2,q7,q8]
 by_cases q9:e.o < 1
 ·rw[if_pos (.inr (.inr (.inl q9)))]
  simp only[F51,aN,go_sem,a1,a2,a3,a4,a5,a6,a7,a8,a9,aD,q1',q4',q5',Bool.not_true,z1,z2,q7,q8,q9]
 by_cases q10:3 < e.o
 ·rw[if_pos (.inr (.inr (.inr q10)))]
  simp only[F51,aN,go_sem,a1,a2,a3,a4,a5,a6,a7,a8,a9,aD,q1',q4',q5',Bool.not_true,z1,z2,q7,q8,q9,q10]
 rw[if_neg (by omega)];simp only[F51,aN,go_sem,a1,a2,a3,a4,a5,a6,a7,a8,a9,aD,q1',q4',q5',Bool.not_true,z1,z2,q7,q8,q9,q10]
theorem k38 (e:En) (h:BE e):G0 51 [.agg (aN e)] []=some (.int .i64 (vE e),[]):=by
 obtain⟨l1,l2,l3⟩:=h.lS;obtain⟨m1,m2,m3⟩:=h.lT;have a1:=c21 e.S (by omega) l3;have a2:=c21 e.T (by omega) m3;by_cases hS:vld e.S=0
 ·by_cases hT:vld e.T=0
  ·exact k38v e h hS hT
  ·have hv:vE e=vld e.T:=by unfold vE;rw[if_neg (by simp [hS]),if_pos hT]
   rw[hv];refine aA F51 rfl rfl rfl ?_;simp only[F51,aN,go_sem,a1,a2,hS,hT]
 ·have hv:vE e=vld e.S:=by unfold vE;rw[if_pos hS]
  rw[hv];refine aA F51 rfl rfl rfl ?_;simp only[F51,aN,go_sem,a1,hS]
end Go.Av
namespace Go.Av
open Go.Nt
theorem rC (f:List Tk):NI f=fmE f:=rfl
theorem HS (e:En):bX e=fmE e.S++[10]++e.p++[10]++e.n:=by simp [bX]
theorem kW {f:List Tk}:(fmE f).length<=50000:=by
 unfold fmE;split
 ·rename_i h;exact z9 h
 ·simp
theorem k64 (e:En) (h:BE e):G0 96 [.agg (aN e)] []=some (.str (bX e),[]):=by
 obtain⟨l1,l2,l3⟩:=h.lS;have a1:=c32 e.S (by omega) l3;have hf:=kW (f:=e.S);rw[rC] at a1;have hp:=h.p;have hn:=h.n;have x1:(fmE e.S).length+[(10:UInt8)].length<=140737488355328:=by simp;omega
 have x2:(fmE e.S++[10]).length+e.p.length<=140737488355328:=by simp;omega
 have x3:(fmE e.S++[10]++e.p).length+[(10:UInt8)].length<=140737488355328:=by simp;omega
 have x4:(fmE e.S++[10]++e.p++[10]).length+e.n.length<=140737488355328:=by simp;omega
 have y1:(fmE e.S).length<=140737488355327:=by omega
 have y3:(fmE e.S++[10]++e.p).length<=140737488355327:=by simp;omega
 rw[HS];refine aA F96 rfl rfl rfl ?_;simp only[F96,aN,go_sem,a1,x1,x2,x3,x4,y1,y3]
theorem k24 (e:En) (h:BE e):G0 62 [.agg (aN e)] []=some (.str (aG e),[]):=by
 have a1:=k23 e h;have a2:=k64 e h;simp only[aN] at a1 a2;unfold aG;refine aA F62 rfl rfl rfl ?_;by_cases q:vE e=0
 ·rw[if_pos q]
  simp only[F62,aN,go_sem,a1,a2,q]
 ·rw[if_neg q]
  simp only[F62,aN,go_sem,a1,a2,q]
theorem k26 (e:En) (h:BE e):G0 53 [.agg (aN e)] []=some (.str (aG e),[]):=by
 have a1:=k38 e h;simp only[aN] at a1;obtain⟨l1,l2,l3⟩:=h.lS;have a2:=c33 e.S (by omega) l3;have hf:=kW (f:=e.S);rw[rC] at a2;have hp:=h.p;have hn:=h.n;have x1:(fmE e.S).length+[(10:UInt8)].length<=140737488355328:=by simp;omega
 have x2:(fmE e.S++[10]).length+e.p.length<=140737488355328:=by simp;omega
 have x3:(fmE e.S++[10]++e.p).length+[(10:UInt8)].length<=140737488355328:=by simp;omega
 have x4:(fmE e.S++[10]++e.p++[10]).length+e.n.length<=140737488355328:=by simp;omega
 have y1:(fmE e.S).length<=140737488355327:=by omega
 have y3:(fmE e.S++[10]++e.p).length<=140737488355327:=by simp;omega
 unfold aG;refine aA F53 rfl rfl rfl ?_;by_cases q:vE e=0
 ·rw[if_pos q,HS]
  simp only[F53,aN,go_sem,a1,a2,q,x1,x2,x3,x4,y1,y3]
 ·rw[if_neg q]
  simp only[F53,aN,go_sem,a1,q]
theorem eC (a b:Bs):Op.bytesLess a b=ltB a b:=rfl
theorem A8 (a b:Bs):(Op.bytesLess a b || a == b)=!(ltB b a):=by
 rw[eC];cases h:ltB a b with
 | true=>rw[fU h];rfl
 | false =>
  by_cases e:a=b
  ·subst e;rw[iW];simp
  ·rw[jH a b h e];simpa using e
theorem k128 (s:Bs):G0 135 [.str s] []=some (.bool false,[]):=by
 refine aA Y9 rfl rfl rfl ?_;have e:(s != s)=false:=by simp
 simp only[Y9,go_sem,e]
theorem k129 (s:Int):G0 136 [.int .i64 s] []=some (.bool false,[]):=by
 refine aA Y8 rfl rfl rfl ?_;simp only[Y8,go_sem,ne_eq,not_true_eq_false,decide_false]
theorem k81 (a b:Bs):G0 105 [.str a,.str b] []=some (.int .i64 (eT a b),[]):=by
 have c1:=k128 a;have c2:=k128 b;have g:=A8 a b;rw[eC] at g;unfold eT;refine aA OW rfl rfl rfl ?_;cases h1:ltB a b with
 | true =>
  simp only[OW,go_sem,c1,c2,eC,h1]
 | false =>
  rw[h1,Bool.false_or] at g;cases h2:ltB b a with
  | true =>
   rw[h2,Bool.not_true] at g;simp only[OW,go_sem,c1,c2,eC,h1,g,Bool.false_or,Bool.not_false,Bool.false_eq_true]
  | false =>
   rw[h2,Bool.not_false] at g;simp only[OW,go_sem,c1,c2,eC,h1,g,Bool.false_or,Bool.not_true,Bool.false_eq_true]
theorem k83 (a b:Bs):G0 107 [.str a,.str b] []=some (.int .i64 (eT a b),[]):=by
 have g:=A8 a b;rw[eC] at g;unfold eT;refine aA OU rfl rfl rfl ?_;cases h1:ltB a b with
 | true =>
  simp only[OU,go_sem,eC,h1]
 | false =>
  rw[h1,Bool.false_or] at g;cases h2:ltB b a with
  | true =>
   rw[h2,Bool.not_true] at g;simp only[OU,go_sem,eC,h1,g,Bool.false_or,Bool.not_false,Bool.false_eq_true]
  | false =>
   rw[h2,Bool.not_false] at g;simp only[OU,go_sem,eC,h1,g,Bool.false_or,Bool.not_true,Bool.false_eq_true]
theorem k82 (a b:Int):G0 106 [.int .i64 a,.int .i64 b] []=some (.int .i64 (qG a b),[]):=by
 have c1:=k129 a;have c2:=k129 b;unfold qG;refine aA OV rfl rfl rfl ?_;by_cases h1:a < b
 ·simp only[OV,go_sem,c1,c2,h1]
 ·by_cases h2:b < a
  ·simp only[OV,go_sem,c1,c2,h1,h2]
  ·simp only[OV,go_sem,c1,c2,h1,h2]
theorem k84 (a b:Int):G0 108 [.int .i64 a,.int .i64 b] []=some (.int .i64 (qG a b),[]):=by
 unfold qG;refine aA OT rfl rfl rfl ?_;by_cases h1:a < b
 ·simp only[OT,go_sem,h1]
 ·by_cases h2:b < a
  ·simp only[OT,go_sem,h1,h2]
  ·simp only[OT,go_sem,h1,h2]
def orF:List Int->Int
 | []=>0
 | x :: l=>if x≠0 then x else orF l
theorem l80 (l:List Int) (hl:l.length<=1000):∀ (k i:Nat),i+k=l.length ->
  (orF (l.drop i)=0->∃ l',aC G0 pC (ST [(3,.int .i64 0),(6,.sl .no 1 (bZ l)),(7,.int .i64 l.length),(8,.int .i64 i)] [] [])=some (.ex 0,ST l' [] [])/\aE .any l' 3=.int .i64 0) /\
  (orF (l.drop i)≠0->∃ l',aC G0 pC (ST [(3,.int .i64 0),(6,.sl .no 1 (bZ l)),(7,.int .i64 l.length),(8,.int .i64 i)] [] [])=some (.ret,ST l' [] [])/\aE .any l' 2=.int .i64 (orF (l.drop i)))
 | 0,i,h=>by
  have:i=l.length:=by omega
  subst this;refine⟨fun _=>?_,fun h=>(by simp [orF] at h)⟩;refine Exists.intro ?_ (And.intro ?_ ?_)
  rotate_left 1
  ·rw[aB (L:=pC) rfl]
   simp only[go_sem,Int.lt_irrefl];rfl
  ·rfl
 | k+1,i,h=>by
  have hi:i < l.length:=by omega
  have h4:(i:Int) < (l.length:Int):=by omega
  have h0:(0:Int)<=(i:Int):=by omega
  have hw:=wI (i:=i) (by omega)
  have hg:l[i]?=some l[i]:=getElem?_eq_getElem hi;have hd:l.drop i=l[i] :: l.drop (i+1):=drop_eq_getElem_cons hi;generalize l[i]=a at hg hd;have hr:=kV hg;have ih:=l80 l hl k (i+1) (by omega);rw[hd];by_cases q:a=0
  ·have e:orF (a :: l.drop (i+1))=orF (l.drop (i+1)):=by simp [orF,q]
   rw[e];have step:aC G0 pC (ST [(3,.int .i64 0),(6,.sl .no 1 (bZ l)),(7,.int .i64 l.length),(8,.int .i64 i)] [] [])=aC G0 pC (ST [(3,.int .i64 0),(6,.sl .no 1 (bZ l)),(7,.int .i64 l.length),(8,.int .i64 ((i+1:Nat):Int))] [] []):=by
    conv=>lhs;rw[aB (L:=pC) rfl]
    simp only[go_sem,h4,h0,hr,hw,q,ne_eq,not_true_eq_false,decide_false]
   rw[step];exact ih
  ·have e:orF (a :: l.drop (i+1))=a:=by simp [orF,q]
   rw[e];refine⟨fun z=>absurd z q,fun _=>?_⟩;refine Exists.intro ?_ (And.intro ?_ ?_)
   rotate_left 1
   ·rw[aB (L:=pC) rfl]
    simp only[go_sem,h4,h0,hr,hw,q,ne_eq,not_false_eq_true,decide_true];rfl
   ·rfl
theorem k80 (l:List Int) (hl:l.length<=1000):G0 104 [.sl .no 1 (bZ l)] []=some (.int .i64 (orF l),[]):=by
 obtain⟨x1,x2⟩:=l80 l hl l.length 0 (by omega);have ec:((0:Nat):Int)=0:=rfl;rw[drop_zero,ec] at x1 x2;refine aA TN rfl rfl rfl ?_;by_cases q:orF l=0
 ·obtain⟨l',y1,y2⟩:=x1 q
  rw[q];simp only[TN,go_sem,bJ,y1,y2,fF,gF,not_mem_nil,if_true,if_false]
 ·obtain⟨l',y1,y2⟩:=x2 q
  simp only[TN,go_sem,bJ,y1,y2]
theorem IB (x y:En):gM x y=orF [eT (aG x) (aG y),qG x.c y.c,qG y.o x.o,eT x.a y.a,eT x.j y.j,eT (fmE x.T) (fmE y.T)]:=by
 simp only[gM,Nt.lex,orF]
 repeat' split
 all_goals first | rfl | simp_all
theorem k39 (x y:En) (hx:BE x) (hy:BE y):G0 82 [.agg (aN x),.agg (aN y)] []=some (.int .i64 (gM x y),[]):=by
 obtain⟨l1,l2,l3⟩:=hx.lT;obtain⟨m1,m2,m3⟩:=hy.lT;have a1:=c32 x.T (by omega) l3;have a2:=c32 y.T (by omega) m3;rw[rC] at a1 a2;have b1:=k24 x hx;have b2:=k24 y hy;simp only[aN] at b1 b2;have d1:=k81 (aG x) (aG y);have d2:=k82 x.c y.c;have d3:=k82 y.o x.o;have d4:=k81 x.a y.a;have d5:=k81 x.j y.j;have d6:=k81 (fmE x.T) (fmE y.T);have d7:=k80 [eT (aG x) (aG y),qG x.c y.c,qG y.o x.o,eT x.a y.a,eT x.j y.j,eT (fmE x.T) (fmE y.T)] (by simp);rw[<- IB] at d7;simp only[bZ,map_cons,map_nil] at d7;refine aA F82 rfl rfl rfl ?_;simp only[F82,aN,go_sem,a1,a2,b1,b2,d1,d2,d3,d4,d5,d6,d7]
end Go.Av
namespace Go.Av
open Go.Nt
def ens (m:List En):List (List AV):=m.map aN
theorem aK (m:List En):(ens m).length=m.length:=by simp [ens]
theorem fI {m:List En} {i:Nat} {e:En} (h:m[i]?=some e):(ens m)[i]?=some [.sl .no 3 (tks e.S),.sl .no 3 (tks e.T),.str e.p,.str e.n,.str e.a,.str e.j,.int .i64 e.c,.int .i64 e.o]:=by simp [ens,aN,h]
def okE (p:Option Bs) (e:En):Bool:=decide (vE e=0) && (match p with | none=>true | some k=>ltB k (bX e))
def tB:Option Bs->List En->Bool
 | _,[]=>true
 | p,e :: m=>okE p e && tB (some (bX e)) m
def okM (m:List En):Bool:=decide (m.length<=1024) && tB none m
def prv (m:List En):Nat->Option Bs
 | 0=>none
 | i+1=>(m[i]?).map bX
theorem GO {m:List En} {i:Nat} {e:En} (h:m[i]?=some e):prv m (i+1)=some (bX e):=by simp [prv,h]
theorem OE (b:Bool) (l:List Bs) (s:Bs) (h:l.length<=1000000):jL false 1 16 (.sl (md b) 1 (cP l)) (.sl .full 1 [[.str s]])=some (.sl .own 1 (cP (l++[s]))):=by
 have ha:cU 16 (l.length+1)=true:=bU (by decide) (by omega);rw[dP (md b) .full (G2 b) 1 16 (by decide),dK,length_singleton,if_pos ha];simp [cP]
theorem ND (a b:Bs):eU .geq (.str a) (.str b)=some (.bool !(ltB a b)):=rfl
theorem l66k (m:List En) (hl:m.length<=2000) (hB:∀ e∈m,BE e):∀ (k i:Nat) (b:Bool),i+k=m.length ->
  (tB (prv m i) (m.drop i)=true->∃ b',aC G0 nP (ST [(4,.sl (md b) 1 (cP ((m.take i).map bX))),(9,.bool false),(10,.sl .no 8 (ens m)),(11,.int .i64 m.length),(12,.int .i64 i)] [] [])=some (.ex 0,ST [(4,.sl (md b') 1 (cP (m.map bX))),(9,.bool false),(10,.sl .no 8 (ens m)),(11,.int .i64 m.length),(12,.int .i64 m.length),(13,.bool false)] [] [])) /\
  (tB (prv m i) (m.drop i)=false->∃ l' M,aC G0 nP (ST [(4,.sl (md b) 1 (cP ((m.take i).map bX))),(9,.bool false),(10,.sl .no 8 (ens m)),(11,.int .i64 m.length),(12,.int .i64 i)] [] [])=some (.ret,ST l' M [])/\aE .any l' 2=.sl .full 1 []/\aE .any l' 3=.bool false)
 | 0,i,b,h=>by
  have:i=m.length:=by omega
  subst this;refine⟨fun _=>⟨b,?_⟩,fun q=>by rw[drop_length] at q;cases q⟩;rw[take_length];rw[aB (L:=nP) rfl];simp only[go_sem,Int.lt_irrefl]
 | k+1,i,b,h=>by
  have hi:i < m.length:=by omega
  have h4:(i:Int) < (m.length:Int):=by omega
  have h0:(0:Int)<=(i:Int):=by omega
  have hw:=wI (i:=i) (by omega)
  have hg:m[i]?=some m[i]:=getElem?_eq_getElem hi;have hd:m.drop i=m[i] :: m.drop (i+1):=drop_eq_getElem_cons hi;have ht:m.take (i+1)=m.take i++[m[i]]:=by rw[take_add_one,hg];rfl
  have hBe:=hB _ (getElem_mem hi);generalize m[i]=e at hg hd ht hBe;have hr:=fI hg;have a1:=k23 e hBe;have a2:=k64 e hBe;simp only[aN] at a1 a2;have ha:=OE b ((m.take i).map bX) (bX e) (by simp;omega);have ih:=l66k m hl hB k (i+1) true (by omega);rw[GO hg,ht,map_append] at ih;have e1:md true=.own:=rfl;rw[e1] at ih;simp only[map_cons,map_nil] at ih;rw[hd];show ((okE _ _ && _)=true->_)/\((okE _ _ && _)=false->_);by_cases q:vE e=0
  case neg =>
   have:okE (prv m i) e=false:=by unfold okE;rw[decide_eq_false q];rfl
   rw[this,Bool.false_and];refine⟨fun z=>(by cases z),fun _=>?_⟩;refine Exists.intro ?_ (Exists.intro ?_ (And.intro ?_ (And.intro ?_ ?_)))
   rotate_left 2
   ·rw[aB (L:=nP) rfl]
    simp only[go_sem,h4,h0,hr,hw,a1,q,ne_eq,not_false_eq_true,decide_true];rfl
   ·rfl
   ·rfl
  have hle:(((m.take i).map bX)++[bX e])[i]?=some (bX e):=by
   rw[getElem?_append_right (by simp;omega)];simp [Nat.min_eq_left (show i<=m.length by omega)]
  have r1:=eW hle;by_cases hz0:i=0
  ·have e2:okE (prv m i) e=true:=by unfold okE;rw[decide_eq_true q,hz0];rfl
   have hz:¬ (0:Int) < (i:Int):=by omega
   rw[e2,Bool.true_and];have step:aC G0 nP (ST [(4,.sl (md b) 1 (cP ((m.take i).map bX))),(9,.bool false),(10,.sl .no 8 (ens m)),(11,.int .i64 m.length),(12,.int .i64 (i:Int))] [] [])=aC G0 nP (ST [(4,.sl .own 1 (cP ((m.take i).map bX++[bX e]))),(9,.bool false),(10,.sl .no 8 (ens m)),(11,.int .i64 m.length),(12,.int .i64 ((i+1:Nat):Int))] [] []):=by
    conv=>lhs;rw[aB (L:=nP) rfl]
    simp only[go_sem,h4,h0,hr,hw,a1,a2,ha,q,ne_eq,not_true_eq_false,decide_false,dA,hz]
   rw[step];exact ih
  obtain⟨j,rfl⟩:∃ j,i=j+1:=⟨i - 1,by omega⟩
  have hgj:m[j]?=some m[j]:=getElem?_eq_getElem (by omega);generalize m[j]=f at hgj;have hlf:(((m.take (j+1)).map bX)++[bX e])[j]?=some (bX f):=by
   rw[getElem?_append_left (by simp;omega),getElem?_map,getElem?_take_of_lt (by omega),hgj];rfl
  have r2:=eW hlf;have hj0:(0:Int) < ((j+1:Nat):Int):=by omega
  have hj1:(0:Int)<=((j+1:Nat):Int):=by omega
  have hj2:IntKind.i64.wrap (((j+1:Nat):Int) - 1)=(j:Int):=by rw[w64 (by omega) (by omega)];omega
  have hj3:(0:Int)<=(j:Int):=by omega
  have ep:prv m (j+1)=some (bX f):=GO hgj;rw[ep];cases hlt:ltB (bX f) (bX e) with
  | false =>
   have:okE (some (bX f)) e=false:=by unfold okE;simp [hlt]
   rw[this,Bool.false_and];refine⟨fun z=>(by cases z),fun _=>?_⟩;refine Exists.intro ?_ (Exists.intro ?_ (And.intro ?_ (And.intro ?_ ?_)))
   rotate_left 2
   ·rw[aB (L:=nP) rfl]
    simp only[go_sem,h4,h0,hr,hw,a1,a2,ha,q,ne_eq,not_true_eq_false,decide_false,dA,hj0,hj1,hj2,hj3,r1,r2,ND,hlt,Bool.not_false,m9];rfl
   ·rfl
   ·rfl
  | true =>
   have:okE (some (bX f)) e=true:=by unfold okE;simp [hlt,q]
   rw[this,Bool.true_and];have step:aC G0 nP (ST [(4,.sl (md b) 1 (cP ((m.take (j+1)).map bX))),(9,.bool false),(10,.sl .no 8 (ens m)),(11,.int .i64 m.length),(12,.int .i64 ((j+1:Nat):Int))] [] [])=aC G0 nP (ST [(4,.sl .own 1 (cP ((m.take (j+1)).map bX++[bX e]))),(9,.bool false),(10,.sl .no 8 (ens m)),(11,.int .i64 m.length),(12,.int .i64 ((j+1+1:Nat):Int))] [] []):=by
    conv=>lhs;rw[aB (L:=nP) rfl]
    simp only[go_sem,h4,h0,hr,hw,a1,a2,ha,q,ne_eq,not_true_eq_false,decide_false,dA,hj0,hj1,hj2,hj3,r1,r2,ND,hlt,Bool.not_true,m9]
   rw[step];exact ih
theorem k66 (m:List En) (hl:m.length<=2000) (hB:∀ e∈m,BE e):G0 80 [.sl .no 8 (ens m)] []=some (.tup [.sl .no 1 (cP (if okM m=true then m.map bX else [])),.bool (okM m)],[]):=by
 refine aA F80 rfl rfl rfl ?_;by_cases hc:1024 < m.length
 ·have hc':(1024:Int) < (m.length:Int):=by omega
  have:okM m=false:=by unfold okM;rw[decide_eq_false (by omega)];rfl
  rw[this];simp only[F80,go_sem,aK,hc',Bool.false_eq_true]
  try rfl
 have hc':¬ (1024:Int) < (m.length:Int):=by omega
 have e1:okM m=tB none m:=by unfold okM;rw[decide_eq_true (by omega),Bool.true_and]
 rw[e1];obtain⟨x1,x2⟩:=l66k m hl hB m.length 0 false (by omega);have ec:((0:Nat):Int)=0:=rfl;have e2:md false=.full:=rfl;have e3:cP (([]:List En).map bX)=[]:=rfl;have e4:prv m 0=none:=rfl;rw[drop_zero,take_zero,ec,e2,e3,e4] at x1 x2;cases hq:tB none m with
 | true =>
  obtain⟨b',y⟩:=x1 hq;simp only[F80,go_sem,aK,hc',y]
 | false =>
  obtain⟨l',M,y1,y2,y3⟩:=x2 hq;simp only[F80,go_sem,aK,hc',y1,y2,y3,Bool.false_eq_true];rfl
def lst (m:List En):Nat->Bs
 | 0=>[]
 | i+1=>match m[i]? with | some e=>aG e | none=>[]
theorem G5 {m:List En} {i:Nat} {e:En} (h:m[i]?=some e):lst m (i+1)=aG e:=by simp [lst,h]
theorem lR {e:En} (h:vE e=0):aG e=bX e:=by unfold aG;rw[if_pos h]
theorem RQ (e:En):bX e≠[]:=by unfold bX;simp
theorem EZ (a b:Bs):eU .leq (.str a) (.str b)=some (.bool !(ltB b a)):=by
 rw[N9,A8]
theorem l32k (m:List En) (hl:m.length<=2000) (hB:∀ e∈m,BE e):∀ (k i:Nat),i+k=m.length->(∀ j e,j < i->m[j]?=some e->vE e=0) ->
  (tB (prv m i) (m.drop i)=true->∃ l',aC G0 nQ (ST [(0,.sl .no 8 (ens m)),(3,.str (lst m i)),(8,.bool false),(10,.int .i64 m.length),(11,.int .i64 i)] [] [])=some (.ex 0,ST l' [] [])) /\
  (tB (prv m i) (m.drop i)=false->∃ l',aC G0 nQ (ST [(0,.sl .no 8 (ens m)),(3,.str (lst m i)),(8,.bool false),(10,.int .i64 m.length),(11,.int .i64 i)] [] [])=some (.ret,ST l' [] [])/\aE .any l' 2=.bool false)
 | 0,i,h,hv=>by
  have:i=m.length:=by omega
  subst this;refine⟨fun _=>?_,fun q=>by rw[drop_length] at q;cases q⟩;refine Exists.intro ?_ ?_
  rotate_left 1
  rw[aB (L:=nQ) rfl];simp only[go_sem,Int.lt_irrefl];rfl
 | k+1,i,h,hv=>by
  have hi:i < m.length:=by omega
  have h4:(i:Int) < (m.length:Int):=by omega
  have h0:(0:Int)<=(i:Int):=by omega
  have hw:=wI (i:=i) (by omega)
  have hg:m[i]?=some m[i]:=getElem?_eq_getElem hi;have hd:m.drop i=m[i] :: m.drop (i+1):=drop_eq_getElem_cons hi;have hBe:=hB _ (getElem_mem hi);generalize m[i]=e at hg hd hBe;have hr:=fI hg;have a1:=k26 e hBe;simp only[aN] at a1;rw[hd];show ((okE _ _ && _)=true->_)/\((okE _ _ && _)=false->_);by_cases q:vE e=0
  case neg =>
   have:okE (prv m i) e=false:=by unfold okE;rw[decide_eq_false q];rfl
   rw[this,Bool.false_and];have ek:aG e=[]:=by unfold aG;rw[if_neg q]
   rw[ek] at a1;refine⟨fun z=>(by cases z),fun _=>?_⟩;refine Exists.intro ?_ (And.intro ?_ ?_)
   rotate_left 1
   ·rw[aB (L:=nQ) rfl]
    simp only[go_sem,h4,h0,hr,hw,a1,beq_self_eq_true];rfl
   ·rfl
  have ek:=lR q
  have ih:=l32k m hl hB k (i+1) (by omega) (fun j f hj hf=>by
   by_cases z:j=i
   ·subst z;rw[hg] at hf;cases hf;exact q
   ·exact hv j f (by omega) hf)
  rw[GO hg,G5 hg] at ih;have hne:(aG e == [])=false:=by rw[ek];simpa using RQ e
  by_cases hz0:i=0
  ·have e2:okE (prv m i) e=true:=by unfold okE;rw[decide_eq_true q,hz0];rfl
   have hz:¬ (0:Int) < (i:Int):=by omega
   rw[e2,Bool.true_and];have step:aC G0 nQ (ST [(0,.sl .no 8 (ens m)),(3,.str (lst m i)),(8,.bool false),(10,.int .i64 m.length),(11,.int .i64 i)] [] [])=aC G0 nQ (ST [(0,.sl .no 8 (ens m)),(3,.str (aG e)),(8,.bool false),(10,.int .i64 m.length),(11,.int .i64 ((i+1:Nat):Int))] [] []):=by
    conv=>lhs;rw[aB (L:=nQ) rfl]
    simp only[go_sem,h4,h0,hr,hw,a1,hne,hz,decide_false]
   rw[step];exact ih
  obtain⟨j,rfl⟩:∃ j,i=j+1:=⟨i - 1,by omega⟩
  have hgj:m[j]?=some m[j]:=getElem?_eq_getElem (by omega);generalize m[j]=f at hgj;have qf:=hv j f (by omega) hgj;have ep:prv m (j+1)=some (bX f):=GO hgj;have el:lst m (j+1)=aG f:=G5 hgj;rw[ep,el];have hj0:(0:Int) < ((j+1:Nat):Int):=by omega
  have lq:=EZ (aG e) (aG f);cases hlt:ltB (aG f) (aG e) with
  | false =>
   have hlt':ltB (bX f) (bX e)=false:=by rw[<- lR q,<- lR qf];exact hlt
   have:okE (some (bX f)) e=false:=by unfold okE;simp [hlt']
   rw[this,Bool.false_and];refine⟨fun z=>(by cases z),fun _=>?_⟩;refine Exists.intro ?_ (And.intro ?_ ?_)
   rotate_left 1
   ·rw[aB (L:=nQ) rfl]
    simp only[go_sem,h4,h0,hr,hw,a1,hne,hj0,EZ,hlt,Bool.not_false];rfl
   ·rfl
  | true =>
   have hlt':ltB (bX f) (bX e)=true:=by rw[<- lR q,<- lR qf];exact hlt
   have:okE (some (bX f)) e=true:=by unfold okE;simp [hlt',q]
   rw[this,Bool.true_and];have step:aC G0 nQ (ST [(0,.sl .no 8 (ens m)),(3,.str (aG f)),(8,.bool false),(10,.int .i64 m.length),(11,.int .i64 ((j+1:Nat):Int))] [] [])=aC G0 nQ (ST [(0,.sl .no 8 (ens m)),(3,.str (aG e)),(8,.bool false),(10,.int .i64 m.length),(11,.int .i64 ((j+1+1:Nat):Int))] [] []):=by
    conv=>lhs;rw[aB (L:=nQ) rfl]
    simp only[go_sem,h4,h0,hr,hw,a1,hne,hj0,EZ,hlt,Bool.not_true]
   rw[step];exact ih
theorem k32 (m:List En) (hl:m.length<=2000) (hB:∀ e∈m,BE e):G0 50 [.sl .no 8 (ens m)] []=some (.bool (okM m),[]):=by
 refine aA F50 rfl rfl rfl ?_;by_cases hc:1024 < m.length
 ·have hc':(1024:Int) < (m.length:Int):=by omega
  have:okM m=false:=by unfold okM;rw[decide_eq_false (by omega)];rfl
  rw[this];simp only[F50,go_sem,aK,hc']
 have hc':¬ (1024:Int) < (m.length:Int):=by omega
 have e1:okM m=tB none m:=by unfold okM;rw[decide_eq_true (by omega),Bool.true_and]
 rw[e1];obtain⟨x1,x2⟩:=l32k m hl hB m.length 0 (by omega) (fun j e hj=>by omega);have ec:((0:Nat):Int)=0:=rfl;have e3:lst m 0=[]:=rfl;have e4:prv m 0=none:=rfl;rw[drop_zero,ec,e3,e4] at x1 x2;cases hq:tB none m with
 | true =>
  obtain⟨l',y⟩:=x1 hq;simp only[F50,go_sem,aK,hc',y,fF,gF,not_mem_nil,if_true,if_false]
 | false =>
  obtain⟨l',y1,y2⟩:=x2 hq;simp only[F50,go_sem,aK,hc',y1,y2]
end Go.Av
namespace Go.Av
open Go.Nt
def isLb (l:List Bs) (k:Bs) (n:Nat):Prop:=n<=l.length/\∀ h x,l[h]?=some x->ltB x k=decide (h < n)
end Go.Av
namespace Go.Av
open Go.Nt
theorem k85 (f:List Tk) (m:Own) (hf:f.length<=100000):G0 103 [.sl m 3 (tks f)] []=some (.sl .no 3 (tks f),[]):=by
 refine nH ?_;show (if 3=3/\cU 32 (tks f).length=true then some (AV.sl .no 3 (tks f),([]:LL)) else none)=_;rw[if_pos ⟨rfl,by rw[aD];exact bU (by decide) (by omega)⟩]
theorem k69 (e:En) (h:BE e):G0 81 [.agg (aN e)] []=some (.agg (aN e),[]):=by
 obtain⟨l1,l2,l3⟩:=h.lS;obtain⟨m1,m2,m3⟩:=h.lT;have a1:=k85 e.S .no (by omega);have a2:=k85 e.T .no (by omega);refine aA F81 rfl rfl rfl ?_;simp only[F81,aN,go_sem,a1,a2]
theorem wX (a b c d e f g h:AV):iE 8 [AV.sl Own.full 3 [],AV.sl Own.full 3 [],AV.str [],AV.str [],AV.str [],AV.str [],AV.int IntKind.i64 0,AV.int IntKind.i64 0] 1 [0] [.agg [a,b,c,d,e,f,g,h]]=some (.sl .full 8 [[a,b,c,d,e,f,g,h]]):=rfl
attribute [-go_sem] j9 CR
end Go.Av
namespace Go.Av
open Go.Nt
theorem jO {e:En} (h:VE e):bX e=aG e:=(lR ((lA e).2 h)).symm
theorem zQ:∀ (m:List En) (k:Bs),tB (some k) m=true↔(∀ e∈m,VE e)/\Sr m/\∀ e∈m,ltB k (aG e)=true
 | [],k=>by simp [tB,Sr]
 | e :: m,k=>by
  show (okE _ _ && _)=true↔_;rw[Bool.and_eq_true,zQ m (bX e)];unfold okE;simp only[Bool.and_eq_true,decide_eq_true_eq];constructor
  ·rintro ⟨⟨h1,h2⟩,h3,h4,h5⟩
   have hv:=(lA e).1 h1;rw[jO hv] at h2 h5;refine⟨fun x hx=>?_,pairwise_cons.2 ⟨fun x hx=>h5 x hx,h4⟩,fun x hx=>?_⟩
   ·rcases mem_cons.1 hx with rfl | hx
    ·exact hv
    ·exact h3 x hx
   ·rcases mem_cons.1 hx with rfl | hx
    ·exact h2
    ·exact j5 _ _ _ h2 (h5 x hx)
  ·rintro ⟨h1,h2,h3⟩
   have hv:=h1 e (mem_cons_self ..);rw[jO hv];obtain⟨p1,p2⟩:=pairwise_cons.1 h2;exact⟨⟨(lA e).2 hv,h3 e (mem_cons_self ..)⟩,fun x hx=>h1 x (mem_cons_of_mem _ hx),p2,p1⟩
theorem J5 (m:List En):tB none m=true↔Mem m:=by
 cases m with
 | nil=>simp [tB,mV]
 | cons e m =>
  show (okE _ _ && _)=true↔_;rw[Bool.and_eq_true,zQ m (bX e)];unfold okE;simp only[Bool.and_true,decide_eq_true_eq];constructor
  ·rintro ⟨h1,h3,h4,h5⟩
   have hv:=(lA e).1 h1;rw[jO hv] at h5;refine⟨fun x hx=>?_,pairwise_cons.2 ⟨fun x hx=>h5 x hx,h4⟩⟩;rcases mem_cons.1 hx with rfl | hx
   ·exact hv
   ·exact h3 x hx
  ·rintro ⟨h1,h2⟩
   have hv:=h1 e (mem_cons_self ..);rw[jO hv];obtain⟨p1,p2⟩:=pairwise_cons.1 h2;exact⟨(lA e).2 hv,fun x hx=>h1 x (mem_cons_of_mem _ hx),p2,p1⟩
theorem pQ (m:List En):okM m=true↔m.length<=1024/\Mem m:=by
 unfold okM;rw[Bool.and_eq_true,J5,decide_eq_true_eq]
def plc (m:List En) (k:Bs):Nat:=(bel k m).length
theorem JO {m:List En} (h:Sr m) (k:Bs):∃ r,m=bel k m++r/\∀ e∈r,ltB (aG e) k=false:=by
 cases hg:dL m k with
 | none =>
  refine⟨abv k m,qT h hg,fun e he=>?_⟩;exact fU (sI.1 he).2
 | some x =>
  refine⟨x :: abv k m,mQ h hg,fun e he=>?_⟩;rcases mem_cons.1 he with rfl | he
  ·rw[(fG hg).2];exact iW k
  ·exact fU (sI.1 he).2
theorem M0 {m:List En} (h:Mem m) (k:Bs):isLb (m.map aG) k (plc m k):=by
 obtain⟨r,e,hr⟩:=JO h.2 k;have hl:(bel k m).length<=m.length:=by
  have:=congrArg List.length e
  rw[length_append] at this;omega
 refine⟨by rw[length_map];exact hl,fun i x hx=>?_⟩;rw[getElem?_map] at hx;obtain⟨y,hy,rfl⟩:=Option.map_eq_some_iff.1 hx;unfold plc;by_cases q:i < (bel k m).length
 ·rw[decide_eq_true q]
  rw[e,getElem?_append_left q] at hy;exact (AY.1 (mem_of_getElem? hy)).2
 ·rw[decide_eq_false q]
  rw[e,getElem?_append_right (by omega)] at hy;exact hr y (mem_of_getElem? hy)
theorem L8 {m:List En} (h:Mem m) (k:Bs):plc m k<=m.length:=by have:=(M0 h k).1;simpa using this
theorem BQ {m:List En} (h:Mem m) {k:Bs} {x:En} (hg:dL m k=some x):m[plc m k]?=some x:=by
 have e:=mQ h.2 hg
 have:(bel k m++x :: abv k m)[(bel k m).length]?=some x:=by simp
 unfold plc;rw[<- e] at this;exact this
theorem BR {m:List En} (h:Mem m) {k:Bs} (hg:dL m k=none):∀ y,m[plc m k]?=some y->aG y≠k:=by
 intro y hy q
 have:=sN h.2 (mem_of_getElem? hy)
 rw[q,hg] at this;cases this
theorem l71k (m:List En) (hl:m.length<=2000) (hB:∀ e∈m,BE e) (k:Bs) (n:Nat) (hn:isLb (m.map aG) k n):∀ (d i:Nat),i+d=n ->
  aC G0 IN (ST [(0,.sl .no 8 (ens m)),(1,.str k),(5,.int .i64 i)] [] [])=some (.ex 0,ST [(0,.sl .no 8 (ens m)),(1,.str k),(5,.int .i64 n),(18,.bool false)] [] [])
 | 0,i,h=>by
  have:i=n:=by omega
  subst this;have hle:=hn.1;rw[length_map] at hle;rw[aB (L:=IN) rfl];by_cases q:i < m.length
  ·have q':(i:Int) < (m.length:Int):=by omega
   have h0:(0:Int)<=(i:Int):=by omega
   have hg:m[i]?=some m[i]:=getElem?_eq_getElem q;have hBe:=hB _ (getElem_mem q);generalize m[i]=e at hg hBe;have hr:=fI hg;have a1:=k26 e hBe;simp only[aN] at a1;have hx:=hn.2 i (aG e) (by rw[getElem?_map,hg];rfl);rw[decide_eq_false (Nat.lt_irrefl i)] at hx;simp only[go_sem,aK,q',h0,hr,a1,eC,hx]
  ·have q':¬ (i:Int) < (m.length:Int):=by omega
   simp only[go_sem,aK,q']
 | d+1,i,h=>by
  have hle:=hn.1;rw[length_map] at hle;have q:i < m.length:=by omega
  have q':(i:Int) < (m.length:Int):=by omega
  have h0:(0:Int)<=(i:Int):=by omega
  have hw:=wI (i:=i) (by omega)
  have hg:m[i]?=some m[i]:=getElem?_eq_getElem q;have hBe:=hB _ (getElem_mem q);generalize m[i]=e at hg hBe;have hr:=fI hg;have a1:=k26 e hBe;simp only[aN] at a1;have hx:=hn.2 i (aG e) (by rw[getElem?_map,hg];rfl);rw[decide_eq_true (show i < n by omega)] at hx;have ih:=l71k m hl hB k n hn d (i+1) (by omega);rw[aB (L:=IN) rfl];simp only[go_sem,aK,q',h0,hr,a1,eC,hx,hw];exact ih
theorem k71 (m:List En) (hl:m.length<=2000) (hB:∀ e∈m,BE e) (hm:Mem m) (k:Bs):G0 52 [.sl .no 8 (ens m),.str k] []=some (.int .i64 (plc m k),[]):=by
 have x:=l71k m hl hB k (plc m k) (M0 hm k) (plc m k) 0 (by omega);have ec:((0:Nat):Int)=0:=rfl;rw[ec] at x;refine aA F52 rfl rfl rfl ?_;simp only[F52,go_sem,x]
end Go.Av
namespace Go.Av
open Go.Nt
attribute [-go_sem] j9 CR
theorem SC (a b:List En):ens (a++b)=ens a++ens b:=by simp [ens]
theorem NP (m:List En) (n:Nat):(ens m).take n=ens (m.take n):=by simp [ens,map_take]
theorem NQ (m:List En) (n:Nat):(ens m).drop n=ens (m.drop n):=by simp [ens,map_drop]
theorem m6 (e:En):[[AV.sl .no 3 (tks e.S),.sl .no 3 (tks e.T),.str e.p,.str e.n,.str e.a,.str e.j,.int .i64 e.c,.int .i64 e.o]]=ens [e]:=rfl
theorem vW:ens []=[]:=rfl
theorem FM {md o:Own} (hm:md≠.no) (X Y:List En) (h:X.length+Y.length<=100000):jL false 8 128 (.sl md 8 (ens X)) (.sl o 8 (ens Y))=some (.sl .own 8 (ens (X++Y))):=by
 rw[dP _ _ hm _ _ (by decide),aK,aK,if_pos (bU (by decide) (by omega)),SC]
theorem k72 (m:List En) (hl:m.length<=2000) (i:Nat) (e:En) (f:Nat) (hi:i+f<=m.length):G0 54 [.sl .no 8 (ens m),.int .i64 i,.agg (aN e),.int .i64 f] []=some (.sl .no 8 (ens (m.take i++[e]++m.drop (i+f))),[]):=by
 have h0:(0:Int)<=(i:Int):=by omega
 have h1:(i:Int)<=(m.length:Int):=by omega
 have hw:IntKind.i64.wrap ((i:Int)+(f:Int))=((i+f:Nat):Int):=by rw[w64 (by omega) (by omega)];rfl
 have h2:(0:Int)<=((i+f:Nat):Int):=by omega
 have h3:((i+f:Nat):Int)<=(m.length:Int):=by omega
 have p1:=FM (md:=.full) (o:=.no) (by decide) [] (m.take i) (by simp;omega);have p2:=FM (md:=.own) (o:=.full) (by decide) ([]++m.take i) [e] (by simp;omega);have p3:=FM (md:=.own) (o:=.no) (by decide) ([]++m.take i++[e]) (m.drop (i+f)) (by simp;omega);rw[vW] at p1;rw[nil_append] at p1 p2 p3;refine aA F54 rfl rfl rfl ?_;simp only[F54,aN,go_sem,aK,h0,h1,h2,h3,hw,Int.toNat_natCast,NP,NQ,p1,wX,m6,p2,p3,nil_append]
def putE (m:List En) (e:En):Int:=if okM m=true then (if vE e=0 then (if dL m (aG e)=none/\1024<=m.length then 3 else 0) else vE e) else 1
def yH (m:List En) (e:En):List En:=if putE m e=0 then jG m e else []
theorem LY {m:List En} {e:En} (h:okM m=false):putE m e=1/\yH m e=[]:=by
 have:putE m e=1:=by unfold putE;rw[h];rfl
 exact⟨this,by unfold yH;rw[this];rfl⟩
theorem LX {m:List En} {e:En} (h:okM m=true) (hv:vE e≠0):putE m e=vE e/\yH m e=[]:=by
 have:putE m e=vE e:=by unfold putE;rw[if_pos h,if_neg hv]
 exact⟨this,by unfold yH;rw[this,if_neg hv]⟩
theorem LW {m:List En} {e:En} (h:okM m=true) (hv:vE e=0) (hg:dL m (aG e)=none) (hc:1024<=m.length):putE m e=3/\yH m e=[]:=by
 have:putE m e=3:=by unfold putE;rw[if_pos h,if_pos hv,if_pos ⟨hg,hc⟩]
 exact⟨this,by unfold yH;rw[this];rfl⟩
theorem wP {m:List En} {e:En} (h:okM m=true) (hv:vE e=0) (hg:¬ (dL m (aG e)=none/\1024<=m.length)):putE m e=0/\yH m e=jG m e:=by
 have:putE m e=0:=by unfold putE;rw[if_pos h,if_pos hv,if_neg hg]
 exact⟨this,by unfold yH;rw[this];rfl⟩
theorem GL {m:List En} (hm:Mem m) {e x:En} (hg:dL m (aG e)=some x):m.take (plc m (aG e))++[e]++m.drop (plc m (aG e)+1)=jG m e:=by
 have hs:=mQ hm.2 hg;unfold jG plc;generalize bel (aG e) m=B at *;generalize abv (aG e) m=A at *;subst hs;simp
theorem GM {m:List En} (hm:Mem m) {e:En} (hg:dL m (aG e)=none):m.take (plc m (aG e))++[e]++m.drop (plc m (aG e))=jG m e:=by
 have hs:=qT hm.2 hg;unfold jG plc;generalize bel (aG e) m=B at *;generalize abv (aG e) m=A at *;subst hs;simp
theorem L7 {m:List En} (hm:Mem m) {k:Bs} {x:En} (hg:dL m k=some x):plc m k < m.length:=by
 have e1:=BQ hm hg;by_cases q:plc m k < m.length
 ·exact q
 ·rw[getElem?_eq_none (by omega)] at e1;cases e1
theorem k30 (m:List En) (hl:m.length<=2000) (hB:∀ e∈m,BE e) (e:En) (he:BE e):G0 28 [.sl .no 8 (ens m),.agg (aN e)] []=some (.tup [.sl .no 8 (ens (yH m e)),.int .i64 (putE m e)],[]):=by
 have a1:=k32 m hl hB;refine aA F28 rfl rfl rfl ?_;cases hq:okM m with
 | false =>
  rw[hq] at a1;rw[(LY hq).1,(LY hq).2];simp only[F28,aN,go_sem,a1,Bool.not_false];rfl
 | true =>
  rw[hq] at a1;obtain⟨h1,h2⟩:=(pQ m).1 hq;have a2:=k38 e he;simp only[aN] at a2;by_cases hv:vE e=0
  case neg =>
   rw[(LX hq hv).1,(LX hq hv).2];simp only[F28,aN,go_sem,a1,a2,Bool.not_true,ne_eq,hv,not_false_eq_true,decide_true];rfl
  have a3:=k26 e he;simp only[aN] at a3;have a4:=k71 m hl hB h2 (aG e);have h0:(0:Int)<=((plc m (aG e):Nat):Int):=by omega
  have hle:=L8 h2 (aG e);have w1:=k72 m hl (plc m (aG e)) e 1;have w0:=k72 m hl (plc m (aG e)) e 0 (by omega);have e1:((1:Nat):Int)=1:=rfl;have e0:((0:Nat):Int)=0:=rfl;rw[e1] at w1;rw[e0,Nat.add_zero] at w0;simp only[aN] at w1 w0;cases hg:dL m (aG e) with
  | some x =>
   have q:=L7 h2 hg;have q':((plc m (aG e):Nat):Int) < (m.length:Int):=by omega
   have ex:=BQ h2 hg;have hBx:=hB x (fG hg).1;have hr:=fI ex;have a5:=k26 x hBx;rw[(fG hg).2] at a5;simp only[aN] at a5;have w1:=w1 (by omega);rw[GL h2 hg] at w1;rw[(wP hq hv (by rw[hg];simp)).1,(wP hq hv (by rw[hg];simp)).2];simp only[F28,aN,go_sem,a1,a2,Bool.not_true,ne_eq,hv,not_true_eq_false,decide_false,a3,a4,aK,q',h0,hr,a5,beq_self_eq_true,w1]
  | none =>
   rw[GM h2 hg] at w0;by_cases hc:1024<=m.length
   ·have hc':(1024:Int)<=(m.length:Int):=by omega
    rw[(LW hq hv hg hc).1,(LW hq hv hg hc).2];by_cases q:plc m (aG e) < m.length
    ·have q':((plc m (aG e):Nat):Int) < (m.length:Int):=by omega
     have ex:m[plc m (aG e)]?=some m[plc m (aG e)]:=getElem?_eq_getElem q;have hBx:=hB _ (getElem_mem q);have hk:=BR h2 hg _ ex;generalize m[plc m (aG e)]=x at ex hBx hk;have hr:=fI ex;have a5:=k26 x hBx;simp only[aN] at a5;have hkk:(aG x == aG e)=false:=by simpa using hk
     simp only[F28,aN,go_sem,a1,a2,Bool.not_true,ne_eq,hv,not_true_eq_false,decide_false,a3,a4,aK,q',h0,hr,a5,hkk,hc'];rfl
    ·have q':¬ ((plc m (aG e):Nat):Int) < (m.length:Int):=by omega
     simp only[F28,aN,go_sem,a1,a2,Bool.not_true,ne_eq,hv,not_true_eq_false,decide_false,a3,a4,aK,q',hc'];rfl
   ·have hc':¬ (1024:Int)<=(m.length:Int):=by omega
    rw[(wP hq hv (by simp;omega)).1,(wP hq hv (by simp;omega)).2];by_cases q:plc m (aG e) < m.length
    ·have q':((plc m (aG e):Nat):Int) < (m.length:Int):=by omega
     have ex:m[plc m (aG e)]?=some m[plc m (aG e)]:=getElem?_eq_getElem q;have hBx:=hB _ (getElem_mem q);have hk:=BR h2 hg _ ex;generalize m[plc m (aG e)]=x at ex hBx hk;have hr:=fI ex;have a5:=k26 x hBx;simp only[aN] at a5;have hkk:(aG x == aG e)=false:=by simpa using hk
     simp only[F28,aN,go_sem,a1,a2,Bool.not_true,ne_eq,hv,not_true_eq_false,decide_false,a3,a4,aK,q',h0,hr,a5,hkk,hc',w0]
    ·have q':¬ ((plc m (aG e):Nat):Int) < (m.length:Int):=by omega
     simp only[F28,aN,go_sem,a1,a2,Bool.not_true,ne_eq,hv,not_true_eq_false,decide_false,a3,a4,aK,q',hc',w0]
end Go.Av
namespace Go.Av
open Go.Nt
def StP (P:LL) (v:AV) (sh:LL) (out:List Tk):Prop:=
 (out=[]/\v=.sl .full 3 []/\P=sh)\/(∃ D o t,out=o++[t]/\v=.ss (P++D).length 0 (o.length+1) 3/\sh=P++D++[fl (o++[t])]/\∀ c∈D,c=aZ)
theorem fl3 {f:List Tk} {i:Nat} {t:Tk} (h:f[i]?=some t):((fl f).drop (i*3)).take 3=[AV.int .i64 t.1,.str t.2.1,.int .i64 t.2.2]:=by
 have hi:i < f.length:=by
  by_cases q:i < f.length
  ·exact q
  ·rw[getElem?_eq_none (by omega)] at h;cases h
 have hd:f.drop i=t :: f.drop (i+1):=by
  rw[drop_eq_getElem_cons hi]
  congr 1
  rw[getElem?_eq_getElem hi] at h;exact Option.some.inj h
 have e:fl f=fl (f.take i)++fl (f.drop i):=by rw[<- lG,take_append_drop]
 have hl:(fl (f.take i)).length=i*3:=by rw[iR,length_take,Nat.min_eq_left (by omega)]
 rw[e,<- hl,drop_left,hd,mY];rfl
theorem rD (a:Int) (s:Bs) (c:Int):nM [AV.int .i64 a,.str s,.int .i64 c]=some [AV.int .i64 a,.str s,.int .i64 c]:=rfl
theorem FB {P:LL} {so:Nat} {c:List AV} (h:P[so]?=some c) (X Y:LL):(P++X++Y)[so]?=some c:=by
 have hi:so < P.length:=by
  by_cases q:so < P.length
  ·exact q
  ·rw[getElem?_eq_none (by omega)] at h;cases h
 rw[append_assoc,getElem?_append_left hi,h]
theorem E3 (P:LL) (so:Nat) (f:List Tk) (hP:P[so]?=some (fl f)) (hf:f.length<=100000):∀ (k i:Nat) (out:List Tk) (v:AV) (sh:LL),i+k=f.length->out.length<=i->tot out+tot (f.drop i)<=1000000->StP P v sh out ->
  ∃ v' sh',StP P v' sh' ((f.drop i).foldl pn out) /\
   aC G1 kB (ST [(0,.ss so 0 f.length 3),(3,v),(8,.int .i64 f.length),(9,.int .i64 i)] [] sh)=some (.ex 0,ST [(0,.ss so 0 f.length 3),(3,v'),(8,.int .i64 f.length),(9,.int .i64 f.length),(10,.bool false)] [] sh')
 | 0,i,out,v,sh,h1,h2,h3,hst=>by
  have:i=f.length:=by omega
  subst this;refine⟨v,sh,by rw[drop_of_length_le (Nat.le_refl _)];exact hst,?_⟩;rcases hst with ⟨rfl,rfl,rfl⟩ | ⟨D,o,t,rfl,rfl,rfl,hD⟩
  ·rw[aB (L:=kB) rfl]
   simp only[go_sem,Int.lt_irrefl]
  ·rw[aB (L:=kB) rfl]
   simp only[go_sem,Int.lt_irrefl]
 | k+1,i,out,v,sh,h1,h2,h3,hst=>by
  have hi:i < f.length:=by omega
  have h4:(i:Int) < (f.length:Int):=by omega
  have h0:(0:Int)<=(i:Int):=by omega
  have hw:=wI (i:=i) (by omega)
  have hg:f[i]?=some f[i]:=getElem?_eq_getElem hi;have hd:f.drop i=f[i] :: f.drop (i+1):=drop_eq_getElem_cons hi;generalize f[i]=T at hg hd;have hr:=fl3 hg;obtain⟨kk,s,id⟩:=T;rw[hd] at h3 ⊢;rw[bH] at h3;simp only[foldl_cons];simp only[] at h3;by_cases c1:kk=1
  ·by_cases c2:s=[]
   ·subst c1 c2
    rw[CI];obtain⟨v',sh',p1,p4⟩:=E3 P so f hP hf k (i+1) out v sh (by omega) (by omega) (by simp only[length_nil] at h3;omega) hst;refine⟨v',sh',p1,?_⟩;rcases hst with ⟨rfl,rfl,rfl⟩ | ⟨D,o,t,rfl,rfl,rfl,hD⟩
    ·rw[aB (L:=kB) rfl]
     simp only[go_sem,h4,h0,hP,FB hP,hr,rD,hw];exact p4
    ·rw[aB (L:=kB) rfl]
     simp only[go_sem,h4,h0,hP,FB hP,hr,rD,hw];exact p4
   ·subst c1
    have hne:(s == [])=false:=by simp [c2]
    rcases hst with ⟨rfl,rfl,rfl⟩ | ⟨D,o,t,rfl,rfl,rfl,hD⟩
    ·rw[CH c2]
     obtain⟨v',sh',p1,p4⟩:=E3 P so f hP hf k (i+1) [(1,s,0)] (.ss P.length 0 1 3) (P++[fl [(1,s,0)]]) (by omega) (by simp) (by simp only[bH,cO] at *;first | done | omega) (.inr ⟨[],[],(1,s,0),rfl,by simp,by simp,by simp⟩);refine⟨v',sh',p1,?_⟩;have ha:cU 32 1=true:=bU (by decide) (by decide);rw[aB (L:=kB) rfl];simp only[go_sem,h4,h0,hP,FB hP,hr,rD,hw,hne,ha,Int.lt_irrefl];exact p4
    ·have hpos:(0:Int) < ((o.length+1:Nat):Int):=by omega
     have hlt:((o.length:Nat):Int) < ((o.length+1:Nat):Int):=by omega
     have hge:(0:Int)<=((o.length:Nat):Int):=by omega
     have hw3:IntKind.i64.wrap (((o.length+1:Nat):Int) - 1)=((o.length:Nat):Int):=by rw[w64 (by omega) (by simp at h2;omega)];omega
     have hat0:(fl (o++[t]))[o.length*3]?=some (.int .i64 t.1):=H3 o t 0;have hat1:(fl (o++[t]))[o.length*3+1]?=some (.str t.2.1):=H3 o t 1;by_cases c3:t.1=1
     ·rw[GR c2 c3]
      have hc:t.2.1.length+s.length<=140737488355328:=by simp only[dR,bH,cO] at h3;omega
      have hb:=oQ (o++[t]);have hp:lC (o.length*3) [.int .i64 1,.str (t.2.1++s),.int .i64 0] (fl (o++[t]))=some (fl (o++[(1,t.2.1++s,0)])):=NM o t (1,t.2.1++s,0);obtain⟨v',sh',p1,p4⟩:=E3 P so f hP hf k (i+1) (o++[(1,t.2.1++s,0)]) (.ss (P++D).length 0 (o.length+1) 3) (P++D++[fl (o++[(1,t.2.1++s,0)])]) (by omega) (by simp at h2 ⊢;omega) (by simp only[dR,bH,cO,length_append] at *;omega) (.inr ⟨D,o,_,rfl,rfl,rfl,hD⟩);refine⟨v',sh',p1,?_⟩;rw[aB (L:=kB) rfl];simp only[go_sem,h4,h0,hP,FB hP,hr,rD,hw,hne,hpos,hlt,hge,hw3,gD,sD,hat0,hat1,c3,Nat.add_zero,hc,hb,hp];exact p4
     ·rw[L5 c2 c3]
      have h6:(o.length+1)*3=(fl (o++[t])).length:=by rw[iR];simp
      have ha:cU 32 (o.length+1+1)=true:=bU (by decide) (by simp at h2;omega);have hb:=oQ (o++[t]);have hn:=mX (o++[t]);have e6:fl (o++[t])++[[AV.int .i64 1,.str s,.int .i64 0]].flatten=fl (o++[t]++[(1,s,0)]):=by rw[lG (o++[t])];rfl
      have eL:(P++D++[fl (o++[t])]).length=(P++(D++[aZ])).length:=by simp
      have eA:P++D++[aZ]=P++(D++[aZ]):=append_assoc ..;obtain⟨v',sh',p1,p4⟩:=E3 P so f hP hf k (i+1) (o++[t]++[(1,s,0)]) (.ss (P++(D++[aZ])).length 0 (o.length+1+1) 3) (P++(D++[aZ])++[fl (o++[t]++[(1,s,0)])]) (by omega) (by simp at h2 ⊢;omega) (by simp only[dR,bH,cO] at *;omega) (.inr ⟨D++[aZ],o++[t],(1,s,0),rfl,by simp,rfl,dd hD⟩);refine⟨v',sh',p1,?_⟩;rw[aB (L:=kB) rfl];simp only[go_sem,h4,h0,hP,FB hP,hr,rD,hw,hne,hpos,hlt,hge,hw3,gD,sD,hat0,hat1,c3,Nat.add_zero,ha,hb,hn,h6,eL,eA];rw[e6];exact p4
  ·rw[L4 c1]
   rcases hst with ⟨rfl,rfl,rfl⟩ | ⟨D,o,t,rfl,rfl,rfl,hD⟩
   ·rw[nil_append]
    obtain⟨v',sh',p1,p4⟩:=E3 P so f hP hf k (i+1) [(kk,s,id)] (.ss P.length 0 1 3) (P++[fl [(kk,s,id)]]) (by omega) (by simp) (by simp only[bH,cO] at *;first | done | omega) (.inr ⟨[],[],(kk,s,id),rfl,by simp,by simp,by simp⟩);refine⟨v',sh',p1,?_⟩;have ha:cU 32 1=true:=bU (by decide) (by decide);rw[aB (L:=kB) rfl];simp only[go_sem,h4,h0,hP,FB hP,hr,rD,hw,c1,ha];exact p4
   ·have h6:(o.length+1)*3=(fl (o++[t])).length:=by rw[iR];simp
    have ha:cU 32 (o.length+1+1)=true:=bU (by decide) (by simp at h2;omega);have hb:=oQ (o++[t]);have hn:=mX (o++[t]);have e6:fl (o++[t])++[[AV.int .i64 kk,.str s,.int .i64 id]].flatten=fl (o++[t]++[(kk,s,id)]):=by rw[lG (o++[t])];rfl
    have eL:(P++D++[fl (o++[t])]).length=(P++(D++[aZ])).length:=by simp
    have eA:P++D++[aZ]=P++(D++[aZ]):=append_assoc ..;obtain⟨v',sh',p1,p4⟩:=E3 P so f hP hf k (i+1) (o++[t]++[(kk,s,id)]) (.ss (P++(D++[aZ])).length 0 (o.length+1+1) 3) (P++(D++[aZ])++[fl (o++[t]++[(kk,s,id)])]) (by omega) (by simp at h2 ⊢;omega) (by simp only[dR,bH,cO] at *;omega) (.inr ⟨D++[aZ],o++[t],(kk,s,id),rfl,by simp,rfl,dd hD⟩);refine⟨v',sh',p1,?_⟩;rw[aB (L:=kB) rfl];simp only[go_sem,h4,h0,hP,FB hP,hr,rD,hw,c1,gD,sD,ha,hb,hn,h6,eL,eA];rw[e6];exact p4
theorem k99s (P:LL) (so:Nat) (f:List Tk) (hP:P[so]?=some (fl f)) (hf:f.length<=100000) (ht:tot f<=1000000):∃ v sh,StP P v sh (nrm f)/\G1 88 [.ss so 0 f.length 3] P=some (v,sh):=by
 obtain⟨v,sh,p1,p4⟩:=E3 P so f hP hf f.length 0 [] (.sl .full 3 []) P (by omega) (by simp) (by rw[drop_zero,cO];omega) (.inl ⟨rfl,rfl,rfl⟩);rw[drop_zero] at p1;have p1:StP P v sh (nrm f):=p1;refine⟨v,sh,p1,?_⟩;have ec:((0:Nat):Int)=0:=rfl;rw[ec] at p4;generalize nrm f=g at p1;refine aA OO rfl rfl rfl ?_;rcases p1 with ⟨rfl,rfl,rfl⟩ | ⟨D,o,t,rfl,rfl,rfl,hD⟩
 ·simp only[OO,go_sem,p4]
 ·simp only[OO,go_sem,p4]
def FSt (v:AV) (sh:LL) (f:List Tk):Prop:=(f=[]/\v=.sl .full 3 [])\/(∃ so,v=.ss so 0 f.length 3/\1<=so/\sh[so]?=some (fl f)/\f≠[])
theorem VH {f:List Tk} (h:f≠[]):∃ r l,tks f=r :: l/\l.length+1=f.length:=by
 cases f with
 | nil=>exact absurd rfl h
 | cons a f=>exact⟨_,_,rfl,by simp [tks]⟩
theorem VI (f:List Tk):(tks f).flatten=fl f:=rfl
theorem app0 {f:List Tk} (h:f≠[]) (hf:f.length<=100000) (sh:LL):gS 3 32 sh (some (tks f)) (.sl .full 3 [])=some (.ss sh.length 0 f.length 3,sh++[fl f]):=by
 obtain⟨r,l,e,hl⟩:=VH h;have ha:cU 32 (l.length+1)=true:=bU (by decide) (by omega);have e2:=VI f;rw[e] at e2 ⊢;rw[jS 3 32 3 (by decide),if_pos ha,e2,hl]
theorem rnl (o:Own) (sh:LL):fL false 3 sh (.sl o 3 [])=some []:=by simp [fL,jW]
theorem nn0 (sh:LL):gS 3 32 sh (some []) (.sl .full 3 [])=some (.sl .full 3 [],sh):=OH 3 32 3 sh
theorem k58s {v:AV} {sh:LL} {f:List Tk} (hv:FSt v sh f) (x:Tk) (hf:f.length<=10000) (ht:tot f+x.2.1.length<=100000) :
  ∃ E v' sh',(E=[fl [x]]\/E=[aZ,fl (f++[x])])/\StP (sh++E) v' sh' (nrm (f++[x]))/\G1 57 [v,.sl .full 3 [[.int .i64 x.1,.str x.2.1,.int .i64 x.2.2]]] sh=some (v',sh'):=by
 rcases hv with ⟨rfl,rfl⟩ | ⟨so,rfl,_,hs,hne⟩
 ·obtain⟨v',sh',p1,p2⟩:=k99s (sh++[fl [x]]) sh.length [x] (gD sh _) (by simp) (by simp only[bH,cO];omega)
  refine⟨[fl [x]],v',sh',.inl rfl,p1,?_⟩;have ha:cU 32 1=true:=bU (by decide) (by decide);rw[BA] at p2;have e1:([x]:List Tk).length=1:=rfl;rw[e1] at p2;have hd:aI v'=v':=by
   rcases p1 with ⟨_,rfl,_⟩ | ⟨D,o,t,_,rfl,_,_⟩<;>rfl
  refine aA D2 rfl rfl rfl ?_;rcases p1 with ⟨_,rfl,rfl⟩ | ⟨D,o,t,_,rfl,rfl,_⟩
  ·simp only[D2,go_sem,rnl,nn0,ha,flatten_cons,flatten_nil,append_nil,p2]
  ·simp only[D2,go_sem,rnl,nn0,ha,flatten_cons,flatten_nil,append_nil,p2]
 ·obtain⟨v',sh',p1,p2⟩:=k99s (sh++[aZ]++[fl (f++[x])]) (sh++[aZ]).length (f++[x]) (gD _ _) (by simp;omega) (by simp only[dR,bH,cO];omega)
  refine⟨[aZ,fl (f++[x])],v',sh',.inr rfl,by rw[show sh++[aZ,fl (f++[x])]=sh++[aZ]++[fl (f++[x])] by simp];exact p1,?_⟩;have ha:cU 32 (f.length+1)=true:=bU (by decide) (by omega);have hA:=app0 hne (by omega) sh;have hr:=wH f;have hb:=oQ f;have hn:=mX f;have h6:f.length*3=(fl f).length:=(iR f).symm;have e6:fl f++[[AV.int .i64 x.1,.str x.2.1,.int .i64 x.2.2]].flatten=fl (f++[x]):=by rw[lG];rfl
  have eL:(sh++[fl f]).length=(sh++[aZ]).length:=by simp
  have e1:(f++[x]).length=f.length+1:=by simp
  rw[e1] at p2;refine aA D2 rfl rfl rfl ?_;rcases p1 with ⟨_,rfl,rfl⟩ | ⟨D,o,t,_,rfl,rfl,_⟩
  ·simp only[D2,go_sem,hs,hr,hA,gD,sD,ha,hb,hn,h6,e6,eL,p2]
  ·simp only[D2,go_sem,hs,hr,hA,gD,sD,ha,hb,hn,h6,e6,eL,p2]
end Go.Av
