/- Bytes and names: the functions of one byte, and the two tests of a name. How a byte is written and read; numbers in decimal. Numbers below 1000 in decimal: the reference's, and strconv.Itoa. Numbers below 1000 by strconv.Itoa. strconv.Itoa below 1000. Finding a byte, cutting at it, prefixes and suffixes of one byte; names of tags; the number of a tag. The name of a content, the number of a tag, the test of a content. Kinds of items, tags, elements: what the package reads. Numbers, words and lines that a fragment is made of; joining texts: exactly what 'nrm' says. A fragment that is made of numbers is valid. The length of a fragment; the tests of an item; the first error of a fragment. The tests of an item and the first error of a fragment: the program's and the reference's. -/
import Derived.Test.YtgbjlnijjonidaaDoorG1Sm
import Derived.Test.YtgbjlnijjonidaaDoorG1XB
import Derived.IntWalk
open List
set_option linter.unusedSimpArgs false
set_option linter.unusedVariables false
set_option linter.unusedSectionVars false
set_option maxRecDepth 100000
set_option maxHeartbeats 16000000
namespace Go.Av
open Go.Nt
set_option maxHeartbeats 4000000
abbrev bI (c:UInt8):Int:=(c.toNat:Int)
theorem wu8 {n:Int} (h1:0<=n) (h2:n<=255):IntKind.u8.wrap n=n:=by
 unfold IntKind.wrap;have e:IntKind.u8.bits=8:=rfl;simp only[e,IntKind.signed,Bool.false_and,Bool.false_eq_true,if_false];omega
def cA (x:Int):Int:=if x=9\/x=10\/x=13\/x=32 then 2 else if x < 32\/x=127 then 1 else if 48<=x/\x<=57 then 3 else if 97<=x/\x<=122\/65<=x/\x<=90\/128<=x then 4 else 5
theorem N6 (x:Int):G0 52 [.int .u8 x] []=some (.int .i64 (cA x),[]):=by
 refine aB F52 rfl rfl rfl ?_;by_cases h1:x=9
 ·subst h1;simp only[F52,go_sem,cA,true_or,or_true]
 by_cases h2:x=10
 ·subst h2;simp only[F52,go_sem,cA,true_or,or_true]
 by_cases h3:x=13
 ·subst h3;simp only[F52,go_sem,cA,true_or,or_true]
 by_cases h4:x=32
 ·subst h4;simp only[F52,go_sem,cA,true_or,or_true]
 by_cases h5:x < 32
 ·simp only[F52,go_sem,cA,h1,h2,h3,h4,h5,true_or,or_true,or_self]
 by_cases h6:x=127
 ·subst h6;simp only[F52,go_sem,cA,true_or,or_true,or_self]
 by_cases a1:48<=x<;>by_cases a2:x<=57<;>by_cases a3:97<=x<;>by_cases a4:x<=122<;>by_cases a5:65<=x<;>by_cases a6:x<=90<;>by_cases a7:128<=x<;>first | (exfalso;omega) | simp only[F52,go_sem,cA,h1,h2,h3,h4,h5,h6,a1,a2,a3,a4,a5,a6,a7,true_or,or_true,or_self,or_false,false_or]
theorem X5 (x:Int):G0 70 [.int .u8 x] []=some (.int .i64 (cA x),[]):=by
 refine aB F70 rfl rfl rfl ?_;by_cases h1:x=9
 ·subst h1;simp only[F70,go_sem,cA,true_or,or_true]
 by_cases h2:x=10
 ·subst h2;simp only[F70,go_sem,cA,true_or,or_true]
 by_cases h3:x=13
 ·subst h3;simp only[F70,go_sem,cA,true_or,or_true]
 by_cases h4:x=32
 ·subst h4;simp only[F70,go_sem,cA,true_or,or_true]
 by_cases h5:x < 32
 ·simp only[F70,go_sem,cA,h1,h2,h3,h4,h5,true_or,or_true,or_self]
 by_cases h6:x=127
 ·subst h6;simp only[F70,go_sem,cA,true_or,or_true,or_self]
 by_cases a1:48<=x<;>by_cases a2:x<=57<;>by_cases a3:97<=x<;>by_cases a4:x<=122<;>by_cases a5:65<=x<;>by_cases a6:x<=90<;>by_cases a7:128<=x<;>first | (exfalso;omega) | simp only[F70,go_sem,cA,h1,h2,h3,h4,h5,h6,a1,a2,a3,a4,a5,a6,a7,true_or,or_true,or_self,or_false,false_or]
def gQ (x:Int):Bool:=if x=92 then false else if x=60 then false else if x=123 then false else if x=9 then false else if x=10 then false else if x=13 then false else !decide (cA x=1)
theorem IG (c:UInt8):eR c=gQ (bI c):=by
 have:=dF (fun c=>eR c == gQ (bI c)) (by decide +kernel) c
 simpa using this
theorem c77 (c:UInt8):G0 78 [.int .u8 (bI c)] []=some (.bool (eR c),[]):=by
 refine aB F78 rfl rfl rfl ?_;rw[IG];generalize bI c=x;by_cases h1:x=92
 ·simp only[F78,go_sem,gQ,h1]
 by_cases h2:x=60
 ·simp only[F78,go_sem,gQ,h1,h2]
 by_cases h3:x=123
 ·simp only[F78,go_sem,gQ,h1,h2,h3]
 by_cases h4:x=9
 ·simp only[F78,go_sem,gQ,h1,h2,h3,h4]
 by_cases h5:x=10
 ·simp only[F78,go_sem,gQ,h1,h2,h3,h4,h5]
 by_cases h6:x=13
 ·simp only[F78,go_sem,gQ,h1,h2,h3,h4,h5,h6]
 by_cases h7:cA x=1
 ·simp only[F78,go_sem,gQ,h1,h2,h3,h4,h5,h6,N6,h7]
 ·simp only[F78,go_sem,gQ,h1,h2,h3,h4,h5,h6,N6,h7]
theorem RR (c:UInt8):nmB c=true↔(97<=bI c/\bI c<=122)\/(48<=bI c/\bI c<=57)\/bI c=45:=by
 unfold nmB pW bI;simp only[Bool.or_eq_true,Bool.and_eq_true,decide_eq_true_eq];omega
theorem MX (c:UInt8):pW c=true↔(97<=bI c/\bI c<=122):=by
 unfold pW bI;simp only[Bool.and_eq_true,decide_eq_true_eq];omega
theorem LZ {s:Bs} {i:Nat} (h:i < s.length):∃ c,s[i]?=some c/\s.drop i=c :: s.drop (i+1):=⟨s[i],getElem?_eq_getElem h,drop_eq_getElem_cons h⟩
theorem I2 (s:Bs):dS s=(decide (1<=s.length) && decide (s.length<=24) && pW (s.headD 0) && (s.drop 1).all nmB):=by
 cases s with
 | nil=>rfl
 | cons c r =>
  simp only[dS,length_cons,headD_cons,drop_succ_cons,drop_zero];have e1:decide (1<=r.length+1)=true:=decide_eq_true (by omega);have e2:decide (r.length+1<=24)=decide (r.length < 24):=by rw[decide_eq_decide];omega
  rw[e1,e2,Bool.true_and]
theorem l83 (s:Bs) (hs:s.length<=24):∀ (k i:Nat),i+k=s.length->1<=i ->
  ((s.drop i).all nmB=true->aD G0 kB (ST [(0,.str s),(3,.int .i64 i),(22,.bool false)] [] [])=some (.ex 0,ST [(0,.str s),(3,.int .i64 s.length),(22,.bool false),(26,.bool false)] [] [])) /\
  ((s.drop i).all nmB=false->∃ l',aD G0 kB (ST [(0,.str s),(3,.int .i64 i),(22,.bool false)] [] [])=some (.ret,ST l' [] [])/\aE .any l' 2=.bool false)
 | 0,i,h1,h2=>by
  have:i=s.length:=by omega
  subst this;refine⟨fun _=>?_,fun h=>(by simp at h)⟩;rw[aA (L:=kB) rfl];simp only[go_sem,Int.lt_irrefl]
 | k+1,i,h1,h2=>by
  have h4:(i:Int) < (s.length:Int):=by omega
  obtain⟨c,h5,hd⟩:=LZ (s:=s) (i:=i) (by omega);have h0:(0:Int)<=(i:Int):=by omega
  have hp:(0:Int) < (i:Int):=by omega
  have hw:=wI (i:=i) (by omega)
  have ih:=l83 s hs k (i+1) (by omega) (by omega);rw[hd,all_cons];have hI:=RR c;unfold bI at hI;cases hc:nmB c with
  | true =>
   rw[Bool.true_and];have hI:=hI.1 hc;have step:aD G0 kB (ST [(0,.str s),(3,.int .i64 i),(22,.bool false)] [] [])=aD G0 kB (ST [(0,.str s),(3,.int .i64 ((i+1:Nat):Int)),(22,.bool false)] [] []):=by
    conv=>lhs;rw[aA (L:=kB) rfl]
    rcases hI with ⟨a1,a2⟩ | ⟨a3,a4⟩ | a5
    ·simp only[go_sem,h4,h5,h0,hp,hw,a1,a2]
    ·have a1:¬ 97<=(c.toNat:Int):=by omega
     simp only[go_sem,h4,h5,h0,hp,hw,a1,a3,a4]
    ·simp only[go_sem,h4,h5,h0,hp,hw,a5]
   rw[step];exact ih
  | false =>
   rw[Bool.false_and];refine⟨fun h=>(by cases h),fun _=>?_⟩;have hN:=fun q=>Bool.false_ne_true (hc.symm.trans (hI.2 q))
   have a5:¬ (c.toNat:Int)=45:=fun q=>hN (.inr (.inr q))
   by_cases a1:97<=(c.toNat:Int)
   ·have a2:¬ (c.toNat:Int)<=122:=fun q=>hN (.inl ⟨a1,q⟩)
    have a3:48<=(c.toNat:Int):=by omega
    have a4:¬ (c.toNat:Int)<=57:=by omega
    refine Exists.intro ?_ (And.intro ?_ ?_)
    rotate_left 1
    ·rw[aA (L:=kB) rfl]
     simp only[go_sem,h4,h5,h0,hp,a1,a2,a3,a4,a5];rfl
    ·rfl
   ·by_cases a3:48<=(c.toNat:Int)
    ·have a4:¬ (c.toNat:Int)<=57:=fun q=>hN (.inr (.inl ⟨a3,q⟩))
     refine Exists.intro ?_ (And.intro ?_ ?_)
     rotate_left 1
     ·rw[aA (L:=kB) rfl]
      simp only[go_sem,h4,h5,h0,hp,a1,a3,a4,a5];rfl
     ·rfl
    ·refine Exists.intro ?_ (And.intro ?_ ?_)
     rotate_left 1
     ·rw[aA (L:=kB) rfl]
      simp only[go_sem,h4,h5,h0,hp,a1,a3,a5];rfl
     ·rfl
theorem SH {s:Bs} (h:1<=s.length):s[0]?=some (s.headD 0):=by
 cases s with
 | nil=>simp at h
 | cons c r=>rfl
theorem c83 (s:Bs):G0 49 [.str s] []=some (.bool (dS s),[]):=by
 refine aB F49 rfl rfl rfl ?_;rw[I2];by_cases h1:s.length < 1
 ·have h1':(s.length:Int) < 1:=by omega
  have e:decide (1<=s.length)=false:=decide_eq_false (by omega);simp only[F49,go_sem,h1',e]
 have h1':¬ (s.length:Int) < 1:=by omega
 have e1:decide (1<=s.length)=true:=decide_eq_true (by omega);by_cases h2:24 < s.length
 ·have h2':(24:Int) < (s.length:Int):=by omega
  have e:decide (s.length<=24)=false:=decide_eq_false (by omega);simp only[F49,go_sem,h1',h2',e1,e]
 have h2':¬ (24:Int) < (s.length:Int):=by omega
 have e2:decide (s.length<=24)=true:=decide_eq_true (by omega);have h3:=SH (s:=s) (by omega);generalize s.headD 0=c at h3 ⊢;have hl:=MX c;unfold bI at hl;by_cases h4:(c.toNat:Int) < 97
 ·have e:pW c=false:=by cases h:pW c with | false=>rfl | true=>have:=hl.1 h;omega
  simp only[F49,go_sem,h1',h2',h3,h4,e1,e2,e]
 by_cases h5:122 < (c.toNat:Int)
 ·have e:pW c=false:=by cases h:pW c with | false=>rfl | true=>have:=hl.1 h;omega
  simp only[F49,go_sem,h1',h2',h3,h4,h5,e1,e2,e]
 have e:pW c=true:=hl.2 ⟨by omega,by omega⟩;obtain⟨x1,x2⟩:=l83 s (by omega) (s.length - 1) 1 (by omega) (by omega);have ec:((1:Nat):Int)=1:=rfl;rw[ec] at x1 x2;cases hv:(s.drop 1).all nmB with
 | true=>simp only[F49,go_sem,h1',h2',h3,h4,h5,e1,e2,e,x1 hv]
 | false =>
  obtain⟨l',y1,y2⟩:=x2 hv;simp only[F49,go_sem,h1',h2',h3,h4,h5,e1,e2,e,y1,y2]
end Go.Av
namespace Go.Av
open Go.Nt
set_option maxHeartbeats 4000000
theorem bR (x:Int) (r:LL):aX ([.int .u8 x] :: r)=(aX r).map fun t=>UInt8.ofNat x.toNat :: t:=by
 simp only[aX,qT]
 cases aX r<;>rfl
theorem RV (x:Int):fD 1 [.int .u8 0] 1 [0] [.int .u8 x]=some (.sl .full 1 [[.int .u8 x]]):=rfl
def NI:Bs:=[48,49,50,51,52,53,54,55,56,57,97,98,99,100,101,102]
theorem zX {n:Nat} (h:n < 16):NI[n]?=some (kN n):=by
 have:∀ n:Fin 16,NI[n.1]?=some (kN n.1):=by decide
 exact this ⟨n,h⟩
end Go.Av
namespace Go.Av
open Go.Nt
set_option maxHeartbeats 4000000
theorem VV {n:Int} (h1:0<=n) (h2:n<=1000000):IntKind.u64.wrap n=n:=by
 unfold IntKind.wrap;have e:IntKind.u64.bits=64:=rfl;simp only[e,IntKind.signed,Bool.false_and,Bool.false_eq_true,if_false];omega
theorem CB {n:Int} (h1:0<=n) (h2:n<=1000000):IntKind.u32.wrap n=n:=by
 unfold IntKind.wrap;have e:IntKind.u32.bits=32:=rfl;simp only[e,IntKind.signed,Bool.false_and,Bool.false_eq_true,if_false];omega
theorem TI (b:Bool):G0 98 [.bool b] []=some (.int .i64 (if b then 1 else 0),[]):=by
 refine aB F98 rfl rfl rfl ?_
 cases b with
 | true=>simp only[F98,go_sem]
 | false=>simp only[F98,go_sem]
theorem TK (n:Int) (h0:0<=n) (h1:n<=64):G0 96 [.int .i64 n] []=some (.int .i64 (n*78913 / 262144),[]):=by
 refine aB F96 rfl rfl rfl ?_;have w1:IntKind.i64.wrap (n*78913)=n*78913:=w64 (by omega) (by omega);have e:(n*78913).fdiv (2 ^ (min 18 64))=n*78913 / 262144:=by
  have:(2:Int) ^ (min 18 64)=262144:=rfl
  rw[this,Int.fdiv_eq_ediv_of_nonneg _ (by omega)]
 simp only[F96,go_sem,w1,e]
end Go.Av
namespace Go.Av
open Go.Nt
set_option maxHeartbeats 8000000
def qA:Bs:=[0,1,2,2,3,3,3,3,4,4,4,4,4,4,4,4,5,5,5,5,5,5,5,5,5,5,5,5,5,5,5,5,6,6,6,6,6,6,6,6,6,6,6,6,6,6,6,6,6,6,6,6,6,6,6,6,6,6,6,6,6,6,6,6,7,7,7,7,7,7,7,7,7,7,7,7,7,7,7,7,7,7,7,7,7,7,7,7,7,7,7,7,7,7,7,7,7,7,7,7,7,7,7,7,7,7,7,7,7,7,7,7,7,7,7,7,7,7,7,7,7,7,7,7,7,7,7,7,8,8,8,8,8,8,8,8,8,8,8,8,8,8,8,8,8,8,8,8,8,8,8,8,8,8,8,8,8,8,8,8,8,8,8,8,8,8,8,8,8,8,8,8,8,8,8,8,8,8,8,8,8,8,8,8,8,8,8,8,8,8,8,8,8,8,8,8,8,8,8,8,8,8,8,8,8,8,8,8,8,8,8,8,8,8,8,8,8,8,8,8,8,8,8,8,8,8,8,8,8,8,8,8,8,8,8,8,8,8,8,8,8,8,8,8,8,8,8,8,8,8,8,8,8,8,8,8]
def FA:Bs:=[48,49,50,51,52,53,54,55,56,57,97,98,99,100,101,102,103,104,105,106,107,108,109,110,111,112,113,114,115,116,117,118,119,120,121,122]
def smS:Bs:=[48,48,48,49,48,50,48,51,48,52,48,53,48,54,48,55,48,56,48,57,49,48,49,49,49,50,49,51,49,52,49,53,49,54,49,55,49,56,49,57,50,48,50,49,50,50,50,51,50,52,50,53,50,54,50,55,50,56,50,57,51,48,51,49,51,50,51,51,51,52,51,53,51,54,51,55,51,56,51,57,52,48,52,49,52,50,52,51,52,52,52,53,52,54,52,55,52,56,52,57,53,48,53,49,53,50,53,51,53,52,53,53,53,54,53,55,53,56,53,57,54,48,54,49,54,50,54,51,54,52,54,53,54,54,54,55,54,56,54,57,55,48,55,49,55,50,55,51,55,52,55,53,55,54,55,55,55,56,55,57,56,48,56,49,56,50,56,51,56,52,56,53,56,54,56,55,56,56,56,57,57,48,57,49,57,50,57,51,57,52,57,53,57,54,57,55,57,56,57,57]
theorem M9 {n:Nat} (h1:64<=n) (h2:n < 128):qA[n]?=some 7:=by
 have:∀ n:Fin 128,64<=n.1->qA[n.1]?=some 7:=by decide +kernel
 exact this ⟨n,h2⟩ h1
theorem M8 {n:Nat} (h1:128<=n) (h2:n < 256):qA[n]?=some 8:=by
 have:∀ n:Fin 256,128<=n.1->qA[n.1]?=some 8:=by decide +kernel
 exact this ⟨n,h2⟩ h1
theorem M7 {n:Nat} (h1:2<=n) (h2:n < 4):qA[n]?=some 2:=by
 have:∀ n:Fin 4,2<=n.1->qA[n.1]?=some 2:=by decide +kernel
 exact this ⟨n,h2⟩ h1
theorem lnD:FA.length=36:=by decide +kernel
theorem lnS:smS.length=200:=by decide +kernel
theorem NY {n:Nat} (h:n < 10):(FA.take (n+1)).drop n=Nt.dec n:=by
 have:∀ n:Fin 10,(FA.take (n.1+1)).drop n.1=Nt.dec n.1:=by decide +kernel
 exact this ⟨n,h⟩
theorem QH {n:Nat} (h1:10<=n) (h:n < 100):(smS.take (n*2+2)).drop (n*2)=Nt.dec n:=by
 have:∀ n:Fin 100,10<=n.1->(smS.take (n.1*2+2)).drop (n.1*2)=Nt.dec n.1:=by decide +kernel
 exact this ⟨n,h⟩ h1
theorem QJ {n:Nat} (h:n < 100):smS[n*2]?=some (dig (n / 10)):=by
 have:∀ n:Fin 100,smS[n.1*2]?=some (dig (n.1 / 10)):=by decide +kernel
 exact this ⟨n,h⟩
theorem QI {n:Nat} (h:n < 100):smS[n*2+1]?=some (dig (n % 10)):=by
 have:∀ n:Fin 100,smS[n.1*2+1]?=some (dig (n.1 % 10)):=by decide +kernel
 exact this ⟨n,h⟩
theorem TJ (n:Nat) (h1:100<=n) (h2:n<=999):G0 97 [.int .u64 n] []=some (.int .i64 (if n < 128 then 7 else if n < 256 then 8 else if n < 512 then 9 else 10),[]):=by
 refine aB F97 rfl rfl rfl ?_;have a1:¬ (4294967296:Int)<=(n:Int):=by omega
 have a2:¬ (65536:Int)<=(n:Int):=by omega
 by_cases h3:n < 256
 ·have a3:¬ (256:Int)<=(n:Int):=by omega
  have w:IntKind.u8.wrap (n:Int)=(n:Int):=wu8 (by omega) (by omega);have a4:(0:Int)<=(n:Int):=by omega
  by_cases h4:n < 128
  ·have q:=M9 (n:=n) (by omega) h4
   simp only[qA] at q;rw[if_pos h4];simp only[F97,go_sem,a1,a2,a3,w,a4,q];rfl
  ·have q:=M8 (n:=n) (by omega) h3
   simp only[qA] at q;rw[if_neg h4,if_pos h3];simp only[F97,go_sem,a1,a2,a3,w,a4,q];rfl
 ·have a3:(256:Int)<=(n:Int):=by omega
  have e:(n:Int).fdiv (2 ^ (min 8 64))=((n / 256:Nat):Int):=by
   have:(2:Int) ^ (min 8 64)=256:=rfl
   rw[this,Int.fdiv_eq_ediv_of_nonneg _ (by omega)];omega
  have w:IntKind.u8.wrap ((n / 256:Nat):Int)=((n / 256:Nat):Int):=wu8 (by omega) (by omega);have a4:(0:Int)<=((n / 256:Nat):Int):=by omega
  rw[if_neg (by omega),if_neg h3];by_cases h4:n < 512
  ·have h5:n / 256=1:=by omega
   have q:qA[1]?=some 1:=rfl;simp only[qA] at q;rw[if_pos h4];rw[h5] at e w a4;simp only[F97,go_sem,a1,a2,a3,e,w,a4,q];rfl
  ·have q:=M7 (n:=n / 256) (by omega) (by omega)
   simp only[qA] at q;rw[if_neg h4];simp only[F97,go_sem,a1,a2,a3,e,w,a4,q];rfl
theorem XZ (n:Nat) (h1:100<=n) (h2:n<=999):G0 90 [.int .u64 n] []=some (.int .i64 3,[]):=by
 refine aB F90 rfl rfl rfl ?_;by_cases h3:n < 512
 ·have a1:(100:Int)<=(n:Int):=by omega
  have e:∃ L:Int,7<=L/\L<=9/\(if n < 128 then (7:Int) else if n < 256 then 8 else if n < 512 then 9 else 10)=L:=⟨_,by split<;>(try split)<;>(try split)<;>omega,by split<;>(try split)<;>(try split)<;>omega,rfl⟩
  obtain⟨L,l1,l2,e⟩:=e;have c1:=TJ n h1 h2;rw[e] at c1;have c2:=TK L (by omega) (by omega);have e2:L*78913 / 262144=2:=by omega
  rw[e2] at c2;simp only[F90,go_sem,c1,c2,a1,TI]
 ·have a1:¬ (1000:Int)<=(n:Int):=by omega
  have c1:=TJ n h1 h2;rw[if_neg (by omega),if_neg (by omega),if_neg h3] at c1;have c2:=TK 10 (by omega) (by omega);have e2:(10:Int)*78913 / 262144=3:=by omega
  rw[e2] at c2;simp only[F90,go_sem,c1,c2,a1,TI]
theorem X0 (n:Nat) (h:n < 100):G0 89 [.int .i64 n] []=some (.str (Nt.dec n),[]):=by
 refine aB F89 rfl rfl rfl ?_;have a0:(0:Int)<=(n:Int):=by omega
 by_cases h1:n < 10
 ·have a1:(n:Int) < 10:=by omega
  have w:IntKind.i64.wrap ((n:Int)+1)=((n+1:Nat):Int):=by rw[w64 (by omega) (by omega)];rfl
  have a2:(n:Int)<=((n+1:Nat):Int):=by omega
  have a3:((n+1:Nat):Int)<=36:=by omega
  have q:b8 true 0 (.str FA) (some (.int .i64 (n:Int))) (some (.int .i64 ((n+1:Nat):Int)))=some (.str (Nt.dec n)):=by
   rw[rN _ _ _ _ _ _ a0 a2 (by rw[lnD];omega),Int.toNat_natCast,Int.toNat_natCast,NY h1]
  simp only[FA] at q;simp only[F89,go_sem,a1,w,q]
 ·have a1:¬ (n:Int) < 10:=by omega
  have w1:IntKind.i64.wrap ((n:Int)*2)=((n*2:Nat):Int):=by rw[w64 (by omega) (by omega)];omega
  have w2:IntKind.i64.wrap (((n*2:Nat):Int)+2)=((n*2+2:Nat):Int):=by rw[w64 (by omega) (by omega)];rfl
  have a4:(0:Int)<=((n*2:Nat):Int):=by omega
  have a2:((n*2:Nat):Int)<=((n*2+2:Nat):Int):=by omega
  have a3:((n*2+2:Nat):Int)<=256:=by omega
  have q:b8 true 0 (.str smS) (some (.int .i64 ((n*2:Nat):Int))) (some (.int .i64 ((n*2+2:Nat):Int)))=some (.str (Nt.dec n)):=by
   rw[rN _ _ _ _ _ _ a4 a2 (by rw[lnS];omega),Int.toNat_natCast,Int.toNat_natCast,QH (by omega) h]
  simp only[smS] at q;simp only[F89,go_sem,a1,w1,w2,q]
end Go.Av
namespace Go.Av
open Go.Nt
set_option maxHeartbeats 8000000
theorem WV (n:Int) (sh:LL):aD G0 F0 (ST [(0,.ss 0 1 3 1),(1,.int .u64 n),(4,.int .i64 3)] [] sh)=some (.ex 0,ST [(0,.ss 0 1 3 1),(1,.int .u64 n),(4,.int .i64 3),(20,.bool false)] [] sh):=by
 rw[aA (L:=F0) rfl];simp only[go_sem]
theorem tq (n m:Nat):((n:Int)).tdiv (m:Int)=((n / m:Nat):Int):=by rw[Int.tdiv_eq_ediv_of_nonneg (by omega)];rfl
theorem tm (n m:Nat):((n:Int)).tmod (m:Int)=((n % m:Nat):Int):=by rw[Int.tmod_eq_emod_of_nonneg (by omega)];rfl
theorem XY (n:Nat) (h1:100<=n) (h2:n<=999):G0 91 [.ss 0 1 3 1,.int .u64 n] [[.int .u8 0,.int .u8 0,.int .u8 0,.int .u8 0,.int .u8 0,.int .u8 0,.int .u8 0,.int .u8 0,.int .u8 0,.int .u8 0,.int .u8 0,.int .u8 0,.int .u8 0,.int .u8 0,.int .u8 0,.int .u8 0,.int .u8 0,.int .u8 0,.int .u8 0,.int .u8 0,.int .u8 0,.int .u8 0,.int .u8 0,.int .u8 0]]=some (.tup [],[[.int .u8 0,.int .u8 (bI (dig (n / 100))),.int .u8 (bI (dig (n / 10 % 10))),.int .u8 (bI (dig (n % 10))),.int .u8 0,.int .u8 0,.int .u8 0,.int .u8 0,.int .u8 0,.int .u8 0,.int .u8 0,.int .u8 0,.int .u8 0,.int .u8 0,.int .u8 0,.int .u8 0,.int .u8 0,.int .u8 0,.int .u8 0,.int .u8 0,.int .u8 0,.int .u8 0,.int .u8 0,.int .u8 0]]):=by
 refine aB F91 rfl rfl rfl ?_;have w0:IntKind.u32.wrap (n:Int)=(n:Int):=CB (by omega) (by omega);have e1:((n:Int)).tmod 100=((n % 100:Nat):Int):=tm n 100;have e2:((n:Int)).tdiv 100=((n / 100:Nat):Int):=tq n 100;have w1:IntKind.u32.wrap (((n % 100:Nat):Int)*2)=((n % 100*2:Nat):Int):=by rw[CB (by omega) (by omega)];omega
 have w2:IntKind.u32.wrap (((n % 100*2:Nat):Int)+1)=((n % 100*2+1:Nat):Int):=by rw[CB (by omega) (by omega)];rfl
 have w3:IntKind.u32.wrap ((n / 100:Nat):Int)=((n / 100:Nat):Int):=CB (by omega) (by omega);have w4:IntKind.u32.wrap (48+((n / 100:Nat):Int))=48+((n / 100:Nat):Int):=CB (by omega) (by omega);have w5:IntKind.u8.wrap (48+((n / 100:Nat):Int))=bI (dig (n / 100)):=by
  rw[wu8 (by omega) (by omega)];unfold bI dig;simp only[UInt8.toNat_ofNat'];omega
 have q0:=QJ (n:=n % 100) (by omega);have q1:=QI (n:=n % 100) (by omega);have e3:n % 100 / 10=n / 10 % 10:=by omega
 have e4:n % 100 % 10=n % 10:=by omega
 rw[e3] at q0;rw[e4] at q1;simp only[smS] at q0 q1;have a1:(0:Int)<=((n % 100*2:Nat):Int):=by omega
 have a2:(0:Int)<=((n % 100*2+1:Nat):Int):=by omega
 simp only[F91,go_sem,WV,w0,e1,e2,w1,w2,w3,w4,w5,a1,a2,q0,q1];rfl
theorem X6 (n:Nat) (h2:n<=999):G0 85 [.int .i64 n,.int .i64 10] []=some (.str (Nt.dec n),[]):=by
 refine aB F85 rfl rfl rfl ?_;have a0:(0:Int)<=(n:Int):=by omega
 by_cases h1:n < 100
 ·have a1:(n:Int) < 100:=by omega
  simp only[F85,go_sem,a0,a1,X0 n h1]
 ·have a1:¬ (n:Int) < 100:=by omega
  have a2:¬ (n:Int) < 0:=by omega
  have w:IntKind.u64.wrap (n:Int)=(n:Int):=VV (by omega) (by omega);have ed:Nt.dec n=[dig (n / 100),dig (n / 10 % 10),dig (n % 10)]:=by
   unfold Nt.dec;rw[if_neg (by omega),if_neg h1]
  rw[ed];have hr:∀ a b c:Int,cV 1 3 1 [.int .u8 0,.int .u8 a,.int .u8 b,.int .u8 c,.int .u8 0,.int .u8 0,.int .u8 0,.int .u8 0,.int .u8 0,.int .u8 0,.int .u8 0,.int .u8 0,.int .u8 0,.int .u8 0,.int .u8 0,.int .u8 0,.int .u8 0,.int .u8 0,.int .u8 0,.int .u8 0,.int .u8 0,.int .u8 0,.int .u8 0,.int .u8 0]=some [[.int .u8 a],[.int .u8 b],[.int .u8 c]]:=fun _ _ _=>rfl
  simp only[F85,go_sem,a0,a1,a2,w,XZ n (by omega) h2,XY n (by omega) h2,hr,bR,UInt8.ofNat_toNat]
theorem c76 (n:Nat) (h2:n<=999):G0 77 [.int .i64 n] []=some (.str (Nt.dec n),[]):=by
 refine aB F77 rfl rfl rfl ?_;simp only[F77,go_sem,X6 n h2]
theorem c50 (n:Nat) (h2:n<=999):G0 60 [.int .i64 n] []=some (.str (Nt.dec n),[]):=by
 refine aB F60 rfl rfl rfl ?_;simp only[F60,go_sem,c76 n h2]
end Go.Av
namespace Go.Av
open Go.Nt
set_option maxHeartbeats 8000000
theorem zV {b:UInt8}:∀ {s a r:Bs},cut b s=some (a,r)->Lib.indexByte s b=(a.length:Int)
 | [],a,r,h=>by cases h
 | c :: s,a,r,h=>by
  simp only[cut] at h;unfold Lib.indexByte;by_cases hc:c=b
  ·rw[if_pos hc] at h
   simp only[Option.some.injEq,Prod.mk.injEq] at h;obtain⟨rfl,rfl⟩:=h;rw[if_pos (by simp [hc])];rfl
  ·rw[if_neg hc] at h
   obtain⟨⟨p,q⟩,h1,h2⟩:=Option.map_eq_some_iff.1 h;simp only[Prod.mk.injEq] at h2;obtain⟨rfl,rfl⟩:=h2;have ih:=zV h1;rw[if_neg (by simp [hc]),ih,if_neg (by simp)];rfl
theorem tK {b:UInt8}:∀ {s:Bs},cut b s=none->Lib.indexByte s b = -1
 | [],h=>rfl
 | c :: s,h=>by
  simp only[cut] at h;unfold Lib.indexByte;by_cases hc:c=b
  ·rw[if_pos hc] at h;cases h
  ·rw[if_neg hc] at h
   have ih:=tK (Option.map_eq_none_iff.1 h);rw[if_neg (by simp [hc]),ih];rfl
theorem toB (c:UInt8):(bI c).toNat.toUInt8=c:=by unfold bI;simp
theorem XX (s:Bs) (c:UInt8):G0 87 [.str s,.int .u8 (bI c)] []=some (.int .i64 (Lib.indexByte s c),[]):=
 AZ (by
  have e:∀ args sh,B0 87 args sh=ibB 87 87 args sh:=fun _ _=>rfl
  rw[e];unfold ibB;rw[if_pos rfl]
  simp only[toB])
theorem TN (s:Bs) (c:UInt8):G0 82 [.str s,.int .u8 (bI c)] []=some (.int .i64 (Lib.indexByte s c),[]):=by
 refine aB F82 rfl rfl rfl ?_;simp only[F82,go_sem,XX]
theorem c81 (s:Bs) (c:UInt8):G0 71 [.str s,.int .u8 (bI c)] []=some (.int .i64 (Lib.indexByte s c),[]):=by
 refine aB F71 rfl rfl rfl ?_;simp only[F71,go_sem,TN]
theorem TH (s:Bs) (c:UInt8):G0 88 [.str s,.str [c]] []=some (.int .i64 (Lib.indexByte s c),[]):=by
 refine aB F88 rfl rfl rfl ?_;have g:([c]:Bs)[0]?=some c:=rfl;by_cases h:s=[c]
 ·subst h
  have e:Lib.indexByte [c] c=0:=by simp [Lib.indexByte]
  rw[e];simp only[F88,go_sem,g]
 ·have h':(([c]:Bs) == s)=false:=by simp [Ne.symm h]
  simp only[F88,go_sem,g,h',TN]
theorem TL {s a r:Bs} {c:UInt8} (hs:s.length<=1000000) (h:cut c s=some (a,r)):G0 83 [.str s,.str [c]] []=some (.tup [.str a,.str r,.bool true],[]):=by
 refine aB F83 rfl rfl rfl ?_;have hi:=zV h;obtain⟨rfl,_⟩:=d6.1 h;simp only[length_append,length_cons] at hs;have w:IntKind.i64.wrap ((a.length:Int)+1)=((a.length+1:Nat):Int):=by rw[w64 (by omega) (by omega)];rfl
 have a0:(0:Int)<=(a.length:Int):=by omega
 have q1:b8 true 0 (.str (a++c :: r)) none (some (.int .i64 (a.length:Int)))=some (.str a):=by
  rw[HV _ _ _ _ a0 (by simp only[length_append];omega),Int.toNat_natCast,take_left]
 have q2:b8 true 0 (.str (a++c :: r)) (some (.int .i64 ((a.length+1:Nat):Int))) none=some (.str r):=by
  rw[HU _ _ _ _ (by omega) (by simp only[length_append,length_cons];omega),Int.toNat_natCast]
  have:a++c :: r=(a++[c])++r:=by simp
  rw[this,drop_left' (by simp)]
 simp only[F83,go_sem,TH,hi,a0,w,q1,q2]
theorem TM {s:Bs} {c:UInt8} (h:cut c s=none):G0 83 [.str s,.str [c]] []=some (.tup [.str s,.str [],.bool false],[]):=by
 refine aB F83 rfl rfl rfl ?_;simp only[F83,go_sem,TH,tK h]
theorem K9 {s a r:Bs} {c:UInt8} (hs:s.length<=1000000) (h:cut c s=some (a,r)):G0 72 [.str s,.str [c]] []=some (.tup [.str a,.str r,.bool true],[]):=by
 refine aB F72 rfl rfl rfl ?_;simp only[F72,go_sem,TL hs h]
theorem LA {s:Bs} {c:UInt8} (h:cut c s=none):G0 72 [.str s,.str [c]] []=some (.tup [.str s,.str [],.bool false],[]):=by
 refine aB F72 rfl rfl rfl ?_;simp only[F72,go_sem,TM h]
theorem nR {s a r:Bs} (h:cut 32 s=some (a,r)):bU s=a:=by
 obtain⟨rfl,h2⟩:=d6.1 h;unfold bU;rw[takeWhile_append_of_pos (fun c hc=>by simp only[bne_iff_ne,ne_eq];rintro rfl;exact h2 hc)];simp
theorem i9 {s:Bs} (h:cut 32 s=none):bU s=s:=by
 have:=l9.1 h
 have key:∀ l:Bs,32 ∉ l->l.takeWhile (fun c=>c != 32)=l:=by
  intro l
  induction l with
  | nil=>intro _;rfl
  | cons c l ih =>
   intro hl;simp only[mem_cons,not_or] at hl;rw[takeWhile_cons,if_pos (by simpa using Ne.symm hl.1),ih hl.2]
 exact key s this
theorem c98 (s:Bs) (hs:s.length<=1000000):G0 51 [.str s] []=some (.str (bU s),[]):=by
 refine aB F51 rfl rfl rfl ?_;cases h:cut 32 s with
 | none=>rw[i9 h];simp only[F51,go_sem,LA h]
 | some p =>
  obtain⟨a,r⟩:=p;rw[nR h];simp only[F51,go_sem,K9 hs h]
end Go.Av
namespace Go.Av
open Go.Nt
set_option maxHeartbeats 8000000
theorem TG (s:Bs) (c:UInt8):G0 71 [.str s,.int .u8 (c.toNat:Int)] []=some (.int .i64 (Lib.indexByte s c),[]):=c81 s c
theorem mZ {c d:UInt8} (h:c≠d):¬ (c.toNat:Int)=(d.toNat:Int):=fun q=>h (UInt8.toNat_inj.1 (by omega))
theorem l64 (s:Bs) (hs:s.length<=1000000):∀ (r p:Bs),s=p++r ->
  (32 ∉ r->aD G0 nZ (ST [(0,.str s),(3,.int .i64 p.length)] [] [])=some (.ex 0,ST [(0,.str s),(3,.int .i64 s.length),(7,.bool false)] [] [])) /\
  (32∈r->∃ l',aD G0 nZ (ST [(0,.str s),(3,.int .i64 p.length)] [] [])=some (.ret,ST l' [] [])/\aE .any l' 2=.str (p++bU r))
 | [],p,h=>by
  have h:s=p:=by simp [h]
  subst h;refine⟨fun _=>?_,fun h=>(by simp at h)⟩;rw[aA (L:=nZ) rfl];simp only[go_sem,Int.lt_irrefl]
 | c :: r,p,h=>by
  have ih:=l64 s hs r (p++[c]) (by simp [h]);have hl:s.length=p.length+1+r.length:=by simp [h];omega
  have e1:((p++[c]).length:Int)=((p.length+1:Nat):Int):=by simp
  rw[e1] at ih;have h4:(p.length:Int) < (s.length:Int):=by omega
  have h0:(0:Int)<=(p.length:Int):=by omega
  have h5:s[p.length]?=some c:=by rw[h];simp
  have hw:IntKind.i64.wrap ((p.length:Int)+1)=((p.length+1:Nat):Int):=by rw[w64 (by omega) (by omega)];rfl
  have hq:s.take p.length=p:=by rw[h];simp
  have hle:(p.length:Int)<=(s.length:Int):=by omega
  by_cases hc:c=32
  ·subst hc
   refine⟨fun q=>absurd (mem_cons_self ..) q,fun _=>?_⟩;have hc:(((32:UInt8).toNat:Nat):Int)=32:=rfl;refine Exists.intro ?_ (And.intro ?_ ?_)
   rotate_left 1
   ·rw[aA (L:=nZ) rfl]
    simp only[go_sem,h4,h0,h5,hc,hle,hq];rfl
   ·simp only[go_sem,bU,takeWhile_cons,bne_self_eq_false,Bool.false_eq_true,append_nil]
  ·have a:¬ (c.toNat:Int)=32:=mZ hc
   have em:(32∈c :: r)↔32∈r:=by simp [Ne.symm hc]
   have en:bU (c :: r)=c :: bU r:=by simp [bU,hc]
   rw[em,en];have step:aD G0 nZ (ST [(0,.str s),(3,.int .i64 p.length)] [] [])=aD G0 nZ (ST [(0,.str s),(3,.int .i64 ((p.length+1:Nat):Int))] [] []):=by
    conv=>lhs;rw[aA (L:=nZ) rfl]
    simp only[go_sem,h4,h0,h5,a,hw]
   rw[step];simpa using ih
theorem BP {s:Bs} (h:32 ∉ s):bU s=s:=by
 have:=l9.2 h
 exact i9 this
theorem c64 (s:Bs) (hs:s.length<=1000000):G0 28 [.str s] []=some (.str (bU s),[]):=by
 refine aB F28 rfl rfl rfl ?_;obtain⟨x1,x2⟩:=l64 s hs s [] rfl;have ec:((([]:Bs).length:Nat):Int)=0:=rfl;rw[ec] at x1 x2;by_cases h:32∈s
 ·obtain⟨l',y1,y2⟩:=x2 h
  rw[nil_append] at y2;simp only[F28,go_sem,y1,y2]
 ·rw[BP h]
  simp only[F28,go_sem,x1 h]
theorem RQ (c:UInt8):okB c=true↔32<=(c.toNat:Int)/\(c.toNat:Int)<=126/\c≠60/\c≠62/\c≠123/\c≠125:=by
 unfold okB;simp only[Bool.and_eq_true,decide_eq_true_eq,bne_iff_ne,ne_eq,and_assoc];exact⟨fun ⟨a,b,c⟩=>⟨by omega,by omega,c⟩,fun ⟨a,b,c⟩=>⟨by omega,by omega,c⟩⟩
theorem WZ {c:UInt8} (h:c=60\/c=62\/c=123\/c=125):0<=Lib.indexByte [60,62,123,125] c:=by
 rcases h with rfl | rfl | rfl | rfl<;>decide
theorem W0 {c:UInt8} (h1:c≠60) (h2:c≠62) (h3:c≠123) (h4:c≠125):¬ 0<=Lib.indexByte [60,62,123,125] c:=by
 have:cut c [60,62,123,125]=none:=l9.2 (by simp [h1,h2,h3,h4])
 rw[tK this]
 decide
theorem l97 (s:Bs) (hs:s.length<=64):∀ (r p:Bs),s=p++r ->
  (r.all okB=true->aD G0 kA (ST [(0,.str s),(3,.int .i64 p.length),(22,.bool false)] [] [])=some (.ex 0,ST [(0,.str s),(3,.int .i64 s.length),(22,.bool false),(26,.bool false)] [] [])) /\
  (r.all okB=false->∃ l',aD G0 kA (ST [(0,.str s),(3,.int .i64 p.length),(22,.bool false)] [] [])=some (.ret,ST l' [] [])/\aE .any l' 2=.bool false)
 | [],p,h=>by
  have h:s=p:=by simp [h]
  subst h;refine⟨fun _=>?_,fun h=>(by simp at h)⟩;rw[aA (L:=kA) rfl];simp only[go_sem,Int.lt_irrefl]
 | c :: r,p,h=>by
  have hl:s.length=p.length+1+r.length:=by simp [h];omega
  have h4:(p.length:Int) < (s.length:Int):=by omega
  have h0:(0:Int)<=(p.length:Int):=by omega
  have h5:s[p.length]?=some c:=by rw[h];simp
  have hw:IntKind.i64.wrap ((p.length:Int)+1)=((p.length+1:Nat):Int):=by rw[w64 (by omega) (by omega)];rfl
  have hI:=RQ c;have e1:((p++[c]).length:Int)=((p.length+1:Nat):Int):=by simp
  have ih:=l97 s hs r (p++[c]) (by simp [h]);rw[e1] at ih;rw[all_cons];cases hc:okB c with
  | true =>
   obtain⟨a1,a2,a3,a4,a5,a6⟩:=hI.1 hc;have b1:¬ (c.toNat:Int) < 32:=by omega
   have b2:¬ 126 < (c.toNat:Int):=by omega
   have b3:¬ (c.toNat:Int)=60:=mZ a3;have b4:¬ (c.toNat:Int)=62:=mZ a4;have b5:¬ (c.toNat:Int)=123:=mZ a5;have b6:¬ (c.toNat:Int)=125:=mZ a6;have b7:=W0 a3 a4 a5 a6;have step:aD G0 kA (ST [(0,.str s),(3,.int .i64 p.length),(22,.bool false)] [] [])=aD G0 kA (ST [(0,.str s),(3,.int .i64 ((p.length+1:Nat):Int)),(22,.bool false)] [] []):=by
    conv=>lhs;rw[aA (L:=kA) rfl]
    simp only[go_sem,h4,h5,h0,hw,b1,b2,b7,TG]
   rw[step,Bool.true_and];exact ih
  | false =>
   refine⟨fun q=>(by simp at q),fun _=>?_⟩;by_cases a1:(c.toNat:Int) < 32
   ·refine Exists.intro ?_ (And.intro ?_ ?_)
    rotate_left 1
    ·rw[aA (L:=kA) rfl]
     simp only[go_sem,h4,h5,h0,a1];rfl
    ·rfl
   by_cases a2:126 < (c.toNat:Int)
   ·refine Exists.intro ?_ (And.intro ?_ ?_)
    rotate_left 1
    ·rw[aA (L:=kA) rfl]
     simp only[go_sem,h4,h5,h0,a1,a2];rfl
    ·rfl
   have a3:c=60\/c=62\/c=123\/c=125:=by
    by_cases q3:c=60
    ·exact .inl q3
    by_cases q4:c=62
    ·exact .inr (.inl q4)
    by_cases q5:c=123
    ·exact .inr (.inr (.inl q5))
    by_cases q6:c=125
    ·exact .inr (.inr (.inr q6))
    rw[hI.2 ⟨by omega,by omega,q3,q4,q5,q6⟩] at hc;cases hc
   have a4:=WZ a3;refine Exists.intro ?_ (And.intro ?_ ?_)
   rotate_left 1
   ·rw[aA (L:=kA) rfl]
    simp only[go_sem,h4,h5,h0,a1,a2,a4,TG];rfl
   ·rfl
theorem IU {s:Bs} (h:1<=s.length):∃ c,s[s.length - 1]?=some c/\s.getLast?=some c:=by
 rcases eq_nil_or_concat s with rfl | ⟨r,d,rfl⟩
 ·simp at h
 ·exact⟨d,by simp,by simp⟩
theorem NG (s:Bs):isC s=(decide (s.length<=64) && (s.all okB && (dS (bU s) && ((decide ((bU s).length=s.length) || decide ((bU s).length+1 < s.length)) && !(s.getLast? == some 47))))):=by
 unfold isC;simp only[Bool.and_assoc]
theorem BQ (s:Bs):(bU s).length<=s.length:=by
 unfold bU;exact (takeWhile_prefix _).length_le
theorem c97 (s:Bs):G0 50 [.str s] []=some (.bool (isC s),[]):=by
 refine aB F50 rfl rfl rfl ?_;rw[NG];by_cases h1:64 < s.length
 ·have h1':(64:Int) < (s.length:Int):=by omega
  have e:decide (s.length<=64)=false:=decide_eq_false (by omega);simp only[F50,go_sem,h1',e,Bool.false_and]
 have h1':¬ (64:Int) < (s.length:Int):=by omega
 have e1:decide (s.length<=64)=true:=decide_eq_true (by omega);by_cases hn:s.length=0
 ·have:s=[]:=length_eq_zero_iff.1 hn
  subst this;rfl
 have hn':¬ (s.length:Int)=0:=by omega
 obtain⟨c,g1,g2⟩:=IU (s:=s) (by omega);have g0:(s.length:Int) - 1=((s.length - 1:Nat):Int):=by omega
 have w1:IntKind.i64.wrap (((s.length - 1:Nat):Int))=((s.length - 1:Nat):Int):=w64 (by omega) (by omega);have gp:(0:Int)<=((s.length - 1:Nat):Int):=by omega
 rw[g2];by_cases h5:c=47
 ·subst h5
  have h5':(((47:UInt8).toNat:Nat):Int)=47:=rfl;simp only[F50,go_sem,h1',hn',g0,w1,gp,g1,h5',beq_self_eq_true,Bool.not_true,Bool.and_false]
 have h5':¬ (c.toNat:Int)=47:=mZ h5;have e6:(!(some c == some 47))=true:=by simp [h5]
 obtain⟨x1,x2⟩:=l97 s (by omega) s [] rfl;have ec:((([]:Bs).length:Nat):Int)=0:=rfl;rw[ec] at x1 x2;cases hv:s.all okB with
 | false =>
  obtain⟨l',y1,y2⟩:=x2 hv;simp only[F50,go_sem,h1',hn',g0,w1,gp,g1,h5',e1,y1,y2,Bool.false_and,Bool.and_false]
 | true =>
  have y1:=x1 hv;cases hc:cut 32 s with
  | none =>
   rw[i9 hc];have q:=LA hc;cases h2:dS s with
   | false=>simp only[F50,go_sem,h1',hn',g0,w1,gp,g1,h5',e1,y1,q,c83,h2,Bool.true_and,Bool.false_and]
   | true=>simp only[F50,go_sem,h1',hn',g0,w1,gp,g1,h5',e1,e6,y1,q,c83,h2,Bool.true_and,Bool.and_true,decide_true,Bool.true_or]
  | some ab =>
   obtain⟨a,b⟩:=ab;rw[nR hc];have q:=K9 (by omega) hc;obtain⟨hs,_⟩:=d6.1 hc;have hl:s.length=a.length+1+b.length:=by rw[hs];simp;omega
   have e4:decide (a.length=s.length)=false:=decide_eq_false (by omega);cases h2:dS a with
   | false=>simp only[F50,go_sem,h1',hn',g0,w1,gp,g1,h5',e1,y1,q,c83,h2,Bool.true_and,Bool.false_and]
   | true =>
    by_cases h3:0 < b.length
    ·have h3':(0:Int) < (b.length:Int):=by omega
     have e5:decide (a.length+1 < s.length)=true:=decide_eq_true (by omega);simp only[F50,go_sem,h1',hn',g0,w1,gp,g1,h5',e1,e4,e5,e6,y1,q,c83,h2,h3',Bool.true_and,Bool.and_true,Bool.or_true]
    ·have h3':¬ (0:Int) < (b.length:Int):=by omega
     have e5:decide (a.length+1 < s.length)=false:=decide_eq_false (by omega);simp only[F50,go_sem,h1',hn',g0,w1,gp,g1,h5',e1,e4,e5,e6,y1,q,c83,h2,h3',Bool.true_and,Bool.and_true,Bool.or_false,Bool.false_and]
end Go.Av
namespace Go.Av
open Go.Nt
set_option maxHeartbeats 8000000
theorem zR (k:Int) (s:Bs) (i:Int):aY (k,s,i)=(decide (k=2) || decide (k=3) || decide (k=4)):=rfl
theorem c65 (k:Int) (s:Bs) (i:Int):G0 29 [.agg [.int .i64 k,.str s,.int .i64 i]] []=some (.bool (aY (k,s,i)),[]):=by
 refine aB F29 rfl rfl rfl ?_;rw[zR];by_cases h1:k=2
 ·simp only[F29,go_sem,h1]
  rfl
 by_cases h2:k=3
 ·simp only[F29,go_sem,h1,h2]
  rfl
 by_cases h3:k=4
 ·simp only[F29,go_sem,h1,h2,h3]
  rfl
 ·simp only[F29,go_sem,h1,h2,h3]
  rfl
theorem c69 (k:Int) (s:Bs) (i:Int):G0 34 [.agg [.int .i64 k,.str s,.int .i64 i]] []=some (.bool (aY (k,s,i)),[]):=by
 refine aB F34 rfl rfl rfl ?_;rw[zR];by_cases h1:k=2
 ·simp only[F34,go_sem,h1]
  rfl
 by_cases h2:k=3
 ·simp only[F34,go_sem,h1,h2]
  rfl
 by_cases h3:k=4
 ·simp only[F34,go_sem,h1,h2,h3]
  rfl
 ·simp only[F34,go_sem,h1,h2,h3]
  rfl
theorem c96 (k:Int) (s:Bs) (i:Int):G0 48 [.agg [.int .i64 k,.str s,.int .i64 i]] []=some (.int .i64 (wid (k,s,i):Nat),[]):=by
 refine aB F48 rfl rfl rfl ?_;have e:wid (k,s,i)=if k=1 then s.length else 1:=rfl
 rw[e];by_cases h1:k=1
 ·simp only[F48,go_sem,h1]
 ·simp only[F48,go_sem,h1]
theorem XU (c:UInt8):G0 78 [.int .u8 (c.toNat:Int)] []=some (.bool (eR c),[]):=c77 c
end Go.Av
namespace Go.Av
open Go.Nt
set_option maxHeartbeats 8000000
abbrev Tk:=Int × List UInt8 × Int
def tkR (t:Tk):List AV:=[.int .i64 t.1,.str t.2.1,.int .i64 t.2.2]
def tks (l:List Tk):List (List AV):=l.map tkR
theorem aG (l:List Tk):(tks l).length=l.length:=by simp [tks]
theorem iA (k:Int) (s:List UInt8) (i:Int):[[AV.int .i64 k,AV.str s,AV.int .i64 i]]=tks [(k,s,i)]:=rfl
theorem dQ (x y:List Tk):tks x++tks y=tks (x++y):=by simp [tks]
theorem eI:tks []=[]:=rfl
theorem bZ {l:List Tk} {i:Nat} {t:Tk} (h:l[i]?=some t):(tks l)[i]?=some [.int .i64 t.1,.str t.2.1,.int .i64 t.2.2]:=by simp [tks,tkR,h]
def wP (l:List (List UInt8)):List (List AV):=l.map fun s=>[.str s]
theorem yC {l:List (List UInt8)} {i:Nat} {s:List UInt8} (h:l[i]?=some s):(wP l)[i]?=some [.str s]:=by simp [wP,h]
theorem rH (a b:Int) (hb:1<=b):(if a.tmod b < 0 then a.tmod b+b else a.tmod b)=a % b:=by
 have e:=Int.tmod_eq_emod (a:=a) (b:=b);have h1:=Int.emod_nonneg a (by omega:b≠0);have h2:=Int.emod_lt_of_pos a (by omega:0 < b);have hd:¬ (0<=a\/b ∣ a)->a % b≠0:=fun h h0=>h (.inr (Int.dvd_of_emod_eq_zero h0))
 by_cases h:0<=a\/b ∣ a
 ·rw[if_pos h] at e
  rw[e];rw[if_neg (by omega)];omega
 ·rw[if_neg h] at e
  have:=hd h
  rw[e];rw[if_pos (by omega)];omega
theorem GD (a b:Int) (hb:1<=b):-b < a.tmod b/\a.tmod b < b:=by
 have:=rH a b hb
 have h1:=Int.emod_nonneg a (by omega:b≠0);have h2:=Int.emod_lt_of_pos a (by omega:0 < b);have h3:=Int.lt_tmod_of_pos a (by omega:0 < b);have h4:=Int.tmod_lt_of_pos a (by omega:0 < b);omega
theorem c18 (a b:Int) (hb:1<=b) (hb2:b<=1000000):G0 7 [.int .i64 a,.int .i64 b] []=some (.int .i64 (a % b),[]):=by
 refine aB F7 rfl rfl rfl ?_;have h0:¬ b=0:=by omega
 have h1:=GD a b hb;rw[<- rH a b hb];simp only[F7,go_sem,h0];split
 ·rw[w64 (by omega) (by omega)]
 ·rfl
def aZ (l:List Int):List (List AV):=l.map fun x=>[.int .i64 x]
theorem aW (l:List Int):(aZ l).length=l.length:=by simp [aZ]
theorem fA {l:List Int} {i:Nat} {x:Int} (h:l[i]?=some x):(aZ l)[i]?=some [.int .i64 x]:=by simp [aZ,h]
theorem qF:aZ []=[]:=rfl
def num (l:List Int) (n:Nat):List AV:=[.sl .no 1 (aZ l),.int .i64 n]
def nxt (l:List Int) (n:Nat) (m:Int):Int:=(if n < l.length then l.getD n 0 else 0) % m
theorem gS (l:List Int) (n:Nat) (m:Int) (h:1<=m):0<=nxt l n m/\nxt l n m < m:=⟨Int.emod_nonneg _ (by omega),Int.emod_lt_of_pos _ (by omega)⟩
def wds:List (List UInt8):=[[114,101,100],[99,97,114],[82,101,100],[97],[99,97,114,115],[49,44,53],[50,50],[100,111,110,39,116],[46],[33],[32],[32,32],[60],[38],[123],[34],[92],[120,45,121],[10],[61],[125],[62],[9],[98]]
def wd (l:List Int) (n:Nat):List UInt8:=wds.getD (nxt l n 24).toNat []
theorem CE (l:List Int) (n:Nat):(wd l n).length<=5:=by
 unfold wd
 have:∀ i,(wds.getD i []).length<=5:=by
  intro i;by_cases h:i < 24
  ·have:∀ j:Fin 24,(wds.getD j.1 []).length<=5:=by decide
   exact this ⟨i,h⟩
  ·rw[getD_eq_getElem?_getD,getElem?_eq_none (by simp [wds];omega)];simp
 exact this _
def lnF (l:List Int):Nat->Nat->List UInt8->List UInt8 × Nat
 | 0,n,out=>(out,n)
 | i+1,n,out=>if out=[] then lnF l i (n+1) (out++wd l n) else lnF l i (n+2) ((if 0 < nxt l (n+1) 3 then out++[32] else out)++wd l n)
def rZ (l:List Int) (n:Nat) (m:Int):List UInt8 × Nat:=lnF l (nxt l n (m+1)).toNat (n+1) []
theorem tF (l:List Int):∀ (k n:Nat) (out:List UInt8),(lnF l k n out).1.length<=out.length+6*k
 | 0,n,out=>by simp [lnF]
 | k+1,n,out=>by
  have hl:=CE l n;simp only[lnF];split
  ·have:=tF l k (n+1) (out++wd l n);rw[length_append] at this;omega
  ·have:=tF l k (n+2) ((if 0 < nxt l (n+1) 3 then out++[32] else out)++wd l n)
   rw[length_append] at this
   split at this
   ·rename_i h;rw[if_pos h];simp only[length_append,length_cons,length_nil] at *;omega
   ·rename_i h;rw[if_neg h];omega
def fl (l:List Tk):List AV:=(tks l).flatten
theorem qJ (x y:List Tk):fl (x++y)=fl x++fl y:=by simp [fl,tks]
theorem xI (t:Tk):fl [t]=[.int .i64 t.1,.str t.2.1,.int .i64 t.2.2]:=rfl
theorem l5 (t:Tk) (l:List Tk):fl (t :: l)=.int .i64 t.1 :: .str t.2.1 :: .int .i64 t.2.2 :: fl l:=rfl
theorem jD:∀ l:List Tk,(fl l).length=l.length*3
 | []=>rfl
 | t :: l=>by rw[l5];simp only[length_cons,jD l];omega
theorem tQ:∀ l:List Tk,(fl l).all eE=true
 | []=>rfl
 | t :: l=>by rw[l5];simp only[all_cons,tQ l,eE,Bool.and_self]
theorem xJ (l:List Tk):bP (fl l)=true:=by
 cases l with
 | nil=>rfl
 | cons a l=>rfl
theorem K5 (o:List Tk) (t:Tk) (j:Nat):(fl (o++[t]))[o.length*3+j]?=[AV.int .i64 t.1,.str t.2.1,.int .i64 t.2.2][j]?:=by
 rw[qJ,xI,getElem?_append_right (by rw[jD];omega),jD]
 congr 1;omega
theorem NQ (o:List Tk) (t u:Tk):fX (o.length*3) [AV.int .i64 u.1,.str u.2.1,.int .i64 u.2.2] (fl (o++[t]))=some (fl (o++[u])):=by
 have:∀ (a:List AV),fX a.length [AV.int .i64 u.1,.str u.2.1,.int .i64 u.2.2] (a++[AV.int .i64 t.1,.str t.2.1,.int .i64 t.2.2])=some (a++[AV.int .i64 u.1,.str u.2.1,.int .i64 u.2.2]):=by
  intro a
  induction a with
  | nil=>rfl
  | cons x a ih=>simp only[length_cons,cons_append,w6,ih,Option.map_some]
 have h:=this (fl o);rw[jD] at h;rw[qJ,xI,qJ,xI];exact h
theorem DF (l:List Tk):cV 0 l.length 3 (fl l)=some (tks l):=by
 have h1:∀ l:List Tk,(fl l).all (fun x=>a9 (aH x))=true:=by
  intro l
  induction l with
  | nil=>rfl
  | cons a l ih=>rw[l5];simp only[all_cons,Bool.and_eq_true];exact⟨rfl,rfl,rfl,ih⟩
 have h2:∀ l:List Tk,(fl l).map aH=fl l:=by
  intro l
  induction l with
  | nil=>rfl
  | cons a l ih=>rw[l5];simp only[map_cons,ih,aH]
 have h3:∀ l:List Tk,cK 3 l.length (fl l)=tks l:=by
  intro l
  induction l with
  | nil=>rfl
  | cons a l ih=>rw[l5];simp only[length_cons,cK,take_succ_cons,take_zero,drop_succ_cons,drop_zero,ih];rfl
 unfold cV;have h4:((fl l).drop 0).take (l.length*3)=fl l:=by rw[drop_zero];exact take_of_length_le (by rw[jD];exact Nat.le_refl _)
 rw[h4,h2,h3,if_pos ⟨by decide,by rw[jD];omega,h1 l⟩]
def tot (l:List Tk):Nat:=(l.map fun t=>t.2.1.length).sum
theorem dP:tot []=0:=rfl
theorem cB (t:Tk) (l:List Tk):tot (t :: l)=t.2.1.length+tot l:=by simp [tot]
theorem d9 (x y:List Tk):tot (x++y)=tot x+tot y:=by simp [tot]
theorem kE (f:List It) (x:It):tot (pn f x)<=tot f+x.2.1.length/\(pn f x).length<=f.length+1:=by
 refine⟨?_,(M6 f x).2⟩;unfold pn;by_cases h:x.1=1
 ·rw[if_pos h]
  split
  ·omega
  ·rcases gY (f:=f) (x:=(1,x.2.1,0)) rfl with ⟨_,h2⟩ | ⟨g,y,rfl,hy,h2⟩
   ·rw[h2,d9];simp [tot]
   ·rw[h2,d9,d9];simp [tot];omega
 ·rw[if_neg h,d9];simp [tot]
def Stt (v:AV) (sh:LL) (out:List Tk):Prop:=
 (out=[]/\v=.sl .full 3 []/\sh=[])\/(∃ D o t,out=o++[t]/\v=.ss D.length 0 (o.length+1) 3/\sh=D++[fl (o++[t])])
theorem gD (D:LL) (c:List AV):(D++[c])[D.length]?=some c:=by simp
theorem sD (D:LL) (c x:List AV):(D++[c]).set D.length x=D++[x]:=by
 rw[set_append_right _ _ (Nat.le_refl _)];simp
theorem DU {f:List It} {i:Int}:pn f (1,[],i)=f:=rfl
theorem RC {f:List It} {k:Int} {s:Bs} {i:Int} (h:¬ k=1):pn f (k,s,i)=f++[(k,s,i)]:=by unfold pn;rw[if_neg h]
theorem DT {s:Bs} {i:Int} (h:s≠[]):pn [] (1,s,i)=[(1,s,0)]:=by simp [pn,h,Nt.put]
theorem IF {o:List It} {t:It} {s:Bs} {i:Int} (h:s≠[]) (ht:t.1=1):pn (o++[t]) (1,s,i)=o++[(1,t.2.1++s,0)]:=by simp [pn,h,Nt.put,ht]
theorem MH {o:List It} {t:It} {s:Bs} {i:Int} (h:s≠[]) (ht:¬ t.1=1):pn (o++[t]) (1,s,i)=o++[t]++[(1,s,0)]:=by simp [pn,h,Nt.put,ht]
theorem l57 (f:List Tk) (hf:f.length<=100000):∀ (k i:Nat) (out:List Tk) (v:AV) (sh:LL),i+k=f.length->out.length<=i->tot out+tot (f.drop i)<=1000000->Stt v sh out ->
  ∃ v' sh',Stt v' sh' ((f.drop i).foldl pn out) /\
   aD G0 jM (ST [(0,.sl .no 3 (tks f)),(3,v),(8,.int .i64 f.length),(9,.int .i64 i)] [] sh)=some (.ex 0,ST [(0,.sl .no 3 (tks f)),(3,v'),(8,.int .i64 f.length),(9,.int .i64 f.length),(10,.bool false)] [] sh')
 | 0,i,out,v,sh,h1,h2,h3,hst=>by
  have:i=f.length:=by omega
  subst this;refine⟨v,sh,by rw[drop_of_length_le (Nat.le_refl _)];exact hst,?_⟩;rcases hst with ⟨rfl,rfl,rfl⟩ | ⟨D,o,t,rfl,rfl,rfl⟩
  ·rw[aA (L:=jM) rfl]
   simp only[go_sem,Int.lt_irrefl]
  ·rw[aA (L:=jM) rfl]
   simp only[go_sem,Int.lt_irrefl]
 | k+1,i,out,v,sh,h1,h2,h3,hst=>by
  have hi:i < f.length:=by omega
  have h4:(i:Int) < (f.length:Int):=by omega
  have h0:(0:Int)<=(i:Int):=by omega
  have hw:=wI (i:=i) (by omega)
  have hg:f[i]?=some f[i]:=getElem?_eq_getElem hi;have hd:f.drop i=f[i] :: f.drop (i+1):=drop_eq_getElem_cons hi;generalize f[i]=T at hg hd;have hr:=bZ hg;obtain⟨kk,s,id⟩:=T;rw[hd] at h3 ⊢;rw[cB] at h3;simp only[foldl_cons];simp only[] at h3;by_cases c1:kk=1
  ·by_cases c2:s=[]
   ·subst c1 c2
    rw[DU];obtain⟨v',sh',p1,p4⟩:=l57 f hf k (i+1) out v sh (by omega) (by omega) (by simp only[length_nil] at h3;omega) hst;refine⟨v',sh',p1,?_⟩;rcases hst with ⟨rfl,rfl,rfl⟩ | ⟨D,o,t,rfl,rfl,rfl⟩
    ·rw[aA (L:=jM) rfl]
     simp only[go_sem,h4,h0,hr,hw];exact p4
    ·rw[aA (L:=jM) rfl]
     simp only[go_sem,h4,h0,hr,hw];exact p4
   ·subst c1
    have hne:(s == [])=false:=by simp [c2]
    rcases hst with ⟨rfl,rfl,rfl⟩ | ⟨D,o,t,rfl,rfl,rfl⟩
    ·rw[DT c2]
     obtain⟨v',sh',p1,p4⟩:=l57 f hf k (i+1) [(1,s,0)] (.ss 0 0 1 3) [fl [(1,s,0)]] (by omega) (by simp) (by simp only[cB,dP] at *;first | done | omega) (.inr ⟨[],[],(1,s,0),rfl,rfl,rfl⟩);refine⟨v',sh',p1,?_⟩;have ha:cG 32 1=true:=bH (by decide) (by decide);rw[aA (L:=jM) rfl];simp only[go_sem,h4,h0,hr,hw,hne,ha,Int.lt_irrefl];exact p4
    ·have hpos:(0:Int) < ((o.length+1:Nat):Int):=by omega
     have hlt:((o.length:Nat):Int) < ((o.length+1:Nat):Int):=by omega
     have hge:(0:Int)<=((o.length:Nat):Int):=by omega
     have hw3:IntKind.i64.wrap (((o.length+1:Nat):Int) - 1)=((o.length:Nat):Int):=by rw[w64 (by omega) (by simp at h2;omega)];omega
     have hat0:(fl (o++[t]))[o.length*3]?=some (.int .i64 t.1):=K5 o t 0;have hat1:(fl (o++[t]))[o.length*3+1]?=some (.str t.2.1):=K5 o t 1;by_cases c3:t.1=1
     ·rw[IF c2 c3]
      have hc:t.2.1.length+s.length<=140737488355328:=by simp only[d9,cB,dP] at h3;omega
      have hb:=xJ (o++[t]);have hp:fX (o.length*3) [.int .i64 1,.str (t.2.1++s),.int .i64 0] (fl (o++[t]))=some (fl (o++[(1,t.2.1++s,0)])):=NQ o t (1,t.2.1++s,0);obtain⟨v',sh',p1,p4⟩:=l57 f hf k (i+1) (o++[(1,t.2.1++s,0)]) (.ss D.length 0 (o.length+1) 3) (D++[fl (o++[(1,t.2.1++s,0)])]) (by omega) (by simp at h2 ⊢;omega) (by simp only[d9,cB,dP,length_append] at *;omega) (.inr ⟨D,o,_,rfl,rfl,rfl⟩);refine⟨v',sh',p1,?_⟩;rw[aA (L:=jM) rfl];simp only[go_sem,h4,h0,hr,hw,hne,hpos,hlt,hge,hw3,gD,sD,hat0,hat1,c3,Nat.add_zero,hc,hb,hp];exact p4
     ·rw[MH c2 c3]
      have h6:(o.length+1)*3=(fl (o++[t])).length:=by rw[jD];simp
      have ha:cG 32 (o.length+1+1)=true:=bH (by decide) (by simp at h2;omega);have hb:=xJ (o++[t]);have hn:=tQ (o++[t]);have e6:fl (o++[t])++[[AV.int .i64 1,.str s,.int .i64 0]].flatten=fl (o++[t]++[(1,s,0)]):=by rw[qJ (o++[t])];rfl
      have eL:(D++[fl (o++[t])]).length=(D++[bB]).length:=by simp
      obtain⟨v',sh',p1,p4⟩:=l57 f hf k (i+1) (o++[t]++[(1,s,0)]) (.ss (D++[bB]).length 0 (o.length+1+1) 3) ((D++[bB])++[fl (o++[t]++[(1,s,0)])]) (by omega) (by simp at h2 ⊢;omega) (by simp only[d9,cB,dP] at *;omega) (.inr ⟨D++[bB],o++[t],(1,s,0),rfl,by simp,rfl⟩);refine⟨v',sh',p1,?_⟩;rw[aA (L:=jM) rfl];simp only[go_sem,h4,h0,hr,hw,hne,hpos,hlt,hge,hw3,gD,sD,hat0,hat1,c3,Nat.add_zero,ha,hb,hn,h6,eL];rw[e6];exact p4
  ·rw[RC c1]
   rcases hst with ⟨rfl,rfl,rfl⟩ | ⟨D,o,t,rfl,rfl,rfl⟩
   ·rw[nil_append]
    obtain⟨v',sh',p1,p4⟩:=l57 f hf k (i+1) [(kk,s,id)] (.ss 0 0 1 3) [fl [(kk,s,id)]] (by omega) (by simp) (by simp only[cB,dP] at *;first | done | omega) (.inr ⟨[],[],(kk,s,id),rfl,rfl,rfl⟩);refine⟨v',sh',p1,?_⟩;have ha:cG 32 1=true:=bH (by decide) (by decide);rw[aA (L:=jM) rfl];simp only[go_sem,h4,h0,hr,hw,c1,ha];exact p4
   ·have h6:(o.length+1)*3=(fl (o++[t])).length:=by rw[jD];simp
    have ha:cG 32 (o.length+1+1)=true:=bH (by decide) (by simp at h2;omega);have hb:=xJ (o++[t]);have hn:=tQ (o++[t]);have e6:fl (o++[t])++[[AV.int .i64 kk,.str s,.int .i64 id]].flatten=fl (o++[t]++[(kk,s,id)]):=by rw[qJ (o++[t])];rfl
    have eL:(D++[fl (o++[t])]).length=(D++[bB]).length:=by simp
    obtain⟨v',sh',p1,p4⟩:=l57 f hf k (i+1) (o++[t]++[(kk,s,id)]) (.ss (D++[bB]).length 0 (o.length+1+1) 3) ((D++[bB])++[fl (o++[t]++[(kk,s,id)])]) (by omega) (by simp at h2 ⊢;omega) (by simp only[d9,cB,dP] at *;omega) (.inr ⟨D++[bB],o++[t],(kk,s,id),rfl,by simp,rfl⟩);refine⟨v',sh',p1,?_⟩;rw[aA (L:=jM) rfl];simp only[go_sem,h4,h0,hr,hw,c1,gD,sD,ha,hb,hn,h6,eL];rw[e6];exact p4
theorem c57 (f:List Tk) (hf:f.length<=100000) (ht:tot f<=1000000):G0 30 [.sl .no 3 (tks f)] []=some (.sl .no 3 (tks (nrm f)),[]):=by
 obtain⟨v,sh,p1,p4⟩:=l57 f hf f.length 0 [] (.sl .full 3 []) [] (by omega) (by simp) (by rw[drop_zero,dP];omega) (.inl ⟨rfl,rfl,rfl⟩);rw[drop_zero] at p1;have p1:Stt v sh (nrm f):=p1;generalize nrm f=g at p1 ⊢;refine aB F30 rfl rfl rfl ?_;simp only[go_sem] at p4;rcases p1 with ⟨rfl,rfl,rfl⟩ | ⟨D,o,t,rfl,rfl,rfl⟩
 ·simp only[F30,go_sem,aG,p4,eI]
 ·have hr:=DF (o++[t])
  simp only[length_append,length_cons,length_nil,Nat.zero_add] at hr;have hs:dE [] (D++[fl (o++[t])])=true:=rfl;have hk:eN false 0 (D++[fl (o++[t])])=true:=rfl;simp only[F30,go_sem,aG,p4,gD,hr,hs,hk,Nat.zero_le]
theorem c37 (f g:List Tk) (hf:f.length+g.length<=100000) (ht:tot f+tot g<=1000000):G0 18 [.sl .no 3 (tks f),.sl .no 3 (tks g)] []=some (.sl .no 3 (tks (nrm (f++g))),[]):=by
 have q3:=c57 (f++g) (by simpa using hf) (by rw[d9];exact ht);refine aB F18 rfl rfl rfl ?_;have ha:cG 32 f.length=true:=bH (by decide) (by omega);have ha2:cG 32 (f.length+g.length)=true:=bH (by decide) (by omega);simp only[F18,go_sem,bV .full .no (by decide) 3 32 (by decide),bV .own .no (by decide) 3 32 (by decide),aG,ha,ha2,dQ,q3]
theorem B6 {f:List Tk} (hv:VL f) (x:Tk) (hf:f.length<=10000) (ht:tot f+x.2.1.length<=100000):G0 18 [.sl .no 3 (tks f),.sl .no 3 [[.int .i64 x.1,.str x.2.1,.int .i64 x.2.2]]] []=some (.sl .no 3 (tks (pn f x)),[]):=by
 have:=c37 f [x] (by simp only[length_cons,length_nil];omega) (by rw[cB,dP];omega)
 rw[uZ hv] at this;exact this
end Go.Av
namespace Go.Av
open Go.Nt
set_option maxHeartbeats 8000000
theorem EF (l:List Int):∀ (k n:Nat) (out:List UInt8),(lnF l k n out).2<=n+2*k
 | 0,n,out=>by simp [lnF]
 | k+1,n,out=>by
  simp only[lnF];split
  ·have:=EF l k (n+1) (out++wd l n);omega
  ·have:=EF l k (n+2) ((if 0 < nxt l (n+1) 3 then out++[32] else out)++wd l n);omega
theorem R3 (l:List Int) (n:Nat):(rZ l n 3).1.length<=18/\(rZ l n 3).2<=n+10:=by
 have hb:=gS l n 4 (by omega);have h1:=tF l (nxt l n 4).toNat (n+1) [];have h2:=EF l (nxt l n 4).toNat (n+1) [];simp only[length_nil] at h1;show (lnF l (nxt l n 4).toNat (n+1) []).1.length<=18/\(lnF l (nxt l n 4).toNat (n+1) []).2<=n+10;omega
def tbA:List (List UInt8):=[[110],[110,97,109,101],[120,49]]
def tbB:List (List UInt8):=[[98,114],[105,109,103,32,97]]
def tbC:List (List UInt8):=[[98],[105],[97,32,104,61,49]]
theorem CL (tb:List (List UInt8)) (hl:∀ i,(tb.getD i []).length<=5) (l:List Int) (n:Nat) (m:Int) (hm:1<=m) (h:m=(tb.length:Int)):∃ x:List UInt8,x∈tb/\x.length<=5/\(wP tb)[(nxt l n m).toNat]?=some [.str x]/\0<=nxt l n m:=by
 have hb:=gS l n m hm;refine⟨tb.getD (nxt l n m).toNat [],?_,hl _,?_,hb.1⟩
 ·rw[getD_eq_getElem?_getD,getElem?_eq_getElem (by omega)];exact getElem_mem _
 apply yC;rw[getD_eq_getElem?_getD,getElem?_eq_getElem (by omega)];rfl
theorem VY:∀ i,(tbA.getD i []).length<=5
 | 0=>by decide
 | 1=>by decide
 | 2=>by decide
 | i+3=>by simp [tbA]
theorem VX:∀ i,(tbB.getD i []).length<=5
 | 0=>by decide
 | 1=>by decide
 | i+2=>by simp [tbB]
theorem VW:∀ i,(tbC.getD i []).length<=5
 | 0=>by decide
 | 1=>by decide
 | 2=>by decide
 | i+3=>by simp [tbC]
theorem LS:∀ x∈tbA,dS x=true:=by decide
theorem QB:∀ x∈tbB,isC x=true:=by decide
theorem QA:∀ x∈tbC,isC x=true:=by decide
theorem pA {l:List Tk} {j:Nat} {t:Tk} (h:l[j]?=some t):l=l.take j++t :: l.drop (j+1):=by
 have hj:j < l.length:=by
  by_cases q:j < l.length
  ·exact q
  ·rw[getElem?_eq_none (by omega)] at h;cases h
 rw[getElem?_eq_getElem hj] at h;simp only[Option.some.injEq] at h
 conv=>lhs;rw[<- take_append_drop j l,drop_eq_getElem_cons hj,h]
theorem xC:∀ f:List Tk,len f<=tot f+f.length
 | []=>by simp [len,tot]
 | t :: f=>by
  have ih:=xC f;have e:len (t :: f)=wid t+len f:=by simp [len]
  have hw:wid t<=t.2.1.length+1:=by unfold wid;split<;>omega
  rw[e,cB,length_cons];omega
theorem mA:fD 1 [.str []] 3 [0,1,2] [.str [110],.str [110,97,109,101],.str [120,49]]=some (.sl .full 1 (wP tbA)):=by rfl
theorem mB:fD 1 [.str []] 2 [0,1] [.str [98,114],.str [105,109,103,32,97]]=some (.sl .full 1 (wP tbB)):=by rfl
theorem mC:fD 1 [.str []] 3 [0,1,2] [.str [98],.str [105],.str [97,32,104,61,49]]=some (.sl .full 1 (wP tbC)):=by rfl
end Go.Av
namespace Go.Av
open Go.Nt
set_option maxHeartbeats 8000000
theorem p9 (t:Tk) (f:List Tk):len (t :: f)=wid t+len f:=by simp [len]
theorem IP:len []=0:=rfl
abbrev gL:Nat:=140737488355328
theorem l67 (f:List Tk) (hl:f.length<=10000) (hb:∀ t∈f,t.2.1.length<=gL):∀ (k i n:Nat),i+k=f.length->n<=i*gL ->
  aD G0 AY (ST [(3,.int .i64 n),(6,.sl .no 3 (tks f)),(7,.int .i64 f.length),(8,.int .i64 i)] [] [])=some (.ex 0,ST [(3,.int .i64 ((n+len (f.drop i):Nat):Int)),(6,.sl .no 3 (tks f)),(7,.int .i64 f.length),(8,.int .i64 f.length),(9,.bool false)] [] [])
 | 0,i,n,h,hn=>by
  have:i=f.length:=by omega
  subst this;rw[aA (L:=AY) rfl];simp only[go_sem,Int.lt_irrefl,drop_length,IP,Nat.add_zero]
 | k+1,i,n,h,hn=>by
  have hi:i < f.length:=by omega
  have h4:(i:Int) < (f.length:Int):=by omega
  have h0:(0:Int)<=(i:Int):=by omega
  have hw:=wI (i:=i) (by omega)
  have hg:f[i]?=some f[i]:=getElem?_eq_getElem hi;have hd:f.drop i=f[i] :: f.drop (i+1):=drop_eq_getElem_cons hi;have hm:=hb _ (getElem_mem hi);generalize f[i]=T at hg hd hm;have hr:=bZ hg;obtain⟨kk,s,id⟩:=T;simp only[] at hm hr;have c96:=c96 kk s id;have hwd:wid (kk,s,id)<=s.length+1:=by unfold wid;split<;>(first | omega | (simp only[];omega))
  have hwd2:wid (kk,s,id)<=gL:=by unfold wid gL;split<;>(first | omega | (simp only[];omega))
  rw[hd,p9];generalize wid (kk,s,id)=w at *;simp only[gL] at *;have hw2:IntKind.i64.wrap ((n:Int)+(w:Int))=((n+w:Nat):Int):=by rw[w64 (by omega) (by omega)];rfl
  have ih:=l67 f hl hb k (i+1) (n+w) (by omega) (by simp only[gL];omega);rw[aA (L:=AY) rfl];simp only[go_sem,h4,h0,hr,hw,c96,hw2];rw[Nat.add_assoc] at ih;exact ih
theorem c67 (f:List Tk) (hl:f.length<=10000) (hb:∀ t∈f,t.2.1.length<=gL):G0 32 [.sl .no 3 (tks f)] []=some (.int .i64 (len f:Nat),[]):=by
 refine aB F32 rfl rfl rfl ?_;have x:=l67 f hl hb f.length 0 0 (by omega) (by omega);have ec:((0:Nat):Int)=0:=rfl;rw[ec] at x;simp only[Nat.zero_add,drop_zero] at x;simp only[F32,go_sem,aG,x]
theorem l70 (B:List Tk) (hl:B.length<=1000000) (hb:∀ t∈B,t.1=2->t.2.1.length<=1000000) (k0:Int) (s0:Bs) (i0:Int):∀ (k i:Nat),i+k=B.length ->
  ((B.drop i).any (dC (k0,s0,i0))=false->aD G0 kC (ST [(3,.loc 3 0),(7,.sl .no 3 (tks B)),(8,.int .i64 B.length),(9,.int .i64 i)] [(3,some [.int .i64 k0,.str s0,.int .i64 i0])] [])=some (.ex 0,ST [(3,.loc 3 0),(7,.sl .no 3 (tks B)),(8,.int .i64 B.length),(9,.int .i64 B.length),(10,.bool false)] [(3,some [.int .i64 k0,.str s0,.int .i64 i0])] [])) /\
  ((B.drop i).any (dC (k0,s0,i0))=true->∃ l' m',aD G0 kC (ST [(3,.loc 3 0),(7,.sl .no 3 (tks B)),(8,.int .i64 B.length),(9,.int .i64 i)] [(3,some [.int .i64 k0,.str s0,.int .i64 i0])] [])=some (.ret,ST l' m' [])/\aE .any l' 4=.bool false)
 | 0,i,h=>by
  have:i=B.length:=by omega
  subst this;refine⟨fun _=>?_,fun h=>(by simp at h)⟩;rw[aA (L:=kC) rfl];simp only[go_sem,Int.lt_irrefl]
 | k+1,i,h=>by
  have hi:i < B.length:=by omega
  have h4:(i:Int) < (B.length:Int):=by omega
  have h0:(0:Int)<=(i:Int):=by omega
  have hw:=wI (i:=i) (by omega)
  have hg:B[i]?=some B[i]:=getElem?_eq_getElem hi;have hd:B.drop i=B[i] :: B.drop (i+1):=drop_eq_getElem_cons hi;have hm:=hb _ (getElem_mem hi);generalize B[i]=T at hg hd hm;have hr:=bZ hg;obtain⟨kk,s,id⟩:=T;simp only[] at hm hr;have c69:=c69 kk s id;have ih:=l70 B hl hb k0 s0 i0 k (i+1) (by omega);rw[hd,any_cons];have ec:dC (k0,s0,i0) (kk,s,id)=(aY (kk,s,id) && decide (id=i0) && !(decide (k0=3) && decide (kk=2) && (bU s == s0))):=rfl;have step:dC (k0,s0,i0) (kk,s,id)=false->aD G0 kC (ST [(3,.loc 3 0),(7,.sl .no 3 (tks B)),(8,.int .i64 B.length),(9,.int .i64 i)] [(3,some [.int .i64 k0,.str s0,.int .i64 i0])] [])=aD G0 kC (ST [(3,.loc 3 0),(7,.sl .no 3 (tks B)),(8,.int .i64 B.length),(9,.int .i64 ((i+1:Nat):Int))] [(3,some [.int .i64 k0,.str s0,.int .i64 i0])] []):=by
   intro hc;rw[ec] at hc
   conv=>lhs;rw[aA (L:=kC) rfl]
   cases ht:aY (kk,s,id) with
   | false =>
    rw[ht] at c69;simp only[go_sem,h4,h0,hr,hw,c69]
   | true =>
    rw[ht] at c69 hc;by_cases h1:id=i0
    ·subst h1
     simp only[decide_true,Bool.true_and,Bool.not_eq_false',Bool.and_eq_true,decide_eq_true_eq,beq_iff_eq] at hc;obtain⟨⟨rfl,rfl⟩,h3⟩:=hc;have c98:=c98 s (hm rfl);rw[h3] at c98;have e:(s0 != s0)=false:=by simp
     simp only[go_sem,h4,h0,hr,hw,c69,c98,e]
    ·simp only[go_sem,h4,h0,hr,hw,c69,h1]
  cases hc:dC (k0,s0,i0) (kk,s,id) with
  | false =>
   rw[step hc,Bool.false_or];exact ih
  | true =>
   rw[Bool.true_or];refine⟨fun q=>(by cases q),fun _=>?_⟩;rw[ec] at hc;simp only[Bool.and_eq_true,decide_eq_true_eq,Bool.not_eq_true'] at hc;obtain⟨⟨ht,rfl⟩,hx⟩:=hc;rw[ht] at c69;by_cases h1:k0=3
   ·subst h1
    by_cases h2:kk=2
    ·subst h2
     have c98:=c98 s (hm rfl);simp only[decide_true,Bool.true_and,beq_eq_false_iff_ne] at hx;have e:(bU s != s0)=true:=by simp [hx]
     refine Exists.intro ?_ (Exists.intro ?_ (And.intro ?_ ?_))
     rotate_left 2
     ·rw[aA (L:=kC) rfl]
      simp only[go_sem,h4,h0,hr,hw,c69,c98,e];rfl
     ·rfl
    ·refine Exists.intro ?_ (Exists.intro ?_ (And.intro ?_ ?_))
     rotate_left 2
     ·rw[aA (L:=kC) rfl]
      simp only[go_sem,h4,h0,hr,hw,c69,h2];rfl
     ·rfl
   ·refine Exists.intro ?_ (Exists.intro ?_ (And.intro ?_ ?_))
    rotate_left 2
    ·rw[aA (L:=kC) rfl]
     simp only[go_sem,h4,h0,hr,hw,c69,h1];rfl
    ·rfl
theorem c70 (B:List Tk) (hl:B.length<=1000000) (hb:∀ t∈B,t.1=2->t.2.1.length<=1000000) (k0:Int) (s0:Bs) (i0:Int):G0 35 [.sl .no 3 (tks B),.agg [.int .i64 k0,.str s0,.int .i64 i0]] []=some (.bool (jE B (k0,s0,i0)),[]):=by
 refine aB F35 rfl rfl rfl ?_;obtain⟨x1,x2⟩:=l70 B hl hb k0 s0 i0 B.length 0 (by omega);have ec:((0:Nat):Int)=0:=rfl;rw[drop_zero,ec] at x1 x2;unfold jE;cases h:B.any (dC (k0,s0,i0)) with
 | false=>simp only[F35,go_sem,aG,x1 h]
 | true =>
  obtain⟨l',m',y1,y2⟩:=x2 h;simp only[F35,go_sem,aG,y1,y2]
end Go.Av
namespace Go.Av
open Go.Nt
set_option maxHeartbeats 8000000
theorem xD {f:List Tk} {i:Nat} {y:Tk} (h:f[i]?=some y):f7 (f.take (i+1))=y.1:=by
 have hi:i < f.length:=by
  by_cases q:i < f.length
  ·exact q
  ·rw[getElem?_eq_none (by omega)] at h;cases h
 rw[getElem?_eq_getElem hi] at h;simp only[Option.some.injEq] at h;rw[take_succ_eq_append_getElem hi,h,dM]
theorem lQ {s:Bs} (h:s≠[]):(s != ([]:Bs))=true:=by simp [h]
theorem c68 (f:List Tk) (hl:f.length<=1000000) (i:Nat) (k:Int) (s:Bs) (id:Int) (hi:f[i]?=some (k,s,id)):G0 33 [.sl .no 3 (tks f),.int .i64 i] []=some (.bool (wfB (f.take i) (k,s,id)),[]):=by
 refine aB F33 rfl rfl rfl ?_;have h0:(0:Int)<=(i:Int):=by omega
 have hlt:i < f.length:=by
  by_cases q:i < f.length
  ·exact q
  ·rw[getElem?_eq_none (by omega)] at hi;cases hi
 have hr:=bZ hi;simp only[] at hr;have z0:((([]:Bs) != ([]:Bs))=false):=rfl;by_cases k1:k=1
 ·subst k1
  by_cases h1:s=[]
  ·subst h1
   have e:wfB (f.take i) (1,[],id)=false:=rfl;rw[e];simp only[F33,go_sem,h0,hr,z0]
  by_cases h2:id=0
  ·subst h2
   cases i with
   | zero =>
    have e:wfB (f.take 0) (1,s,0)=true:=by simp [wfB,h1,f7]
    rw[e];have hz:((0:Nat):Int)=0:=rfl;rw[hz] at *;have hr:(tks f)[0]?=some [.int .i64 1,.str s,.int .i64 0]:=hr;simp only[F33,go_sem,h0,hr,lQ h1]
   | succ j =>
    have hg:f[j]?=some f[j]:=getElem?_eq_getElem (by omega);generalize f[j]=Y at hg;have hr2:=bZ hg;have hK:=xD hg;have n0:¬ ((j+1:Nat):Int)=0:=by omega
    have w1:IntKind.i64.wrap (((j+1:Nat):Int) - 1)=(j:Int):=by rw[w64 (by omega) (by omega)];omega
    have j0:(0:Int)<=(j:Int):=by omega
    by_cases h3:Y.1=1
    ·have e:wfB (f.take (j+1)) (1,s,0)=false:=by simp [wfB,hK,h3]
     rw[e];simp only[F33,go_sem,h0,hr,lQ h1,n0,w1,j0,hr2,h3]
    ·have e:wfB (f.take (j+1)) (1,s,0)=true:=by simp [wfB,hK,h3,h1]
     rw[e];simp only[F33,go_sem,h0,hr,lQ h1,n0,w1,j0,hr2,h3]
  ·have e:wfB (f.take i) (1,s,id)=false:=by simp [wfB,h2]
   rw[e];simp only[F33,go_sem,h0,hr,lQ h1,h2]
 by_cases k5:k=5
 ·subst k5
  have e:wfB (f.take i) (5,s,id)=(dS s && decide (id=0)):=rfl;rw[e];have h83:=c83 s;cases hn:dS s with
  | false =>
   rw[hn] at h83;simp only[F33,go_sem,h0,hr,h83,Bool.false_and]
  | true =>
   rw[hn] at h83;by_cases h2:id=0
   ·simp only[F33,go_sem,h0,hr,h83,h2,Bool.true_and,decide_true]
   ·simp only[F33,go_sem,h0,hr,h83,h2,Bool.true_and,decide_false]
 by_cases k2:k=2\/k=4
 ·have e:wfB (f.take i) (k,s,id)=(isC s && (decide (1<=id) && decide (id<=999))):=by rcases k2 with rfl | rfl<;>rfl
  rw[e];have h97:=c97 s;rcases k2 with rfl | rfl
  all_goals
   cases hn:isC s with
   | false =>
    rw[hn] at h97;simp only[F33,go_sem,h0,hr,h97,Bool.false_and]
   | true =>
    rw[hn] at h97;by_cases h2:1<=id
    ·by_cases h3:id<=999
     ·simp only[F33,go_sem,h0,hr,h97,h2,h3,Bool.true_and,decide_true]
     ·simp only[F33,go_sem,h0,hr,h97,h2,h3,Bool.true_and,decide_true,decide_false]
    ·simp only[F33,go_sem,h0,hr,h97,h2,Bool.true_and,decide_false,Bool.false_and]
 have k2':¬ k=2:=fun q=>k2 (.inl q)
 have k4':¬ k=4:=fun q=>k2 (.inr q)
 by_cases k3:k=3
 ·subst k3
  have e:wfB (f.take i) (3,s,id)=(dS s && (decide (1<=id) && decide (id<=999))):=rfl;rw[e];have h83:=c83 s;cases hn:dS s with
  | false =>
   rw[hn] at h83;simp only[F33,go_sem,h0,hr,h83,Bool.false_and]
  | true =>
   rw[hn] at h83;by_cases h2:1<=id
   ·by_cases h3:id<=999
    ·simp only[F33,go_sem,h0,hr,h83,h2,h3,Bool.true_and,decide_true]
    ·simp only[F33,go_sem,h0,hr,h83,h2,h3,Bool.true_and,decide_true,decide_false]
   ·simp only[F33,go_sem,h0,hr,h83,h2,Bool.true_and,decide_false,Bool.false_and]
 ·have e:wfB (f.take i) (k,s,id)=false:=by simp [wfB,k1,k5,k2',k4',k3]
  rw[e];simp only[F33,go_sem,h0,hr,k1,k5,k2',k4',k3]
theorem JR {f:List Tk} {x:Tk} (h:chk f x=0) (hx:x.1=2):x.2.1.length<=1000000:=by
 obtain⟨k,s,i⟩:=x;simp only[] at hx;subst hx;have hc:isC s=true:=by
  cases q:isC s with
  | true=>rfl
  | false=>simp [chk,q] at h
 unfold isC at hc;simp only[Bool.and_eq_true,decide_eq_true_eq] at hc
 have:=hc.1.1.1.1
 simp only[];omega
theorem OI {f:List Tk} (h:VL f):∀ t∈f,t.1=2->t.2.1.length<=1000000:=by
 suffices ∀ (n:Nat) (f:List Tk),f.length=n->VL f->∀ t∈f,t.1=2->t.2.1.length<=1000000 from this _ f rfl h
 intro n
 induction n with
 | zero=>intro f hf _ t ht;rw[eq_nil_of_length_eq_zero hf] at ht;cases ht
 | succ n ih =>
  intro f hf hv t ht h2;rcases eT f with rfl | ⟨g,y,rfl⟩
  ·cases ht
  ·obtain⟨a,b⟩:=(cU g y).1 hv
   rcases mem_append.1 ht with q | q
   ·exact ih g (by simp at hf;exact hf) a t q h2
   ·simp only[mem_singleton] at q;subst q;exact JR b h2
theorem mS {f:List Tk} {i:Nat} {t:Tk} (h:f[i]?=some t):f.take (i+1)=f.take i++[t]:=by
 have hi:i < f.length:=by
  by_cases q:i < f.length
  ·exact q
  ·rw[getElem?_eq_none (by omega)] at h;cases h
 rw[getElem?_eq_getElem hi] at h;simp only[Option.some.injEq] at h;rw[take_succ_eq_append_getElem hi,h]
theorem B3 {f:List Tk} {i:Nat} {t:Tk} (h:f[i]?=some t):dI (f.take i) (f.drop i)=if chk (f.take i) t≠0 then chk (f.take i) t else dI (f.take (i+1)) (f.drop (i+1)):=by
 have hi:i < f.length:=by
  by_cases q:i < f.length
  ·exact q
  ·rw[getElem?_eq_none (by omega)] at h;cases h
 have hd:f.drop i=f[i] :: f.drop (i+1):=drop_eq_getElem_cons hi;rw[mS h];rw[getElem?_eq_getElem hi] at h;simp only[Option.some.injEq] at h;rw[hd,h];rfl
theorem AE {f:List Tk} {i:Nat} {t:Tk} (h:f[i]?=some t) (hv:VL (f.take i)) (hc:chk (f.take i) t=0):VL (f.take (i+1)):=by
 rw[mS h];exact (cU _ _).2 ⟨hv,hc⟩
theorem CH (f:List Tk) (i:Nat):(tks f).take i=tks (f.take i):=by simp [tks,map_take]
theorem s4 (f:List Tk) (i:Nat) (hi:i<=f.length):b8 false 3 (.sl .no 3 (tks f)) none (some (.int .i64 (i:Int)))=some (.sl .no 3 (tks (f.take i))):=by
 unfold b8 cQ rV;have h0:(0:Int)<=(i:Int):=by omega
 have h1:(0:Nat)<=i/\i<=(tks f).length/\((3:Nat)=3\/tks f=[]):=⟨by omega,by rw[aG];exact hi,.inl rfl⟩
 simp only[h0,if_true,Int.toNat_natCast];rw[if_pos ⟨h1.1,h1.2.1,.inl trivial⟩,drop_zero,CH]
theorem l46 (f:List Tk) (hl:f.length<=1000000):∀ (k i:Nat),i+k=f.length->VL (f.take i) ->
  (dI (f.take i) (f.drop i)=0->∃ l' m',aD G0 iP (ST [(0,.sl .no 3 (tks f)),(12,.bool false),(13,.sl .no 3 (tks f)),(14,.int .i64 f.length),(15,.int .i64 i)] [] [])=some (.ex 0,ST l' m' [])) /\
  (dI (f.take i) (f.drop i)≠0->∃ l' m',aD G0 iP (ST [(0,.sl .no 3 (tks f)),(12,.bool false),(13,.sl .no 3 (tks f)),(14,.int .i64 f.length),(15,.int .i64 i)] [] [])=some (.ret,ST l' m' [])/\aE .any l' 2=.int .i64 (dI (f.take i) (f.drop i)))
 | 0,i,h,hv=>by
  have:i=f.length:=by omega
  subst this;refine⟨fun _=>?_,fun h=>(by simp [dI] at h)⟩;refine Exists.intro ?_ (Exists.intro ?_ ?_)
  rotate_left 2
  rw[aA (L:=iP) rfl];simp only[go_sem,Int.lt_irrefl];rfl
 | k+1,i,h,hv=>by
  have hi:i < f.length:=by omega
  have h4:(i:Int) < (f.length:Int):=by omega
  have h0:(0:Int)<=(i:Int):=by omega
  have hw:=wI (i:=i) (by omega)
  have hg:f[i]?=some f[i]:=getElem?_eq_getElem hi;generalize f[i]=T at hg;have hr:=bZ hg;obtain⟨kk,s,id⟩:=T;simp only[] at hr;have c68:=c68 f hl i kk s id hg;have c69:=c69 kk s id;have c70:=c70 (f.take i) (by simp;omega) (OI hv) kk s id;have hsl:=s4 f i (by omega);have ih:=fun hv=>l46 f hl k (i+1) (by omega) hv
  rw[B3 hg];rw[mH] at *;cases hwf:wfB (f.take i) (kk,s,id) with
  | false =>
   rw[hwf] at c68;simp only[Bool.false_eq_true,if_false];refine⟨fun q=>(by simp at q),fun _=>?_⟩;refine Exists.intro ?_ (Exists.intro ?_ (And.intro ?_ ?_))
   rotate_left 2
   ·rw[aA (L:=iP) rfl]
    simp only[go_sem,h4,h0,hr,hw,c68];rfl
   ·rfl
  | true =>
   rw[hwf] at c68;cases hT:aY (kk,s,id) with
   | false =>
    rw[hT] at c69;have h00:chk (f.take i) (kk,s,id)=0:=by rw[mH,hwf,hT];rfl
    simp only[if_true,Bool.false_eq_true,if_false,ne_eq,not_true_eq_false];have step:aD G0 iP (ST [(0,.sl .no 3 (tks f)),(12,.bool false),(13,.sl .no 3 (tks f)),(14,.int .i64 f.length),(15,.int .i64 i)] [] [])=aD G0 iP (ST [(0,.sl .no 3 (tks f)),(12,.bool false),(13,.sl .no 3 (tks f)),(14,.int .i64 f.length),(15,.int .i64 ((i+1:Nat):Int))] [] []):=by
     conv=>lhs;rw[aA (L:=iP) rfl]
     simp only[go_sem,h4,h0,hr,hw,c68,c69]
    rw[step];exact ih (AE hg hv h00)
   | true =>
    rw[hT] at c69;cases hF:jE (f.take i) (kk,s,id) with
    | true =>
     rw[hF] at c70;have h00:chk (f.take i) (kk,s,id)=0:=by rw[mH,hwf,hT,hF];rfl
     simp only[if_true,Bool.false_eq_true,if_false,ne_eq,not_true_eq_false];have step:aD G0 iP (ST [(0,.sl .no 3 (tks f)),(12,.bool false),(13,.sl .no 3 (tks f)),(14,.int .i64 f.length),(15,.int .i64 i)] [] [])=aD G0 iP (ST [(0,.sl .no 3 (tks f)),(12,.bool false),(13,.sl .no 3 (tks f)),(14,.int .i64 f.length),(15,.int .i64 ((i+1:Nat):Int))] [] []):=by
      conv=>lhs;rw[aA (L:=iP) rfl]
      simp only[go_sem,h4,h0,hr,hw,c68,c69,hsl,c70]
     rw[step];exact ih (AE hg hv h00)
    | false =>
     rw[hF] at c70;simp only[if_true,Bool.false_eq_true,if_false,ne_eq];refine⟨fun q=>(by simp at q),fun _=>?_⟩;refine Exists.intro ?_ (Exists.intro ?_ (And.intro ?_ ?_))
     rotate_left 2
     ·rw[aA (L:=iP) rfl]
      simp only[go_sem,h4,h0,hr,hw,c68,c69,hsl,c70];rfl
     ·rfl
theorem c46 (f:List Tk) (hl:f.length<=1000000) (hb:∀ t∈f,t.2.1.length<=gL):G0 20 [.sl .no 3 (tks f)] []=some (.int .i64 (vld f),[]):=by
 refine aB F20 rfl rfl rfl ?_;unfold vld;by_cases h1:512 < f.length
 ·have h1':(512:Int) < (f.length:Int):=by omega
  rw[if_pos (.inl h1)];simp only[F20,go_sem,aG,h1']
 have h1':¬ (512:Int) < (f.length:Int):=by omega
 have c67:=c67 f (by omega) hb;by_cases h2:1024 < len f
 ·have h2':(1024:Int) < (len f:Int):=by omega
  rw[if_pos (.inr h2)];simp only[F20,go_sem,aG,h1',c67,h2']
 have h2':¬ (1024:Int) < (len f:Int):=by omega
 rw[if_neg (by omega)];obtain⟨x1,x2⟩:=l46 f hl f.length 0 (by omega) rfl;have ec:((0:Nat):Int)=0:=rfl;rw[drop_zero,take_zero,ec] at x1 x2;by_cases h:dI [] f=0
 ·obtain⟨l',m',y⟩:=x1 h
  rw[h];simp only[F20,go_sem,aG,h1',c67,h2',y,eF,eV,not_mem_nil,if_true,if_false]
 ·obtain⟨l',m',y1,y2⟩:=x2 h
  simp only[F20,go_sem,aG,h1',c67,h2',y1,y2]
end Go.Av
