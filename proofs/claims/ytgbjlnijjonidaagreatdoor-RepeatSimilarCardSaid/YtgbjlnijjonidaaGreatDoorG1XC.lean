/- Bytes and names: the functions of one byte, and the two tests of a name. How a byte is written and read; numbers in decimal. Numbers below 1000 in decimal: the reference's, and strconv.Itoa. Numbers below 1000 by strconv.Itoa. strconv.Itoa below 1000. Finding a byte, cutting at it, prefixes and suffixes of one byte; names of tags; the number of a tag. The name of a content, the number of a tag, the test of a content. Kinds of items, tags, elements: what the package reads. -/
import Derived.Test.YtgbjlnijjonidaaGreatDoorG1Sm
import Derived.Test.YtgbjlnijjonidaaGreatDoorG1XA
import Derived.IntWalk
open List
set_option linter.unusedSimpArgs false
set_option linter.unusedVariables false
set_option linter.unusedSectionVars false
set_option maxRecDepth 100000
set_option maxHeartbeats 16000000
namespace Go.Av
open Go.Nt
set_option maxHeartbeats 4000000
abbrev bI (c:UInt8):Int:=(c.toNat:Int)
theorem wu8 {n:Int} (h1:0<=n) (h2:n<=255):IntKind.u8.wrap n=n:=by
 unfold IntKind.wrap;have e:IntKind.u8.bits=8:=rfl;simp only[e,IntKind.signed,Bool.false_and,Bool.false_eq_true,if_false];omega
def cA (x:Int):Int:=if x=9\/x=10\/x=13\/x=32 then 2 else if x < 32\/x=127 then 1 else if 48<=x/\x<=57 then 3 else if 97<=x/\x<=122\/65<=x/\x<=90\/128<=x then 4 else 5
theorem L4 (x:Int):G0 49 [.int .u8 x] []=some (.int .i64 (cA x),[]):=by
 refine aB F49 rfl rfl rfl ?_;by_cases h1:x=9
 ·subst h1;simp only[F49,go_sem,cA,true_or,or_true]
 by_cases h2:x=10
 ·subst h2;simp only[F49,go_sem,cA,true_or,or_true]
 by_cases h3:x=13
 ·subst h3;simp only[F49,go_sem,cA,true_or,or_true]
 by_cases h4:x=32
 ·subst h4;simp only[F49,go_sem,cA,true_or,or_true]
 by_cases h5:x < 32
 ·simp only[F49,go_sem,cA,h1,h2,h3,h4,h5,true_or,or_true,or_self]
 by_cases h6:x=127
 ·subst h6;simp only[F49,go_sem,cA,true_or,or_true,or_self]
 by_cases a1:48<=x<;>by_cases a2:x<=57<;>by_cases a3:97<=x<;>by_cases a4:x<=122<;>by_cases a5:65<=x<;>by_cases a6:x<=90<;>by_cases a7:128<=x<;>first | (exfalso;omega) | simp only[F49,go_sem,cA,h1,h2,h3,h4,h5,h6,a1,a2,a3,a4,a5,a6,a7,true_or,or_true,or_self,or_false,false_or]
theorem VX (x:Int):G0 81 [.int .u8 x] []=some (.int .i64 (cA x),[]):=by
 refine aB F81 rfl rfl rfl ?_;by_cases h1:x=9
 ·subst h1;simp only[F81,go_sem,cA,true_or,or_true]
 by_cases h2:x=10
 ·subst h2;simp only[F81,go_sem,cA,true_or,or_true]
 by_cases h3:x=13
 ·subst h3;simp only[F81,go_sem,cA,true_or,or_true]
 by_cases h4:x=32
 ·subst h4;simp only[F81,go_sem,cA,true_or,or_true]
 by_cases h5:x < 32
 ·simp only[F81,go_sem,cA,h1,h2,h3,h4,h5,true_or,or_true,or_self]
 by_cases h6:x=127
 ·subst h6;simp only[F81,go_sem,cA,true_or,or_true,or_self]
 by_cases a1:48<=x<;>by_cases a2:x<=57<;>by_cases a3:97<=x<;>by_cases a4:x<=122<;>by_cases a5:65<=x<;>by_cases a6:x<=90<;>by_cases a7:128<=x<;>first | (exfalso;omega) | simp only[F81,go_sem,cA,h1,h2,h3,h4,h5,h6,a1,a2,a3,a4,a5,a6,a7,true_or,or_true,or_self,or_false,false_or]
def gJ (x:Int):Bool:=if x=92 then false else if x=60 then false else if x=123 then false else if x=9 then false else if x=10 then false else if x=13 then false else !decide (cA x=1)
theorem F2 (c:UInt8):plain c=gJ (bI c):=by
 have:=gW (fun c=>plain c == gJ (bI c)) (by decide +kernel) c
 simpa using this
theorem c77 (c:UInt8):G0 83 [.int .u8 (bI c)] []=some (.bool (plain c),[]):=by
 refine aB F83 rfl rfl rfl ?_;rw[F2];generalize bI c=x;by_cases h1:x=92
 ·simp only[F83,go_sem,gJ,h1]
 by_cases h2:x=60
 ·simp only[F83,go_sem,gJ,h1,h2]
 by_cases h3:x=123
 ·simp only[F83,go_sem,gJ,h1,h2,h3]
 by_cases h4:x=9
 ·simp only[F83,go_sem,gJ,h1,h2,h3,h4]
 by_cases h5:x=10
 ·simp only[F83,go_sem,gJ,h1,h2,h3,h4,h5]
 by_cases h6:x=13
 ·simp only[F83,go_sem,gJ,h1,h2,h3,h4,h5,h6]
 by_cases h7:cA x=1
 ·simp only[F83,go_sem,gJ,h1,h2,h3,h4,h5,h6,L4,h7]
 ·simp only[F83,go_sem,gJ,h1,h2,h3,h4,h5,h6,L4,h7]
theorem IR (c:UInt8):nmB c=true↔(97<=bI c/\bI c<=122)\/(48<=bI c/\bI c<=57)\/bI c=45:=by
 unfold nmB jS bI;simp only[Bool.or_eq_true,Bool.and_eq_true,decide_eq_true_eq];omega
theorem CO (c:UInt8):jS c=true↔(97<=bI c/\bI c<=122):=by
 unfold jS bI;simp only[Bool.and_eq_true,decide_eq_true_eq];omega
theorem BB {s:Bs} {i:Nat} (h:i < s.length):∃ c,s[i]?=some c/\s.drop i=c :: s.drop (i+1):=⟨s[i],getElem?_eq_getElem h,drop_eq_getElem_cons h⟩
theorem yI (s:Bs):eF s=(decide (1<=s.length) && decide (s.length<=24) && jS (s.headD 0) && (s.drop 1).all nmB):=by
 cases s with
 | nil=>rfl
 | cons c r =>
  simp only[eF,length_cons,headD_cons,drop_succ_cons,drop_zero];have e1:decide (1<=r.length+1)=true:=decide_eq_true (by omega);have e2:decide (r.length+1<=24)=decide (r.length < 24):=by rw[decide_eq_decide];omega
  rw[e1,e2,Bool.true_and]
theorem l83 (s:Bs) (hs:s.length<=24):∀ (k i:Nat),i+k=s.length->1<=i ->
  ((s.drop i).all nmB=true->aC G0 j8 (ST [(0,.str s),(3,.int .i64 i),(22,.bool false)] [] [])=some (.ex 0,ST [(0,.str s),(3,.int .i64 s.length),(22,.bool false),(26,.bool false)] [] [])) /\
  ((s.drop i).all nmB=false->∃ l',aC G0 j8 (ST [(0,.str s),(3,.int .i64 i),(22,.bool false)] [] [])=some (.ret,ST l' [] [])/\aF .any l' 2=.bool false)
 | 0,i,h1,h2=>by
  have:i=s.length:=by omega
  subst this;refine⟨fun _=>?_,fun h=>(by simp at h)⟩;rw[aA (L:=j8) rfl];simp only[go_sem,Int.lt_irrefl]
 | k+1,i,h1,h2=>by
  have h4:(i:Int) < (s.length:Int):=by omega
  obtain⟨c,h5,hd⟩:=BB (s:=s) (i:=i) (by omega);have h0:(0:Int)<=(i:Int):=by omega
  have hp:(0:Int) < (i:Int):=by omega
  have hw:=wI (i:=i) (by omega)
  have ih:=l83 s hs k (i+1) (by omega) (by omega);rw[hd,all_cons];have hI:=IR c;unfold bI at hI;cases hc:nmB c with
  | true =>
   rw[Bool.true_and];have hI:=hI.1 hc;have step:aC G0 j8 (ST [(0,.str s),(3,.int .i64 i),(22,.bool false)] [] [])=aC G0 j8 (ST [(0,.str s),(3,.int .i64 ((i+1:Nat):Int)),(22,.bool false)] [] []):=by
    conv=>lhs;rw[aA (L:=j8) rfl]
    rcases hI with ⟨a1,a2⟩ | ⟨a3,a4⟩ | a5
    ·simp only[go_sem,h4,h5,h0,hp,hw,a1,a2]
    ·have a1:¬ 97<=(c.toNat:Int):=by omega
     simp only[go_sem,h4,h5,h0,hp,hw,a1,a3,a4]
    ·simp only[go_sem,h4,h5,h0,hp,hw,a5]
   rw[step];exact ih
  | false =>
   rw[Bool.false_and];refine⟨fun h=>(by cases h),fun _=>?_⟩;have hN:=fun q=>Bool.false_ne_true (hc.symm.trans (hI.2 q))
   have a5:¬ (c.toNat:Int)=45:=fun q=>hN (.inr (.inr q))
   by_cases a1:97<=(c.toNat:Int)
   ·have a2:¬ (c.toNat:Int)<=122:=fun q=>hN (.inl ⟨a1,q⟩)
    have a3:48<=(c.toNat:Int):=by omega
    have a4:¬ (c.toNat:Int)<=57:=by omega
    refine Exists.intro ?_ (And.intro ?_ ?_)
    rotate_left 1
    ·rw[aA (L:=j8) rfl]
     simp only[go_sem,h4,h5,h0,hp,a1,a2,a3,a4,a5];rfl
    ·rfl
   ·by_cases a3:48<=(c.toNat:Int)
    ·have a4:¬ (c.toNat:Int)<=57:=fun q=>hN (.inr (.inl ⟨a3,q⟩))
     refine Exists.intro ?_ (And.intro ?_ ?_)
     rotate_left 1
     ·rw[aA (L:=j8) rfl]
      simp only[go_sem,h4,h5,h0,hp,a1,a3,a4,a5];rfl
     ·rfl
    ·refine Exists.intro ?_ (And.intro ?_ ?_)
     rotate_left 1
     ·rw[aA (L:=j8) rfl]
      simp only[go_sem,h4,h5,h0,hp,a1,a3,a5];rfl
     ·rfl
theorem l74 (s:Bs) (hs:s.length<=24):∀ (k i:Nat),i+k=s.length->1<=i ->
  ((s.drop i).all nmB=true->aC G0 eY (ST [(0,.str s),(3,.int .i64 i),(12,.bool false)] [] [])=some (.ex 0,ST [(0,.str s),(3,.int .i64 s.length),(12,.bool false),(16,.bool false)] [] [])) /\
  ((s.drop i).all nmB=false->∃ l',aC G0 eY (ST [(0,.str s),(3,.int .i64 i),(12,.bool false)] [] [])=some (.ret,ST l' [] [])/\aF .any l' 2=.bool false)
 | 0,i,h1,h2=>by
  have:i=s.length:=by omega
  subst this;refine⟨fun _=>?_,fun h=>(by simp at h)⟩;rw[aA (L:=eY) rfl];simp only[go_sem,Int.lt_irrefl]
 | k+1,i,h1,h2=>by
  have h4:(i:Int) < (s.length:Int):=by omega
  obtain⟨c,h5,hd⟩:=BB (s:=s) (i:=i) (by omega);have h0:(0:Int)<=(i:Int):=by omega
  have hp:(0:Int) < (i:Int):=by omega
  have hw:=wI (i:=i) (by omega)
  have ih:=l74 s hs k (i+1) (by omega) (by omega);rw[hd,all_cons];have hI:=IR c;unfold bI at hI;cases hc:nmB c with
  | true =>
   rw[Bool.true_and];have hI:=hI.1 hc;have step:aC G0 eY (ST [(0,.str s),(3,.int .i64 i),(12,.bool false)] [] [])=aC G0 eY (ST [(0,.str s),(3,.int .i64 ((i+1:Nat):Int)),(12,.bool false)] [] []):=by
    conv=>lhs;rw[aA (L:=eY) rfl]
    rcases hI with ⟨a1,a2⟩ | ⟨a3,a4⟩ | a5
    ·simp only[go_sem,h4,h5,h0,hp,hw,a1,a2]
    ·have a1:¬ 97<=(c.toNat:Int):=by omega
     simp only[go_sem,h4,h5,h0,hp,hw,a1,a3,a4]
    ·simp only[go_sem,h4,h5,h0,hp,hw,a5]
   rw[step];exact ih
  | false =>
   rw[Bool.false_and];refine⟨fun h=>(by cases h),fun _=>?_⟩;have hN:=fun q=>Bool.false_ne_true (hc.symm.trans (hI.2 q))
   have a5:¬ (c.toNat:Int)=45:=fun q=>hN (.inr (.inr q))
   by_cases a1:97<=(c.toNat:Int)
   ·have a2:¬ (c.toNat:Int)<=122:=fun q=>hN (.inl ⟨a1,q⟩)
    have a3:48<=(c.toNat:Int):=by omega
    have a4:¬ (c.toNat:Int)<=57:=by omega
    refine Exists.intro ?_ (And.intro ?_ ?_)
    rotate_left 1
    ·rw[aA (L:=eY) rfl]
     simp only[go_sem,h4,h5,h0,hp,a1,a2,a3,a4,a5];rfl
    ·rfl
   ·by_cases a3:48<=(c.toNat:Int)
    ·have a4:¬ (c.toNat:Int)<=57:=fun q=>hN (.inr (.inl ⟨a3,q⟩))
     refine Exists.intro ?_ (And.intro ?_ ?_)
     rotate_left 1
     ·rw[aA (L:=eY) rfl]
      simp only[go_sem,h4,h5,h0,hp,a1,a3,a4,a5];rfl
     ·rfl
    ·refine Exists.intro ?_ (And.intro ?_ ?_)
     rotate_left 1
     ·rw[aA (L:=eY) rfl]
      simp only[go_sem,h4,h5,h0,hp,a1,a3,a5];rfl
     ·rfl
theorem I4 {s:Bs} (h:1<=s.length):s[0]?=some (s.headD 0):=by
 cases s with
 | nil=>simp at h
 | cons c r=>rfl
theorem c83 (s:Bs):G0 46 [.str s] []=some (.bool (eF s),[]):=by
 refine aB F46 rfl rfl rfl ?_;rw[yI];by_cases h1:s.length < 1
 ·have h1':(s.length:Int) < 1:=by omega
  have e:decide (1<=s.length)=false:=decide_eq_false (by omega);simp only[F46,go_sem,h1',e]
 have h1':¬ (s.length:Int) < 1:=by omega
 have e1:decide (1<=s.length)=true:=decide_eq_true (by omega);by_cases h2:24 < s.length
 ·have h2':(24:Int) < (s.length:Int):=by omega
  have e:decide (s.length<=24)=false:=decide_eq_false (by omega);simp only[F46,go_sem,h1',h2',e1,e]
 have h2':¬ (24:Int) < (s.length:Int):=by omega
 have e2:decide (s.length<=24)=true:=decide_eq_true (by omega);have h3:=I4 (s:=s) (by omega);generalize s.headD 0=c at h3 ⊢;have hl:=CO c;unfold bI at hl;by_cases h4:(c.toNat:Int) < 97
 ·have e:jS c=false:=by cases h:jS c with | false=>rfl | true=>have:=hl.1 h;omega
  simp only[F46,go_sem,h1',h2',h3,h4,e1,e2,e]
 by_cases h5:122 < (c.toNat:Int)
 ·have e:jS c=false:=by cases h:jS c with | false=>rfl | true=>have:=hl.1 h;omega
  simp only[F46,go_sem,h1',h2',h3,h4,h5,e1,e2,e]
 have e:jS c=true:=hl.2 ⟨by omega,by omega⟩;obtain⟨x1,x2⟩:=l83 s (by omega) (s.length - 1) 1 (by omega) (by omega);have ec:((1:Nat):Int)=1:=rfl;rw[ec] at x1 x2;cases hv:(s.drop 1).all nmB with
 | true=>simp only[F46,go_sem,h1',h2',h3,h4,h5,e1,e2,e,x1 hv]
 | false =>
  obtain⟨l',y1,y2⟩:=x2 hv;simp only[F46,go_sem,h1',h2',h3,h4,h5,e1,e2,e,y1,y2]
theorem c74 (s:Bs):G0 57 [.str s] []=some (.bool (eF s),[]):=by
 refine aB F57 rfl rfl rfl ?_;rw[yI];by_cases h1:s.length < 1
 ·have h1':(s.length:Int) < 1:=by omega
  have e:decide (1<=s.length)=false:=decide_eq_false (by omega);simp only[F57,go_sem,h1',e]
 have h1':¬ (s.length:Int) < 1:=by omega
 have e1:decide (1<=s.length)=true:=decide_eq_true (by omega);by_cases h2:24 < s.length
 ·have h2':(24:Int) < (s.length:Int):=by omega
  have e:decide (s.length<=24)=false:=decide_eq_false (by omega);simp only[F57,go_sem,h1',h2',e1,e]
 have h2':¬ (24:Int) < (s.length:Int):=by omega
 have e2:decide (s.length<=24)=true:=decide_eq_true (by omega);have h3:=I4 (s:=s) (by omega);generalize s.headD 0=c at h3 ⊢;have hl:=CO c;unfold bI at hl;have h9:(0:Int) < (s.length:Int):=by omega
 obtain⟨x1,x2⟩:=l74 s (by omega) (s.length - 1) 1 (by omega) (by omega);have ec:((1:Nat):Int)=1:=rfl;rw[ec] at x1 x2;by_cases h4:97<=(c.toNat:Int)
 ·by_cases h5:(c.toNat:Int)<=122
  ·have e:jS c=true:=hl.2 ⟨h4,h5⟩
   have step:aC G0 eY (ST [(0,.str s),(3,.int .i64 0),(12,.bool false)] [] [])=aC G0 eY (ST [(0,.str s),(3,.int .i64 1),(12,.bool false)] [] []):=by
    conv=>lhs;rw[aA (L:=eY) rfl]
    simp only[go_sem,h9,h3,h4,h5]
   cases hv:(s.drop 1).all nmB with
   | true=>simp only[F57,go_sem,h1',h2',step,e1,e2,e,x1 hv]
   | false =>
    obtain⟨l',y1,y2⟩:=x2 hv;simp only[F57,go_sem,h1',h2',step,e1,e2,e,y1,y2]
  ·have e:jS c=false:=by cases h:jS c with | false=>rfl | true=>have:=hl.1 h;omega
   have step:∃ l',aC G0 eY (ST [(0,.str s),(3,.int .i64 0),(12,.bool false)] [] [])=some (.ret,ST l' [] [])/\aF .any l' 2=.bool false:=by
    refine Exists.intro ?_ (And.intro ?_ ?_)
    rotate_left 1
    ·rw[aA (L:=eY) rfl]
     simp only[go_sem,h9,h3,h4,h5,Int.lt_irrefl];rfl
    ·rfl
   obtain⟨l',y1,y2⟩:=step;simp only[F57,go_sem,h1',h2',e1,e2,e,y1,y2]
 ·have e:jS c=false:=by cases h:jS c with | false=>rfl | true=>have:=hl.1 h;omega
  have step:∃ l',aC G0 eY (ST [(0,.str s),(3,.int .i64 0),(12,.bool false)] [] [])=some (.ret,ST l' [] [])/\aF .any l' 2=.bool false:=by
   refine Exists.intro ?_ (And.intro ?_ ?_)
   rotate_left 1
   ·rw[aA (L:=eY) rfl]
    simp only[go_sem,h9,h3,h4,Int.lt_irrefl];rfl
   ·rfl
  obtain⟨l',y1,y2⟩:=step;simp only[F57,go_sem,h1',h2',e1,e2,e,y1,y2]
end Go.Av
namespace Go.Av
open Go.Nt
set_option maxHeartbeats 4000000
theorem bR (x:Int) (r:LL):aZ ([.int .u8 x] :: r)=(aZ r).map fun t=>UInt8.ofNat x.toNat :: t:=by
 simp only[aZ,qB]
 cases aZ r<;>rfl
theorem PH (x:Int):fY 1 [.int .u8 0] 1 [0] [.int .u8 x]=some (.sl .full 1 [[.int .u8 x]]):=rfl
def LC:Bs:=[48,49,50,51,52,53,54,55,56,57,97,98,99,100,101,102]
theorem yL {n:Nat} (h:n < 16):LC[n]?=some (qN n):=by
 have:∀ n:Fin 16,LC[n.1]?=some (qN n.1):=by decide
 exact this ⟨n,h⟩
end Go.Av
namespace Go.Av
open Go.Nt
set_option maxHeartbeats 4000000
theorem TS {n:Int} (h1:0<=n) (h2:n<=1000000):IntKind.u64.wrap n=n:=by
 unfold IntKind.wrap;have e:IntKind.u64.bits=64:=rfl;simp only[e,IntKind.signed,Bool.false_and,Bool.false_eq_true,if_false];omega
theorem AQ {n:Int} (h1:0<=n) (h2:n<=1000000):IntKind.u32.wrap n=n:=by
 unfold IntKind.wrap;have e:IntKind.u32.bits=32:=rfl;simp only[e,IntKind.signed,Bool.false_and,Bool.false_eq_true,if_false];omega
theorem Q6 (b:Bool):G0 103 [.bool b] []=some (.int .i64 (if b then 1 else 0),[]):=by
 refine aB IC rfl rfl rfl ?_
 cases b with
 | true=>simp only[IC,go_sem]
 | false=>simp only[IC,go_sem]
theorem Q8 (n:Int) (h0:0<=n) (h1:n<=64):G0 101 [.int .i64 n] []=some (.int .i64 (n*78913 / 262144),[]):=by
 refine aB MG rfl rfl rfl ?_;have w1:IntKind.i64.wrap (n*78913)=n*78913:=w64 (by omega) (by omega);have e:(n*78913).fdiv (2 ^ (min 18 64))=n*78913 / 262144:=by
  have:(2:Int) ^ (min 18 64)=262144:=rfl
  rw[this,Int.fdiv_eq_ediv_of_nonneg _ (by omega)]
 simp only[MG,go_sem,w1,e]
end Go.Av
namespace Go.Av
open Go.Nt
set_option maxHeartbeats 8000000
def pK:Bs:=[0,1,2,2,3,3,3,3,4,4,4,4,4,4,4,4,5,5,5,5,5,5,5,5,5,5,5,5,5,5,5,5,6,6,6,6,6,6,6,6,6,6,6,6,6,6,6,6,6,6,6,6,6,6,6,6,6,6,6,6,6,6,6,6,7,7,7,7,7,7,7,7,7,7,7,7,7,7,7,7,7,7,7,7,7,7,7,7,7,7,7,7,7,7,7,7,7,7,7,7,7,7,7,7,7,7,7,7,7,7,7,7,7,7,7,7,7,7,7,7,7,7,7,7,7,7,7,7,8,8,8,8,8,8,8,8,8,8,8,8,8,8,8,8,8,8,8,8,8,8,8,8,8,8,8,8,8,8,8,8,8,8,8,8,8,8,8,8,8,8,8,8,8,8,8,8,8,8,8,8,8,8,8,8,8,8,8,8,8,8,8,8,8,8,8,8,8,8,8,8,8,8,8,8,8,8,8,8,8,8,8,8,8,8,8,8,8,8,8,8,8,8,8,8,8,8,8,8,8,8,8,8,8,8,8,8,8,8,8,8,8,8,8,8,8,8,8,8,8,8,8,8,8,8,8,8]
def DG:Bs:=[48,49,50,51,52,53,54,55,56,57,97,98,99,100,101,102,103,104,105,106,107,108,109,110,111,112,113,114,115,116,117,118,119,120,121,122]
def smS:Bs:=[48,48,48,49,48,50,48,51,48,52,48,53,48,54,48,55,48,56,48,57,49,48,49,49,49,50,49,51,49,52,49,53,49,54,49,55,49,56,49,57,50,48,50,49,50,50,50,51,50,52,50,53,50,54,50,55,50,56,50,57,51,48,51,49,51,50,51,51,51,52,51,53,51,54,51,55,51,56,51,57,52,48,52,49,52,50,52,51,52,52,52,53,52,54,52,55,52,56,52,57,53,48,53,49,53,50,53,51,53,52,53,53,53,54,53,55,53,56,53,57,54,48,54,49,54,50,54,51,54,52,54,53,54,54,54,55,54,56,54,57,55,48,55,49,55,50,55,51,55,52,55,53,55,54,55,55,55,56,55,57,56,48,56,49,56,50,56,51,56,52,56,53,56,54,56,55,56,56,56,57,57,48,57,49,57,50,57,51,57,52,57,53,57,54,57,55,57,56,57,57]
theorem K4 {n:Nat} (h1:64<=n) (h2:n < 128):pK[n]?=some 7:=by
 have:∀ n:Fin 128,64<=n.1->pK[n.1]?=some 7:=by decide +kernel
 exact this ⟨n,h2⟩ h1
theorem K3 {n:Nat} (h1:128<=n) (h2:n < 256):pK[n]?=some 8:=by
 have:∀ n:Fin 256,128<=n.1->pK[n.1]?=some 8:=by decide +kernel
 exact this ⟨n,h2⟩ h1
theorem K2 {n:Nat} (h1:2<=n) (h2:n < 4):pK[n]?=some 2:=by
 have:∀ n:Fin 4,2<=n.1->pK[n.1]?=some 2:=by decide +kernel
 exact this ⟨n,h2⟩ h1
theorem lnD:DG.length=36:=by decide +kernel
theorem lnS:smS.length=200:=by decide +kernel
theorem LU {n:Nat} (h:n < 10):(DG.take (n+1)).drop n=Nt.dec n:=by
 have:∀ n:Fin 10,(DG.take (n.1+1)).drop n.1=Nt.dec n.1:=by decide +kernel
 exact this ⟨n,h⟩
theorem OF {n:Nat} (h1:10<=n) (h:n < 100):(smS.take (n*2+2)).drop (n*2)=Nt.dec n:=by
 have:∀ n:Fin 100,10<=n.1->(smS.take (n.1*2+2)).drop (n.1*2)=Nt.dec n.1:=by decide +kernel
 exact this ⟨n,h⟩ h1
theorem OH {n:Nat} (h:n < 100):smS[n*2]?=some (dig (n / 10)):=by
 have:∀ n:Fin 100,smS[n.1*2]?=some (dig (n.1 / 10)):=by decide +kernel
 exact this ⟨n,h⟩
theorem OG {n:Nat} (h:n < 100):smS[n*2+1]?=some (dig (n % 10)):=by
 have:∀ n:Fin 100,smS[n.1*2+1]?=some (dig (n.1 % 10)):=by decide +kernel
 exact this ⟨n,h⟩
theorem Q7 (n:Nat) (h1:100<=n) (h2:n<=999):G0 102 [.int .u64 n] []=some (.int .i64 (if n < 128 then 7 else if n < 256 then 8 else if n < 512 then 9 else 10),[]):=by
 refine aB AP rfl rfl rfl ?_;have a1:¬ (4294967296:Int)<=(n:Int):=by omega
 have a2:¬ (65536:Int)<=(n:Int):=by omega
 by_cases h3:n < 256
 ·have a3:¬ (256:Int)<=(n:Int):=by omega
  have w:IntKind.u8.wrap (n:Int)=(n:Int):=wu8 (by omega) (by omega);have a4:(0:Int)<=(n:Int):=by omega
  by_cases h4:n < 128
  ·have q:=K4 (n:=n) (by omega) h4
   simp only[pK] at q;rw[if_pos h4];simp only[AP,go_sem,a1,a2,a3,w,a4,q];rfl
  ·have q:=K3 (n:=n) (by omega) h3
   simp only[pK] at q;rw[if_neg h4,if_pos h3];simp only[AP,go_sem,a1,a2,a3,w,a4,q];rfl
 ·have a3:(256:Int)<=(n:Int):=by omega
  have e:(n:Int).fdiv (2 ^ (min 8 64))=((n / 256:Nat):Int):=by
   have:(2:Int) ^ (min 8 64)=256:=rfl
   rw[this,Int.fdiv_eq_ediv_of_nonneg _ (by omega)];omega
  have w:IntKind.u8.wrap ((n / 256:Nat):Int)=((n / 256:Nat):Int):=wu8 (by omega) (by omega);have a4:(0:Int)<=((n / 256:Nat):Int):=by omega
  rw[if_neg (by omega),if_neg h3];by_cases h4:n < 512
  ·have h5:n / 256=1:=by omega
   have q:pK[1]?=some 1:=rfl;simp only[pK] at q;rw[if_pos h4];rw[h5] at e w a4;simp only[AP,go_sem,a1,a2,a3,e,w,a4,q];rfl
  ·have q:=K2 (n:=n / 256) (by omega) (by omega)
   simp only[pK] at q;rw[if_neg h4];simp only[AP,go_sem,a1,a2,a3,e,w,a4,q];rfl
theorem VV (n:Nat) (h1:100<=n) (h2:n<=999):G0 95 [.int .u64 n] []=some (.int .i64 3,[]):=by
 refine aB F95 rfl rfl rfl ?_;by_cases h3:n < 512
 ·have a1:(100:Int)<=(n:Int):=by omega
  have e:∃ L:Int,7<=L/\L<=9/\(if n < 128 then (7:Int) else if n < 256 then 8 else if n < 512 then 9 else 10)=L:=⟨_,by split<;>(try split)<;>(try split)<;>omega,by split<;>(try split)<;>(try split)<;>omega,rfl⟩
  obtain⟨L,l1,l2,e⟩:=e;have c1:=Q7 n h1 h2;rw[e] at c1;have c2:=Q8 L (by omega) (by omega);have e2:L*78913 / 262144=2:=by omega
  rw[e2] at c2;simp only[F95,go_sem,c1,c2,a1,Q6]
 ·have a1:¬ (1000:Int)<=(n:Int):=by omega
  have c1:=Q7 n h1 h2;rw[if_neg (by omega),if_neg (by omega),if_neg h3] at c1;have c2:=Q8 10 (by omega) (by omega);have e2:(10:Int)*78913 / 262144=3:=by omega
  rw[e2] at c2;simp only[F95,go_sem,c1,c2,a1,Q6]
theorem VW (n:Nat) (h:n < 100):G0 94 [.int .i64 n] []=some (.str (Nt.dec n),[]):=by
 refine aB F94 rfl rfl rfl ?_;have a0:(0:Int)<=(n:Int):=by omega
 by_cases h1:n < 10
 ·have a1:(n:Int) < 10:=by omega
  have w:IntKind.i64.wrap ((n:Int)+1)=((n+1:Nat):Int):=by rw[w64 (by omega) (by omega)];rfl
  have a2:(n:Int)<=((n+1:Nat):Int):=by omega
  have a3:((n+1:Nat):Int)<=36:=by omega
  have q:b8 true 0 (.str DG) (some (.int .i64 (n:Int))) (some (.int .i64 ((n+1:Nat):Int)))=some (.str (Nt.dec n)):=by
   rw[qW _ _ _ _ _ _ a0 a2 (by rw[lnD];omega),Int.toNat_natCast,Int.toNat_natCast,LU h1]
  simp only[DG] at q;simp only[F94,go_sem,a1,w,q]
 ·have a1:¬ (n:Int) < 10:=by omega
  have w1:IntKind.i64.wrap ((n:Int)*2)=((n*2:Nat):Int):=by rw[w64 (by omega) (by omega)];omega
  have w2:IntKind.i64.wrap (((n*2:Nat):Int)+2)=((n*2+2:Nat):Int):=by rw[w64 (by omega) (by omega)];rfl
  have a4:(0:Int)<=((n*2:Nat):Int):=by omega
  have a2:((n*2:Nat):Int)<=((n*2+2:Nat):Int):=by omega
  have a3:((n*2+2:Nat):Int)<=256:=by omega
  have q:b8 true 0 (.str smS) (some (.int .i64 ((n*2:Nat):Int))) (some (.int .i64 ((n*2+2:Nat):Int)))=some (.str (Nt.dec n)):=by
   rw[qW _ _ _ _ _ _ a4 a2 (by rw[lnS];omega),Int.toNat_natCast,Int.toNat_natCast,OF (by omega) h]
  simp only[smS] at q;simp only[F94,go_sem,a1,w1,w2,q]
end Go.Av
namespace Go.Av
open Go.Nt
set_option maxHeartbeats 8000000
theorem UR (n:Int) (sh:LL):aC G0 D5 (ST [(0,.ss 0 1 3 1),(1,.int .u64 n),(4,.int .i64 3)] [] sh)=some (.ex 0,ST [(0,.ss 0 1 3 1),(1,.int .u64 n),(4,.int .i64 3),(20,.bool false)] [] sh):=by
 rw[aA (L:=D5) rfl];simp only[go_sem]
theorem tq (n m:Nat):((n:Int)).tdiv (m:Int)=((n / m:Nat):Int):=by rw[Int.tdiv_eq_ediv_of_nonneg (by omega)];rfl
theorem tm (n m:Nat):((n:Int)).tmod (m:Int)=((n % m:Nat):Int):=by rw[Int.tmod_eq_emod_of_nonneg (by omega)];rfl
theorem VU (n:Nat) (h1:100<=n) (h2:n<=999):G0 96 [.ss 0 1 3 1,.int .u64 n] [[.int .u8 0,.int .u8 0,.int .u8 0,.int .u8 0,.int .u8 0,.int .u8 0,.int .u8 0,.int .u8 0,.int .u8 0,.int .u8 0,.int .u8 0,.int .u8 0,.int .u8 0,.int .u8 0,.int .u8 0,.int .u8 0,.int .u8 0,.int .u8 0,.int .u8 0,.int .u8 0,.int .u8 0,.int .u8 0,.int .u8 0,.int .u8 0]]=some (.tup [],[[.int .u8 0,.int .u8 (bI (dig (n / 100))),.int .u8 (bI (dig (n / 10 % 10))),.int .u8 (bI (dig (n % 10))),.int .u8 0,.int .u8 0,.int .u8 0,.int .u8 0,.int .u8 0,.int .u8 0,.int .u8 0,.int .u8 0,.int .u8 0,.int .u8 0,.int .u8 0,.int .u8 0,.int .u8 0,.int .u8 0,.int .u8 0,.int .u8 0,.int .u8 0,.int .u8 0,.int .u8 0,.int .u8 0]]):=by
 refine aB F96 rfl rfl rfl ?_;have w0:IntKind.u32.wrap (n:Int)=(n:Int):=AQ (by omega) (by omega);have e1:((n:Int)).tmod 100=((n % 100:Nat):Int):=tm n 100;have e2:((n:Int)).tdiv 100=((n / 100:Nat):Int):=tq n 100;have w1:IntKind.u32.wrap (((n % 100:Nat):Int)*2)=((n % 100*2:Nat):Int):=by rw[AQ (by omega) (by omega)];omega
 have w2:IntKind.u32.wrap (((n % 100*2:Nat):Int)+1)=((n % 100*2+1:Nat):Int):=by rw[AQ (by omega) (by omega)];rfl
 have w3:IntKind.u32.wrap ((n / 100:Nat):Int)=((n / 100:Nat):Int):=AQ (by omega) (by omega);have w4:IntKind.u32.wrap (48+((n / 100:Nat):Int))=48+((n / 100:Nat):Int):=AQ (by omega) (by omega);have w5:IntKind.u8.wrap (48+((n / 100:Nat):Int))=bI (dig (n / 100)):=by
  rw[wu8 (by omega) (by omega)];unfold bI dig;simp only[UInt8.toNat_ofNat'];omega
 have q0:=OH (n:=n % 100) (by omega);have q1:=OG (n:=n % 100) (by omega);have e3:n % 100 / 10=n / 10 % 10:=by omega
 have e4:n % 100 % 10=n % 10:=by omega
 rw[e3] at q0;rw[e4] at q1;simp only[smS] at q0 q1;have a1:(0:Int)<=((n % 100*2:Nat):Int):=by omega
 have a2:(0:Int)<=((n % 100*2+1:Nat):Int):=by omega
 simp only[F96,go_sem,UR,w0,e1,e2,w1,w2,w3,w4,w5,a1,a2,q0,q1];rfl
theorem VY (n:Nat) (h2:n<=999):G0 90 [.int .i64 n,.int .i64 10] []=some (.str (Nt.dec n),[]):=by
 refine aB F90 rfl rfl rfl ?_;have a0:(0:Int)<=(n:Int):=by omega
 by_cases h1:n < 100
 ·have a1:(n:Int) < 100:=by omega
  simp only[F90,go_sem,a0,a1,VW n h1]
 ·have a1:¬ (n:Int) < 100:=by omega
  have a2:¬ (n:Int) < 0:=by omega
  have w:IntKind.u64.wrap (n:Int)=(n:Int):=TS (by omega) (by omega);have ed:Nt.dec n=[dig (n / 100),dig (n / 10 % 10),dig (n % 10)]:=by
   unfold Nt.dec;rw[if_neg (by omega),if_neg h1]
  rw[ed];have hr:∀ a b c:Int,cN 1 3 1 [.int .u8 0,.int .u8 a,.int .u8 b,.int .u8 c,.int .u8 0,.int .u8 0,.int .u8 0,.int .u8 0,.int .u8 0,.int .u8 0,.int .u8 0,.int .u8 0,.int .u8 0,.int .u8 0,.int .u8 0,.int .u8 0,.int .u8 0,.int .u8 0,.int .u8 0,.int .u8 0,.int .u8 0,.int .u8 0,.int .u8 0,.int .u8 0]=some [[.int .u8 a],[.int .u8 b],[.int .u8 c]]:=fun _ _ _=>rfl
  simp only[F90,go_sem,a0,a1,a2,w,VV n (by omega) h2,VU n (by omega) h2,hr,bR,UInt8.ofNat_toNat]
theorem c76 (n:Nat) (h2:n<=999):G0 82 [.int .i64 n] []=some (.str (Nt.dec n),[]):=by
 refine aB F82 rfl rfl rfl ?_;simp only[F82,go_sem,VY n h2]
theorem c50 (n:Nat) (h2:n<=999):G0 65 [.int .i64 n] []=some (.str (Nt.dec n),[]):=by
 refine aB F65 rfl rfl rfl ?_;simp only[F65,go_sem,c76 n h2]
end Go.Av
namespace Go.Av
open Go.Nt
set_option maxHeartbeats 8000000
theorem yK {b:UInt8}:∀ {s a r:Bs},cut b s=some (a,r)->Lib.indexByte s b=(a.length:Int)
 | [],a,r,h=>by cases h
 | c :: s,a,r,h=>by
  simp only[cut] at h;unfold Lib.indexByte;by_cases hc:c=b
  ·rw[if_pos hc] at h
   simp only[Option.some.injEq,Prod.mk.injEq] at h;obtain⟨rfl,rfl⟩:=h;rw[if_pos (by simp [hc])];rfl
  ·rw[if_neg hc] at h
   obtain⟨⟨p,q⟩,h1,h2⟩:=Option.map_eq_some_iff.1 h;simp only[Prod.mk.injEq] at h2;obtain⟨rfl,rfl⟩:=h2;have ih:=yK h1;rw[if_neg (by simp [hc]),ih,if_neg (by simp)];rfl
theorem sV {b:UInt8}:∀ {s:Bs},cut b s=none->Lib.indexByte s b = -1
 | [],h=>rfl
 | c :: s,h=>by
  simp only[cut] at h;unfold Lib.indexByte;by_cases hc:c=b
  ·rw[if_pos hc] at h;cases h
  ·rw[if_neg hc] at h
   have ih:=sV (Option.map_eq_none_iff.1 h);rw[if_neg (by simp [hc]),ih];rfl
theorem toB (c:UInt8):(bI c).toNat.toUInt8=c:=by unfold bI;simp
theorem VT (s:Bs) (c:UInt8):G0 91 [.str s,.int .u8 (bI c)] []=some (.int .i64 (Lib.indexByte s c),[]):=
 zI (by
  have e:∀ args sh,B0 91 args sh=ibB 91 91 args sh:=fun _ _=>rfl
  rw[e];unfold ibB;rw[if_pos rfl]
  simp only[toB])
theorem RD (s:Bs) (c:UInt8):G0 85 [.str s,.int .u8 (bI c)] []=some (.int .i64 (Lib.indexByte s c),[]):=by
 refine aB F85 rfl rfl rfl ?_;simp only[F85,go_sem,VT]
theorem c81 (s:Bs) (c:UInt8):G0 70 [.str s,.int .u8 (bI c)] []=some (.int .i64 (Lib.indexByte s c),[]):=by
 refine aB F70 rfl rfl rfl ?_;simp only[F70,go_sem,RD]
theorem Q5 (s:Bs) (c:UInt8):G0 92 [.str s,.str [c]] []=some (.int .i64 (Lib.indexByte s c),[]):=by
 refine aB F92 rfl rfl rfl ?_;have g:([c]:Bs)[0]?=some c:=rfl;by_cases h:s=[c]
 ·subst h
  have e:Lib.indexByte [c] c=0:=by simp [Lib.indexByte]
  rw[e];simp only[F92,go_sem,g]
 ·have h':(([c]:Bs) == s)=false:=by simp [Ne.symm h]
  simp only[F92,go_sem,g,h',RD]
theorem Q9 {s a r:Bs} {c:UInt8} (hs:s.length<=1000000) (h:cut c s=some (a,r)):G0 86 [.str s,.str [c]] []=some (.tup [.str a,.str r,.bool true],[]):=by
 refine aB F86 rfl rfl rfl ?_;have hi:=yK h;obtain⟨rfl,_⟩:=jD.1 h;simp only[length_append,length_cons] at hs;have w:IntKind.i64.wrap ((a.length:Int)+1)=((a.length+1:Nat):Int):=by rw[w64 (by omega) (by omega)];rfl
 have a0:(0:Int)<=(a.length:Int):=by omega
 have q1:b8 true 0 (.str (a++c :: r)) none (some (.int .i64 (a.length:Int)))=some (.str a):=by
  rw[FN _ _ _ _ a0 (by simp only[length_append];omega),Int.toNat_natCast,take_left]
 have q2:b8 true 0 (.str (a++c :: r)) (some (.int .i64 ((a.length+1:Nat):Int))) none=some (.str r):=by
  rw[FM _ _ _ _ (by omega) (by simp only[length_append,length_cons];omega),Int.toNat_natCast]
  have:a++c :: r=(a++[c])++r:=by simp
  rw[this,drop_left' (by simp)]
 simp only[F86,go_sem,Q5,hi,a0,w,q1,q2]
theorem RC {s:Bs} {c:UInt8} (h:cut c s=none):G0 86 [.str s,.str [c]] []=some (.tup [.str s,.str [],.bool false],[]):=by
 refine aB F86 rfl rfl rfl ?_;simp only[F86,go_sem,Q5,sV h]
theorem I9 {s a r:Bs} {c:UInt8} (hs:s.length<=1000000) (h:cut c s=some (a,r)):G0 71 [.str s,.str [c]] []=some (.tup [.str a,.str r,.bool true],[]):=by
 refine aB F71 rfl rfl rfl ?_;simp only[F71,go_sem,Q9 hs h]
theorem JA {s:Bs} {c:UInt8} (h:cut c s=none):G0 71 [.str s,.str [c]] []=some (.tup [.str s,.str [],.bool false],[]):=by
 refine aB F71 rfl rfl rfl ?_;simp only[F71,go_sem,RC h]
theorem nD {s a r:Bs} (h:cut 32 s=some (a,r)):aQ s=a:=by
 obtain⟨rfl,h2⟩:=jD.1 h;unfold aQ;rw[takeWhile_append_of_pos (fun c hc=>by simp only[bne_iff_ne,ne_eq];rintro rfl;exact h2 hc)];simp
theorem i5 {s:Bs} (h:cut 32 s=none):aQ s=s:=by
 have:=l0.1 h
 have key:∀ l:Bs,32 ∉ l->l.takeWhile (fun c=>c != 32)=l:=by
  intro l
  induction l with
  | nil=>intro _;rfl
  | cons c l ih =>
   intro hl;simp only[mem_cons,not_or] at hl;rw[takeWhile_cons,if_pos (by simpa using Ne.symm hl.1),ih hl.2]
 exact key s this
theorem c98 (s:Bs) (hs:s.length<=1000000):G0 48 [.str s] []=some (.str (aQ s),[]):=by
 refine aB F48 rfl rfl rfl ?_;cases h:cut 32 s with
 | none=>rw[i5 h];simp only[F48,go_sem,JA h]
 | some p =>
  obtain⟨a,r⟩:=p;rw[nD h];simp only[F48,go_sem,I9 hs h]
end Go.Av
namespace Go.Av
open Go.Nt
set_option maxHeartbeats 8000000
theorem Q4 (s:Bs) (c:UInt8):G0 70 [.str s,.int .u8 (c.toNat:Int)] []=some (.int .i64 (Lib.indexByte s c),[]):=c81 s c
theorem eM {c d:UInt8} (h:c≠d):¬ (c.toNat:Int)=(d.toNat:Int):=fun q=>h (UInt8.toNat_inj.1 (by omega))
theorem l64 (s:Bs) (hs:s.length<=1000000):∀ (r p:Bs),s=p++r ->
  (32 ∉ r->aC G0 nM (ST [(0,.str s),(3,.int .i64 p.length)] [] [])=some (.ex 0,ST [(0,.str s),(3,.int .i64 s.length),(7,.bool false)] [] [])) /\
  (32∈r->∃ l',aC G0 nM (ST [(0,.str s),(3,.int .i64 p.length)] [] [])=some (.ret,ST l' [] [])/\aF .any l' 2=.str (p++aQ r))
 | [],p,h=>by
  have h:s=p:=by simp [h]
  subst h;refine⟨fun _=>?_,fun h=>(by simp at h)⟩;rw[aA (L:=nM) rfl];simp only[go_sem,Int.lt_irrefl]
 | c :: r,p,h=>by
  have ih:=l64 s hs r (p++[c]) (by simp [h]);have hl:s.length=p.length+1+r.length:=by simp [h];omega
  have e1:((p++[c]).length:Int)=((p.length+1:Nat):Int):=by simp
  rw[e1] at ih;have h4:(p.length:Int) < (s.length:Int):=by omega
  have h0:(0:Int)<=(p.length:Int):=by omega
  have h5:s[p.length]?=some c:=by rw[h];simp
  have hw:IntKind.i64.wrap ((p.length:Int)+1)=((p.length+1:Nat):Int):=by rw[w64 (by omega) (by omega)];rfl
  have hq:s.take p.length=p:=by rw[h];simp
  have hle:(p.length:Int)<=(s.length:Int):=by omega
  by_cases hc:c=32
  ·subst hc
   refine⟨fun q=>absurd (mem_cons_self ..) q,fun _=>?_⟩;have hc:(((32:UInt8).toNat:Nat):Int)=32:=rfl;refine Exists.intro ?_ (And.intro ?_ ?_)
   rotate_left 1
   ·rw[aA (L:=nM) rfl]
    simp only[go_sem,h4,h0,h5,hc,hle,hq];rfl
   ·simp only[go_sem,aQ,takeWhile_cons,bne_self_eq_false,Bool.false_eq_true,append_nil]
  ·have a:¬ (c.toNat:Int)=32:=eM hc
   have em:(32∈c :: r)↔32∈r:=by simp [Ne.symm hc]
   have en:aQ (c :: r)=c :: aQ r:=by simp [aQ,hc]
   rw[em,en];have step:aC G0 nM (ST [(0,.str s),(3,.int .i64 p.length)] [] [])=aC G0 nM (ST [(0,.str s),(3,.int .i64 ((p.length+1:Nat):Int))] [] []):=by
    conv=>lhs;rw[aA (L:=nM) rfl]
    simp only[go_sem,h4,h0,h5,a,hw]
   rw[step];simpa using ih
theorem AA {s:Bs} (h:32 ∉ s):aQ s=s:=by
 have:=l0.2 h
 exact i5 this
theorem c64 (s:Bs) (hs:s.length<=1000000):G0 27 [.str s] []=some (.str (aQ s),[]):=by
 refine aB F27 rfl rfl rfl ?_;obtain⟨x1,x2⟩:=l64 s hs s [] rfl;have ec:((([]:Bs).length:Nat):Int)=0:=rfl;rw[ec] at x1 x2;by_cases h:32∈s
 ·obtain⟨l',y1,y2⟩:=x2 h
  rw[nil_append] at y2;simp only[F27,go_sem,y1,y2]
 ·rw[AA h]
  simp only[F27,go_sem,x1 h]
theorem IP (c:UInt8):okB c=true↔32<=(c.toNat:Int)/\(c.toNat:Int)<=126/\c≠60/\c≠62/\c≠123/\c≠125:=by
 unfold okB;simp only[Bool.and_eq_true,decide_eq_true_eq,bne_iff_ne,ne_eq,and_assoc];exact⟨fun ⟨a,b,c⟩=>⟨by omega,by omega,c⟩,fun ⟨a,b,c⟩=>⟨by omega,by omega,c⟩⟩
theorem UV {c:UInt8} (h:c=60\/c=62\/c=123\/c=125):0<=Lib.indexByte [60,62,123,125] c:=by
 rcases h with rfl | rfl | rfl | rfl<;>decide
theorem P7 {c:UInt8} (h1:c≠60) (h2:c≠62) (h3:c≠123) (h4:c≠125):¬ 0<=Lib.indexByte [60,62,123,125] c:=by
 have:cut c [60,62,123,125]=none:=l0.2 (by simp [h1,h2,h3,h4])
 rw[sV this]
 decide
theorem l97 (s:Bs) (hs:s.length<=64):∀ (r p:Bs),s=p++r ->
  (r.all okB=true->aC G0 j7 (ST [(0,.str s),(3,.int .i64 p.length),(22,.bool false)] [] [])=some (.ex 0,ST [(0,.str s),(3,.int .i64 s.length),(22,.bool false),(26,.bool false)] [] [])) /\
  (r.all okB=false->∃ l',aC G0 j7 (ST [(0,.str s),(3,.int .i64 p.length),(22,.bool false)] [] [])=some (.ret,ST l' [] [])/\aF .any l' 2=.bool false)
 | [],p,h=>by
  have h:s=p:=by simp [h]
  subst h;refine⟨fun _=>?_,fun h=>(by simp at h)⟩;rw[aA (L:=j7) rfl];simp only[go_sem,Int.lt_irrefl]
 | c :: r,p,h=>by
  have hl:s.length=p.length+1+r.length:=by simp [h];omega
  have h4:(p.length:Int) < (s.length:Int):=by omega
  have h0:(0:Int)<=(p.length:Int):=by omega
  have h5:s[p.length]?=some c:=by rw[h];simp
  have hw:IntKind.i64.wrap ((p.length:Int)+1)=((p.length+1:Nat):Int):=by rw[w64 (by omega) (by omega)];rfl
  have hI:=IP c;have e1:((p++[c]).length:Int)=((p.length+1:Nat):Int):=by simp
  have ih:=l97 s hs r (p++[c]) (by simp [h]);rw[e1] at ih;rw[all_cons];cases hc:okB c with
  | true =>
   obtain⟨a1,a2,a3,a4,a5,a6⟩:=hI.1 hc;have b1:¬ (c.toNat:Int) < 32:=by omega
   have b2:¬ 126 < (c.toNat:Int):=by omega
   have b3:¬ (c.toNat:Int)=60:=eM a3;have b4:¬ (c.toNat:Int)=62:=eM a4;have b5:¬ (c.toNat:Int)=123:=eM a5;have b6:¬ (c.toNat:Int)=125:=eM a6;have b7:=P7 a3 a4 a5 a6;have step:aC G0 j7 (ST [(0,.str s),(3,.int .i64 p.length),(22,.bool false)] [] [])=aC G0 j7 (ST [(0,.str s),(3,.int .i64 ((p.length+1:Nat):Int)),(22,.bool false)] [] []):=by
    conv=>lhs;rw[aA (L:=j7) rfl]
    simp only[go_sem,h4,h5,h0,hw,b1,b2,b7,Q4]
   rw[step,Bool.true_and];exact ih
  | false =>
   refine⟨fun q=>(by simp at q),fun _=>?_⟩;by_cases a1:(c.toNat:Int) < 32
   ·refine Exists.intro ?_ (And.intro ?_ ?_)
    rotate_left 1
    ·rw[aA (L:=j7) rfl]
     simp only[go_sem,h4,h5,h0,a1];rfl
    ·rfl
   by_cases a2:126 < (c.toNat:Int)
   ·refine Exists.intro ?_ (And.intro ?_ ?_)
    rotate_left 1
    ·rw[aA (L:=j7) rfl]
     simp only[go_sem,h4,h5,h0,a1,a2];rfl
    ·rfl
   have a3:c=60\/c=62\/c=123\/c=125:=by
    by_cases q3:c=60
    ·exact .inl q3
    by_cases q4:c=62
    ·exact .inr (.inl q4)
    by_cases q5:c=123
    ·exact .inr (.inr (.inl q5))
    by_cases q6:c=125
    ·exact .inr (.inr (.inr q6))
    rw[hI.2 ⟨by omega,by omega,q3,q4,q5,q6⟩] at hc;cases hc
   have a4:=UV a3;refine Exists.intro ?_ (And.intro ?_ ?_)
   rotate_left 1
   ·rw[aA (L:=j7) rfl]
    simp only[go_sem,h4,h5,h0,a1,a2,a4,Q4];rfl
   ·rfl
theorem l75 (s:Bs) (hs:s.length<=64):∀ (r p:Bs),s=p++r ->
  (r.all okB=true->aC G0 g5 (ST [(0,.str s),(3,.int .i64 p.length),(8,.bool false)] [] [])=some (.ex 0,ST [(0,.str s),(3,.int .i64 s.length),(8,.bool false),(12,.bool false)] [] [])) /\
  (r.all okB=false->∃ l',aC G0 g5 (ST [(0,.str s),(3,.int .i64 p.length),(8,.bool false)] [] [])=some (.ret,ST l' [] [])/\aF .any l' 2=.bool false)
 | [],p,h=>by
  have h:s=p:=by simp [h]
  subst h;refine⟨fun _=>?_,fun h=>(by simp at h)⟩;rw[aA (L:=g5) rfl];simp only[go_sem,Int.lt_irrefl]
 | c :: r,p,h=>by
  have hl:s.length=p.length+1+r.length:=by simp [h];omega
  have h4:(p.length:Int) < (s.length:Int):=by omega
  have h0:(0:Int)<=(p.length:Int):=by omega
  have h5:s[p.length]?=some c:=by rw[h];simp
  have hw:IntKind.i64.wrap ((p.length:Int)+1)=((p.length+1:Nat):Int):=by rw[w64 (by omega) (by omega)];rfl
  have hI:=IP c;have e1:((p++[c]).length:Int)=((p.length+1:Nat):Int):=by simp
  have ih:=l75 s hs r (p++[c]) (by simp [h]);rw[e1] at ih;rw[all_cons];cases hc:okB c with
  | true =>
   obtain⟨a1,a2,a3,a4,a5,a6⟩:=hI.1 hc;have b1:¬ (c.toNat:Int) < 32:=by omega
   have b2:¬ 126 < (c.toNat:Int):=by omega
   have b3:¬ (c.toNat:Int)=60:=eM a3;have b4:¬ (c.toNat:Int)=62:=eM a4;have b5:¬ (c.toNat:Int)=123:=eM a5;have b6:¬ (c.toNat:Int)=125:=eM a6;have b7:=P7 a3 a4 a5 a6;have step:aC G0 g5 (ST [(0,.str s),(3,.int .i64 p.length),(8,.bool false)] [] [])=aC G0 g5 (ST [(0,.str s),(3,.int .i64 ((p.length+1:Nat):Int)),(8,.bool false)] [] []):=by
    conv=>lhs;rw[aA (L:=g5) rfl]
    simp only[go_sem,h4,h5,h0,hw,b1,b2,b3,b4,b5,b6]
   rw[step,Bool.true_and];exact ih
  | false =>
   refine⟨fun q=>(by simp at q),fun _=>?_⟩;by_cases a1:(c.toNat:Int) < 32
   ·refine Exists.intro ?_ (And.intro ?_ ?_)
    rotate_left 1
    ·rw[aA (L:=g5) rfl]
     simp only[go_sem,h4,h5,h0,a1];rfl
    ·rfl
   by_cases a2:126 < (c.toNat:Int)
   ·refine Exists.intro ?_ (And.intro ?_ ?_)
    rotate_left 1
    ·rw[aA (L:=g5) rfl]
     simp only[go_sem,h4,h5,h0,a1,a2];rfl
    ·rfl
   by_cases q3:c=60
   ·have a3:(c.toNat:Int)=60:=by rw[q3];rfl
    refine Exists.intro ?_ (And.intro ?_ ?_)
    rotate_left 1
    ·rw[aA (L:=g5) rfl]
     simp only[go_sem,h4,h5,h0,a1,a2,a3];rfl
    ·rfl
   have a3:¬ (c.toNat:Int)=60:=eM q3;by_cases q4:c=62
   ·have a4:(c.toNat:Int)=62:=by rw[q4];rfl
    refine Exists.intro ?_ (And.intro ?_ ?_)
    rotate_left 1
    ·rw[aA (L:=g5) rfl]
     simp only[go_sem,h4,h5,h0,a1,a2,a3,a4];rfl
    ·rfl
   have a4:¬ (c.toNat:Int)=62:=eM q4;by_cases q5:c=123
   ·have a5:(c.toNat:Int)=123:=by rw[q5];rfl
    refine Exists.intro ?_ (And.intro ?_ ?_)
    rotate_left 1
    ·rw[aA (L:=g5) rfl]
     simp only[go_sem,h4,h5,h0,a1,a2,a3,a4,a5];rfl
    ·rfl
   have a5:¬ (c.toNat:Int)=123:=eM q5;have q6:c=125:=by
    by_cases q6:c=125
    ·exact q6
    rw[hI.2 ⟨by omega,by omega,q3,q4,q5,q6⟩] at hc;cases hc
   have a6:(c.toNat:Int)=125:=by rw[q6];rfl
   refine Exists.intro ?_ (And.intro ?_ ?_)
   rotate_left 1
   ·rw[aA (L:=g5) rfl]
    simp only[go_sem,h4,h5,h0,a1,a2,a3,a4,a5,a6];rfl
   ·rfl
theorem yA {s:Bs} (h:1<=s.length):∃ c,s[s.length - 1]?=some c/\s.getLast?=some c:=by
 rcases eq_nil_or_concat s with rfl | ⟨r,d,rfl⟩
 ·simp at h
 ·exact⟨d,by simp,by simp⟩
theorem C2 (s:Bs):isC s=(decide (s.length<=64) && (s.all okB && (eF (aQ s) && ((decide ((aQ s).length=s.length) || decide ((aQ s).length+1 < s.length)) && !(s.getLast? == some 47))))):=by
 unfold isC;simp only[Bool.and_assoc]
theorem mN (s:Bs):(aQ s).length<=s.length:=by
 unfold aQ;exact (takeWhile_prefix _).length_le
theorem c75 (s:Bs):G0 58 [.str s] []=some (.bool (isC s),[]):=by
 refine aB F58 rfl rfl rfl ?_;rw[C2];by_cases h1:64 < s.length
 ·have h1':(64:Int) < (s.length:Int):=by omega
  have e:decide (s.length<=64)=false:=decide_eq_false (by omega);simp only[F58,go_sem,h1',e,Bool.false_and]
 have h1':¬ (64:Int) < (s.length:Int):=by omega
 have e1:decide (s.length<=64)=true:=decide_eq_true (by omega);obtain⟨x1,x2⟩:=l75 s (by omega) s [] rfl;have ec:((([]:Bs).length:Nat):Int)=0:=rfl;rw[ec] at x1 x2;cases hv:s.all okB with
 | false =>
  obtain⟨l',y1,y2⟩:=x2 hv;simp only[F58,go_sem,h1',e1,y1,y2,Bool.false_and,Bool.and_false]
 | true =>
  have y1:=x1 hv;have q:=c64 s (by omega);cases h2:eF (aQ s) with
  | false=>simp only[F58,go_sem,h1',e1,y1,q,c74,h2,Bool.false_and,Bool.and_false,Bool.true_and]
  | true =>
   have hn:1<=s.length:=by
    have:=mN s
    cases h:aQ s with
    | nil=>rw[h] at h2;cases h2
    | cons a b=>rw[h] at this;simp at this;omega
   obtain⟨c,g1,g2⟩:=yA hn;have g0:(s.length:Int) - 1=((s.length - 1:Nat):Int):=by omega
   have w1:IntKind.i64.wrap (((s.length - 1:Nat):Int))=((s.length - 1:Nat):Int):=w64 (by omega) (by omega);have gp:(0:Int)<=((s.length - 1:Nat):Int):=by omega
   have w2:IntKind.i64.wrap (((aQ s).length:Int)+1)=((aQ s).length:Int)+1:=w64 (by omega) (by have:=mN s;omega);rw[g2];have e3:(!(some c == some 47))=!decide ((c.toNat:Int)=47):=by
    by_cases hc:c=47
    ·subst hc;rfl
    ·have:¬ (c.toNat:Int)=47:=eM hc
     simp [hc,this]
   rw[e3];by_cases h3:(aQ s).length=s.length
   ·have h3':((aQ s).length:Int)=(s.length:Int):=by omega
    have e4:decide ((aQ s).length=s.length)=true:=decide_eq_true h3;by_cases h5:(c.toNat:Int)=47 <;>
    simp only[F58,go_sem,h1',e1,y1,q,c74,h2,h3',e4,g0,w1,gp,g1,h5,Bool.true_and,Bool.true_or,decide_true,decide_false,Bool.not_true,Bool.not_false]
   ·have h3':¬ ((aQ s).length:Int)=(s.length:Int):=by omega
    have e4:decide ((aQ s).length=s.length)=false:=decide_eq_false h3;by_cases h4:(aQ s).length+1 < s.length
    ·have h4':((aQ s).length:Int)+1 < (s.length:Int):=by omega
     have e5:decide ((aQ s).length+1 < s.length)=true:=decide_eq_true h4;by_cases h5:(c.toNat:Int)=47 <;>
     simp only[F58,go_sem,h1',e1,y1,q,c74,h2,h3',e4,e5,h4',w2,g0,w1,gp,g1,h5,Bool.true_and,Bool.or_true,decide_true,decide_false,Bool.not_true,Bool.not_false]
    ·have h4':¬ ((aQ s).length:Int)+1 < (s.length:Int):=by omega
     have e5:decide ((aQ s).length+1 < s.length)=false:=decide_eq_false h4;simp only[F58,go_sem,h1',e1,y1,q,c74,h2,h3',e4,e5,h4',w2,g0,w1,gp,g1,Bool.true_and,Bool.false_and,Bool.or_false]
theorem c97 (s:Bs):G0 47 [.str s] []=some (.bool (isC s),[]):=by
 refine aB F47 rfl rfl rfl ?_;rw[C2];by_cases h1:64 < s.length
 ·have h1':(64:Int) < (s.length:Int):=by omega
  have e:decide (s.length<=64)=false:=decide_eq_false (by omega);simp only[F47,go_sem,h1',e,Bool.false_and]
 have h1':¬ (64:Int) < (s.length:Int):=by omega
 have e1:decide (s.length<=64)=true:=decide_eq_true (by omega);by_cases hn:s.length=0
 ·have:s=[]:=length_eq_zero_iff.1 hn
  subst this;rfl
 have hn':¬ (s.length:Int)=0:=by omega
 obtain⟨c,g1,g2⟩:=yA (s:=s) (by omega);have g0:(s.length:Int) - 1=((s.length - 1:Nat):Int):=by omega
 have w1:IntKind.i64.wrap (((s.length - 1:Nat):Int))=((s.length - 1:Nat):Int):=w64 (by omega) (by omega);have gp:(0:Int)<=((s.length - 1:Nat):Int):=by omega
 rw[g2];by_cases h5:c=47
 ·subst h5
  have h5':(((47:UInt8).toNat:Nat):Int)=47:=rfl;simp only[F47,go_sem,h1',hn',g0,w1,gp,g1,h5',beq_self_eq_true,Bool.not_true,Bool.and_false]
 have h5':¬ (c.toNat:Int)=47:=eM h5;have e6:(!(some c == some 47))=true:=by simp [h5]
 obtain⟨x1,x2⟩:=l97 s (by omega) s [] rfl;have ec:((([]:Bs).length:Nat):Int)=0:=rfl;rw[ec] at x1 x2;cases hv:s.all okB with
 | false =>
  obtain⟨l',y1,y2⟩:=x2 hv;simp only[F47,go_sem,h1',hn',g0,w1,gp,g1,h5',e1,y1,y2,Bool.false_and,Bool.and_false]
 | true =>
  have y1:=x1 hv;cases hc:cut 32 s with
  | none =>
   rw[i5 hc];have q:=JA hc;cases h2:eF s with
   | false=>simp only[F47,go_sem,h1',hn',g0,w1,gp,g1,h5',e1,y1,q,c83,h2,Bool.true_and,Bool.false_and]
   | true=>simp only[F47,go_sem,h1',hn',g0,w1,gp,g1,h5',e1,e6,y1,q,c83,h2,Bool.true_and,Bool.and_true,decide_true,Bool.true_or]
  | some ab =>
   obtain⟨a,b⟩:=ab;rw[nD hc];have q:=I9 (by omega) hc;obtain⟨hs,_⟩:=jD.1 hc;have hl:s.length=a.length+1+b.length:=by rw[hs];simp;omega
   have e4:decide (a.length=s.length)=false:=decide_eq_false (by omega);cases h2:eF a with
   | false=>simp only[F47,go_sem,h1',hn',g0,w1,gp,g1,h5',e1,y1,q,c83,h2,Bool.true_and,Bool.false_and]
   | true =>
    by_cases h3:0 < b.length
    ·have h3':(0:Int) < (b.length:Int):=by omega
     have e5:decide (a.length+1 < s.length)=true:=decide_eq_true (by omega);simp only[F47,go_sem,h1',hn',g0,w1,gp,g1,h5',e1,e4,e5,e6,y1,q,c83,h2,h3',Bool.true_and,Bool.and_true,Bool.or_true]
    ·have h3':¬ (0:Int) < (b.length:Int):=by omega
     have e5:decide (a.length+1 < s.length)=false:=decide_eq_false (by omega);simp only[F47,go_sem,h1',hn',g0,w1,gp,g1,h5',e1,e4,e5,e6,y1,q,c83,h2,h3',Bool.true_and,Bool.and_true,Bool.or_false,Bool.false_and]
end Go.Av
namespace Go.Av
open Go.Nt
set_option maxHeartbeats 8000000
theorem yH (k:Int) (s:Bs) (i:Int):aW (k,s,i)=(decide (k=2) || decide (k=3) || decide (k=4)):=rfl
theorem c65 (k:Int) (s:Bs) (i:Int):G0 28 [.agg [.int .i64 k,.str s,.int .i64 i]] []=some (.bool (aW (k,s,i)),[]):=by
 refine aB F28 rfl rfl rfl ?_;rw[yH];by_cases h1:k=2
 ·simp only[F28,go_sem,h1]
  rfl
 by_cases h2:k=3
 ·simp only[F28,go_sem,h1,h2]
  rfl
 by_cases h3:k=4
 ·simp only[F28,go_sem,h1,h2,h3]
  rfl
 ·simp only[F28,go_sem,h1,h2,h3]
  rfl
theorem c69 (k:Int) (s:Bs) (i:Int):G0 33 [.agg [.int .i64 k,.str s,.int .i64 i]] []=some (.bool (aW (k,s,i)),[]):=by
 refine aB F33 rfl rfl rfl ?_;rw[yH];by_cases h1:k=2
 ·simp only[F33,go_sem,h1]
  rfl
 by_cases h2:k=3
 ·simp only[F33,go_sem,h1,h2]
  rfl
 by_cases h3:k=4
 ·simp only[F33,go_sem,h1,h2,h3]
  rfl
 ·simp only[F33,go_sem,h1,h2,h3]
  rfl
theorem c96 (k:Int) (s:Bs) (i:Int):G0 45 [.agg [.int .i64 k,.str s,.int .i64 i]] []=some (.int .i64 (wid (k,s,i):Nat),[]):=by
 refine aB F45 rfl rfl rfl ?_;have e:wid (k,s,i)=if k=1 then s.length else 1:=rfl
 rw[e];by_cases h1:k=1
 ·simp only[F45,go_sem,h1]
 ·simp only[F45,go_sem,h1]
theorem VQ (c:UInt8):G0 83 [.int .u8 (c.toNat:Int)] []=some (.bool (plain c),[]):=c77 c
end Go.Av
