/- Bytes and names: the functions of one byte, and the two tests of a name. How a byte is written and read; numbers in decimal. Numbers below 1000 in decimal: the reference's, and strconv.Itoa. Numbers below 1000 by strconv.Itoa. strconv.Itoa below 1000. Finding a byte, cutting at it, prefixes and suffixes of one byte; names of tags; the number of a tag. The name of a content, the number of a tag, the test of a content. Kinds of items, tags, elements: what the package reads. -/
import Derived.Test.YtmjfblcmbcfkcaaGreatDoorG2Sm
import Derived.Test.YtmjfblcmbcfkcaaGreatDoorG2XA
import Derived.IntWalk
open List
set_option linter.unusedSimpArgs false
set_option linter.unusedVariables false
set_option linter.unusedSectionVars false
set_option maxRecDepth 100000
set_option maxHeartbeats 16000000
namespace Go.Av
open Go.Nt
set_option maxHeartbeats 4000000
abbrev bI (c:UInt8):Int:=(c.toNat:Int)
theorem wu8 {n:Int} (h1:0<=n) (h2:n<=255):IntKind.u8.wrap n=n:=by
 unfold IntKind.wrap;have e:IntKind.u8.bits=8:=rfl;simp only[e,IntKind.signed,Bool.false_and,Bool.false_eq_true,if_false];omega
def jK (x:Int):Int:=if x=9\/x=10\/x=13\/x=32 then 2 else if x < 32\/x=127 then 1 else if 48<=x/\x<=57 then 3 else if 97<=x/\x<=122\/65<=x/\x<=90\/128<=x then 4 else 5
theorem S4 (x:Int):G0 153 [.int .u8 x] []=some (.int .i64 (jK x),[]):=by
 refine aA BZ rfl rfl rfl ?_;by_cases h1:x=9
 ·subst h1;simp only[BZ,go_sem,jK,true_or,or_true]
 by_cases h2:x=10
 ·subst h2;simp only[BZ,go_sem,jK,true_or,or_true]
 by_cases h3:x=13
 ·subst h3;simp only[BZ,go_sem,jK,true_or,or_true]
 by_cases h4:x=32
 ·subst h4;simp only[BZ,go_sem,jK,true_or,or_true]
 by_cases h5:x < 32
 ·simp only[BZ,go_sem,jK,h1,h2,h3,h4,h5,true_or,or_true,or_self]
 by_cases h6:x=127
 ·subst h6;simp only[BZ,go_sem,jK,true_or,or_true,or_self]
 by_cases a1:48<=x<;>by_cases a2:x<=57<;>by_cases a3:97<=x<;>by_cases a4:x<=122<;>by_cases a5:65<=x<;>by_cases a6:x<=90<;>by_cases a7:128<=x<;>first | (exfalso;omega) | simp only[BZ,go_sem,jK,h1,h2,h3,h4,h5,h6,a1,a2,a3,a4,a5,a6,a7,true_or,or_true,or_self,or_false,false_or]
theorem c102 (x:Int):G0 154 [.int .u8 x] []=some (.int .i64 (jK x),[]):=by
 refine aA BY rfl rfl rfl ?_;by_cases h1:x=9
 ·subst h1;simp only[BY,go_sem,jK,true_or,or_true]
 by_cases h2:x=10
 ·subst h2;simp only[BY,go_sem,jK,true_or,or_true]
 by_cases h3:x=13
 ·subst h3;simp only[BY,go_sem,jK,true_or,or_true]
 by_cases h4:x=32
 ·subst h4;simp only[BY,go_sem,jK,true_or,or_true]
 by_cases h5:x < 32
 ·simp only[BY,go_sem,jK,h1,h2,h3,h4,h5,true_or,or_true,or_self]
 by_cases h6:x=127
 ·subst h6;simp only[BY,go_sem,jK,true_or,or_true,or_self]
 by_cases a1:48<=x<;>by_cases a2:x<=57<;>by_cases a3:97<=x<;>by_cases a4:x<=122<;>by_cases a5:65<=x<;>by_cases a6:x<=90<;>by_cases a7:128<=x<;>first | (exfalso;omega) | simp only[BY,go_sem,jK,h1,h2,h3,h4,h5,h6,a1,a2,a3,a4,a5,a6,a7,true_or,or_true,or_self,or_false,false_or]
def lD (x:Int):Bool:=if x=92 then false else if x=60 then false else if x=123 then false else if x=9 then false else if x=10 then false else if x=13 then false else !decide (jK x=1)
theorem QS (c:UInt8):gP c=lD (bI c):=by
 have:=eH (fun c=>gP c == lD (bI c)) (by decide +kernel) c
 simpa using this
theorem UU (c:UInt8):ctl c=decide (jK (bI c)=1):=by
 have:=eH (fun c=>ctl c == decide (jK (bI c)=1)) (by decide +kernel) c
 simpa using this
theorem c77 (c:UInt8):G0 129 [.int .u8 (bI c)] []=some (.bool (gP c),[]):=by
 refine aA yO rfl rfl rfl ?_;rw[QS];generalize bI c=x;by_cases h1:x=92
 ·simp only[yO,go_sem,lD,h1]
 by_cases h2:x=60
 ·simp only[yO,go_sem,lD,h1,h2]
 by_cases h3:x=123
 ·simp only[yO,go_sem,lD,h1,h2,h3]
 by_cases h4:x=9
 ·simp only[yO,go_sem,lD,h1,h2,h3,h4]
 by_cases h5:x=10
 ·simp only[yO,go_sem,lD,h1,h2,h3,h4,h5]
 by_cases h6:x=13
 ·simp only[yO,go_sem,lD,h1,h2,h3,h4,h5,h6]
 by_cases h7:jK x=1
 ·simp only[yO,go_sem,lD,h1,h2,h3,h4,h5,h6,S4,h7]
 ·simp only[yO,go_sem,lD,h1,h2,h3,h4,h5,h6,S4,h7]
theorem UE (c:UInt8):nmB c=true↔(97<=bI c/\bI c<=122)\/(48<=bI c/\bI c<=57)\/bI c=45:=by
 unfold nmB qC bI;simp only[Bool.or_eq_true,Bool.and_eq_true,decide_eq_true_eq];omega
theorem MR (c:UInt8):qC c=true↔(97<=bI c/\bI c<=122):=by
 unfold qC bI;simp only[Bool.and_eq_true,decide_eq_true_eq];omega
theorem wD {s:Bs} {i:Nat} (h:i < s.length):∃ c,s[i]?=some c/\s.drop i=c :: s.drop (i+1):=⟨s[i],getElem?_eq_getElem h,drop_eq_getElem_cons h⟩
theorem HU (s:Bs):cW s=(decide (1<=s.length) && decide (s.length<=24) && qC (s.headD 0) && (s.drop 1).all nmB):=by
 cases s with
 | nil=>rfl
 | cons c r =>
  simp only[cW,length_cons,headD_cons,drop_succ_cons,drop_zero];have e1:decide (1<=r.length+1)=true:=decide_eq_true (by omega);have e2:decide (r.length+1<=24)=decide (r.length < 24):=by rw[decide_eq_decide];omega
  rw[e1,e2,Bool.true_and]
theorem l83 (s:Bs) (hs:s.length<=24):∀ (k i:Nat),i+k=s.length->1<=i ->
  ((s.drop i).all nmB=true->aC G0 qP (ST [(0,.str s),(3,.int .i64 i),(22,.bool false)] [] [])=some (.ex 0,ST [(0,.str s),(3,.int .i64 s.length),(22,.bool false),(26,.bool false)] [] [])) /\
  ((s.drop i).all nmB=false->∃ l',aC G0 qP (ST [(0,.str s),(3,.int .i64 i),(22,.bool false)] [] [])=some (.ret,ST l' [] [])/\aE .any l' 2=.bool false)
 | 0,i,h1,h2=>by
  have:i=s.length:=by omega
  subst this;refine⟨fun _=>?_,fun h=>(by simp at h)⟩;rw[aB (L:=qP) rfl];simp only[go_sem,Int.lt_irrefl]
 | k+1,i,h1,h2=>by
  have h4:(i:Int) < (s.length:Int):=by omega
  obtain⟨c,h5,hd⟩:=wD (s:=s) (i:=i) (by omega);have h0:(0:Int)<=(i:Int):=by omega
  have hp:(0:Int) < (i:Int):=by omega
  have hw:=wI (i:=i) (by omega)
  have ih:=l83 s hs k (i+1) (by omega) (by omega);rw[hd,all_cons];have hI:=UE c;unfold bI at hI;cases hc:nmB c with
  | true =>
   rw[Bool.true_and];have hI:=hI.1 hc;have step:aC G0 qP (ST [(0,.str s),(3,.int .i64 i),(22,.bool false)] [] [])=aC G0 qP (ST [(0,.str s),(3,.int .i64 ((i+1:Nat):Int)),(22,.bool false)] [] []):=by
    conv=>lhs;rw[aB (L:=qP) rfl]
    rcases hI with ⟨a1,a2⟩ | ⟨a3,a4⟩ | a5
    ·simp only[go_sem,h4,h5,h0,hp,hw,a1,a2]
    ·have a1:¬ 97<=(c.toNat:Int):=by omega
     simp only[go_sem,h4,h5,h0,hp,hw,a1,a3,a4]
    ·simp only[go_sem,h4,h5,h0,hp,hw,a5]
   rw[step];exact ih
  | false =>
   rw[Bool.false_and];refine⟨fun h=>(by cases h),fun _=>?_⟩;have hN:=fun q=>Bool.false_ne_true (hc.symm.trans (hI.2 q))
   have a5:¬ (c.toNat:Int)=45:=fun q=>hN (.inr (.inr q))
   by_cases a1:97<=(c.toNat:Int)
   ·have a2:¬ (c.toNat:Int)<=122:=fun q=>hN (.inl ⟨a1,q⟩)
    have a3:48<=(c.toNat:Int):=by omega
    have a4:¬ (c.toNat:Int)<=57:=by omega
    refine Exists.intro ?_ (And.intro ?_ ?_)
    rotate_left 1
    ·rw[aB (L:=qP) rfl]
     simp only[go_sem,h4,h5,h0,hp,a1,a2,a3,a4,a5];rfl
    ·rfl
   ·by_cases a3:48<=(c.toNat:Int)
    ·have a4:¬ (c.toNat:Int)<=57:=fun q=>hN (.inr (.inl ⟨a3,q⟩))
     refine Exists.intro ?_ (And.intro ?_ ?_)
     rotate_left 1
     ·rw[aB (L:=qP) rfl]
      simp only[go_sem,h4,h5,h0,hp,a1,a3,a4,a5];rfl
     ·rfl
    ·refine Exists.intro ?_ (And.intro ?_ ?_)
     rotate_left 1
     ·rw[aB (L:=qP) rfl]
      simp only[go_sem,h4,h5,h0,hp,a1,a3,a5];rfl
     ·rfl
theorem l74 (s:Bs) (hs:s.length<=24):∀ (k i:Nat),i+k=s.length->1<=i ->
  ((s.drop i).all nmB=true->aC G0 gC (ST [(0,.str s),(3,.int .i64 i),(12,.bool false)] [] [])=some (.ex 0,ST [(0,.str s),(3,.int .i64 s.length),(12,.bool false),(16,.bool false)] [] [])) /\
  ((s.drop i).all nmB=false->∃ l',aC G0 gC (ST [(0,.str s),(3,.int .i64 i),(12,.bool false)] [] [])=some (.ret,ST l' [] [])/\aE .any l' 2=.bool false)
 | 0,i,h1,h2=>by
  have:i=s.length:=by omega
  subst this;refine⟨fun _=>?_,fun h=>(by simp at h)⟩;rw[aB (L:=gC) rfl];simp only[go_sem,Int.lt_irrefl]
 | k+1,i,h1,h2=>by
  have h4:(i:Int) < (s.length:Int):=by omega
  obtain⟨c,h5,hd⟩:=wD (s:=s) (i:=i) (by omega);have h0:(0:Int)<=(i:Int):=by omega
  have hp:(0:Int) < (i:Int):=by omega
  have hw:=wI (i:=i) (by omega)
  have ih:=l74 s hs k (i+1) (by omega) (by omega);rw[hd,all_cons];have hI:=UE c;unfold bI at hI;cases hc:nmB c with
  | true =>
   rw[Bool.true_and];have hI:=hI.1 hc;have step:aC G0 gC (ST [(0,.str s),(3,.int .i64 i),(12,.bool false)] [] [])=aC G0 gC (ST [(0,.str s),(3,.int .i64 ((i+1:Nat):Int)),(12,.bool false)] [] []):=by
    conv=>lhs;rw[aB (L:=gC) rfl]
    rcases hI with ⟨a1,a2⟩ | ⟨a3,a4⟩ | a5
    ·simp only[go_sem,h4,h5,h0,hp,hw,a1,a2]
    ·have a1:¬ 97<=(c.toNat:Int):=by omega
     simp only[go_sem,h4,h5,h0,hp,hw,a1,a3,a4]
    ·simp only[go_sem,h4,h5,h0,hp,hw,a5]
   rw[step];exact ih
  | false =>
   rw[Bool.false_and];refine⟨fun h=>(by cases h),fun _=>?_⟩;have hN:=fun q=>Bool.false_ne_true (hc.symm.trans (hI.2 q))
   have a5:¬ (c.toNat:Int)=45:=fun q=>hN (.inr (.inr q))
   by_cases a1:97<=(c.toNat:Int)
   ·have a2:¬ (c.toNat:Int)<=122:=fun q=>hN (.inl ⟨a1,q⟩)
    have a3:48<=(c.toNat:Int):=by omega
    have a4:¬ (c.toNat:Int)<=57:=by omega
    refine Exists.intro ?_ (And.intro ?_ ?_)
    rotate_left 1
    ·rw[aB (L:=gC) rfl]
     simp only[go_sem,h4,h5,h0,hp,a1,a2,a3,a4,a5];rfl
    ·rfl
   ·by_cases a3:48<=(c.toNat:Int)
    ·have a4:¬ (c.toNat:Int)<=57:=fun q=>hN (.inr (.inl ⟨a3,q⟩))
     refine Exists.intro ?_ (And.intro ?_ ?_)
     rotate_left 1
     ·rw[aB (L:=gC) rfl]
      simp only[go_sem,h4,h5,h0,hp,a1,a3,a4,a5];rfl
     ·rfl
    ·refine Exists.intro ?_ (And.intro ?_ ?_)
     rotate_left 1
     ·rw[aB (L:=gC) rfl]
      simp only[go_sem,h4,h5,h0,hp,a1,a3,a5];rfl
     ·rfl
theorem zJ {s:Bs} (h:1<=s.length):s[0]?=some (s.headD 0):=by
 cases s with
 | nil=>simp at h
 | cons c r=>rfl
theorem c83 (s:Bs):G0 95 [.str s] []=some (.bool (cW s),[]):=by
 refine aA F95 rfl rfl rfl ?_;rw[HU];by_cases h1:s.length < 1
 ·have h1':(s.length:Int) < 1:=by omega
  have e:decide (1<=s.length)=false:=decide_eq_false (by omega);simp only[F95,go_sem,h1',e]
 have h1':¬ (s.length:Int) < 1:=by omega
 have e1:decide (1<=s.length)=true:=decide_eq_true (by omega);by_cases h2:24 < s.length
 ·have h2':(24:Int) < (s.length:Int):=by omega
  have e:decide (s.length<=24)=false:=decide_eq_false (by omega);simp only[F95,go_sem,h1',h2',e1,e]
 have h2':¬ (24:Int) < (s.length:Int):=by omega
 have e2:decide (s.length<=24)=true:=decide_eq_true (by omega);have h3:=zJ (s:=s) (by omega);generalize s.headD 0=c at h3 ⊢;have hl:=MR c;unfold bI at hl;by_cases h4:(c.toNat:Int) < 97
 ·have e:qC c=false:=by cases h:qC c with | false=>rfl | true=>have:=hl.1 h;omega
  simp only[F95,go_sem,h1',h2',h3,h4,e1,e2,e]
 by_cases h5:122 < (c.toNat:Int)
 ·have e:qC c=false:=by cases h:qC c with | false=>rfl | true=>have:=hl.1 h;omega
  simp only[F95,go_sem,h1',h2',h3,h4,h5,e1,e2,e]
 have e:qC c=true:=hl.2 ⟨by omega,by omega⟩;obtain⟨x1,x2⟩:=l83 s (by omega) (s.length - 1) 1 (by omega) (by omega);have ec:((1:Nat):Int)=1:=rfl;rw[ec] at x1 x2;cases hv:(s.drop 1).all nmB with
 | true=>simp only[F95,go_sem,h1',h2',h3,h4,h5,e1,e2,e,x1 hv]
 | false =>
  obtain⟨l',y1,y2⟩:=x2 hv;simp only[F95,go_sem,h1',h2',h3,h4,h5,e1,e2,e,y1,y2]
theorem c74 (s:Bs):G0 112 [.str s] []=some (.bool (cW s),[]):=by
 refine aA D5 rfl rfl rfl ?_;rw[HU];by_cases h1:s.length < 1
 ·have h1':(s.length:Int) < 1:=by omega
  have e:decide (1<=s.length)=false:=decide_eq_false (by omega);simp only[D5,go_sem,h1',e]
 have h1':¬ (s.length:Int) < 1:=by omega
 have e1:decide (1<=s.length)=true:=decide_eq_true (by omega);by_cases h2:24 < s.length
 ·have h2':(24:Int) < (s.length:Int):=by omega
  have e:decide (s.length<=24)=false:=decide_eq_false (by omega);simp only[D5,go_sem,h1',h2',e1,e]
 have h2':¬ (24:Int) < (s.length:Int):=by omega
 have e2:decide (s.length<=24)=true:=decide_eq_true (by omega);have h3:=zJ (s:=s) (by omega);generalize s.headD 0=c at h3 ⊢;have hl:=MR c;unfold bI at hl;have h9:(0:Int) < (s.length:Int):=by omega
 obtain⟨x1,x2⟩:=l74 s (by omega) (s.length - 1) 1 (by omega) (by omega);have ec:((1:Nat):Int)=1:=rfl;rw[ec] at x1 x2;by_cases h4:97<=(c.toNat:Int)
 ·by_cases h5:(c.toNat:Int)<=122
  ·have e:qC c=true:=hl.2 ⟨h4,h5⟩
   have step:aC G0 gC (ST [(0,.str s),(3,.int .i64 0),(12,.bool false)] [] [])=aC G0 gC (ST [(0,.str s),(3,.int .i64 1),(12,.bool false)] [] []):=by
    conv=>lhs;rw[aB (L:=gC) rfl]
    simp only[go_sem,h9,h3,h4,h5]
   cases hv:(s.drop 1).all nmB with
   | true=>simp only[D5,go_sem,h1',h2',step,e1,e2,e,x1 hv]
   | false =>
    obtain⟨l',y1,y2⟩:=x2 hv;simp only[D5,go_sem,h1',h2',step,e1,e2,e,y1,y2]
  ·have e:qC c=false:=by cases h:qC c with | false=>rfl | true=>have:=hl.1 h;omega
   have step:∃ l',aC G0 gC (ST [(0,.str s),(3,.int .i64 0),(12,.bool false)] [] [])=some (.ret,ST l' [] [])/\aE .any l' 2=.bool false:=by
    refine Exists.intro ?_ (And.intro ?_ ?_)
    rotate_left 1
    ·rw[aB (L:=gC) rfl]
     simp only[go_sem,h9,h3,h4,h5,Int.lt_irrefl];rfl
    ·rfl
   obtain⟨l',y1,y2⟩:=step;simp only[D5,go_sem,h1',h2',e1,e2,e,y1,y2]
 ·have e:qC c=false:=by cases h:qC c with | false=>rfl | true=>have:=hl.1 h;omega
  have step:∃ l',aC G0 gC (ST [(0,.str s),(3,.int .i64 0),(12,.bool false)] [] [])=some (.ret,ST l' [] [])/\aE .any l' 2=.bool false:=by
   refine Exists.intro ?_ (And.intro ?_ ?_)
   rotate_left 1
   ·rw[aB (L:=gC) rfl]
    simp only[go_sem,h9,h3,h4,Int.lt_irrefl];rfl
   ·rfl
  obtain⟨l',y1,y2⟩:=step;simp only[D5,go_sem,h1',h2',e1,e2,e,y1,y2]
end Go.Av
namespace Go.Av
open Go.Nt
set_option maxHeartbeats 4000000
theorem bR (x:Int) (r:LL):bY ([.int .u8 x] :: r)=(bY r).map fun t=>UInt8.ofNat x.toNat :: t:=by
 simp only[bY,BN]
 cases bY r<;>rfl
theorem uJ (x:Int):iE 1 [.int .u8 0] 1 [0] [.int .u8 x]=some (.sl .full 1 [[.int .u8 x]]):=rfl
theorem zDI (x y:Int):iE 1 [.int .u8 0] 2 [0,1] [.int .u8 x,.int .u8 y]=some (.sl .full 1 [[.int .u8 x],[.int .u8 y]]):=rfl
def RY:Bs:=[48,49,50,51,52,53,54,55,56,57,97,98,99,100,101,102]
theorem vV {n:Nat} (h:n < 16):RY[n]?=some (rA n):=by
 have:∀ n:Fin 16,RY[n.1]?=some (rA n.1):=by decide
 exact this ⟨n,h⟩
theorem c78 (c:UInt8):G0 130 [.int .u8 (bI c)] []=some (.str (wrt c),[]):=by
 refine aA TH rfl rfl rfl ?_;have hb:=c.toNat_lt;have e92:bI c=92↔c=92:=by unfold bI;rw[<- UInt8.toNat_inj];show _↔c.toNat=92;omega
 have e60:bI c=60↔c=60:=by unfold bI;rw[<- UInt8.toNat_inj];show _↔c.toNat=60;omega
 have e123:bI c=123↔c=123:=by unfold bI;rw[<- UInt8.toNat_inj];show _↔c.toNat=123;omega
 have e10:bI c=10↔c=10:=by unfold bI;rw[<- UInt8.toNat_inj];show _↔c.toNat=10;omega
 have e9:bI c=9↔c=9:=by unfold bI;rw[<- UInt8.toNat_inj];show _↔c.toNat=9;omega
 have e13:bI c=13↔c=13:=by unfold bI;rw[<- UInt8.toNat_inj];show _↔c.toNat=13;omega
 by_cases h1:c=92
 ·subst h1;rfl
 by_cases h2:c=60
 ·subst h2;rfl
 by_cases h3:c=123
 ·subst h3;rfl
 have a1:¬ bI c=92:=fun q=>h1 (e92.1 q)
 have a2:¬ bI c=60:=fun q=>h2 (e60.1 q)
 have a3:¬ bI c=123:=fun q=>h3 (e123.1 q)
 by_cases h4:c=10
 ·subst h4;rfl
 by_cases h5:c=9
 ·subst h5;rfl
 have a4:¬ bI c=10:=fun q=>h4 (e10.1 q)
 have a5:¬ bI c=9:=fun q=>h5 (e9.1 q)
 by_cases h6:c=13
 ·subst h6;rfl
 have a6:¬ bI c=13:=fun q=>h6 (e13.1 q)
 have hc:=UU c;cases h7:ctl c with
 | true =>
  rw[h7] at hc;have a7:jK (bI c)=1:=of_decide_eq_true hc.symm;rw[H6 c (.inr h7)];have q1:(bI c).tdiv 16=((c.toNat / 16:Nat):Int):=by unfold bI;rw[Int.tdiv_eq_ediv_of_nonneg (by omega)];omega
  have q2:(bI c).tmod 16=((c.toNat % 16:Nat):Int):=by unfold bI;rw[Int.tmod_eq_emod_of_nonneg (by omega)];omega
  have q3:IntKind.u8.wrap ((c.toNat / 16:Nat):Int)=((c.toNat / 16:Nat):Int):=wu8 (by omega) (by omega);have q4:(0:Int)<=((c.toNat / 16:Nat):Int):=by omega
  have q5:(0:Int)<=((c.toNat % 16:Nat):Int):=by omega
  have q6:=vV (n:=c.toNat / 16) (by omega);have q7:=vV (n:=c.toNat % 16) (by omega);simp only[RY] at q6 q7;simp only[TH,go_sem,a1,a2,a3,a4,a5,a6,c102,a7,q1,q2,q3,q4,q5,q6,q7,zDI,bR,UInt8.ofNat_toNat]
 | false =>
  rw[h7] at hc;have a7:¬ jK (bI c)=1:=of_decide_eq_false hc.symm;have ew:wrt c=[c]:=by
   unfold wrt;rw[if_neg (by rintro (q | q | q);exact h1 q;exact h2 q;exact h3 q),if_neg h4,if_neg h5,if_neg (by rintro (q | q);exact h6 q;rw[h7] at q;cases q)]
  rw[ew];simp only[TH,go_sem,a1,a2,a3,a4,a5,a6,c102,a7,uJ,bR,UInt8.ofNat_toNat]
theorem c104 (c:UInt8):G0 157 [.int .u8 (bI c)] []=some (.tup [.int .u8 (match u6 c with | some n=>(n:Int) | none=>0),.bool (u6 c).isSome],[]):=by
 refine aA FT rfl rfl rfl ?_;have hb:=c.toNat_lt;unfold u6;by_cases h1:48<=bI c
 ·by_cases h2:bI c<=57
  ·have e:IntKind.u8.wrap (bI c - 48)=((c.toNat - 48:Nat):Int):=by rw[wu8 (by omega) (by unfold bI;omega)];unfold bI at h1 ⊢;omega
   rw[if_pos (by unfold bI at h1 h2;omega)];simp only[FT,go_sem,h1,h2,e,Option.isSome_some]
  ·by_cases h3:97<=bI c
   ·by_cases h4:bI c<=102
    ·have e:IntKind.u8.wrap (bI c - 97)=bI c - 97:=wu8 (by omega) (by omega)
     have e2:IntKind.u8.wrap (bI c - 97+10)=((c.toNat - 87:Nat):Int):=by rw[wu8 (by omega) (by omega)];unfold bI at h3 ⊢;omega
     rw[if_neg (by unfold bI at h2;omega),if_pos (by unfold bI at h3 h4;omega)];simp only[FT,go_sem,h1,h2,h3,h4,e,e2,Option.isSome_some]
    ·rw[if_neg (by unfold bI at h2;omega),if_neg (by unfold bI at h4;omega)]
     simp only[FT,go_sem,h1,h2,h3,h4,Option.isSome_none]
   ·rw[if_neg (by unfold bI at h2;omega),if_neg (by unfold bI at h3;omega)]
    simp only[FT,go_sem,h1,h2,h3,Option.isSome_none]
 ·have h3:¬ 97<=bI c:=by omega
  rw[if_neg (by unfold bI at h1;omega),if_neg (by unfold bI at h3;omega)];simp only[FT,go_sem,h1,h3,Option.isSome_none]
theorem orI (a b:Nat) (ha:a < 16) (hb:b < 16):((((a:Int)*16 % 256).toNat ||| ((b:Int) % 256).toNat:Nat):Int)=((a*16+b:Nat):Int):=by
 have:∀ (a b:Fin 16),((((a.1:Int)*16 % 256).toNat ||| ((b.1:Int) % 256).toNat:Nat):Int)=((a.1*16+b.1:Nat):Int):=by decide +kernel
 exact this ⟨a,ha⟩ ⟨b,hb⟩
theorem c80 (r:Bs) (hr:r.length<=1000000):∃ (x n:Int) (b:Bool),G0 144 [.str (92 :: r)] []=some (.tup [.int .u8 x,.int .i64 n,.bool b],[])/\(∀ c m,rdE r=some (c,m)->x=bI c/\n=(m:Int)/\b=true)/\(rdE r=none->b=false):=by
 cases r with
 | nil =>
  refine⟨0,0,false,?_,fun c m h=>(by cases h),fun _=>rfl⟩;refine aA iK rfl rfl rfl ?_;simp only[iK,go_sem]
 | cons d r =>
  have hl2:¬ (((r.length+1+1:Nat):Nat):Int) < 2:=by omega
  have g1:(92 :: d :: r)[1]?=some d:=rfl;have key:∀ k:UInt8,bI d=(k.toNat:Int)->d=k:=fun k h=>by
   rw[<- UInt8.toNat_inj];unfold bI at h;omega
  by_cases h1:d=92
  ·subst h1
   refine⟨92,2,true,?_,fun c m h=>?_,fun h=>by cases h⟩
   ·refine aA iK rfl rfl rfl ?_
    simp only[iK,go_sem,hl2,g1];rfl
   ·cases h;exact⟨rfl,rfl,rfl⟩
  by_cases h2:d=60
  ·subst h2
   refine⟨60,2,true,?_,fun c m h=>?_,fun h=>by cases h⟩
   ·refine aA iK rfl rfl rfl ?_
    simp only[iK,go_sem,hl2,g1];rfl
   ·cases h;exact⟨rfl,rfl,rfl⟩
  by_cases h3:d=123
  ·subst h3
   refine⟨123,2,true,?_,fun c m h=>?_,fun h=>by cases h⟩
   ·refine aA iK rfl rfl rfl ?_
    simp only[iK,go_sem,hl2,g1];rfl
   ·cases h;exact⟨rfl,rfl,rfl⟩
  by_cases h4:d=110
  ·subst h4
   refine⟨10,2,true,?_,fun c m h=>?_,fun h=>by cases h⟩
   ·refine aA iK rfl rfl rfl ?_
    simp only[iK,go_sem,hl2,g1];rfl
   ·cases h;exact⟨rfl,rfl,rfl⟩
  by_cases h5:d=116
  ·subst h5
   refine⟨9,2,true,?_,fun c m h=>?_,fun h=>by cases h⟩
   ·refine aA iK rfl rfl rfl ?_
    simp only[iK,go_sem,hl2,g1];rfl
   ·cases h;exact⟨rfl,rfl,rfl⟩
  have a1:¬ bI d=92:=fun q=>h1 (key 92 q)
  have a2:¬ bI d=60:=fun q=>h2 (key 60 q)
  have a3:¬ bI d=123:=fun q=>h3 (key 123 q)
  have a4:¬ bI d=110:=fun q=>h4 (key 110 q)
  have a5:¬ bI d=116:=fun q=>h5 (key 116 q)
  by_cases h6:d=120
  ·subst h6
   match r,hr with
   | [],_ =>
    refine⟨0,0,false,?_,fun c m h=>?_,fun h=>rfl⟩
    ·refine aA iK rfl rfl rfl ?_
     simp only[iK,go_sem,g1];rfl
    ·cases h
   | [h],_ =>
    refine⟨0,0,false,?_,fun c m h=>?_,fun h=>rfl⟩
    ·refine aA iK rfl rfl rfl ?_
     simp only[iK,go_sem,g1];rfl
    ·cases h
   | h :: l :: r,hr =>
    have hl4:¬ (((r.length+1+1+1+1:Nat):Nat):Int) < 4:=by omega
    have hl2':¬ (((r.length+1+1+1+1:Nat):Nat):Int) < 2:=by omega
    have g2:(92 :: 120 :: h :: l :: r)[2]?=some h:=rfl;have g3:(92 :: 120 :: h :: l :: r)[3]?=some l:=rfl;have c1:=c104 h;have c2:=c104 l
    have er:rdE (120 :: h :: l :: r)=(match u6 h,u6 l with
     | some a,some b=>if UInt8.ofNat (a*16+b)=13\/ctl (UInt8.ofNat (a*16+b))=true then some (UInt8.ofNat (a*16+b),4) else none
     | _,_=>none):=rfl
    cases hh:u6 h with
    | none =>
     rw[hh] at c1 er;refine Exists.intro ?_ (Exists.intro 4 (Exists.intro false ⟨?_,fun c m h=>(by rw[er] at h;cases h),fun h=>rfl⟩))
     rotate_left 1
     refine aA iK rfl rfl rfl ?_;simp only[iK,go_sem,g1,g2,g3,hl4,hl2',c1,c2,Option.isSome_none];rfl
    | some a =>
     obtain⟨ha,_⟩:=vU hh;cases hl:u6 l with
     | none =>
      rw[hh] at c1 er;rw[hl] at c2 er;refine Exists.intro ?_ (Exists.intro 4 (Exists.intro false ⟨?_,fun c m h=>(by rw[er] at h;cases h),fun h=>rfl⟩))
      rotate_left 1
      refine aA iK rfl rfl rfl ?_;simp only[iK,go_sem,g1,g2,g3,hl4,hl2',c1,c2,Option.isSome_none,Option.isSome_some];rfl
     | some b =>
      obtain⟨hb,_⟩:=vU hl;rw[hh] at c1 er;rw[hl] at c2 er;simp only[] at er;have q1:IntKind.u8.wrap ((a:Int)*2 ^ (min 4 8))=(a:Int)*16:=by
       have e:(2:Int) ^ (min 4 8)=16:=rfl;rw[e,wu8 (by omega) (by omega)]
      have n120:((UInt8.toNat 120:Nat):Int)=120:=rfl;have q2:IntKind.u8.wrap (((((a:Int)*16) % 2 ^ 8).toNat ||| ((b:Int) % 2 ^ 8).toNat:Nat):Int)=bI (UInt8.ofNat (a*16+b)):=by
       have e:(2:Int) ^ 8=256:=rfl;rw[e,orI a b ha hb,wu8 (by omega) (by omega)];unfold bI;rw[ofN a b ha hb]
      generalize UInt8.ofNat (a*16+b)=v at q2 er;have hc:=UU v;have q3:bI v=13↔v=13:=by unfold bI;rw[<- UInt8.toNat_inj];show _↔v.toNat=13;omega
      by_cases w1:v=13
      ·have w1':bI v=13:=q3.2 w1
       rw[if_pos (.inl w1)] at er;refine⟨bI v,4,true,?_,fun c m h=>?_,fun h=>(by rw[er] at h;cases h)⟩
       ·refine aA iK rfl rfl rfl ?_
        simp only[iK,go_sem,g1,g2,g3,hl4,hl2',c1,c2,Option.isSome_some,n120,q1,q2,w1']
       ·rw[er] at h;cases h;exact⟨rfl,rfl,rfl⟩
      ·have w1':¬ bI v=13:=fun q=>w1 (q3.1 q)
       cases w2:ctl v with
       | true =>
        rw[w2] at hc;have w3:jK (bI v)=1:=of_decide_eq_true hc.symm;rw[if_pos (.inr w2)] at er;refine⟨bI v,4,true,?_,fun c m h=>?_,fun h=>(by rw[er] at h;cases h)⟩
        ·refine aA iK rfl rfl rfl ?_
         simp only[iK,go_sem,g1,g2,g3,hl4,hl2',c1,c2,Option.isSome_some,n120,q1,q2,w1',S4,w3]
        ·rw[er] at h;cases h;exact⟨rfl,rfl,rfl⟩
       | false =>
        rw[w2] at hc;have w3:¬ jK (bI v)=1:=of_decide_eq_false hc.symm;rw[if_neg (by rintro (q | q);exact w1 q;rw[w2] at q;cases q)] at er;refine⟨bI v,4,false,?_,fun c m h=>(by rw[er] at h;cases h),fun h=>rfl⟩;refine aA iK rfl rfl rfl ?_;simp only[iK,go_sem,g1,g2,g3,hl4,hl2',c1,c2,Option.isSome_some,n120,q1,q2,w1',S4,w3]
  ·have a6:¬ bI d=120:=fun q=>h6 (key 120 q)
   have er:rdE (d :: r)=none:=by
    simp only[rdE];rw[if_neg (by rintro (q | q | q);exact h1 q;exact h2 q;exact h3 q),if_neg h4,if_neg h5,if_neg h6]
   refine⟨0,0,false,?_,fun c m h=>(by rw[er] at h;cases h),fun h=>rfl⟩;refine aA iK rfl rfl rfl ?_;simp only[iK,go_sem,hl2,g1,a1,a2,a3,a4,a5,a6]
end Go.Av
namespace Go.Av
open Go.Nt
set_option maxHeartbeats 4000000
theorem O6 (n:Nat):((n:Int)).tmod 10=((n % 10:Nat):Int):=by rw[Int.tmod_eq_emod_of_nonneg (by omega)];omega
theorem PD (n:Nat):((n:Int)).tdiv 10=((n / 10:Nat):Int):=by rw[Int.tdiv_eq_ediv_of_nonneg (by omega)];omega
theorem SF (n:Nat):UInt8.ofNat (48+(n:Int)).toNat=dig n:=by
 unfold dig
 congr 1
theorem JR (n:Nat) (hn:n<=1000000) (t:Bs) (ht:t.length<=1000) :
  (n < 10->∃ l',aC G0 nR (ST [(0,.int .i64 n),(3,.str t)] [] [])=some (.ret,ST l' [] [])/\aE .any l' 2=.str (dig n :: t)) /\
  (10<=n->aC G0 nR (ST [(0,.int .i64 n),(3,.str t)] [] [])=aC G0 nR (ST [(0,.int .i64 ((n / 10:Nat):Int)),(3,.str (dig (n % 10) :: t))] [] [])):=by
 have w1:IntKind.i64.wrap (48+((n % 10:Nat):Int))=48+((n % 10:Nat):Int):=w64 (by omega) (by omega);have w2:IntKind.u8.wrap (48+((n % 10:Nat):Int))=48+((n % 10:Nat):Int):=wu8 (by omega) (by omega);have w3:IntKind.i64.wrap ((n / 10:Nat):Int)=((n / 10:Nat):Int):=w64 (by omega) (by omega);have hl:1+t.length<=140737488355328:=by omega
 refine⟨fun h=>?_,fun h=>?_⟩
 ·have e:n % 10=n:=by omega
  rw[e] at w1 w2;have e0:((n / 10:Nat):Int)=0:=by omega
  rw[e0] at w3;refine Exists.intro ?_ (And.intro ?_ ?_)
  rotate_left 1
  ·rw[aB (L:=nR) rfl]
   simp only[go_sem,O6,PD,e,e0,w1,w2,w3,uJ,bR,SF,hl];rfl
  ·rfl
 ·have e0:¬ ((n / 10:Nat):Int)=0:=by omega
  conv=>lhs;rw[aB (L:=nR) rfl]
  simp only[go_sem,O6,PD,e0,w1,w2,w3,uJ,bR,SF,hl]
theorem c103 (n:Nat) (hn:n<=999):G0 46 [.int .i64 n] []=some (.str (Nt.dec n),[]):=by
 refine aA F46 rfl rfl rfl ?_;unfold Nt.dec;by_cases h1:n < 10
 ·rw[if_pos h1]
  obtain⟨l',y1,y2⟩:=(JR n (by omega) [] (by simp)).1 h1;simp only[F46,go_sem,y1,y2]
 rw[if_neg h1];by_cases h2:n < 100
 ·rw[if_pos h2]
  obtain⟨l',y1,y2⟩:=(JR (n / 10) (by omega) [dig (n % 10)] (by simp)).1 (by omega);simp only[F46,go_sem,(JR n (by omega) [] (by simp)).2 (by omega),y1,y2]
 ·rw[if_neg h2]
  obtain⟨l',y1,y2⟩:=(JR (n / 10 / 10) (by omega) [dig (n / 10 % 10),dig (n % 10)] (by simp)).1 (by omega);have e:n / 10 / 10=n / 100:=by omega
  rw[e] at y1 y2;simp only[F46,go_sem,(JR n (by omega) [] (by simp)).2 (by omega),(JR (n / 10) (by omega) [dig (n % 10)] (by simp)).2 (by omega),e,y1,y2]
theorem c79 (n:Nat) (hn:n<=999):G0 23 [.int .i64 n] []=some (.str (Nt.dec n),[]):=by
 refine aA F23 rfl rfl rfl ?_;have h0:¬ (n:Int) < 0:=by omega
 have h1:max (n:Int) 0=(n:Int):=by omega
 simp only[F23,go_sem,h0,h1,c103 n hn]
theorem wu64 {n:Int} (h1:0<=n) (h2:n<=1000000):IntKind.u64.wrap n=n:=by
 unfold IntKind.wrap;have e:IntKind.u64.bits=64:=rfl;simp only[e,IntKind.signed,Bool.false_and,Bool.false_eq_true,if_false];omega
theorem KE {n:Int} (h1:0<=n) (h2:n<=1000000):IntKind.u32.wrap n=n:=by
 unfold IntKind.wrap;have e:IntKind.u32.bits=32:=rfl;simp only[e,IntKind.signed,Bool.false_and,Bool.false_eq_true,if_false];omega
theorem nT (b:Bool):G0 150 [.bool b] []=some (.int .i64 (if b then 1 else 0),[]):=by
 refine aA TD rfl rfl rfl ?_
 cases b with
 | true=>simp only[TD,go_sem]
 | false=>simp only[TD,go_sem]
theorem YQ (n:Int) (h0:0<=n) (h1:n<=64):G0 148 [.int .i64 n] []=some (.int .i64 (n*78913 / 262144),[]):=by
 refine aA Y5 rfl rfl rfl ?_;have w1:IntKind.i64.wrap (n*78913)=n*78913:=w64 (by omega) (by omega);have e:(n*78913).fdiv (2 ^ (min 18 64))=n*78913 / 262144:=by
  have:(2:Int) ^ (min 18 64)=262144:=rfl
  rw[this,Int.fdiv_eq_ediv_of_nonneg _ (by omega)]
 simp only[Y5,go_sem,w1,e]
end Go.Av
namespace Go.Av
open Go.Nt
set_option maxHeartbeats 8000000
def oN:Bs:=[0,1,2,2,3,3,3,3,4,4,4,4,4,4,4,4,5,5,5,5,5,5,5,5,5,5,5,5,5,5,5,5,6,6,6,6,6,6,6,6,6,6,6,6,6,6,6,6,6,6,6,6,6,6,6,6,6,6,6,6,6,6,6,6,7,7,7,7,7,7,7,7,7,7,7,7,7,7,7,7,7,7,7,7,7,7,7,7,7,7,7,7,7,7,7,7,7,7,7,7,7,7,7,7,7,7,7,7,7,7,7,7,7,7,7,7,7,7,7,7,7,7,7,7,7,7,7,7,8,8,8,8,8,8,8,8,8,8,8,8,8,8,8,8,8,8,8,8,8,8,8,8,8,8,8,8,8,8,8,8,8,8,8,8,8,8,8,8,8,8,8,8,8,8,8,8,8,8,8,8,8,8,8,8,8,8,8,8,8,8,8,8,8,8,8,8,8,8,8,8,8,8,8,8,8,8,8,8,8,8,8,8,8,8,8,8,8,8,8,8,8,8,8,8,8,8,8,8,8,8,8,8,8,8,8,8,8,8,8,8,8,8,8,8,8,8,8,8,8,8,8,8,8,8,8,8]
def NT:Bs:=[48,49,50,51,52,53,54,55,56,57,97,98,99,100,101,102,103,104,105,106,107,108,109,110,111,112,113,114,115,116,117,118,119,120,121,122]
def smS:Bs:=[48,48,48,49,48,50,48,51,48,52,48,53,48,54,48,55,48,56,48,57,49,48,49,49,49,50,49,51,49,52,49,53,49,54,49,55,49,56,49,57,50,48,50,49,50,50,50,51,50,52,50,53,50,54,50,55,50,56,50,57,51,48,51,49,51,50,51,51,51,52,51,53,51,54,51,55,51,56,51,57,52,48,52,49,52,50,52,51,52,52,52,53,52,54,52,55,52,56,52,57,53,48,53,49,53,50,53,51,53,52,53,53,53,54,53,55,53,56,53,57,54,48,54,49,54,50,54,51,54,52,54,53,54,54,54,55,54,56,54,57,55,48,55,49,55,50,55,51,55,52,55,53,55,54,55,55,55,56,55,57,56,48,56,49,56,50,56,51,56,52,56,53,56,54,56,55,56,56,56,57,57,48,57,49,57,50,57,51,57,52,57,53,57,54,57,55,57,56,57,57]
theorem WW {n:Nat} (h1:64<=n) (h2:n < 128):oN[n]?=some 7:=by
 have:∀ n:Fin 128,64<=n.1->oN[n.1]?=some 7:=by decide +kernel
 exact this ⟨n,h2⟩ h1
theorem WV {n:Nat} (h1:128<=n) (h2:n < 256):oN[n]?=some 8:=by
 have:∀ n:Fin 256,128<=n.1->oN[n.1]?=some 8:=by decide +kernel
 exact this ⟨n,h2⟩ h1
theorem WU {n:Nat} (h1:2<=n) (h2:n < 4):oN[n]?=some 2:=by
 have:∀ n:Fin 4,2<=n.1->oN[n.1]?=some 2:=by decide +kernel
 exact this ⟨n,h2⟩ h1
theorem lnD:NT.length=36:=by decide +kernel
theorem lnS:smS.length=200:=by decide +kernel
theorem YC {n:Nat} (h:n < 10):(NT.take (n+1)).drop n=Nt.dec n:=by
 have:∀ n:Fin 10,(NT.take (n.1+1)).drop n.1=Nt.dec n.1:=by decide +kernel
 exact this ⟨n,h⟩
theorem zBU {n:Nat} (h1:10<=n) (h:n < 100):(smS.take (n*2+2)).drop (n*2)=Nt.dec n:=by
 have:∀ n:Fin 100,10<=n.1->(smS.take (n.1*2+2)).drop (n.1*2)=Nt.dec n.1:=by decide +kernel
 exact this ⟨n,h⟩ h1
theorem TY {n:Nat} (h:n < 100):smS[n*2]?=some (dig (n / 10)):=by
 have:∀ n:Fin 100,smS[n.1*2]?=some (dig (n.1 / 10)):=by decide +kernel
 exact this ⟨n,h⟩
theorem TX {n:Nat} (h:n < 100):smS[n*2+1]?=some (dig (n % 10)):=by
 have:∀ n:Fin 100,smS[n.1*2+1]?=some (dig (n.1 % 10)):=by decide +kernel
 exact this ⟨n,h⟩
theorem c137 (n:Nat) (h1:100<=n) (h2:n<=999):G0 149 [.int .u64 n] []=some (.int .i64 (if n < 128 then 7 else if n < 256 then 8 else if n < 512 then 9 else 10),[]):=by
 refine aA tK rfl rfl rfl ?_;have a1:¬ (4294967296:Int)<=(n:Int):=by omega
 have a2:¬ (65536:Int)<=(n:Int):=by omega
 by_cases h3:n < 256
 ·have a3:¬ (256:Int)<=(n:Int):=by omega
  have w:IntKind.u8.wrap (n:Int)=(n:Int):=wu8 (by omega) (by omega);have a4:(0:Int)<=(n:Int):=by omega
  by_cases h4:n < 128
  ·have q:=WW (n:=n) (by omega) h4
   simp only[oN] at q;rw[if_pos h4];simp only[tK,go_sem,a1,a2,a3,w,a4,q];rfl
  ·have q:=WV (n:=n) (by omega) h3
   simp only[oN] at q;rw[if_neg h4,if_pos h3];simp only[tK,go_sem,a1,a2,a3,w,a4,q];rfl
 ·have a3:(256:Int)<=(n:Int):=by omega
  have e:(n:Int).fdiv (2 ^ (min 8 64))=((n / 256:Nat):Int):=by
   have:(2:Int) ^ (min 8 64)=256:=rfl
   rw[this,Int.fdiv_eq_ediv_of_nonneg _ (by omega)];omega
  have w:IntKind.u8.wrap ((n / 256:Nat):Int)=((n / 256:Nat):Int):=wu8 (by omega) (by omega);have a4:(0:Int)<=((n / 256:Nat):Int):=by omega
  rw[if_neg (by omega),if_neg h3];by_cases h4:n < 512
  ·have h5:n / 256=1:=by omega
   have q:oN[1]?=some 1:=rfl;simp only[oN] at q;rw[if_pos h4];rw[h5] at e w a4;simp only[tK,go_sem,a1,a2,a3,e,w,a4,q];rfl
  ·have q:=WU (n:=n / 256) (by omega) (by omega)
   simp only[oN] at q;rw[if_neg h4];simp only[tK,go_sem,a1,a2,a3,e,w,a4,q];rfl
theorem c123 (n:Nat) (h1:100<=n) (h2:n<=999):G0 126 [.int .u64 n] []=some (.int .i64 3,[]):=by
 refine aA fM rfl rfl rfl ?_;by_cases h3:n < 512
 ·have a1:(100:Int)<=(n:Int):=by omega
  have e:∃ L:Int,7<=L/\L<=9/\(if n < 128 then (7:Int) else if n < 256 then 8 else if n < 512 then 9 else 10)=L:=⟨_,by split<;>(try split)<;>(try split)<;>omega,by split<;>(try split)<;>(try split)<;>omega,rfl⟩
  obtain⟨L,l1,l2,e⟩:=e;have c1:=c137 n h1 h2;rw[e] at c1;have c2:=YQ L (by omega) (by omega);have e2:L*78913 / 262144=2:=by omega
  rw[e2] at c2;simp only[fM,go_sem,c1,c2,a1,nT]
 ·have a1:¬ (1000:Int)<=(n:Int):=by omega
  have c1:=c137 n h1 h2;rw[if_neg (by omega),if_neg (by omega),if_neg h3] at c1;have c2:=YQ 10 (by omega) (by omega);have e2:(10:Int)*78913 / 262144=3:=by omega
  rw[e2] at c2;simp only[fM,go_sem,c1,c2,a1,nT]
theorem c122 (n:Nat) (h:n < 100):G0 125 [.int .i64 n] []=some (.str (Nt.dec n),[]):=by
 refine aA TI rfl rfl rfl ?_;have a0:(0:Int)<=(n:Int):=by omega
 by_cases h1:n < 10
 ·have a1:(n:Int) < 10:=by omega
  have w:IntKind.i64.wrap ((n:Int)+1)=((n+1:Nat):Int):=by rw[w64 (by omega) (by omega)];rfl
  have a2:(n:Int)<=((n+1:Nat):Int):=by omega
  have a3:((n+1:Nat):Int)<=36:=by omega
  have q:bO true 0 (.str NT) (some (.int .i64 (n:Int))) (some (.int .i64 ((n+1:Nat):Int)))=some (.str (Nt.dec n)):=by
   rw[pK _ _ _ _ _ _ a0 a2 (by rw[lnD];omega),Int.toNat_natCast,Int.toNat_natCast,YC h1]
  simp only[NT] at q;simp only[TI,go_sem,a1,w,q]
 ·have a1:¬ (n:Int) < 10:=by omega
  have w1:IntKind.i64.wrap ((n:Int)*2)=((n*2:Nat):Int):=by rw[w64 (by omega) (by omega)];omega
  have w2:IntKind.i64.wrap (((n*2:Nat):Int)+2)=((n*2+2:Nat):Int):=by rw[w64 (by omega) (by omega)];rfl
  have a4:(0:Int)<=((n*2:Nat):Int):=by omega
  have a2:((n*2:Nat):Int)<=((n*2+2:Nat):Int):=by omega
  have a3:((n*2+2:Nat):Int)<=256:=by omega
  have q:bO true 0 (.str smS) (some (.int .i64 ((n*2:Nat):Int))) (some (.int .i64 ((n*2+2:Nat):Int)))=some (.str (Nt.dec n)):=by
   rw[pK _ _ _ _ _ _ a4 a2 (by rw[lnS];omega),Int.toNat_natCast,Int.toNat_natCast,zBU (by omega) h]
  simp only[smS] at q;simp only[TI,go_sem,a1,w1,w2,q]
end Go.Av
namespace Go.Av
open Go.Nt
set_option maxHeartbeats 8000000
theorem l124 (n:Int) (sh:LL):aC G0 eE (ST [(0,.ss 0 1 3 1),(1,.int .u64 n),(4,.int .i64 3)] [] sh)=some (.ex 0,ST [(0,.ss 0 1 3 1),(1,.int .u64 n),(4,.int .i64 3),(20,.bool false)] [] sh):=by
 rw[aB (L:=eE) rfl];simp only[go_sem]
theorem tq (n m:Nat):((n:Int)).tdiv (m:Int)=((n / m:Nat):Int):=by rw[Int.tdiv_eq_ediv_of_nonneg (by omega)];rfl
theorem tm (n m:Nat):((n:Int)).tmod (m:Int)=((n % m:Nat):Int):=by rw[Int.tmod_eq_emod_of_nonneg (by omega)];rfl
theorem c124 (n:Nat) (h1:100<=n) (h2:n<=999):G0 127 [.ss 0 1 3 1,.int .u64 n] [[.int .u8 0,.int .u8 0,.int .u8 0,.int .u8 0,.int .u8 0,.int .u8 0,.int .u8 0,.int .u8 0,.int .u8 0,.int .u8 0,.int .u8 0,.int .u8 0,.int .u8 0,.int .u8 0,.int .u8 0,.int .u8 0,.int .u8 0,.int .u8 0,.int .u8 0,.int .u8 0,.int .u8 0,.int .u8 0,.int .u8 0,.int .u8 0]]=some (.tup [],[[.int .u8 0,.int .u8 (bI (dig (n / 100))),.int .u8 (bI (dig (n / 10 % 10))),.int .u8 (bI (dig (n % 10))),.int .u8 0,.int .u8 0,.int .u8 0,.int .u8 0,.int .u8 0,.int .u8 0,.int .u8 0,.int .u8 0,.int .u8 0,.int .u8 0,.int .u8 0,.int .u8 0,.int .u8 0,.int .u8 0,.int .u8 0,.int .u8 0,.int .u8 0,.int .u8 0,.int .u8 0,.int .u8 0]]):=by
 refine aA nI rfl rfl rfl ?_;have w0:IntKind.u32.wrap (n:Int)=(n:Int):=KE (by omega) (by omega);have e1:((n:Int)).tmod 100=((n % 100:Nat):Int):=tm n 100;have e2:((n:Int)).tdiv 100=((n / 100:Nat):Int):=tq n 100;have w1:IntKind.u32.wrap (((n % 100:Nat):Int)*2)=((n % 100*2:Nat):Int):=by rw[KE (by omega) (by omega)];omega
 have w2:IntKind.u32.wrap (((n % 100*2:Nat):Int)+1)=((n % 100*2+1:Nat):Int):=by rw[KE (by omega) (by omega)];rfl
 have w3:IntKind.u32.wrap ((n / 100:Nat):Int)=((n / 100:Nat):Int):=KE (by omega) (by omega);have w4:IntKind.u32.wrap (48+((n / 100:Nat):Int))=48+((n / 100:Nat):Int):=KE (by omega) (by omega);have w5:IntKind.u8.wrap (48+((n / 100:Nat):Int))=bI (dig (n / 100)):=by
  rw[wu8 (by omega) (by omega)];unfold bI dig;simp only[UInt8.toNat_ofNat'];omega
 have q0:=TY (n:=n % 100) (by omega);have q1:=TX (n:=n % 100) (by omega);have e3:n % 100 / 10=n / 10 % 10:=by omega
 have e4:n % 100 % 10=n % 10:=by omega
 rw[e3] at q0;rw[e4] at q1;simp only[smS] at q0 q1;have a1:(0:Int)<=((n % 100*2:Nat):Int):=by omega
 have a2:(0:Int)<=((n % 100*2+1:Nat):Int):=by omega
 simp only[nI,go_sem,l124,w0,e1,e2,w1,w2,w3,w4,w5,a1,a2,q0,q1];rfl
theorem c100 (n:Nat) (h2:n<=999):G0 98 [.int .i64 n,.int .i64 10] []=some (.str (Nt.dec n),[]):=by
 refine aA F98 rfl rfl rfl ?_;have a0:(0:Int)<=(n:Int):=by omega
 by_cases h1:n < 100
 ·have a1:(n:Int) < 100:=by omega
  simp only[F98,go_sem,a0,a1,c122 n h1]
 ·have a1:¬ (n:Int) < 100:=by omega
  have a2:¬ (n:Int) < 0:=by omega
  have w:IntKind.u64.wrap (n:Int)=(n:Int):=wu64 (by omega) (by omega);have ed:Nt.dec n=[dig (n / 100),dig (n / 10 % 10),dig (n % 10)]:=by
   unfold Nt.dec;rw[if_neg (by omega),if_neg h1]
  rw[ed];have hr:∀ a b c:Int,dD 1 3 1 [.int .u8 0,.int .u8 a,.int .u8 b,.int .u8 c,.int .u8 0,.int .u8 0,.int .u8 0,.int .u8 0,.int .u8 0,.int .u8 0,.int .u8 0,.int .u8 0,.int .u8 0,.int .u8 0,.int .u8 0,.int .u8 0,.int .u8 0,.int .u8 0,.int .u8 0,.int .u8 0,.int .u8 0,.int .u8 0,.int .u8 0,.int .u8 0]=some [[.int .u8 a],[.int .u8 b],[.int .u8 c]]:=fun _ _ _=>rfl
  simp only[F98,go_sem,a0,a1,a2,w,c123 n (by omega) h2,c124 n (by omega) h2,hr,bR,UInt8.ofNat_toNat]
theorem c76 (n:Nat) (h2:n<=999):G0 65 [.int .i64 n] []=some (.str (Nt.dec n),[]):=by
 refine aA F65 rfl rfl rfl ?_;simp only[F65,go_sem,c100 n h2]
theorem c50 (n:Nat) (h2:n<=999):G0 34 [.int .i64 n] []=some (.str (Nt.dec n),[]):=by
 refine aA F34 rfl rfl rfl ?_;simp only[F34,go_sem,c76 n h2]
end Go.Av
namespace Go.Av
open Go.Nt
set_option maxHeartbeats 8000000
theorem vR {b:UInt8}:∀ {s a r:Bs},cut b s=some (a,r)->Lib.indexByte s b=(a.length:Int)
 | [],a,r,h=>by cases h
 | c :: s,a,r,h=>by
  simp only[cut] at h;unfold Lib.indexByte;by_cases hc:c=b
  ·rw[if_pos hc] at h
   simp only[Option.some.injEq,Prod.mk.injEq] at h;obtain⟨rfl,rfl⟩:=h;rw[if_pos (by simp [hc])];rfl
  ·rw[if_neg hc] at h
   obtain⟨⟨p,q⟩,h1,h2⟩:=Option.map_eq_some_iff.1 h;simp only[Prod.mk.injEq] at h2;obtain⟨rfl,rfl⟩:=h2;have ih:=vR h1;rw[if_neg (by simp [hc]),ih,if_neg (by simp)];rfl
theorem sM {b:UInt8}:∀ {s:Bs},cut b s=none->Lib.indexByte s b = -1
 | [],h=>rfl
 | c :: s,h=>by
  simp only[cut] at h;unfold Lib.indexByte;by_cases hc:c=b
  ·rw[if_pos hc] at h;cases h
  ·rw[if_neg hc] at h
   have ih:=sM (Option.map_eq_none_iff.1 h);rw[if_neg (by simp [hc]),ih];rfl
theorem toB (c:UInt8):(bI c).toNat.toUInt8=c:=by unfold bI;simp
theorem c126 (s:Bs) (c:UInt8):G0 155 [.str s,.int .u8 (bI c)] []=some (.int .i64 (Lib.indexByte s c),[]):=
 nH (by
  have e:∀ args sh,B0 155 args sh=ibB 155 155 args sh:=fun _ _=>rfl
  rw[e];unfold ibB;rw[if_pos rfl]
  simp only[toB])
theorem c105 (s:Bs) (c:UInt8):G0 131 [.str s,.int .u8 (bI c)] []=some (.int .i64 (Lib.indexByte s c),[]):=by
 refine aA ZA rfl rfl rfl ?_;simp only[ZA,go_sem,c126]
theorem c81 (s:Bs) (c:UInt8):G0 145 [.str s,.int .u8 (bI c)] []=some (.int .i64 (Lib.indexByte s c),[]):=by
 refine aA Y6 rfl rfl rfl ?_;simp only[Y6,go_sem,c105]
theorem c141 (s:Bs) (c:UInt8):G0 101 [.str s,.str [c]] []=some (.int .i64 (Lib.indexByte s c),[]):=by
 refine aA TP rfl rfl rfl ?_;have g:([c]:Bs)[0]?=some c:=rfl;by_cases h:s=[c]
 ·subst h
  have e:Lib.indexByte [c] c=0:=by simp [Lib.indexByte]
  rw[e];simp only[TP,go_sem,g]
 ·have h':(([c]:Bs) == s)=false:=by simp [Ne.symm h]
  simp only[TP,go_sem,g,h',c105]
theorem zFM {s a r:Bs} {c:UInt8} (hs:s.length<=1000000) (h:cut c s=some (a,r)):G0 74 [.str s,.str [c]] []=some (.tup [.str a,.str r,.bool true],[]):=by
 refine aA F74 rfl rfl rfl ?_;have hi:=vR h;obtain⟨rfl,_⟩:=cN.1 h;simp only[length_append,length_cons] at hs;have w:IntKind.i64.wrap ((a.length:Int)+1)=((a.length+1:Nat):Int):=by rw[w64 (by omega) (by omega)];rfl
 have a0:(0:Int)<=(a.length:Int):=by omega
 have q1:bO true 0 (.str (a++c :: r)) none (some (.int .i64 (a.length:Int)))=some (.str a):=by
  rw[pJ _ _ _ _ a0 (by simp only[length_append];omega),Int.toNat_natCast,take_left]
 have q2:bO true 0 (.str (a++c :: r)) (some (.int .i64 ((a.length+1:Nat):Int))) none=some (.str r):=by
  rw[kK _ _ _ _ (by omega) (by simp only[length_append,length_cons];omega),Int.toNat_natCast]
  have:a++c :: r=(a++[c])++r:=by simp
  rw[this,drop_left' (by simp)]
 simp only[F74,go_sem,c141,hi,a0,w,q1,q2]
theorem zFN {s:Bs} {c:UInt8} (h:cut c s=none):G0 74 [.str s,.str [c]] []=some (.tup [.str s,.str [],.bool false],[]):=by
 refine aA F74 rfl rfl rfl ?_;simp only[F74,go_sem,c141,sM h]
theorem uQ {s a r:Bs} {c:UInt8} (hs:s.length<=1000000) (h:cut c s=some (a,r)):G0 42 [.str s,.str [c]] []=some (.tup [.str a,.str r,.bool true],[]):=by
 refine aA F42 rfl rfl rfl ?_;simp only[F42,go_sem,zFM hs h]
theorem sY {s:Bs} {c:UInt8} (h:cut c s=none):G0 42 [.str s,.str [c]] []=some (.tup [.str s,.str [],.bool false],[]):=by
 refine aA F42 rfl rfl rfl ?_;simp only[F42,go_sem,zFN h]
theorem c127 (s:Bs) (c:UInt8):G0 102 [.str s,.str [c]] []=some (.bool (s.head? == some c),[]):=by
 refine aA FU rfl rfl rfl ?_
 cases s with
 | nil=>simp only[FU,go_sem,head?_nil];rfl
 | cons d r =>
  have a1:(1:Int)<=((r.length+1:Nat):Int):=by omega
  have e:(([d]:Bs) == [c])=(some d == some c):=by simp
  simp only[FU,go_sem,a1,head?_cons,e]
theorem c106 (s:Bs) (c:UInt8):G0 158 [.str s,.str [c]] []=some (.bool (s.head? == some c),[]):=by
 refine aA Y4 rfl rfl rfl ?_;simp only[Y4,go_sem,c127]
theorem c129 (s:Bs) (c:UInt8) (hs:s.length<=1000000):G0 163 [.str s,.str [c]] []=some (.bool (s.getLast? == some c),[]):=by
 refine aA TC rfl rfl rfl ?_;rcases eq_nil_or_concat s with rfl | ⟨r,d,rfl⟩
 ·simp only[TC,go_sem,getLast?_nil];rfl
 ·simp only[concat_eq_append] at hs ⊢
  rw[length_append] at hs;simp only[length_cons,length_nil] at hs;have hl:((r++[d]).length:Int)=((r.length+1:Nat):Int):=by simp
  have a1:(1:Int)<=((r.length+1:Nat):Int):=by omega
  have w:IntKind.i64.wrap (((r.length+1:Nat):Int) - 1)=(r.length:Int):=by rw[w64 (by omega) (by omega)];omega
  have q:bO true 0 (.str (r++[d])) (some (.int .i64 (r.length:Int))) none=some (.str [d]):=by
   rw[kK _ _ _ _ (by omega) (by rw[hl];omega),Int.toNat_natCast,drop_left]
  have e:(([d]:Bs) == [c])=(some d == some c):=by simp
  simp only[TC,go_sem,hl,a1,w,q,getLast?_concat,e]
theorem YS (s:Bs) (c:UInt8) (hs:s.length<=1000000):G0 159 [.str s,.str [c]] []=some (.bool (s.getLast? == some c),[]):=by
 refine aA Y3 rfl rfl rfl ?_;simp only[Y3,go_sem,c129 s c hs]
theorem oK {s a r:Bs} (h:cut 32 s=some (a,r)):aT s=a:=by
 obtain⟨rfl,h2⟩:=cN.1 h;unfold aT;rw[takeWhile_append_of_pos (fun c hc=>by simp only[bne_iff_ne,ne_eq];rintro rfl;exact h2 hc)];simp
theorem kQ {s:Bs} (h:cut 32 s=none):aT s=s:=by
 have:=oW.1 h
 have key:∀ l:Bs,32 ∉ l->l.takeWhile (fun c=>c != 32)=l:=by
  intro l
  induction l with
  | nil=>intro _;rfl
  | cons c l ih =>
   intro hl;simp only[mem_cons,not_or] at hl;rw[takeWhile_cons,if_pos (by simpa using Ne.symm hl.1),ih hl.2]
 exact key s this
theorem c84 (s:Bs) (hs:s.length<=1000000):G0 147 [.str s] []=some (.str (aT s),[]):=by
 refine aA TE rfl rfl rfl ?_;cases h:cut 32 s with
 | none=>rw[kQ h];simp only[TE,go_sem,sY h]
 | some p =>
  obtain⟨a,r⟩:=p;rw[oK h];simp only[TE,go_sem,uQ hs h]
theorem c98 (s:Bs) (hs:s.length<=1000000):G0 141 [.str s] []=some (.str (aT s),[]):=by
 refine aA TF rfl rfl rfl ?_;cases h:cut 32 s with
 | none=>rw[kQ h];simp only[TF,go_sem,sY h]
 | some p =>
  obtain⟨a,r⟩:=p;rw[oK h];simp only[TF,go_sem,uQ hs h]
end Go.Av
namespace Go.Av
open Go.Nt
set_option maxHeartbeats 8000000
theorem c81' (s:Bs) (c:UInt8):G0 145 [.str s,.int .u8 (c.toNat:Int)] []=some (.int .i64 (Lib.indexByte s c),[]):=c81 s c
theorem cH {c d:UInt8} (h:c≠d):¬ (c.toNat:Int)=(d.toNat:Int):=fun q=>h (UInt8.toNat_inj.1 (by omega))
theorem l64 (s:Bs) (hs:s.length<=1000000):∀ (r p:Bs),s=p++r ->
  (32 ∉ r->aC G0 uV (ST [(0,.str s),(3,.int .i64 p.length)] [] [])=some (.ex 0,ST [(0,.str s),(3,.int .i64 s.length),(7,.bool false)] [] [])) /\
  (32∈r->∃ l',aC G0 uV (ST [(0,.str s),(3,.int .i64 p.length)] [] [])=some (.ret,ST l' [] [])/\aE .any l' 2=.str (p++aT r))
 | [],p,h=>by
  have h:s=p:=by simp [h]
  subst h;refine⟨fun _=>?_,fun h=>(by simp at h)⟩;rw[aB (L:=uV) rfl];simp only[go_sem,Int.lt_irrefl]
 | c :: r,p,h=>by
  have ih:=l64 s hs r (p++[c]) (by simp [h]);have hl:s.length=p.length+1+r.length:=by simp [h];omega
  have e1:((p++[c]).length:Int)=((p.length+1:Nat):Int):=by simp
  rw[e1] at ih;have h4:(p.length:Int) < (s.length:Int):=by omega
  have h0:(0:Int)<=(p.length:Int):=by omega
  have h5:s[p.length]?=some c:=by rw[h];simp
  have hw:IntKind.i64.wrap ((p.length:Int)+1)=((p.length+1:Nat):Int):=by rw[w64 (by omega) (by omega)];rfl
  have hq:s.take p.length=p:=by rw[h];simp
  have hle:(p.length:Int)<=(s.length:Int):=by omega
  by_cases hc:c=32
  ·subst hc
   refine⟨fun q=>absurd (mem_cons_self ..) q,fun _=>?_⟩;have hc:(((32:UInt8).toNat:Nat):Int)=32:=rfl;refine Exists.intro ?_ (And.intro ?_ ?_)
   rotate_left 1
   ·rw[aB (L:=uV) rfl]
    simp only[go_sem,h4,h0,h5,hc,hle,hq];rfl
   ·simp only[go_sem,aT,takeWhile_cons,bne_self_eq_false,Bool.false_eq_true,append_nil]
  ·have a:¬ (c.toNat:Int)=32:=cH hc
   have em:(32∈c :: r)↔32∈r:=by simp [Ne.symm hc]
   have en:aT (c :: r)=c :: aT r:=by simp [aT,hc]
   rw[em,en];have step:aC G0 uV (ST [(0,.str s),(3,.int .i64 p.length)] [] [])=aC G0 uV (ST [(0,.str s),(3,.int .i64 ((p.length+1:Nat):Int))] [] []):=by
    conv=>lhs;rw[aB (L:=uV) rfl]
    simp only[go_sem,h4,h0,h5,a,hw]
   rw[step];simpa using ih
theorem JN {s:Bs} (h:32 ∉ s):aT s=s:=by
 have:=oW.2 h
 exact kQ this
theorem c64 (s:Bs) (hs:s.length<=1000000):G0 56 [.str s] []=some (.str (aT s),[]):=by
 refine aA F56 rfl rfl rfl ?_;obtain⟨x1,x2⟩:=l64 s hs s [] rfl;have ec:((([]:Bs).length:Nat):Int)=0:=rfl;rw[ec] at x1 x2;by_cases h:32∈s
 ·obtain⟨l',y1,y2⟩:=x2 h
  rw[nil_append] at y2;simp only[F56,go_sem,y1,y2]
 ·rw[JN h]
  simp only[F56,go_sem,x1 h]
theorem xO (c:UInt8):dE c=true↔48<=(c.toNat:Int)/\(c.toNat:Int)<=57:=by
 unfold dE;simp only[Bool.and_eq_true,decide_eq_true_eq];omega
theorem W9 (s:Bs) (hs:s.length<=3):∀ (r p:Bs) (n:Nat),s=p++r->n < 10 ^ p.length ->
  (r.all dE=true->aC G0 nF (ST [(0,.str s),(4,.int .i64 n),(5,.int .i64 p.length),(18,.bool false)] [] [])=some (.ex 0,ST [(0,.str s),(4,.int .i64 (cV r n:Nat)),(5,.int .i64 s.length),(18,.bool false),(22,.bool false)] [] [])/\cV r n < 10 ^ s.length) /\
  (r.all dE=false->∃ l',aC G0 nF (ST [(0,.str s),(4,.int .i64 n),(5,.int .i64 p.length),(18,.bool false)] [] [])=some (.ret,ST l' [] [])/\aE .any l' 2=.int .i64 0/\aE .any l' 3=.bool false)
 | [],p,n,h,hn=>by
  have h:s=p:=by simp [h]
  subst h;refine⟨fun _=>⟨?_,hn⟩,fun h=>(by simp at h)⟩;rw[aB (L:=nF) rfl];simp only[go_sem,Int.lt_irrefl];rfl
 | c :: r,p,n,h,hn=>by
  have hl:s.length=p.length+1+r.length:=by simp [h];omega
  have h4:(p.length:Int) < (s.length:Int):=by omega
  have h0:(0:Int)<=(p.length:Int):=by omega
  have h5:s[p.length]?=some c:=by rw[h];simp
  have hw:IntKind.i64.wrap ((p.length:Int)+1)=((p.length+1:Nat):Int):=by rw[w64 (by omega) (by omega)];rfl
  have hI:=xO c;have e1:((p++[c]).length:Int)=((p.length+1:Nat):Int):=by simp
  have hp3:10 ^ p.length<=10 ^ 3:=Nat.pow_le_pow_right (by decide) (by omega);rw[all_cons];cases hc:dE c with
  | true =>
   obtain⟨a1,a2⟩:=hI.1 hc;have ih:=W9 s hs r (p++[c]) (10*n+(c.toNat - 48)) (by simp [h]) (by rw[length_append,length_singleton,Nat.pow_succ];omega);rw[e1] at ih;have b1:¬ (c.toNat:Int) < 48:=by omega
   have b2:¬ 57 < (c.toNat:Int):=by omega
   have w1:IntKind.i64.wrap (10*(n:Int))=10*(n:Int):=w64 (by omega) (by omega);have w2:IntKind.u8.wrap ((c.toNat:Int) - 48)=(c.toNat:Int) - 48:=wu8 (by omega) (by omega);have w3:IntKind.i64.wrap ((c.toNat:Int) - 48)=(c.toNat:Int) - 48:=w64 (by omega) (by omega);have w4:IntKind.i64.wrap (10*(n:Int)+((c.toNat:Int) - 48))=((10*n+(c.toNat - 48):Nat):Int):=by rw[w64 (by omega) (by omega)];omega
   have step:aC G0 nF (ST [(0,.str s),(4,.int .i64 n),(5,.int .i64 p.length),(18,.bool false)] [] [])=aC G0 nF (ST [(0,.str s),(4,.int .i64 ((10*n+(c.toNat - 48):Nat):Int)),(5,.int .i64 ((p.length+1:Nat):Int)),(18,.bool false)] [] []):=by
    conv=>lhs;rw[aB (L:=nF) rfl]
    simp only[go_sem,h4,h5,h0,b1,b2,w1,w2,w3,w4,hw]
   rw[step,Bool.true_and];exact ih
  | false =>
   refine⟨fun q=>(by simp at q),fun _=>?_⟩;by_cases a1:(c.toNat:Int) < 48
   ·refine Exists.intro ?_ (And.intro ?_ ?_)
    rotate_left 1
    ·rw[aB (L:=nF) rfl]
     simp only[go_sem,h4,h5,h0,a1];rfl
    ·exact⟨rfl,rfl⟩
   ·have a2:57 < (c.toNat:Int):=by
     by_cases q:57 < (c.toNat:Int)
     ·exact q
     ·rw[hI.2 ⟨by omega,by omega⟩] at hc;cases hc
    refine Exists.intro ?_ (And.intro ?_ ?_)
    rotate_left 1
    ·rw[aB (L:=nF) rfl]
     simp only[go_sem,h4,h5,h0,a1,a2];rfl
    ·exact⟨rfl,rfl⟩
theorem N7 (s:Bs) (h:rdN s=none):G0 160 [.str s] []=some (.tup [.int .i64 0,.bool false],[]):=by
 refine aA D3 rfl rfl rfl ?_;by_cases h1:s.length < 1
 ·have h1':(s.length:Int) < 1:=by omega
  simp only[D3,go_sem,h1']
 have h1':¬ (s.length:Int) < 1:=by omega
 by_cases h2:3 < s.length
 ·have h2':(3:Int) < (s.length:Int):=by omega
  simp only[D3,go_sem,h1',h2']
 have h2':¬ (3:Int) < (s.length:Int):=by omega
 have h3:=zJ (s:=s) (by omega);have hh:s.head?=some (s.headD 0):=by cases s with | nil=>simp at h1 | cons=>rfl
 generalize s.headD 0=c at h3 hh;by_cases h4:c=48
 ·have h4':(c.toNat:Int)=48:=by rw[h4];rfl
  simp only[D3,go_sem,h1',h2',h3,h4']
 have h4':¬ (c.toNat:Int)=48:=cH h4;have hv:s.all dE=false:=by
  cases q:s.all dE with
  | false=>rfl
  | true =>
   unfold rdN at h;rw[if_pos ⟨by omega,by omega,by rw[hh];simpa using h4,q⟩] at h;cases h
 obtain⟨l',y1,y2,y3⟩:=(W9 s (by omega) s [] 0 rfl (by simp)).2 hv;have ec:((([]:Bs).length:Nat):Int)=0:=rfl;rw[ec] at y1;have e0:((0:Nat):Int)=0:=rfl;rw[e0] at y1;simp only[D3,go_sem,h1',h2',h3,h4',y1,y2,y3]
theorem YR (s:Bs) (n:Nat) (h:rdN s=some n):G0 160 [.str s] []=some (.tup [.int .i64 n,.bool true],[])/\n<=999:=by
 unfold rdN at h
 split at h
 case isFalse=>cases h
 rename_i hc;obtain⟨h1,h2,h5,hv⟩:=hc;cases h;have h1':¬ (s.length:Int) < 1:=by omega
 have h2':¬ (3:Int) < (s.length:Int):=by omega
 have h3:=zJ (s:=s) (by omega);have hh:s.head?=some (s.headD 0):=by cases s with | nil=>simp at h1 | cons=>rfl
 generalize s.headD 0=c at h3 hh;have h4':¬ (c.toNat:Int)=48:=cH (by rw[hh] at h5;simpa using h5);obtain⟨y1,y2⟩:=(W9 s (by omega) s [] 0 rfl (by simp)).1 hv;have hp3:10 ^ s.length<=10 ^ 3:=Nat.pow_le_pow_right (by decide) (by omega);refine⟨?_,by omega⟩;refine aA D3 rfl rfl rfl ?_;have ec:((([]:Bs).length:Nat):Int)=0:=rfl;rw[ec] at y1;have e0:((0:Nat):Int)=0:=rfl;rw[e0] at y1;have hle:((cV s 0:Nat):Int)<=999:=by omega
 simp only[D3,go_sem,h1',h2',h3,h4',y1,hle]
theorem UB (c:UInt8):okB c=true↔32<=(c.toNat:Int)/\(c.toNat:Int)<=126/\c≠60/\c≠62/\c≠123/\c≠125:=by
 unfold okB;simp only[Bool.and_eq_true,decide_eq_true_eq,bne_iff_ne,ne_eq,and_assoc];exact⟨fun ⟨a,b,c⟩=>⟨by omega,by omega,c⟩,fun ⟨a,b,c⟩=>⟨by omega,by omega,c⟩⟩
theorem ib4y {c:UInt8} (h:c=60\/c=62\/c=123\/c=125):0<=Lib.indexByte [60,62,123,125] c:=by
 rcases h with rfl | rfl | rfl | rfl<;>decide
theorem ib4n {c:UInt8} (h1:c≠60) (h2:c≠62) (h3:c≠123) (h4:c≠125):¬ 0<=Lib.indexByte [60,62,123,125] c:=by
 have:cut c [60,62,123,125]=none:=oW.2 (by simp [h1,h2,h3,h4])
 rw[sM this]
 decide
theorem l97 (s:Bs) (hs:s.length<=64):∀ (r p:Bs),s=p++r ->
  (r.all okB=true->aC G0 lJ (ST [(0,.str s),(3,.int .i64 p.length),(22,.bool false)] [] [])=some (.ex 0,ST [(0,.str s),(3,.int .i64 s.length),(22,.bool false),(26,.bool false)] [] [])) /\
  (r.all okB=false->∃ l',aC G0 lJ (ST [(0,.str s),(3,.int .i64 p.length),(22,.bool false)] [] [])=some (.ret,ST l' [] [])/\aE .any l' 2=.bool false)
 | [],p,h=>by
  have h:s=p:=by simp [h]
  subst h;refine⟨fun _=>?_,fun h=>(by simp at h)⟩;rw[aB (L:=lJ) rfl];simp only[go_sem,Int.lt_irrefl]
 | c :: r,p,h=>by
  have hl:s.length=p.length+1+r.length:=by simp [h];omega
  have h4:(p.length:Int) < (s.length:Int):=by omega
  have h0:(0:Int)<=(p.length:Int):=by omega
  have h5:s[p.length]?=some c:=by rw[h];simp
  have hw:IntKind.i64.wrap ((p.length:Int)+1)=((p.length+1:Nat):Int):=by rw[w64 (by omega) (by omega)];rfl
  have hI:=UB c;have e1:((p++[c]).length:Int)=((p.length+1:Nat):Int):=by simp
  have ih:=l97 s hs r (p++[c]) (by simp [h]);rw[e1] at ih;rw[all_cons];cases hc:okB c with
  | true =>
   obtain⟨a1,a2,a3,a4,a5,a6⟩:=hI.1 hc;have b1:¬ (c.toNat:Int) < 32:=by omega
   have b2:¬ 126 < (c.toNat:Int):=by omega
   have b3:¬ (c.toNat:Int)=60:=cH a3;have b4:¬ (c.toNat:Int)=62:=cH a4;have b5:¬ (c.toNat:Int)=123:=cH a5;have b6:¬ (c.toNat:Int)=125:=cH a6;have b7:=ib4n a3 a4 a5 a6;have step:aC G0 lJ (ST [(0,.str s),(3,.int .i64 p.length),(22,.bool false)] [] [])=aC G0 lJ (ST [(0,.str s),(3,.int .i64 ((p.length+1:Nat):Int)),(22,.bool false)] [] []):=by
    conv=>lhs;rw[aB (L:=lJ) rfl]
    simp only[go_sem,h4,h5,h0,hw,b1,b2,b7,c81']
   rw[step,Bool.true_and];exact ih
  | false =>
   refine⟨fun q=>(by simp at q),fun _=>?_⟩;by_cases a1:(c.toNat:Int) < 32
   ·refine Exists.intro ?_ (And.intro ?_ ?_)
    rotate_left 1
    ·rw[aB (L:=lJ) rfl]
     simp only[go_sem,h4,h5,h0,a1];rfl
    ·rfl
   by_cases a2:126 < (c.toNat:Int)
   ·refine Exists.intro ?_ (And.intro ?_ ?_)
    rotate_left 1
    ·rw[aB (L:=lJ) rfl]
     simp only[go_sem,h4,h5,h0,a1,a2];rfl
    ·rfl
   have a3:c=60\/c=62\/c=123\/c=125:=by
    by_cases q3:c=60
    ·exact .inl q3
    by_cases q4:c=62
    ·exact .inr (.inl q4)
    by_cases q5:c=123
    ·exact .inr (.inr (.inl q5))
    by_cases q6:c=125
    ·exact .inr (.inr (.inr q6))
    rw[hI.2 ⟨by omega,by omega,q3,q4,q5,q6⟩] at hc;cases hc
   have a4:=ib4y a3;refine Exists.intro ?_ (And.intro ?_ ?_)
   rotate_left 1
   ·rw[aB (L:=lJ) rfl]
    simp only[go_sem,h4,h5,h0,a1,a2,a4,c81'];rfl
   ·rfl
theorem l75 (s:Bs) (hs:s.length<=64):∀ (r p:Bs),s=p++r ->
  (r.all okB=true->aC G0 iU (ST [(0,.str s),(3,.int .i64 p.length),(8,.bool false)] [] [])=some (.ex 0,ST [(0,.str s),(3,.int .i64 s.length),(8,.bool false),(12,.bool false)] [] [])) /\
  (r.all okB=false->∃ l',aC G0 iU (ST [(0,.str s),(3,.int .i64 p.length),(8,.bool false)] [] [])=some (.ret,ST l' [] [])/\aE .any l' 2=.bool false)
 | [],p,h=>by
  have h:s=p:=by simp [h]
  subst h;refine⟨fun _=>?_,fun h=>(by simp at h)⟩;rw[aB (L:=iU) rfl];simp only[go_sem,Int.lt_irrefl]
 | c :: r,p,h=>by
  have hl:s.length=p.length+1+r.length:=by simp [h];omega
  have h4:(p.length:Int) < (s.length:Int):=by omega
  have h0:(0:Int)<=(p.length:Int):=by omega
  have h5:s[p.length]?=some c:=by rw[h];simp
  have hw:IntKind.i64.wrap ((p.length:Int)+1)=((p.length+1:Nat):Int):=by rw[w64 (by omega) (by omega)];rfl
  have hI:=UB c;have e1:((p++[c]).length:Int)=((p.length+1:Nat):Int):=by simp
  have ih:=l75 s hs r (p++[c]) (by simp [h]);rw[e1] at ih;rw[all_cons];cases hc:okB c with
  | true =>
   obtain⟨a1,a2,a3,a4,a5,a6⟩:=hI.1 hc;have b1:¬ (c.toNat:Int) < 32:=by omega
   have b2:¬ 126 < (c.toNat:Int):=by omega
   have b3:¬ (c.toNat:Int)=60:=cH a3;have b4:¬ (c.toNat:Int)=62:=cH a4;have b5:¬ (c.toNat:Int)=123:=cH a5;have b6:¬ (c.toNat:Int)=125:=cH a6;have b7:=ib4n a3 a4 a5 a6;have step:aC G0 iU (ST [(0,.str s),(3,.int .i64 p.length),(8,.bool false)] [] [])=aC G0 iU (ST [(0,.str s),(3,.int .i64 ((p.length+1:Nat):Int)),(8,.bool false)] [] []):=by
    conv=>lhs;rw[aB (L:=iU) rfl]
    simp only[go_sem,h4,h5,h0,hw,b1,b2,b3,b4,b5,b6]
   rw[step,Bool.true_and];exact ih
  | false =>
   refine⟨fun q=>(by simp at q),fun _=>?_⟩;by_cases a1:(c.toNat:Int) < 32
   ·refine Exists.intro ?_ (And.intro ?_ ?_)
    rotate_left 1
    ·rw[aB (L:=iU) rfl]
     simp only[go_sem,h4,h5,h0,a1];rfl
    ·rfl
   by_cases a2:126 < (c.toNat:Int)
   ·refine Exists.intro ?_ (And.intro ?_ ?_)
    rotate_left 1
    ·rw[aB (L:=iU) rfl]
     simp only[go_sem,h4,h5,h0,a1,a2];rfl
    ·rfl
   by_cases q3:c=60
   ·have a3:(c.toNat:Int)=60:=by rw[q3];rfl
    refine Exists.intro ?_ (And.intro ?_ ?_)
    rotate_left 1
    ·rw[aB (L:=iU) rfl]
     simp only[go_sem,h4,h5,h0,a1,a2,a3];rfl
    ·rfl
   have a3:¬ (c.toNat:Int)=60:=cH q3;by_cases q4:c=62
   ·have a4:(c.toNat:Int)=62:=by rw[q4];rfl
    refine Exists.intro ?_ (And.intro ?_ ?_)
    rotate_left 1
    ·rw[aB (L:=iU) rfl]
     simp only[go_sem,h4,h5,h0,a1,a2,a3,a4];rfl
    ·rfl
   have a4:¬ (c.toNat:Int)=62:=cH q4;by_cases q5:c=123
   ·have a5:(c.toNat:Int)=123:=by rw[q5];rfl
    refine Exists.intro ?_ (And.intro ?_ ?_)
    rotate_left 1
    ·rw[aB (L:=iU) rfl]
     simp only[go_sem,h4,h5,h0,a1,a2,a3,a4,a5];rfl
    ·rfl
   have a5:¬ (c.toNat:Int)=123:=cH q5;have q6:c=125:=by
    by_cases q6:c=125
    ·exact q6
    rw[hI.2 ⟨by omega,by omega,q3,q4,q5,q6⟩] at hc;cases hc
   have a6:(c.toNat:Int)=125:=by rw[q6];rfl
   refine Exists.intro ?_ (And.intro ?_ ?_)
   rotate_left 1
   ·rw[aB (L:=iU) rfl]
    simp only[go_sem,h4,h5,h0,a1,a2,a3,a4,a5,a6];rfl
   ·rfl
theorem A4 {s:Bs} (h:1<=s.length):∃ c,s[s.length - 1]?=some c/\s.getLast?=some c:=by
 rcases eq_nil_or_concat s with rfl | ⟨r,d,rfl⟩
 ·simp at h
 ·exact⟨d,by simp,by simp⟩
theorem M7 (s:Bs):isC s=(decide (s.length<=64) && (s.all okB && (cW (aT s) && ((decide ((aT s).length=s.length) || decide ((aT s).length+1 < s.length)) && !(s.getLast? == some 47))))):=by
 unfold isC;simp only[Bool.and_assoc]
theorem pS (s:Bs):(aT s).length<=s.length:=by
 unfold aT;exact (takeWhile_prefix _).length_le
theorem c75 (s:Bs):G0 137 [.str s] []=some (.bool (isC s),[]):=by
 refine aA D4 rfl rfl rfl ?_;rw[M7];by_cases h1:64 < s.length
 ·have h1':(64:Int) < (s.length:Int):=by omega
  have e:decide (s.length<=64)=false:=decide_eq_false (by omega);simp only[D4,go_sem,h1',e,Bool.false_and]
 have h1':¬ (64:Int) < (s.length:Int):=by omega
 have e1:decide (s.length<=64)=true:=decide_eq_true (by omega);obtain⟨x1,x2⟩:=l75 s (by omega) s [] rfl;have ec:((([]:Bs).length:Nat):Int)=0:=rfl;rw[ec] at x1 x2;cases hv:s.all okB with
 | false =>
  obtain⟨l',y1,y2⟩:=x2 hv;simp only[D4,go_sem,h1',e1,y1,y2,Bool.false_and,Bool.and_false]
 | true =>
  have y1:=x1 hv;have q:=c64 s (by omega);cases h2:cW (aT s) with
  | false=>simp only[D4,go_sem,h1',e1,y1,q,c74,h2,Bool.false_and,Bool.and_false,Bool.true_and]
  | true =>
   have hn:1<=s.length:=by
    have:=pS s
    cases h:aT s with
    | nil=>rw[h] at h2;cases h2
    | cons a b=>rw[h] at this;simp at this;omega
   obtain⟨c,g1,g2⟩:=A4 hn;have g0:(s.length:Int) - 1=((s.length - 1:Nat):Int):=by omega
   have w1:IntKind.i64.wrap (((s.length - 1:Nat):Int))=((s.length - 1:Nat):Int):=w64 (by omega) (by omega);have gp:(0:Int)<=((s.length - 1:Nat):Int):=by omega
   have w2:IntKind.i64.wrap (((aT s).length:Int)+1)=((aT s).length:Int)+1:=w64 (by omega) (by have:=pS s;omega);rw[g2];have e3:(!(some c == some 47))=!decide ((c.toNat:Int)=47):=by
    by_cases hc:c=47
    ·subst hc;rfl
    ·have:¬ (c.toNat:Int)=47:=cH hc
     simp [hc,this]
   rw[e3];by_cases h3:(aT s).length=s.length
   ·have h3':((aT s).length:Int)=(s.length:Int):=by omega
    have e4:decide ((aT s).length=s.length)=true:=decide_eq_true h3;by_cases h5:(c.toNat:Int)=47 <;>
    simp only[D4,go_sem,h1',e1,y1,q,c74,h2,h3',e4,g0,w1,gp,g1,h5,Bool.true_and,Bool.true_or,decide_true,decide_false,Bool.not_true,Bool.not_false]
   ·have h3':¬ ((aT s).length:Int)=(s.length:Int):=by omega
    have e4:decide ((aT s).length=s.length)=false:=decide_eq_false h3;by_cases h4:(aT s).length+1 < s.length
    ·have h4':((aT s).length:Int)+1 < (s.length:Int):=by omega
     have e5:decide ((aT s).length+1 < s.length)=true:=decide_eq_true h4;by_cases h5:(c.toNat:Int)=47 <;>
     simp only[D4,go_sem,h1',e1,y1,q,c74,h2,h3',e4,e5,h4',w2,g0,w1,gp,g1,h5,Bool.true_and,Bool.or_true,decide_true,decide_false,Bool.not_true,Bool.not_false]
    ·have h4':¬ ((aT s).length:Int)+1 < (s.length:Int):=by omega
     have e5:decide ((aT s).length+1 < s.length)=false:=decide_eq_false h4;simp only[D4,go_sem,h1',e1,y1,q,c74,h2,h3',e4,e5,h4',w2,g0,w1,gp,g1,Bool.true_and,Bool.false_and,Bool.or_false]
theorem c97 (s:Bs):G0 140 [.str s] []=some (.bool (isC s),[]):=by
 refine aA yN rfl rfl rfl ?_;rw[M7];by_cases h1:64 < s.length
 ·have h1':(64:Int) < (s.length:Int):=by omega
  have e:decide (s.length<=64)=false:=decide_eq_false (by omega);simp only[yN,go_sem,h1',e,Bool.false_and]
 have h1':¬ (64:Int) < (s.length:Int):=by omega
 have e1:decide (s.length<=64)=true:=decide_eq_true (by omega);by_cases hn:s.length=0
 ·have:s=[]:=length_eq_zero_iff.1 hn
  subst this;rfl
 have hn':¬ (s.length:Int)=0:=by omega
 obtain⟨c,g1,g2⟩:=A4 (s:=s) (by omega);have g0:(s.length:Int) - 1=((s.length - 1:Nat):Int):=by omega
 have w1:IntKind.i64.wrap (((s.length - 1:Nat):Int))=((s.length - 1:Nat):Int):=w64 (by omega) (by omega);have gp:(0:Int)<=((s.length - 1:Nat):Int):=by omega
 rw[g2];by_cases h5:c=47
 ·subst h5
  have h5':(((47:UInt8).toNat:Nat):Int)=47:=rfl;simp only[yN,go_sem,h1',hn',g0,w1,gp,g1,h5',beq_self_eq_true,Bool.not_true,Bool.and_false]
 have h5':¬ (c.toNat:Int)=47:=cH h5;have e6:(!(some c == some 47))=true:=by simp [h5]
 obtain⟨x1,x2⟩:=l97 s (by omega) s [] rfl;have ec:((([]:Bs).length:Nat):Int)=0:=rfl;rw[ec] at x1 x2;cases hv:s.all okB with
 | false =>
  obtain⟨l',y1,y2⟩:=x2 hv;simp only[yN,go_sem,h1',hn',g0,w1,gp,g1,h5',e1,y1,y2,Bool.false_and,Bool.and_false]
 | true =>
  have y1:=x1 hv;cases hc:cut 32 s with
  | none =>
   rw[kQ hc];have q:=sY hc;cases h2:cW s with
   | false=>simp only[yN,go_sem,h1',hn',g0,w1,gp,g1,h5',e1,y1,q,c83,h2,Bool.true_and,Bool.false_and]
   | true=>simp only[yN,go_sem,h1',hn',g0,w1,gp,g1,h5',e1,e6,y1,q,c83,h2,Bool.true_and,Bool.and_true,decide_true,Bool.true_or]
  | some ab =>
   obtain⟨a,b⟩:=ab;rw[oK hc];have q:=uQ (by omega) hc;obtain⟨hs,_⟩:=cN.1 hc;have hl:s.length=a.length+1+b.length:=by rw[hs];simp;omega
   have e4:decide (a.length=s.length)=false:=decide_eq_false (by omega);cases h2:cW a with
   | false=>simp only[yN,go_sem,h1',hn',g0,w1,gp,g1,h5',e1,y1,q,c83,h2,Bool.true_and,Bool.false_and]
   | true =>
    by_cases h3:0 < b.length
    ·have h3':(0:Int) < (b.length:Int):=by omega
     have e5:decide (a.length+1 < s.length)=true:=decide_eq_true (by omega);simp only[yN,go_sem,h1',hn',g0,w1,gp,g1,h5',e1,e4,e5,e6,y1,q,c83,h2,h3',Bool.true_and,Bool.and_true,Bool.or_true]
    ·have h3':¬ (0:Int) < (b.length:Int):=by omega
     have e5:decide (a.length+1 < s.length)=false:=decide_eq_false (by omega);simp only[yN,go_sem,h1',hn',g0,w1,gp,g1,h5',e1,e4,e5,e6,y1,q,c83,h2,h3',Bool.true_and,Bool.and_true,Bool.or_false,Bool.false_and]
end Go.Av
namespace Go.Av
open Go.Nt
set_option maxHeartbeats 8000000
theorem HT (k:Int) (s:Bs) (i:Int):bD (k,s,i)=(decide (k=2) || decide (k=3) || decide (k=4)):=rfl
theorem c65 (k:Int) (s:Bs) (i:Int):G0 89 [.agg [.int .i64 k,.str s,.int .i64 i]] []=some (.bool (bD (k,s,i)),[]):=by
 refine aA F89 rfl rfl rfl ?_;rw[HT];by_cases h1:k=2
 ·simp only[F89,go_sem,h1]
  rfl
 by_cases h2:k=3
 ·simp only[F89,go_sem,h1,h2]
  rfl
 by_cases h3:k=4
 ·simp only[F89,go_sem,h1,h2,h3]
  rfl
 ·simp only[F89,go_sem,h1,h2,h3]
  rfl
theorem c69 (k:Int) (s:Bs) (i:Int):G0 115 [.agg [.int .i64 k,.str s,.int .i64 i]] []=some (.bool (bD (k,s,i)),[]):=by
 refine aA KB rfl rfl rfl ?_;rw[HT];by_cases h1:k=2
 ·simp only[KB,go_sem,h1]
  rfl
 by_cases h2:k=3
 ·simp only[KB,go_sem,h1,h2]
  rfl
 by_cases h3:k=4
 ·simp only[KB,go_sem,h1,h2,h3]
  rfl
 ·simp only[KB,go_sem,h1,h2,h3]
  rfl
theorem c96 (k:Int) (s:Bs) (i:Int):G0 139 [.agg [.int .i64 k,.str s,.int .i64 i]] []=some (.int .i64 (wid (k,s,i):Nat),[]):=by
 refine aA TG rfl rfl rfl ?_;have e:wid (k,s,i)=if k=1 then s.length else 1:=rfl
 rw[e];by_cases h1:k=1
 ·simp only[TG,go_sem,h1]
 ·simp only[TG,go_sem,h1]
theorem tR (a:Bs):∃ (n:Int) (b:Bool),G0 160 [.str a] []=some (.tup [.int .i64 n,.bool b],[])/\b=(rdN a).isSome/\∀ m,rdN a=some m->n=(m:Int):=by
 cases h:rdN a with
 | none=>exact⟨0,false,N7 a h,rfl,fun m q=>(by cases q)⟩
 | some m=>exact⟨m,true,(YR a m h).1,rfl,fun m' q=>(by cases q;rfl)⟩
theorem XT (c:UInt8) (r:Bs):((c :: r).head? == some 47)=decide (c=47):=by
 by_cases h:c=47<;>simp [h]
theorem lo1 (c:UInt8) (r:Bs):bO true 0 (.str (c :: r)) (some (.int .i64 1)) none=some (.str r):=by
 rw[kK _ _ _ _ (by decide) (by simp only[length_cons];omega)];rfl
theorem NB (b:Bs) (h:1<=b.length):bO true 0 (.str b) none (some (.int .i64 ((b.length - 1:Nat):Int)))=some (.str b.dropLast):=by
 rw[pJ _ _ _ _ (by omega) (by omega),Int.toNat_natCast,dropLast_eq_take]
theorem c82 (t:Bs) (ht:t.length<=1000000):∃ (k:Int) (s:Bs) (i:Int) (b:Bool),G0 146 [.str t] []=some (.tup [.agg [.int .i64 k,.str s,.int .i64 i],.bool b],[])/\b=(rdT t).isSome/\∀ x,rdT t=some x->(k,s,i)=x:=by
 have h106:=c106 t 47
 cases t with
 | nil =>
  have hc:cut 58 ([]:Bs)=none:=rfl;have q:=sY hc;have h8:=YS [] 47 (by decide);obtain⟨n,b,y1,y2,y3⟩:=tR [];refine⟨0,[],0,false,?_,rfl,fun x h=>(by cases h)⟩;refine aA nU rfl rfl rfl ?_;simp only[head?_nil,getLast?_nil] at h106 h8;have e0:((none:Option UInt8) == some 47)=false:=rfl;rw[e0] at h106 h8;simp only[nU,go_sem,h106,q,h8,y1]
 | cons c r =>
  rw[XT] at h106;simp only[length_cons] at ht;by_cases h47:c=47
  ·subst h47
   simp only[decide_true] at h106;have q0:=lo1 47 r;cases hc:cut 58 r with
   | none =>
    have q:=sY hc;obtain⟨n,b,y1,y2,y3⟩:=tR r;have e:rdT (47 :: r)=none:=by simp [rdT,hc]
    refine⟨0,[],0,false,?_,by rw[e];rfl,fun x h=>(by rw[e] at h;cases h)⟩;refine aA nU rfl rfl rfl ?_;simp only[nU,go_sem,h106,q0,q,y1]
   | some ab =>
    obtain⟨a,b⟩:=ab;have q:=uQ (by omega) hc;cases hn:rdN a with
    | none =>
     have y1:=N7 a hn;have e:rdT (47 :: r)=none:=by simp [rdT,hc,hn]
     refine⟨0,[],0,false,?_,by rw[e];rfl,fun x h=>(by rw[e] at h;cases h)⟩;refine aA nU rfl rfl rfl ?_;simp only[nU,go_sem,h106,q0,q,y1]
    | some n =>
     have y1:=(YR a n hn).1;have e:rdT (47 :: r)=if cW b=true then some (3,b,(n:Int)) else none:=by simp [rdT,hc,hn]
     refine⟨3,b,n,cW b,?_,by rw[e];cases cW b<;>rfl,fun x h=>(by rw[e] at h;split at h;cases h;rfl;cases h)⟩;refine aA nU rfl rfl rfl ?_;simp only[nU,go_sem,h106,q0,q,y1,c83]
  ·rw[decide_eq_false h47] at h106
   cases hc:cut 58 (c :: r) with
   | none =>
    have q:=sY hc;have h8:=YS [] 47 (by decide);simp only[getLast?_nil] at h8;have e0:((none:Option UInt8) == some 47)=false:=rfl;rw[e0] at h8;obtain⟨n,b,y1,y2,y3⟩:=tR (c :: r);have e:rdT (c :: r)=none:=by simp only[rdT];rw[if_neg h47,hc]
    refine⟨0,[],0,false,?_,by rw[e];rfl,fun x h=>(by rw[e] at h;cases h)⟩;refine aA nU rfl rfl rfl ?_;simp only[nU,go_sem,h106,q,h8,y1]
   | some ab =>
    obtain⟨a,b⟩:=ab;have q:=uQ (by simp only[length_cons];omega) hc;obtain⟨hs,_⟩:=cN.1 hc;have hbl:b.length<=1000000:=by have:=congrArg List.length hs;simp at this;omega
    have h8:=YS b 47 hbl;cases hn:rdN a with
    | none =>
     have y1:=N7 a hn;have e:rdT (c :: r)=none:=by simp only[rdT];rw[if_neg h47,hc];simp only[hn]
     refine⟨0,[],0,false,?_,by rw[e];rfl,fun x h=>(by rw[e] at h;cases h)⟩;refine aA nU rfl rfl rfl ?_;by_cases hb:b.getLast?=some 47
     ·rw[hb,beq_self_eq_true] at h8
      have hb1:1<=b.length:=by cases b with | nil=>cases hb | cons=>simp
      have g0:(b.length:Int) - 1=((b.length - 1:Nat):Int):=by omega
      have w1:IntKind.i64.wrap (((b.length - 1:Nat):Int))=((b.length - 1:Nat):Int):=w64 (by omega) (by omega);simp only[nU,go_sem,h106,q,h8,y1,g0,w1,NB b hb1]
     ·have e1:(b.getLast? == some 47)=false:=by simpa using hb
      rw[e1] at h8;simp only[nU,go_sem,h106,q,h8,y1]
    | some n =>
     have y1:=(YR a n hn).1;by_cases hb:b.getLast?=some 47
     ·rw[hb,beq_self_eq_true] at h8
      have hb1:1<=b.length:=by cases b with | nil=>cases hb | cons=>simp
      have g0:(b.length:Int) - 1=((b.length - 1:Nat):Int):=by omega
      have w1:IntKind.i64.wrap (((b.length - 1:Nat):Int))=((b.length - 1:Nat):Int):=w64 (by omega) (by omega);have e:rdT (c :: r)=if isC b.dropLast=true then some (4,b.dropLast,(n:Int)) else none:=by simp only[rdT];rw[if_neg h47,hc];simp only[hn];rw[if_pos hb]
      refine⟨4,b.dropLast,n,isC b.dropLast,?_,by rw[e];cases isC b.dropLast<;>rfl,fun x h=>(by rw[e] at h;split at h;cases h;rfl;cases h)⟩;refine aA nU rfl rfl rfl ?_;simp only[nU,go_sem,h106,q,h8,y1,g0,w1,NB b hb1,c97]
     ·have e1:(b.getLast? == some 47)=false:=by simpa using hb
      rw[e1] at h8;have e:rdT (c :: r)=if isC b=true then some (2,b,(n:Int)) else none:=by simp only[rdT];rw[if_neg h47,hc];simp only[hn];rw[if_neg hb]
      refine⟨2,b,n,isC b,?_,by rw[e];cases isC b<;>rfl,fun x h=>(by rw[e] at h;split at h;cases h;rfl;cases h)⟩;refine aA nU rfl rfl rfl ?_;simp only[nU,go_sem,h106,q,h8,y1,c97]
theorem c77' (c:UInt8):G0 129 [.int .u8 (c.toNat:Int)] []=some (.bool (gP c),[]):=c77 c
theorem xR {b c:UInt8} (h:c≠b) (r:Bs):cut b (c :: r)=(cut b r).map fun p=>(c :: p.1,p.2):=by simp [cut,h]
theorem sl1 (c:UInt8) (t r:Bs):bO true 0 (.str (c :: (t++r))) (some (.int .i64 1)) (some (.int .i64 ((t.length+1:Nat):Int)))=some (.str t):=by
 rw[pK _ _ _ _ _ _ (by decide) (by omega) (by simp only[length_cons,length_append];omega),Int.toNat_natCast];have e:(1:Int).toNat=1:=rfl;rw[e,take_succ_cons,drop_succ_cons,drop_zero,take_left]
theorem hi1 (c:UInt8) (r:Bs):bO true 0 (.str (c :: r)) none (some (.int .i64 1))=some (.str [c]):=by
 rw[pJ _ _ _ _ (by decide) (by simp only[length_cons];omega)];rfl
theorem c53 (c:UInt8) (r:Bs) (hr:r.length<=100000):∃ (k:Int) (s:Bs) (i:Int) (n:Int) (b:Bool),G0 122 [.str (c :: r)] []=some (.tup [.agg [.int .i64 k,.str s,.int .i64 i],.int .i64 n,.bool b],[])/\b=(rd (c :: r)).isSome/\∀ x m,rd (c :: r)=some (x,m)->(k,s,i)=x/\n=(m:Int):=by
 have g0:(c :: r)[0]?=some c:=rfl;by_cases h1:c=92
 ·subst h1
  have h1':(((92:UInt8).toNat:Nat):Int)=92:=rfl;obtain⟨x,n,b,y1,y2,y3⟩:=c80 r (by omega);have e:rd (92 :: r)=(rdE r).map fun p=>((1,[p.1],0),p.2):=rfl
  refine⟨1,[UInt8.ofNat x.toNat],0,n,b,?_,?_,?_⟩
  ·refine aA rK rfl rfl rfl ?_
   simp only[rK,go_sem,g0,h1',y1,uJ,bR]
  ·rw[e]
   cases h:rdE r with
   | none=>rw[y3 h];rfl
   | some p=>rw[(y2 p.1 p.2 h).2.2];rfl
  ·intro z m hz
   rw[e] at hz;cases h:rdE r with
   | none=>rw[h] at hz;cases hz
   | some p =>
    obtain⟨a1,a2,_⟩:=y2 p.1 p.2 h;rw[h] at hz;simp only[Option.map_some,Option.some.injEq,Prod.mk.injEq] at hz;obtain⟨rfl,rfl⟩:=hz;refine⟨?_,a2⟩;rw[a1];simp [bI]
 have h1':¬ (c.toNat:Int)=92:=cH h1;by_cases h2:c=60
 ·subst h2
  have h2':(((60:UInt8).toNat:Nat):Int)=60:=rfl
  have e:rd (60 :: r)=(match cut 62 r with
   | some (t,_)=>(rdT t).map fun x=>(x,t.length+2)
   | none=>none):=rfl
  have ec:=xR (b:=62) (c:=60) (by decide) r;cases hc:cut 62 r with
  | none =>
   rw[hc] at e ec;have q:=sM ec;refine⟨0,[],0,0,false,?_,by rw[e];rfl,fun x m h=>(by rw[e] at h;cases h)⟩;refine aA rK rfl rfl rfl ?_;have q':=c81 (60 :: r) 62;rw[q] at q';have q:G0 145 [.str (60 :: r),.int .u8 62] []=some (.int .i64 (-1),[]):=q';simp only[rK,go_sem,g0,h2',q]
  | some p =>
   obtain⟨t,w⟩:=p;rw[hc] at e ec;have q:=vR ec;have q':=c81 (60 :: r) 62;rw[q] at q';have q:G0 145 [.str (60 :: r),.int .u8 62] []=some (.int .i64 ((t.length+1:Nat):Int),[]):=q';obtain⟨hs,_⟩:=cN.1 hc;have hl:t.length<=100000:=by have:=congrArg List.length hs;simp at this;omega
   obtain⟨k,s,i,b,y1,y2,y3⟩:=c82 t (by omega);have sl:=sl1 60 t (62 :: w);rw[<- hs] at sl;have n1:¬ ((t.length+1:Nat):Int) < 0:=by omega
   have w1:IntKind.i64.wrap (((t.length+1:Nat):Int)+1)=((t.length+2:Nat):Int):=by rw[w64 (by omega) (by omega)];omega
   refine⟨k,s,i,((t.length+2:Nat):Int),b,?_,?_,?_⟩
   ·refine aA rK rfl rfl rfl ?_
    simp only[rK,go_sem,g0,h2',q,n1,sl,y1,w1]
   ·have e:rd (60 :: r)=(rdT t).map fun x=>(x,t.length+2):=e
    rw[e,y2,Option.isSome_map]
   ·intro x m hx
    rw[e] at hx;obtain⟨x',hx1,hx2⟩:=Option.map_eq_some_iff.1 hx;simp only[Prod.mk.injEq] at hx2;obtain⟨rfl,rfl⟩:=hx2;exact⟨y3 _ hx1,rfl⟩
 have h2':¬ (c.toNat:Int)=60:=cH h2;by_cases h3:c=123
 ·subst h3
  have h3':(((123:UInt8).toNat:Nat):Int)=123:=rfl
  have e:rd (123 :: r)=(match cut 125 r with
   | some (t,_)=>if cW t=true then some ((5,t,0),t.length+2) else none
   | none=>none):=rfl
  have ec:=xR (b:=125) (c:=123) (by decide) r;cases hc:cut 125 r with
  | none =>
   rw[hc] at e ec;have q:=sM ec;refine⟨0,[],0,0,false,?_,by rw[e];rfl,fun x m h=>(by rw[e] at h;cases h)⟩;refine aA rK rfl rfl rfl ?_;have q':=c81 (123 :: r) 125;rw[q] at q';have q:G0 145 [.str (123 :: r),.int .u8 125] []=some (.int .i64 (-1),[]):=q';simp only[rK,go_sem,g0,h3',q]
  | some p =>
   obtain⟨t,w⟩:=p;rw[hc] at e ec;have q:=vR ec;have q':=c81 (123 :: r) 125;rw[q] at q';have q:G0 145 [.str (123 :: r),.int .u8 125] []=some (.int .i64 ((t.length+1:Nat):Int),[]):=q';obtain⟨hs,_⟩:=cN.1 hc;have hl:t.length<=100000:=by have:=congrArg List.length hs;simp at this;omega
   have sl:=sl1 123 t (125 :: w);rw[<- hs] at sl;have n1:¬ ((t.length+1:Nat):Int) < 0:=by omega
   have w1:IntKind.i64.wrap (((t.length+1:Nat):Int)+1)=((t.length+2:Nat):Int):=by rw[w64 (by omega) (by omega)];omega
   have e:rd (123 :: r)=if cW t=true then some ((5,t,0),t.length+2) else none:=e
   cases hn:cW t with
   | false =>
    rw[hn,if_neg (by simp)] at e;refine⟨0,[],0,0,false,?_,by rw[e];rfl,fun x m h=>(by rw[e] at h;cases h)⟩;refine aA rK rfl rfl rfl ?_;simp only[rK,go_sem,g0,h3',q,n1,sl,c83,hn]
   | true =>
    rw[hn,if_pos rfl] at e;refine⟨5,t,0,((t.length+2:Nat):Int),true,?_,by rw[e];rfl,fun x m h=>(by rw[e] at h;cases h;exact⟨rfl,rfl⟩)⟩;refine aA rK rfl rfl rfl ?_;simp only[rK,go_sem,g0,h3',q,n1,sl,c83,hn,w1]
 have h3':¬ (c.toNat:Int)=123:=cH h3;have e:rd (c :: r)=if gP c=true then some ((1,[c],0),1) else none:=by
  simp only[rd];rw[if_neg h1,if_neg h2,if_neg h3]
 refine⟨1,[c],0,1,gP c,?_,by rw[e];cases gP c<;>rfl,fun x m h=>(by rw[e] at h;split at h;cases h;exact⟨rfl,rfl⟩;cases h)⟩;refine aA rK rfl rfl rfl ?_;simp only[rK,go_sem,g0,h1',h2',h3',hi1,c77']
end Go.Av
